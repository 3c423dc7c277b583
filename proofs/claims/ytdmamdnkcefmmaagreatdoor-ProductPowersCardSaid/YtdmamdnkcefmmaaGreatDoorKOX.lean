import Derived.Test.YtdmamdnkcefmmaaGreatDoorKLS9
import Derived.Test.YtdmamdnkcefmmaaGreatDoorKPW
import Derived.Test.YtdmamdnkcefmmaaGreatDoorKNum
import Derived.Test.YtdmamdnkcefmmaaGreatDoorProg
import Derived.KernelRfl
import Derived.Test.YtdmamdnkcefmmaaGreatDoorKOB
import Derived.Test.YtdmamdnkcefmmaaGreatDoorKBk
import Derived.Test.YtdmamdnkcefmmaaGreatDoorKMI
import Derived.Test.YtdmamdnkcefmmaaGreatDoorVO
import Derived.Test.YtdmamdnkcefmmaaGreatDoorKV1
set_option linter.unusedSimpArgs false
set_option linter.unusedVariables false
set_option maxRecDepth 100000
namespace Go.Proofs.YtdmamdnkcefmmaaGreatDoor
theorem zsJ{s:List (IT×Nat)}{k:Nat}(h:k<s.length):((tms s).drop (k*5)).take 5=tmC s[k]:=by have h1:=zlr h;have h2:=ziP (bO h);rw[h1,da,h2];simp[aW,h2]
theorem zxs{f:IT×Nat→List AV}{e size:Nat}{H1:zaa}{st:List (List (IT×Nat))}{i:Nat}{b:AB}(h:H1[i]?=some b)(J:zaa):(NX f e size H1 st++J)[i]?=some b:=by unfold NX;rw[aq];exact zbK h
theorem zKa(p q:IT×Nat)(hp:p.1.nodes≤1000000)(H:zaa)(K:Kt)(hK:K (.int .i64 (IT.cmp p.1 q.1)) H):ACalls tP zkN [.agg (tmC p),.agg (tmC q)] H K:=by refine ACalls.out (zZl λhs=>?_);simp[zGn,zcU,zcm,aa];refine zIM _ _ _ (ac _) hp _ _ ?_;exact Out.int rfl (ac _) hs hK
theorem zKT{H:zaa}{b:Nat}{l:List (IT×Nat)}(hb:H[b]?=some (.vec zau 5 l.length (tms l)))(hn:l.length≤1000000)(me:∀x∈l,x.1.nodes≤1000000)(K:Kt)(hK:∀r:List (IT×Nat),r.Perm l→r.Pairwise (λp q=>¬IT.cmp q.1 p.1<0)→K (.tup []) (H.set b (.vec zau 5 l.length (tms r)))):ACalls tP zzC [.ov b l.length,.fn zkN []] H K:=by
 let d0:IT×Nat:=(.mk 0 [],0)
 have nD:∀i,i<l.length→(zaG l).getD i []=tmC (l.getD i d0):=λi hi=>by simp[zaG,List.getD_eq_getElem?_getD,hi]
 have hgm:∀i,i<l.length→l.getD i d0∈l:=λi hi=>by simp[List.getD_eq_getElem?_getD,hi]
 have cmp_self:∀a:IT,IT.cmp a a=0:=zgD;refine ACalls.sortFuncK zMb (k:=5) (by omega) Tryz.isAgg55 Tryz.sizeOf55 hb (by omega) (zaG l) (λi j=>IT.cmp (l.getD i d0).1 (l.getD j d0).1) (by rw[zBm];exact zk5 l) (by simp) (λr hr=>by
  obtain⟨x,_,rfl⟩:=aA.1 hr;simp) (λargs w=>rfl) (λi j hi hj=>?_) (λi hi=>?_) (λi j k hi hj hk h1 h2=>?_) (λi j k hi hj hk h1 h2=>?_) (λp hp hsort=>?_)
 ·rw[nD i hi,nD j hj];exact zKa _ _ (me _ (hgm i hi)) _ _ rfl
 ·rw[cmp_self];omega
 ·exact zyo h1 (by omega)
 ·have:=IT.cmp_tri (l.getD k d0).1 (l.getD j d0).1 (l.getD i d0).1;have a1:=IT.cmp_anti (l.getD i d0).1 (l.getD j d0).1;have a2:=IT.cmp_anti (l.getD j d0).1 (l.getD k d0).1;have a3:=IT.cmp_anti (l.getD i d0).1 (l.getD k d0).1;unfold Tri at this;omega
 ·have q7:∀ i∈p,i<l.length:=λi hi=>by simpa using hp.subset hi
  have jY:(List.range l.length).map (λi=>l.getD i d0)=l:=bB (by simp) λi h1 h2=>by simp[List.getD_eq_getElem?_getD,h2]
  have eH:(p.map λi=>l.getD i d0).Perm l:=by have h1:=hp.map λi=>l.getD i d0;rwa [jY]at h1
  have fp:(p.map λi=>(zaG l).getD i []).flatten=tms (p.map λi=>l.getD i d0):=by rw[tms,dv];congr 1;refine bo λi hi=>?_;exact nD i (q7 i hi)
  rw[fp];refine hK _ eH ?_;rw[cF];intro a b ha hb eY;simp only[bX];exact hsort a b (by simpa using ha) (by simpa using hb) eY
def zca(d7:List Dat)(t:VT)(u L:List (IT×Nat))(k:Nat):List (List (IT×Nat)):=(List.range 7).map λd=>if d<k then ofD d7 t L d else ofD d7 t u d
@[simp] theorem zsv(d7:List Dat)(t:VT)(u L:List (IT×Nat))(k:Nat):(zca d7 t u L k).length=7:=by simp[zca]
theorem zAV(d7:List Dat)(t:VT)(u L:List (IT×Nat))(k:Nat){d:Nat}(h:d<7):(zca d7 t u L k)[d]?=some (if d<k then ofD d7 t L d else ofD d7 t u d):=by simp[zca,h]
theorem zKK(d7:List Dat)(t:VT)(u L:List (IT×Nat)):(zca d7 t u L 7).flatten=zbB d7 t L 7:=by unfold zca zbB;rw[List.flatMap_def];refine congrArg List.flatten (bo λd hd=>?_);rw[az (by simpa using hd)]
theorem zKM{d7:List Dat}{t:VT}{u L:List (IT×Nat)}{k:Nat}(h:k<7):(zca d7 t u L k).set k (ofD d7 t L k)=zca d7 t u L (k+1):=by
 refine bB (by simp) λi h1 h2=>?_;rw[c9];simp only[zca,bX,cc];split
 ·rename_i e;subst e;rw[az (by omega)]
 ·rename_i e;by_cases hi:i<k
  ·rw[az hi,az (by omega)]
  ·rw[au hi,au (by omega)]
theorem zKL{d7:List Dat}{t:VT}{s L:List (IT×Nat)}{j d:Nat}(hj:j<s.length)(hd:d<7)(hr:rdV d7 s[j].1 t=(d:Int)):(zca d7 t (s.take j) L 0).set d (ofD d7 t (s.take j) d++[s[j]])=zca d7 t (s.take (j+1)) L 0:=by
 refine bB (by simp) λi h1 h2=>?_;rw[c9];simp only[zca,bX,cc,Nat.not_lt_zero,aN];have eL:=zzM (d7:=d7) (t:=t) (d:=i) hj;split
 ·rename_i e;subst e;rw[eL,az hr]
 ·rename_i e;rw[eL,au (by omega),aG]
theorem zG5{H:zaa}{st:List (List (IT × Nat))}{k:Nat}{M r:List (IT × Nat)}(eA:st[k]?=some M)(hl:r.length=M.length):
  (NX tmC zau 5 H st).set (H.length+1+k) (.vec zau 5 M.length (tms r))=NX tmC zau 5 H (st.set k r):=by
 obtain⟨hk,hM⟩:=List.getElem?_eq_some_iff.1 eA;have h1:=zxu tmC zau 5 H [] st hk r;have hv:vcs (H.length+1) (st.set k r)=vcs (H.length+1) st:=by
  rw[←zsU,hl];refine aL λi=>?_;rw[List.getElem?_set];split
  ·rename_i h;subst h;rw[az (by simpa using hk),zsT _ eA]
  ·rfl
 simp only[aG]at h1;rw[hv]at h1;rw[←h1,hl,tms,List.flatMap_def];have hc:=zxr tmC zau 5 H st;have kf:∀(X:zaa) (i:Nat) (b:AB),X[i]?=some b→X.set i b=X:=λX i b hb=>by
  refine aL λj=>?_;by_cases hj:i=j
  ·subst hj;rw[List.getElem?_set_self (zbm hb),hb]
  ·rw[List.getElem?_set_ne hj]
 exact(kf _ _ _ (by rw[List.getElem?_set_ne (by omega)];exact hc)).symm
theorem zBk{d7:List Dat}(hk:zbx d7)(t:VT)(ht:t.nodes≤1000)(hf:zb3 d7 t=true)(H:zaa)(is im iv:Nat)(s L:List (IT×Nat))(hS:Sw H is im iv (.sl (d7.map Dat.cs) .none::t.cs) s)(hv:∀p∈s,p.1.nodes≤900∧0<p.2∧p.2<1000000000 ^ 20∧0≤rdV d7 p.1 t∧rdV d7 p.1 t≤6)(hn:(s.map Prod.fst).Nodup)(h0:0<s.length)(hl:s.length≤100000)(hL:Asc L)(hLl:L.length≤100000)(iR:∀p∈L,0<p.2)(fH:∀g:IT→Nat,zat g s=zat g L)(K:Kt)(ft:1000<s.length→K (.tup [.sl [] .none,.int .i64 9]) H)(hK:s.length≤1000→K (.tup [.sl (zaG (zbB d7 t L 7)) .none,.int .i64 0]) H):ACalls tP zkC [.ptr is 0] H K:=by
 refine ACalls.out (zWw λhs=>?_);obtain⟨T,hT⟩:∃T,T=(AV.sl (d7.map Dat.cs) .none::t.cs):=⟨_,rfl⟩;rw[←hT]at hS;have hT4:T.length=4:=hS.c4;have jW:=hS.h1;have fg:=zbm jW;have gM:(T++[.map im,.ov iv s.length])[0]?=some (.sl (d7.map Dat.cs) .none):=by rw[hT];rfl
 have fP:List.take 3 (T++[AV.map im,AV.ov iv s.length]).tail=t.cs:=by rw[hT];obtain⟨t1,t2,t3⟩:=t;rfl
 have nd:(T++[.map im,.ov iv s.length])[5]?=some (.ov iv s.length):=by rw[List.getElem?_append_right (by omega),hT4];rfl
 have hrep:(List.replicate 7 [AV.snil]).flatten=List.replicate 7 AV.snil:=rfl;simp[zFm,zbp,hrep,zbK jW,zdn _ nd,aa];unfold zoy;refine ALoop.nx tmC zau 5 7 ?_;show zoy (.ptr is 0) (.ms H.length 0 7 7) (.int .i64 0) (.ov iv s.length) (.int .i64 s.length) (.int .i64 0) (NX tmC zau 5 H (List.replicate 7 [])) _;have hst0:List.replicate 7 []=zca d7 t (s.take 0) L 0:=by simp[zca,ofD,bU,List.replicate]
 rw[hst0];have hscN:∀st,HSc (NX tmC zau 5 H st):=λst=>zG6 hs λx n=>by have:=zfr [x] n;simpa[tms]using this
 refine zWt (Inv:=λq t5 t17 H'=>∃j:Nat,j≤s.length∧s.length-j=q∧t17=.int .i64 j∧t5=.int .i64 j∧H'=NX tmC zau 5 H (zca d7 t (s.take j) L 0)) s.length ?_ ?_
 ·intro _;exact⟨0,by omega,rfl,rfl,rfl,rfl⟩
 ·rintro q t5 t17 H' ⟨j,hj,rfl,rfl,rfl,rfl⟩ eE ek eK Kb eq;by_cases eI:j<s.length
  ·obtain⟨v1,v2,v3,v4,v5⟩:=hv _ (af eI);obtain⟨d,hd⟩:∃ d:Nat,rdV d7 s[j].1 t=d:=⟨(rdV d7 s[j].1 t).toNat,by omega⟩;have pV:d<7:=by omega
   have jw:=zKL (L:=L) eI pV hd;have eA:=zAV d7 t (s.take j) L 0 pV;simp only[Nat.not_lt_zero,aN]at eA;have hol:(ofD d7 t (s.take j) d).length≤100000:=ap zkU (by simp;omega);have gN:=zsv d7 t (s.take j) L 0;generalize hM:ofD d7 t (s.take j) d=M at *;generalize eL:zca d7 t (s.take j) L 0=st at *;have pR:=λJ=>zxs (f:=tmC) (e:=zau) (size:=5) (st:=st) hS.h3 J;have qZ:=λJ=>zxs (f:=tmC) (e:=zau) (size:=5) (st:=st) hS.h1 J;have hiv0:=pR [];rw[aG]at hiv0;have h5:=zsJ eI;have hb5:j*5+5≤s.length*5:=by omega
   simp[zov,eI,hiv0,h5,hb5,zcK,aa];refine⟨zcK _,?_⟩;have jD:Sm (s[j].2:Int):=zb0 (aV v3 (by decide));rw[zcn];refine zGj s[j].2 jD _ _ ?_;have hne0:s[j].2≠0:=by omega
   have qv:(NX tmC zau 5 H st).length=H.length+8:=by rw[ze1,gN]
   have eG:∀J,(NX tmC zau 5 H st++(AB.cells (tmC s[j])::J))[H.length+8]?=some (.cells (tmC s[j])):=λJ=>by rw[←qv];simp
   have nR:=λJ=>zxq tmC zau 5 H J st;have oc:=λJ=>zxp tmC zau 5 H J eA;have mA:=zsT (H.length+1) eA;rw[qv];simp[hne0,qZ,zdn _ gM,fP,eG,zcm,zcn,hT4];refine zaD (.int .i64 d) (λJ=>zjb d7 hk t ht s[j].1 (by omega) _ _ ⟨by rw[←hd];unfold za6;rw[az hf],rfl⟩) ?_;have hd7':(d:Int)<7:=by omega
   simp[hd7',zaj,nR,zdn _ mA,eG,zcm,zcn];refine zaD (.agg s[j].1.cs) (λJ=>zZe _ s[j].1 (ac _) (by omega) _ _ ⟨rfl,rfl⟩) ?_;try simp[eG,zcn]
   refine zaD (.agg (zai (s[j].2:Int))) (λJ=>zZi _ jD _ _ ⟨rfl,rfl⟩) ?_;have mM:List.drop 5 (s[j].1.cs++[AV.bool false,.snil,.snil])=[]:=aW (by simp);have jx:∀x∈s[j].1.cs,x.known=true:=am.1 (IT.cs_known s[j].1);have mi:∀x∈zai (s[j].2:Int),x.known=true:=am.1 (zei _);have gy:plain ([.int .i64 0,.snil,.bool false,.snil,.snil]:List AV)=some [.int .i64 0,.sl [] .none,.bool false,.sl [] .none,.sl [] .none]:=rfl;simp[zaq,zaJ,mM];rw[show s[j].1.cs++zai (s[j].2:Int)=tmC s[j] from rfl];simp[zaw,zaR,zgZ,gy];simp only[zax,zaM,zaK,oc];have ip:d<st.length:=by omega
   have eQ:=zxu tmC zau 5 H [AB.cells (tmC s[j])] st ip (M++[s[j]]);have kx:(M++[s[j]]).length=M.length+1:=by simp
   have hfm:(M++[s[j]]).flatMap tmC=M.flatMap tmC++tmC s[j]:=by simp
   rw[kx,hfm,←zL0 _ _ ip,kx,jw]at eQ;have hXc:=nR [AB.cells (tmC s[j])];have hXb:=oc [AB.cells (tmC s[j])];generalize hX:NX tmC zau 5 H st++[AB.cells (tmC s[j])]=X at *;have gV:=zbm hXb;have g2:∀v,(X.set (H.length+1+d) v)[H.length]?=some (.cells (vcs (H.length+1) st)):=λv=>by rw[List.getElem?_set_ne (by omega)];exact hXc
   simp[g2];refine⟨⟨by omega,by omega⟩,by omega,?_⟩;rw[eQ];simp[zvX,zFn,wi j (by omega)];exact eq _ _ ⟨s.length-(j+1),by omega,Back.at (J:=[.cells (tmC s[j])]) (H2:=NX tmC zau 5 H (zca d7 t (s.take (j+1)) L 0)) rfl (by simp[ze1]) (hscN _) (by
    have h3:=zbm hS.h3;simp[zox,ux,AV.sc,AV.scA,AV.scB,AV.scV,ze1];omega) ⟨_,_,rfl,j+1,by omega,rfl,rfl,rfl,rfl⟩⟩
  ·obtain rfl:j=s.length:=by omega
   rw[ak]at *;by_cases fW:1000<s.length
   ·have fG:(1000:Int)<(s.length:Int):=by omega
    simp[zov,fG];obtain⟨J,hJ⟩:=zxt tmC zau 5 H (zca d7 t s L 0);rw[←hJ];exact⟨⟨rfl,rfl⟩,Out.tup (bs:=[.sl [] .none,.int .i64 9]) hs (ft fW) ⟨zdj,zaV rfl rfl,trivial⟩⟩
   ·have fG:¬ (1000:Int)<(s.length:Int):=by omega
    simp[zov,fG];refine zWs (Inv:=λq t59 H'=>∃k:Nat,k≤7∧7-k=q∧t59=.int .i64 k∧H'=NX tmC zau 5 H (zca d7 t s L k)) 7 ?_ ?_
    ·intro _;exact⟨0,by omega,rfl,rfl,rfl⟩
    ·rintro q t59 H' ⟨k,hk7,rfl,rfl,rfl⟩ hsc14 hlen14 hsF14 Kb14 lW;by_cases ei:k<7
     ·have eC:(k:Int)<7:=by omega
      have eA:=zAV d7 t s L k ei;simp only[Nat.lt_irrefl,aN]at eA;have eL:=zKM (d7:=d7) (t:=t) (u:=s) (L:=L) ei;have gN:=zsv d7 t s L k;obtain⟨M,hM⟩:∃M,M=ofD d7 t s k:=⟨_,rfl⟩;obtain⟨st,gR⟩:∃st,st=zca d7 t s L k:=⟨_,rfl⟩;rw[←hM]at eA;rw[←gR]at eA eL gN hsF14 hsc14 ⊢;have nR:=zxr tmC zau 5 H st;have mA:=zsT (H.length+1) eA;have oc:=zxp tmC zau 5 H [] eA;rw[aG]at oc;have hMl:M.length≤100000:=by rw[hM];exact ap zkU (by omega)
      simp[zvW,eC,nR,zdn _ mA];refine zKT (b:=H.length+1+k) (l:=M) (by rw[oc,tms,List.flatMap_def]) (by omega) (λp hp=>by
       rw[hM]at hp;have:=hv p (cM.1 hp).1;omega) _ λr jZ iA=>?_
      have hre:r=ofD d7 t L k:=zHK (by rw[←hM];exact jZ) iA hn (λp hp=>(hv p hp).2.1) hL iR fH;have jT:r.length=M.length:=jZ.length_eq;rw[zG5 eA jT,hre,eL,wi k (by omega)];exact lW _ _ ⟨7-(k+1),by omega,Back.at (J:=[]) (H2:=NX tmC zau 5 H (zca d7 t s L (k+1))) (by simp) (by simp[ze1]) (hscN _) (by simp[zow,ux,AV.sc,AV.scA,AV.scB,AV.scV,ze1];try omega) ⟨_,rfl,k+1,by omega,rfl,rfl,rfl⟩⟩
     ·obtain rfl:k=7:=by omega
      have jt:=zKK d7 t s L;have gk:=zKG (zca d7 t s L 7);simp[zvW];rw[zsv,jt]at gk;have hrg:∀p∈L,0≤rdV d7 p.1 t∧rdV d7 p.1 t≤6:=λp hp=>by obtain⟨q,hq,he⟩:=zdY (λg=>(fH g).symm) hp (iR p hp);have:=hv q hq;rw[←he];omega
      have fS:=zkX (d7:=d7) (t:=t) (s:=L) 7;have f7:0<(zbB d7 t L 7).length:=by
       have h1:=zJF hrg (λ_=>1);have h2:=fH (λ_=>1);rw[zc6,zc6]at h1;cases ho:zbB d7 t L 7 with
       |nil=>
        rw[ho,zf5]at h1;cases jo:s with
        |nil=>rw[jo]at h0;simp at h0
        |cons p s'=>have:=(hv p (by rw[jo];simp)).2.1;rw[jo,zbc]at h2;omega
       |cons p o=>simp
      refine gk f7 (by omega) (by omega) H _ ?_;obtain⟨J,hJ⟩:=zxt tmC zau 5 H (zca d7 t s L 7);rw[←hJ];exact⟨⟨rfl,rfl⟩,Out.tup (bs:=[.sl (zaG (zbB d7 t L 7)) .none,.int .i64 0]) hs (hK (by omega)) ⟨zaV rfl rfl,zaV rfl rfl,trivial⟩⟩
section
variable (t0 t1 t2 t3 t12 t13:AV) (H:zaa) (K:Kt) (Kb4:Lt)
def zNa(_:Nat):List Bool:=[]
noncomputable def zNb:=Tryz.f12.body.getD .skip
def zBY:=zav t1 H λt5 H=>zav t2 H λt6 H=>zav t3 H λt7 H=>apm H t0 λt13=>apu H (zaj true 3 t5 H) λt14=>apu H (zaj true 2 t6 H) λt15=>zaC H (λH K'=>ACalls tP zgS [t13,t14,t15] H K') λt16=>apm H t0 λt17=>apu H (zaj true 3 t5 H) λt18=>apu H (zaj true 2 t7 H) λt19=>zaC H (λH K'=>ACalls tP zgS [t17,t18,t19] H K') λt20=>apm H t16 λt10=>apm H t20 λt11=>zac .lss false t10 (.int .i64 0) λt22=>zad t22 false H (λK'=>K' t11 H) λt24 H=>zad t22 false H (λK'=>zac .lss false t24 (.int .i64 0) (K' · H)) λt25 H=>zam t22 (.bool true) t25 λt26=>zag t26 (zaF [.snil,(.int .i64 1)] (K · H)) (zac .add false t10 t11 λt29=>zac .gtr false t29 (.int .i64 6) λt30=>zag t30 (zaF [.snil,(.int .i64 13)] (K · H)) (zae true 3 t5 H λt32=>ACalls tP zim [t0,t32] H λt33 H=>zae true 3 t5 H λt36=>zae true 2 t6 H λt37=>zae true 2 t7 H λt38=>ACalls tP zio [t0,t36,t37,t38] H λt39 H=>ACalls tP zin [t33,t39] H λt40 H=>ACalls tP zkC [t33] H λt42 H=>zaE t42 0 λt43=>zaE t42 1 λt44=>zaF [t43,t44] (K · H)))
def zZ5(_:Nat):List Bool:=[]
noncomputable def zZ6:=Tryz.f10.body.getD .skip
def zq8:=zav t1 H λt3 H=>ACalls tP zrO [t0] H λt6 H=>zad t6 true H (λK'=>zae true 3 t3 H (K' · H)) λt8 H=>zad t6 true H (λK'=>ACalls tP zrP [t8] H K') λt9 H=>zam t6 t9 (.bool false) λt10=>K t10 H
def zO6(_:Nat):List Bool:=[]
noncomputable def zO7:=Tryz.f15.body.getD .skip
def zCB:=zaq [(.int .i64 0),(.int .i64 0),.snil] [(0,1),(1,1),(2,1)] [(0,(.int .i64 1))] λt4=>zaw 3 [(.int .i64 0),(.int .i64 0),.snil] 1 [(0,t4)] λt5=>zaq [(.int .i64 0),(.int .i64 0),.snil] [(0,1),(1,1),(2,1)] [(0,(.int .i64 7)),(2,t5)] λt6=>zaz [(.int .i64 0),(.int .i64 0),.snil] H λt1 H=>zan 3 t1 t6 H λH=>zae true 3 t1 H λt8=>zaq [(.int .i64 0),.snil] [(0,1),(1,1)] [(0,(.int .i64 1))] λt9=>zaq [(.int .i64 0),.snil] [(0,1),(1,1)] [(0,(.int .i64 1))] λt10=>ACalls tP zq2 [.snil,t8,t9,t10] H λt11 H=>zaE t11 0 λt12=>zaE t11 1 λt13=>apm H t13 λt14=>apu H (zac .eql false t14 (.int .i64 0)) λt15=>apm H t15 λt16=>zad t16 true H (λK'=>zab H (λK''=>K'' t12 H) (K' · H)) λt17 H=>zad t16 true H (λK'=>zab H (λK''=>zah 1 t17 (K'' · H)) (K' · H)) λt18 H=>zad t16 true H (λK'=>zab H (λK''=>zac .eql false t18 (.int .i64 2) (K'' · H)) (K' · H)) λt19 H=>apu H (zam t16 t19 (.bool false)) λt20=>apm H t20 λt21=>zad t21 true H (λK'=>zab H (λK''=>K'' t12 H) (K' · H)) λt22 H=>zad t21 true H (λK'=>zab H (λK''=>zak 5 t22 (.int .i64 1) (K'' · H)) (K' · H)) λt23 H=>zad t21 true H (λK'=>zab H (λK''=>zaf 0 t23 (K'' · H)) (K' · H)) λt24 H=>zad t21 true H (λK'=>zab H (λK''=>zaf 0 t24 (K'' · H)) (K' · H)) λt25 H=>zad t21 true H (λK'=>zab H (λK''=>zaj false 1 t25 H (K'' · H)) (K' · H)) λt26 H=>zad t21 true H (λK'=>zab H (λK''=>zac .eql false t26 (.int .i64 2) (K'' · H)) (K' · H)) λt27 H=>apu H (zam t21 t27 (.bool false)) λt28=>apm H t28 λt29=>zad t29 true H (λK'=>zab H (λK''=>K'' t12 H) (K' · H)) λt30 H=>zad t29 true H (λK'=>zab H (λK''=>zak 5 t30 (.int .i64 1) (K'' · H)) (K' · H)) λt31 H=>zad t29 true H (λK'=>zab H (λK''=>zaf 2 t31 (K'' · H)) (K' · H)) λt32 H=>zad t29 true H (λK'=>zab H (λK''=>zaj true 3 t32 H (K'' · H)) (K' · H)) λt33 H=>zad t29 true H (λK'=>zaC H (λH K''=>ACalls tP zdJ [(.int .i64 2)] H K'') (K' · H)) λt34 H=>zad t29 true H (λK'=>zaC H (λH K''=>ACalls tP zkm [t33,t34] H K'') (K' · H)) λt35 H=>apu H (zam t29 t35 (.bool false)) λt36=>apm H t36 λt0=>K t0 H
def zmi:Nat→List Bool|4=>rl false [0,2,10,2,29]|_=>[]
noncomputable def ztC:=Tryz.f14.body.getD .skip
noncomputable def zOq:=Tryz.f14.results.toList
def zmj:=t0::t1::ux 10 (t12::t13::ux 29 [])
def zOo:=zmi 4
noncomputable def zOm:=zar [1,1,0,1,0,0] ztC
def zOl:=zas tP zmi [1,1,0,1,0] ztC (zaB tP zOq K)
def zCA:=ALoop tP zOm (zOl K) (zmj t0 t1 t12 t13) H
def ztB:=zac .lss false t13 t12 λt14=>zag t14 (apm H t0 λt16=>apm H t13 λt17=>apu H (zak 5 t16 t17) λt18=>apu H (zaf 0 t18) λt19=>apu H (zaj true 2 t19 H) λt20=>apm H t1 λt21=>apm H t13 λt22=>apu H (zak 5 t21 t22) λt23=>apu H (zaf 0 t23) λt24=>apu H (zaj true 2 t24 H) λt25=>zaC H (λH K'=>ACalls tP zil [t20,t25] H K') λt26=>apu H (aUn .not t26) λt27=>apm H t27 λt28=>zad t28 false H (λK'=>zab H (λK''=>K'' t0 H) (K' · H)) λt29 H=>zad t28 false H (λK'=>zab H (λK''=>K'' t13 H) (K' · H)) λt30 H=>zad t28 false H (λK'=>zab H (λK''=>zak 5 t29 t30 (K'' · H)) (K' · H)) λt31 H=>zad t28 false H (λK'=>zab H (λK''=>zaf 2 t31 (K'' · H)) (K' · H)) λt32 H=>zad t28 false H (λK'=>zab H (λK''=>zaj true 3 t32 H (K'' · H)) (K' · H)) λt33 H=>zad t28 false H (λK'=>zab H (λK''=>K'' t1 H) (K' · H)) λt34 H=>zad t28 false H (λK'=>zab H (λK''=>K'' t13 H) (K' · H)) λt35 H=>zad t28 false H (λK'=>zab H (λK''=>zak 5 t34 t35 (K'' · H)) (K' · H)) λt36 H=>zad t28 false H (λK'=>zab H (λK''=>zaf 2 t36 (K'' · H)) (K' · H)) λt37 H=>zad t28 false H (λK'=>zab H (λK''=>zaj true 3 t37 H (K'' · H)) (K' · H)) λt38 H=>zad t28 false H (λK'=>zaC H (λH K''=>ACalls tP zkm [t33,t38] H K'') (K' · H)) λt39 H=>zad t28 false H (λK'=>zab H (λK''=>aUn .not t39 (K'' · H)) (K' · H)) λt40 H=>apu H (zam t28 (.bool true) t40) λt41=>zag t41 (K (.bool false) H) (zac .add false t13 (.int .i64 1) λt42=>Kb4 (zmj t0 t1 t12 t42) H)) (K (.bool true) H)
def zCp:=zah 1 t0 λt7=>zah 1 t1 λt9=>zac .neq false t7 t9 λt10=>zag t10 (K (.bool false) H) (zah 1 t0 λt12=>zCA t0 t1 t12 (.int .i64 0) H K)
variable {t0 t1 t2 t3 t12 t13} {H} {K} {Kb4}
theorem zNc(h:HSc H→zBY t0 t1 t2 t3 H K):ACalls tP zq2 [t0,t1,t2,t3] H K:=
 acb zNa Tryz.func12 zNb h
theorem zZ7(h:HSc H→zq8 t0 t1 H K):ACalls tP zr0 [t0,t1] H K:=
 acb zZ5 Tryz.func10 zZ6 h
theorem zO8(h:HSc H→zCB H K):ACalls tP zrf [] H K:=
 acb zO6 Tryz.func15 zO7 h
theorem zOn:Lo1 (λt13=>zmj t0 t1 t12 t13) (λt13 H Kb4=>ztB t0 t1 t12 t13 H K Kb4) t13 H (zCA t0 t1 t12 t13 H K):=lq1 zmi zOo
theorem zOp(h:HSc H→zCp t0 t1 H K):ACalls tP zq6 [t0,t1] H K:=
 acb zmi Tryz.func14 ztC h
end
theorem zyJ:∀ n,0<fct n
 |0=>by simp[fct]
 |n+1=>by have:=zyJ n;unfold fct;exact du (by omega) this
theorem zz9(b k:Nat)(h:k≤b):pcf 0 b k=if k=b then 1 else 0:=by
 unfold pcf;by_cases hk:k=b
 ·subst hk;have:=zyJ k;simp[fct];exact dX this
 ·rw[au (by omega),au hk]
theorem zJO(a b k:Nat):pcf a b k=pcf b a k:=by unfold pcf;rw[Nat.max_comm,dY a b,bi (fct (k-a)) (fct (k-b))]
theorem zIv(g:Nat→Nat):∀ n,(∀ k<n,g k=0)→((List.range n).map λk:Nat=>((IT.mk (k:Int) [],g k):IT × Nat)).filter (λp=>p.2 != 0)=[]
 |n,h=>by rw[cX];intro p hp;obtain⟨k,hk,rfl⟩:=aA.1 hp;simp[h k (by simpa using hk)]
theorem zHI(b:Nat):(zaU 0 b).filter (λp=>p.2 != 0)=[(.mk (b:Int) [],1)]:=by unfold zaU;rw[aC,bU,aK,cN,zIv _ b λk hk=>by rw[zz9 b k (by omega),au (by omega)]];simp[zz9 b b (ac _)]
theorem zHH(a b:Nat):zaU a b=zaU b a:=by unfold zaU;rw[dY a b];refine bo λk _=>?_;rw[zJO]
theorem zsl{d7:List Dat}{f:Nat}{ts:List VT}{l m r:List IT}(hl:r.length=ts.length)(h:∀ k (h1:k<ts.length) (h2:k<r.length),zaT d7 f ts[k] (l.getD k d0) (m.getD k d0)=[(r[k],1)]):∀ k,k≤ts.length→zct d7 f ts l m k=[(r.take k,1)]
 |0,_=>by simp[ziH]
 |k+1,hk=>by
  have h1:k<ts.length:=by omega
  have h2:k<r.length:=by omega
  have e:ts.getD k tz=ts[k]:=by simp[List.getD_eq_getElem?_getD,h1]
  rw[zg4,zsl hl h k (by omega),e,h k h1 h2,ae h2];rfl
theorem zBV{ts:List VT}{k:Nat}(h:k<ts.length):(zbl ts).getD k d0=zaP ts[k]:=by rw[zd7];simp[List.getD_eq_getElem?_getD,h]
theorem zL7(ts:List VT):(zbl ts).length=ts.length:=by rw[zd7];simp
theorem zzt{d7:List Dat}:∀ (f:Nat) (t:VT) (i:IT),(zaP t).nodes+i.nodes≤f→0≤rdV d7 i t→zaT d7 f t (zaP t) i=[(i,1)]∧zaT d7 f t i (zaP t)=[(i,1)]
 |0,t,i,h,_=>by have:=i.nodes_pos;omega
 |f+1,.mk k tn tks,.mk n l,h,hi=>by
  rw[zla]at hi;rw[zaP]at h ⊢;simp only[IT.nodes]at h;by_cases h6:k=6
  ·subst h6;simp only[a6]at hi h ⊢;by_cases hn:n=0;case neg=>rw[au hn]at hi;omega
   subst hn;simp only[a6]at hi;by_cases hl:tks.length=l.length;case neg=>rw[au hl]at hi;omega
   rw[az hl]at hi;have nw:=(zd3 (d7:=d7) l tks 0 (by omega) hl.symm hi).1;cases f with
   |zero=>omega
   |succ f=>
    have key:∀k (h1:k<tks.length) (h2:k<l.length),zaT d7 f tks[k] (zaP tks[k]) l[k]=[(l[k],1)]∧zaT d7 f tks[k] l[k] (zaP tks[k])=[(l[k],1)]:=λk h1 h2=>by
     refine zzt f tks[k] l[k] ?_ (nw k h2 h1);have:=zc3 h2;have hz:k<(zbl tks).length:=by rw[zL7];exact h1
     have:=zc3 hz;have he:(zbl tks)[k]=zaP tks[k]:=by simp[zd7]
     rw[he]at this;omega
    have gl:∀k (h:k<l.length),l.getD k d0=l[k]:=λk h=>by simp[List.getD_eq_getElem?_getD,h]
    rw[zaT,zaT];simp only[VT.kind,VT.kids,zaI,a6];rw[zfX,zfX,zsl (r:=l) hl.symm (λk h1 h2=>by rw[zBV h1,gl k h2];exact (key k h1 h2).1) _ (ac _),
     zsl (r:=l) hl.symm (λk h1 h2=>by rw[zBV h1,gl k h2];exact(key k h1 h2).2) _ (ac _),hl,ak]
    simp
  ·simp only[h6,aN]at hi h ⊢;rw[zaT,zaT];simp only[VT.kind,h6,aN,zaI,zaO];by_cases h7:k=7
   ·subst h7;simp only[a6]at hi ⊢;by_cases hc:0≤n∧n≤6∧l.length=0;case neg=>rw[au hc]at hi;omega
    obtain⟨c1,c2,c3⟩:=hc;obtain rfl:=aB c3;obtain⟨b,rfl⟩:∃b:Nat,n=b:=⟨n.toNat,by omega⟩;have e0:(0:Int).toNat=0:=rfl;rw[e0,Int.toNat_natCast,zHH b 0,zHI];exact⟨rfl,rfl⟩
   ·simp only[h7,aN]at hi ⊢;by_cases h5:k=5
    ·subst h5;simp only[a6]at hi ⊢;by_cases hc:n=0∧l.length≤6;case neg=>rw[au hc]at hi;omega
     obtain⟨rfl,_⟩:=hc;cases f with
     |zero=>omega
     |succ f=>cases l <;> simp[zaW]
    ·simp only[h5,aN]at hi ⊢;by_cases hc:n=0∧l.length=0;case neg=>rw[au hc]at hi;omega
     obtain⟨rfl,c⟩:=hc;obtain rfl:=aB c;exact⟨rfl,rfl⟩
theorem zzm{d7:List Dat}:∀ (f:Nat) (t:VT) (l m:List IT),IT.nodesL l+IT.nodesL m+1≤f→zaW d7 f t l m≠[]
 |0,_,_,_,h=>by omega
 |f+1,t,[],m,h=>by simp[zaW]
 |f+1,t,a::l,[],h=>by simp[zaW]
 |f+1,t,a::l,b::m,h=>by have na:=a.nodes_pos;simp only[IT.nodesL]at h;have:=zzm (d7:=d7) f t l (b::m) (by simp only[IT.nodesL];omega);rw[zaW];simp[this]
theorem zJR:∀a<7,∀b<7,pcf a b (max a b)≠0:=by decide
theorem zAA{d7:List Dat}{f:Nat}{ts:List VT}{l m:List IT}(h:∀ k,k<ts.length→zaT d7 f (ts.getD k tz) (l.getD k d0) (m.getD k d0)≠[]):∀ k,k≤ts.length→zct d7 f ts l m k≠[]
 |0,_=>by simp[ziH]
 |k+1,hk=>by
  have h1:=zAA h k (by omega);have h2:=h k (by omega);rw[zg4];generalize zct d7 f ts l m k=out at *;generalize zaT d7 f (ts.getD k tz) (l.getD k d0) (m.getD k d0)=ws at *;cases out with
  |nil=>exact absurd rfl h1
  |cons r out=>
   cases ws with
   |nil=>exact absurd rfl h2
   |cons w ws=>simp[zbV]
theorem zzr{d7:List Dat}:∀ (f:Nat) (t:VT) (i j:IT),i.nodes+j.nodes≤f→0≤rdV d7 i t→0≤rdV d7 j t→zaT d7 f t i j≠[]
 |0,t,i,j,h,_,_=>by have:=i.nodes_pos;omega
 |f+1,.mk k tn tks,.mk n l,.mk n' m,h,hi,hj=>by
  rw[zla]at hi hj;simp only[IT.nodes]at h;rw[zaT];simp only[VT.kind,VT.kids,zaI,zaO];by_cases h6:k=6
  ·subst h6;simp only[a6]at hi hj ⊢;by_cases hn:n=0;case neg=>rw[au hn]at hi;omega
   by_cases fN:n'=0;case neg=>rw[au fN]at hj;omega
   rw[az hn]at hi;rw[az fN]at hj;by_cases hl:tks.length=l.length;case neg=>rw[au hl]at hi;omega
   by_cases hm:tks.length=m.length;case neg=>rw[au hm]at hj;omega
   rw[az hl]at hi;rw[az hm]at hj;have ii:=(zd3 (d7:=d7) l tks 0 (by omega) hl.symm hi).1;have ij:=(zd3 (d7:=d7) m tks 0 (by omega) hm.symm hj).1;cases f with
   |zero=>omega
   |succ f=>
    rw[zfX];have:=zAA (d7:=d7) (f:=f) (ts:=tks) (l:=l) (m:=m) (λk hk=>by
     have h1:k<l.length:=by omega
     have h2:k<m.length:=by omega
     have n1:=zc3 h1;have n2:=zc3 h2;have e1:tks.getD k tz=tks[k]:=by simp[List.getD_eq_getElem?_getD,hk]
     have e2:l.getD k d0=l[k]:=by simp[List.getD_eq_getElem?_getD,h1]
     have e3:m.getD k d0=m[k]:=by simp[List.getD_eq_getElem?_getD,h2]
     rw[e1,e2,e3];exact zzr f tks[k] l[k] m[k] (by omega) (ii k h1 hk) (ij k h2 hk)) tks.length (ac _)
    simp[this]
  ·simp only[h6,aN]at hi hj ⊢;by_cases h7:k=7
   ·subst h7;simp only[a6]at hi hj ⊢;by_cases hc:0≤n∧n≤6∧l.length=0;case neg=>rw[au hc]at hi;omega
    by_cases kL:0≤n'∧n'≤6∧m.length=0;case neg=>rw[au kL]at hj;omega
    have hp:=zJR n.toNat (by omega) n'.toNat (by omega);intro he;rw[cX]at he;have:=he (.mk ((max n.toNat n'.toNat:Nat):Int) [],pcf n.toNat n'.toNat (max n.toNat n'.toNat)) (by
     unfold zaU;exact aA.2 ⟨max n.toNat n'.toNat,by simp;omega,rfl⟩)
    simp at this;exact hp this
   ·simp only[h7,aN]at hi hj ⊢;by_cases h5:k=5
    ·subst h5;simp only[a6]at hi hj ⊢;have:=zzm (d7:=d7) f (.mk 5 tn tks) l m (by omega);simp[this]
    ·simp[h5]
theorem zzs{d7:List Dat}{t:VT}{i j:IT}{f:Nat}(h:i.nodes+j.nodes≤f)(hi:0≤rdV d7 i t)(hj:0≤rdV d7 j t):0<zat (λ_=>1) (zaT d7 f t i j):=by
 have h1:=zzr f t i j h hi hj;have h2:=(zg0 d7 f).1 t i j;generalize zaT d7 f t i j=s at *;cases s with
 |nil=>exact absurd rfl h1
 |cons p s=>have:=h2 p (by simp);rw[zbc];omega
def zff(d7:List Dat)(t:VT)(i j:IT):AV:=
 if za6 d7 t i<0∨za6 d7 t j<0 then .tup [.sl [] .none,.int .i64 1] else if 6<za6 d7 t i+za6 d7 t j then .tup [.sl [] .none,.int .i64 13]
 else .tup [.sl (zaG (zbB d7 t (zbd d7 (i.nodes+j.nodes) t i j) 7)) .none,.int .i64 0]
theorem zzq{d7:List Dat}{t:VT}{i j:IT}(h:za6 d7 t i<0∨za6 d7 t j<0):zff d7 t i j=.tup [.sl [] .none,.int .i64 1]:=az h
theorem zdp{d7:List Dat}{t:VT}(hf:zb3 d7 t=true)(i:IT):za6 d7 t i=rdV d7 i t:=by unfold za6;rw[az hf]
theorem zJd{d7:List Dat}{t:VT}{i j:IT}(hf:zb3 d7 t=true)(h1:0≤rdV d7 i t)(h2:0≤rdV d7 j t)(h6:rdV d7 i t+rdV d7 j t>6):zff d7 t i j=.tup [.sl [] .none,.int .i64 13]:=by unfold zff;rw[zdp hf,zdp hf,au (by omega),az (by omega)]
theorem zJc{d7:List Dat}{t:VT}{i j:IT}(hf:zb3 d7 t=true)(h1:0≤rdV d7 i t)(h2:0≤rdV d7 j t)(h6:rdV d7 i t+rdV d7 j t≤6):zff d7 t i j=.tup [.sl (zaG (zbB d7 t (zbd d7 (i.nodes+j.nodes) t i j) 7)) .none,.int .i64 0]:=by unfold zff;rw[zdp hf,zdp hf,au (by omega),au (by omega)]
theorem zvN(d7:List Dat)(T:VT)(H:zaa)(K:Kt)(hK:K (.ptr (H.length+2) 0) (H++[.cells T.cs,.map [],.cells (.sl (d7.map Dat.cs) .none::T.cs++[.map (H.length+1),.snil])])):
  ACalls tP zim [.sl (d7.map Dat.cs) .none,.agg T.cs] H K:=by
 refine zV4 λhs=>?_;obtain⟨x,y,z,ew,hx,hy,hz⟩:=zbk T;simp[zFj,ew,zec,zaq,zaJ,AV.known,aa];rw[ew]at hK;simpa using hK
theorem zNd{d7:List Dat}(hk:zbx d7)(t:VT)(ht:t.nodes≤250)(i j:IT)(hi:i.nodes≤100)(hj:j.nodes≤100)(H:zaa)(K:Kt)(hK:K (zff d7 t i j) H):
  ACalls tP zq2 [.sl (d7.map Dat.cs) .none,.agg t.cs,.agg i.cs,.agg j.cs] H K:=by
 refine ACalls.out (zNc λhs=>?_);have hO:∀(e:Int) J,zff d7 t i j=.tup [.sl [] .none,.int .i64 e]→Out H.length K (.tup [.snil,.int .i64 e]) (H++J):=λe J he=>Out.tup (bs:=[.sl [] .none,.int .i64 e]) hs (by rw[←he];exact hK) ⟨zdj,zaV rfl rfl,trivial⟩;obtain⟨x,y,z,ew,hx,hy,hz⟩:=zbk t;obtain⟨x2,y2,eF,fc,jm⟩:=zci i;obtain⟨x3,y3,iu,fx,qM⟩:=zci j;simp[zBY,ew,eF,iu,aa];rw[←ew,←eF,←iu];refine zaD (.int .i64 (za6 d7 t i)) (λJ=>zjb d7 hk t (by omega) i (by omega) _ _ ⟨rfl,rfl⟩) ?_;refine zaD (.int .i64 (za6 d7 t j)) (λJ=>zjb d7 hk t (by omega) j (by omega) _ _ ⟨rfl,rfl⟩) ?_;by_cases h1:za6 d7 t i<0
 ·simp[h1];exact⟨⟨rfl,rfl⟩,hO 1 _ (zzq (.inl h1))⟩
 ·by_cases h2:za6 d7 t j<0
  ·simp[h1,h2];exact⟨⟨rfl,rfl⟩,hO 1 _ (zzq (.inr h2))⟩
  ·have hf:zb3 d7 t=true:=by
    unfold za6 at h1;by_cases h:zb3 d7 t=true
    ·exact h
    ·rw[au h]at h1;omega
   have e1:=zdp hf i;have e2:=zdp hf j;rw[e1]at h1 ⊢;rw[e2]at h2 ⊢;have h8:=zeG hf;obtain⟨hD,gE⟩:zbz d7=true∧za0 d7 0 t=true:=by unfold zb3 at hf;simpa using hf
   have r1:=zeQ (h8:=h8) i t;have r2:=zeQ (h8:=h8) j t;have w:IntKind.i64.wrap (rdV d7 i t+rdV d7 j t)=rdV d7 i t+rdV d7 j t:=zay (by omega) (by omega);by_cases h6:rdV d7 i t+rdV d7 j t>6
   ·have jJ:6<rdV d7 i t+rdV d7 j t:=h6;simp[h1,h2,w,jJ];exact⟨⟨rfl,rfl⟩,hO 13 _ (zJd hf (by omega) (by omega) h6)⟩
   ·have jJ:¬ (6<rdV d7 i t+rdV d7 j t):=h6;simp[h1,h2,w,jJ,ew,eF,iu,aa];rw[←ew,←eF,←iu];rw[zJc hf (by omega) (by omega) (by omega)]at hK;refine zvN d7 t _ _ ?_;simp[ew,eF,iu,aa];rw[←ew,←eF,←iu];refine (zq1 hk h8 hD (i.nodes+j.nodes)).1 t i j (by omega) (by omega) gE (by omega) (by omega) (by omega) (by omega) _ _ ?_;obtain⟨W,hW⟩:∃ W,W=zaT d7 (i.nodes+j.nodes) t i j:=⟨_,rfl⟩;obtain⟨P1,P2,P3,P4⟩:=zjG h8 (f:=i.nodes+j.nodes) (t:=t) (i:=i) (j:=j) (ac _) (by omega) (by omega) (by omega);have hWp:=zzs (d7:=d7) (t:=t) (i:=i) (j:=j) (ac _) (by omega) (by omega);have pW:=(zf8 d7 (i.nodes+j.nodes)).1 t i j;obtain⟨L,hL⟩:∃ L,L=zbd d7 (i.nodes+j.nodes) t i j:=⟨_,rfl⟩;obtain⟨R1,R2⟩:=(zcC h8 (i.nodes+j.nodes)).1 t i j (by omega) (by omega) (by omega) (by omega);have hLa:=zI9 d7 (i.nodes+j.nodes) t i j;rw[←hW]at P1 P2 P3 P4 hWp pW ⊢;rw[←hL]at hK R1 R2 pW hLa
    replace R2:=ap R2 (zcS (by omega))
    have Rl:=zeI λp hp=>(R1 p hp).1;have hg5:(H++[AB.cells t.cs,.cells i.cs,.cells j.cs,.cells t.cs,.map [],.cells [.sl (d7.map Dat.cs) .none,x,y,z,.map (H.length+4),.snil]])[H.length+5]?=some (.cells [.sl (d7.map Dat.cs) .none,x,y,z,.map (H.length+4),.snil]):=by simp[List.getElem?_append]
    refine ACalls.ovC (id:=H.length+5) (j:=5) zau 5 hg5 rfl ?_;have pX:Sw (H++[AB.cells t.cs,.cells i.cs,.cells j.cs,.cells t.cs,.map [],.cells [.sl (d7.map Dat.cs) .none,x,y,z,.map (H.length+4),.ov (H.length+6) 0],.vec zau 5 0 []]) (H.length+5) (H.length+4) (H.length+6) (.sl (d7.map Dat.cs) .none::t.cs) []:=
     ⟨by rw[ew];rfl,by omega,by omega,by omega,by rw[ew];simp[List.getElem?_append],by simp[List.getElem?_append,kvS],by simp[List.getElem?_append,tms]⟩
    have ji:(H++[AB.cells t.cs,.cells i.cs,.cells j.cs,.cells t.cs,.map [],.cells [.sl (d7.map Dat.cs) .none,x,y,z,.map (H.length+4),.snil]]).set (H.length+5) (.cells ([AV.sl (d7.map Dat.cs) .none,x,y,z,.map (H.length+4),.snil].set 5 (.ov (H++[AB.cells t.cs,.cells i.cs,.cells j.cs,.cells t.cs,.map [],.cells [.sl (d7.map Dat.cs) .none,x,y,z,.map (H.length+4),.snil]]).length 0)))++[.vec zau 5 0 []] =
     H++[AB.cells t.cs,.cells i.cs,.cells j.cs,.cells t.cs,.map [],.cells [.sl (d7.map Dat.cs) .none,x,y,z,.map (H.length+4),.ov (H.length+6) 0],.vec zau 5 0 []]:=by simp[ah]
    rw[ji];generalize gS:H++[AB.cells t.cs,.cells i.cs,.cells j.cs,.cells t.cs,.map [],.cells [.sl (d7.map Dat.cs) .none,x,y,z,.map (H.length+4),.ov (H.length+6) 0],.vec zau 5 0 []]=H1 at *;refine zsz W (λp hp=>?_) H1 _ _ _ _ [] pX (by simp) (by simp) ?_ (by simp;omega) _ ?_
    ·obtain⟨p1,p2,p3,p4,p5,p6,p7⟩:=P1 p hp;exact⟨by omega,zjP h8 _ p.1 (ac _) t p3⟩
    ·have:zaH (λ_=>1) W≤729:=P3;refine aD (show _≤729 by rw[zcw];omega) (by decide)
    ·have fO:=zqo W [] (by simp) (λq hq=>(P1 q hq).1);have eN:∀ g:IT→Nat,zat g (zaZ [] W)=zat g L:=λg=>by rw[zgE,zf5,aC];exact pW g
     have fV:=zjM W [];refine zBk hk t (by omega) hf _ _ _ _ (zaZ [] W) L pX.next (λp hp=>?_) (zhH _ _ (by simp)) ?_ (by simp at fV;omega) hLa (by omega) (λp hp=>(R1 p hp).1) eN _ (λft=>?_) (λ_=>?_)
     ·obtain⟨h1,h2⟩:=fO p hp;rcases h2 with ⟨q,hq,_⟩ | ⟨q,hq,he⟩
      ·simp at hq
      ·obtain⟨p1,p2,p3,p4,p5,p6,p7⟩:=P1 q hq;have hm:=zdX (λ_=>1) hp;rw[eN,bl]at hm;have gx:zat (λ_=>1) L≤729:=R2;rw[←he];exact⟨by omega,h1,aD (ap hm gx) (by decide),p3,by omega⟩
     ·have h1:=eN (λ_=>1);have h2:zat (λ_=>1) W=zat (λ_=>1) L:=pW (λ_=>1);cases hc:zaZ [] W with
      |nil=>rw[hc,zf5]at h1;omega
      |cons p s=>simp
     ·simp at fV;omega
     ·simp;obtain⟨J,hJ⟩:∃J,sw H1 (H.length+5) (H.length+4) (H.length+6) (.sl (d7.map Dat.cs) .none::t.cs) (zaZ [] W)=H++J:=⟨_,by
       rw[←gS];simp only[sw];rw[ah _ _ (by omega),ah _ _ (by omega),ah _ _ (by omega)]⟩
      rw[hJ];exact⟨⟨rfl,rfl⟩,Out.tup (bs:=[.sl (zaG (zbB d7 t L 7)) .none,.int .i64 0]) hs hK ⟨zaV rfl rfl,zaV rfl rfl,trivial⟩⟩
def zbe(d7:List Dat)(t:VT)(i:IT)(u:List (IT×Nat)):List (IT×Nat):=u.flatMap λw=>scl (zaT d7 (w.1.nodes+i.nodes) t w.1 i) w.2
def za3(d7:List Dat)(t:VT)(i:IT):Nat→List (IT × Nat)
 |0=>[(zaP t,1)]
 |k+1=>zaZ [] (zbe d7 t i (za3 d7 t i k))
theorem zJ4{d7:List Dat}{t:VT}{i:IT}{u:List (IT×Nat)}{j:Nat}(h:j<u.length):zbe d7 t i (u.take (j+1))=zbe d7 t i (u.take j)++scl (zaT d7 (u[j].1.nodes+i.nodes) t u[j].1 i) u[j].2:=by rw[ae h];simp only[zbe,bm,aZ,bZ,aG]
theorem zAp(d7:List Dat)(t:VT)(i:IT)(u:List (IT×Nat))(j:Nat):zbe d7 t i u=zbe d7 t i (u.take j)++zbe d7 t i (u.drop j):=by
 conv=>lhs;rw[←aJ j u]
 simp only[zbe,bm]
structure PowOk (d7:List Dat) (t:VT) (i:IT) (u:List (IT × Nat)):Prop where
 tm:∀p∈u,p.1.nodes+i.nodes≤300∧0≤rdV d7 p.1 t∧rdV d7 p.1 t+rdV d7 i t≤6∧p.2<1000000000 ^ 20
 sm:zat (λ_=>1) (zbe d7 t i u)<1000000000 ^ 20
 ln:(zbe d7 t i u).length≤90000
 ul:u.length≤90000
theorem zAo{d7:List Dat}(h8:∀ D∈d7,D.cons.length≤8){t:VT}{i:IT}(hi:0≤rdV d7 i t){u:List (IT × Nat)}(hu:∀ p∈u,p.1.nodes+i.nodes≤300∧0≤rdV d7 p.1 t∧rdV d7 p.1 t+rdV d7 i t≤6∧p.2<1000000000 ^ 20):
  ∀p∈zbe d7 t i u,∃w∈u,p.1.nodes≤w.1.nodes+i.nodes∧0≤rdV d7 p.1 t∧rdV d7 p.1 t≤rdV d7 w.1 t+rdV d7 i t∧(0<w.2→0<p.2):=by
 intro p hp;obtain⟨w,hw,hp⟩:=bY.1 hp;obtain⟨q,hq,rfl⟩:=aA.1 hp;obtain⟨h1,h2,h3,h4⟩:=hu w hw;obtain⟨P1,_⟩:=zjG h8 (f:=w.1.nodes+i.nodes) (t:=t) (i:=w.1) (j:=i) (ac _) h2 hi h3;obtain⟨p1,p2,p3,p4,p5,p6,p7⟩:=P1 q hq;exact⟨w,hw,p7,p3,p4,λh=>du p1 h⟩
def opH(H:zaa)(T:VT)(C:List AV):zaa:=H++[.cells T.cs,.map [],.cells (C++[AV.map (H.length+1),AV.ov (H.length+3) 0]),.vec zau 5 0 []]
theorem ziy(H:zaa)(T:VT){C:List AV}(h4:C.length=4):Sw (opH H T C) (H.length+2) (H.length+1) (H.length+3) C []:=by unfold opH;exact⟨h4,by omega,by omega,by omega,by simp[List.getElem?_append],by simp[List.getElem?_append,kvS],by simp[List.getElem?_append,tms]⟩
theorem zzT(H:zaa)(T:VT){C:List AV}(h4:C.length=4):(H++[AB.cells T.cs,.map [],.cells (C++[AV.map (H.length+1),AV.snil])]).set (H.length+2) (.cells ((C++[AV.map (H.length+1),AV.snil]).set 5 (.ov (H++[AB.cells T.cs,.map [],.cells (C++[AV.map (H.length+1),AV.snil])]).length 0)))++[.vec zau 5 0 []]=opH H T C:=by
 have eQ:(C++[AV.map (H.length+1),AV.snil]).set 5 (.ov (H++[AB.cells T.cs,.map [],.cells (C++[AV.map (H.length+1),AV.snil])]).length 0)=C++[AV.map (H.length+1),AV.ov (H.length+3) 0]:=by rw[ah _ _ (by omega),h4];simp
 rw[eQ];simp[opH,ah]
theorem zzU(H:zaa)(T:VT)(C:List AV):(H++[AB.cells T.cs,.map [],.cells (C++[AV.map (H.length+1),AV.snil])])[H.length+2]?=some (.cells (C++[AV.map (H.length+1),AV.snil])):=by simp[List.getElem?_append]
theorem zzS(H:zaa){C:List AV}(h4:C.length=4):(C++[AV.map (H.length+1),AV.snil])[5]?=some .snil:=by rw[List.getElem?_append_right (by omega),h4];rfl
theorem zkV(H:zaa)(T:VT)(C:List AV)(s:List (IT×Nat)):∃J,sw (opH H T C) (H.length+2) (H.length+1) (H.length+3) C s=H++J:=⟨_,by
 unfold opH;simp only[sw];rw[ah _ _ (by omega),ah _ _ (by omega),ah _ _ (by omega)]⟩
theorem zzV{H:zaa}{T:VT}{C:List AV}{s:List (IT×Nat)}{x:Nat}{b:AB}(h:H[x]?=some b):(sw (opH H T C) (H.length+2) (H.length+1) (H.length+3) C s)[x]?=some b:=by obtain⟨J,hJ⟩:=zkV H T C s;rw[hJ];exact zbK h
theorem zJw{H:zaa}{T:VT}{C C':List AV}{s s':List (IT×Nat)}{is im iv:Nat}(h:Sw H is im iv C' s'):Sw (sw (opH H T C) (H.length+2) (H.length+1) (H.length+3) C s) is im iv C' s':=by obtain⟨J,hJ⟩:=zkV H T C s;rw[hJ];exact h.app
theorem zAg(d7:List Dat)(t:VT)(i:IT):∀ k,((za3 d7 t i k).map Prod.fst).Nodup
 |0=>by simp[za3]
 |k+1=>zhH _ _ (by simp)
theorem zUN{d7:List Dat}(hk:zbx d7)(t:VT)(ht:t.nodes≤250)(i:IT)(hi:i.nodes≤40)(hf:zb3 d7 t=true)(hd:0≤rdV d7 i t)(n:Nat)(hn:n≤6)(me:(n:Int)*rdV d7 i t≤6)(hb:∀ k<n,PowOk d7 t i (za3 d7 t i k))(hv:∀ p∈za3 d7 t i n,p.1.nodes≤900∧0<p.2∧p.2<1000000000 ^ 20∧0≤rdV d7 p.1 t∧rdV d7 p.1 t≤6)(h0:0<(za3 d7 t i n).length)(hl:(za3 d7 t i n).length≤100000)(L:List (IT × Nat))(hL:Asc L)(hLl:L.length≤100000)(iR:∀ p∈L,0<p.2)(fH:∀ g:IT→Nat,zat g (za3 d7 t i n)=zat g L)(H:zaa)(K:Kt)(ft:1000<(za3 d7 t i n).length→K (.tup [.sl [] .none,.int .i64 9]) H)(hK:(za3 d7 t i n).length≤1000→K (.tup [.sl (zaG (zbB d7 t L 7)) .none,.int .i64 0]) H):
  ACalls tP zkv [.sl (d7.map Dat.cs) .none,.agg t.cs,.agg i.cs,.int .i64 n] H K:=by
 refine ACalls.out (zEO λhs=>?_);have h8:=zeG hf;obtain⟨hD,gE⟩:zbz d7=true∧za0 d7 0 t=true:=by unfold zb3 at hf;simpa using hf
 have r1:=zeQ (h8:=h8) i t;obtain⟨x,y,z,ew,hx,hy,hz⟩:=zbk t;obtain⟨x2,y2,eF,fc,jm⟩:=zci i;obtain⟨x3,y3,iu,fx,qM⟩:=zci (zaP t);have q8:=zdp hf i;have pM:0≤(n:Int)*rdV d7 i t:=Int.mul_nonneg (by omega) hd;have wnd:IntKind.i64.wrap ((n:Int)*rdV d7 i t)=(n:Int)*rdV d7 i t:=zay (by omega) (by omega);have jj:¬rdV d7 i t<0:=by omega
 have q9:¬((6:Int)<(n:Int)):=by omega
 have i5:¬((n:Int)<0):=by omega
 have og:¬(6<(n:Int)*rdV d7 i t):=by omega
 simp[zvm,ew,eF,aa];rw[←ew,←eF];refine zjb d7 hk t (by omega) i (by omega) _ _ ?_;rw[q8];simp[jj,q9,i5,wnd,og,ew,eF,aa];rw[←ew,←eF];refine zXP d7 hk t (by omega) _ _ (λ_=>?_) hf;simp[ew,eF,iu,aa,IT.cs_known];refine⟨⟨fx,qM⟩,?_⟩;rw[←ew,←eF,←iu];obtain⟨A,hA⟩:∃A,A=H++[AB.cells t.cs,.cells i.cs,.cells (zaP t).cs]:=⟨_,rfl⟩;have i7:A.length=H.length+3:=by rw[hA];simp
 have a0:A[H.length]?=some (.cells t.cs):=by rw[hA];simp[List.getElem?_append]
 have a1:A[H.length+1]?=some (.cells i.cs):=by rw[hA];simp[List.getElem?_append]
 have a2:A[H.length+2]?=some (.cells (zaP t).cs):=by rw[hA];simp[List.getElem?_append]
 have hAs:HSc A:=by rw[hA];refine hs.append ?_;obtain⟨t1,t2,t3⟩:=t;obtain⟨i1,i2⟩:=i;generalize zaP (VT.mk t1 t2 t3)=zt at *;obtain⟨z1,z2⟩:=zt;simp[AB.sc,AV.scA,AV.scB,VT.cs,IT.cs]
 rw[←hA];obtain⟨C,hC⟩:∃C:List AV,C=AV.sl (d7.map Dat.cs) .none::t.cs:=⟨_,rfl⟩;have h4:C.length=4:=by rw[hC];obtain⟨a,b,c⟩:=t;rfl
 have hCs:∀n,C.all (AV.scA n)=true:=λn=>by rw[hC];obtain⟨a,b,c⟩:=t;simp[AV.scA,AV.scB,VT.cs]
 refine zvN d7 t _ _ ?_;rw[←hC];have pg:List.take 2 (zaP t).cs=(zaP t).cs:=ai (by simp);simp[zbK a2,pg];refine zaD (.agg (zai 1)) (λJ=>zeu 1 (by omega) _ _ ⟨rfl,rfl⟩) ?_;have mM:List.drop 5 ((zaP t).cs++[AV.bool false,.snil,.snil])=[]:=aW (by simp);have gy:plain ([.int .i64 0,.snil,.bool false,.snil,.snil]:List AV)=some [.int .i64 0,.sl [] .none,.bool false,.sl [] .none,.sl [] .none]:=rfl;have jx:∀x∈(zaP t).cs,x.known=true:=am.1 (IT.cs_known (zaP t));have mi:∀x∈zai (1:Int),x.known=true:=am.1 (zei _);simp[zaq,zaJ,mM];have mh:(zaP t).cs++zai (1:Int)=tmC (zaP t,1):=rfl;rw[mh];simp[zaw,zaR,zgZ,gy];refine ACalls.wk (args':=[.ptr (A.length+2) 0,.sl (zaG [(zaP t,1)]) .none]) ?_ ⟨.rfl',.atom (.sl _ _),trivial⟩;refine ACalls.ovC (id:=A.length+2) (j:=5) zau 5 (zzU A t C) (zzS A h4) ?_;rw[zzT A t h4];have oI:Dig (zaP t):=zjP h8 _ (zaP t) (ac _) t (by rw[zs1];omega);have hzn:=zlB t;refine zsz [(zaP t,1)] (by simp;exact⟨by omega,oI⟩) _ _ _ _ _ [] (ziy A t h4) (by simp) (by simp) (by simp[zaH]) (by simp) _ ?_;have hp0':zaZ [] [(zaP t,1)]=za3 d7 t i 0:=by simp[zaZ,zbg,za3]
 rw[hp0'];have hpre0:∀s,A <+: sw (opH A t C) (A.length+2) (A.length+1) (A.length+3) C s:=λs=>by obtain⟨J,hJ⟩:=zkV A t C s;rw[hJ];exact⟨J,rfl⟩
 refine zUJ (Inv:=λq t13 t49 H'=>∃(k is im iv:Nat),k≤n∧n-k=q∧t49=.int .i64 k∧t13=.ptr is 0∧Sw H' is im iv C (za3 d7 t i k)∧A <+: H') n ?_ ?_
 ·intro _;exact⟨0,_,_,_,by omega,rfl,rfl,rfl,(ziy A t h4).next,hpre0 _⟩
 ·rintro q t13 t49 H' ⟨k,is,im,iv,fI,rfl,rfl,rfl,hS,fw⟩ lN hlen12 hsF12 Kb12 lO;have jW:=hS.h1;have nd:(C++[AV.map im,AV.ov iv (za3 d7 t i k).length])[5]?=some (.ov iv (za3 d7 t i k).length):=by rw[List.getElem?_append_right (by omega),h4];rfl
  have oh:∀{x:Nat} {b:AB},A[x]?=some b→H'[x]?=some b:=λh=>by obtain⟨J,rfl⟩:=fw;exact zbK h
  by_cases jv:k<n
  ·have eu:=hb k jv;have hul:=eu.ul;obtain⟨u,hu⟩:∃ u,u=za3 d7 t i k:=⟨_,rfl⟩;have nf:za3 d7 t i (k+1)=zaZ [] (zbe d7 t i u):=by rw[hu];rfl
   rw[←hu]at hS jW nd eu hul;have eC:(k:Int)<(n:Int):=by omega
   have mT:List.take 3 t.cs=t.cs:=ai (by obtain⟨a,b,c⟩:=t;simp[VT.cs]);have lX:t.cs.length=3:=by obtain⟨a,b,c⟩:=t;rfl
   have ol:List.take 2 i.cs=i.cs:=ai (by simp);simp[zvo,jv,oh a0,mT,lX];refine zvN d7 t _ _ ?_;rw[←hC];simp[zbK jW,zdn _ nd];unfold zn3;refine ALoop.ovC (id:=H'.length+2) (j:=5) zau 5 (zzU H' t C) (zzS H' h4) ?_;rw[zzT H' t h4];have hSo:∀s,Sw (sw (opH H' t C) (H'.length+2) (H'.length+1) (H'.length+3) C s) (H'.length+2) (H'.length+1) (H'.length+3) C s:=λs=>(ziy H' t h4).next
   have pX:=(ziy H' t h4).self;have om:∀s,HSc (sw (opH H' t C) (H'.length+2) (H'.length+1) (H'.length+3) C s):=λs=>(ziy H' t h4).hsc (by
    unfold opH;refine lN.append ?_;simp only[AB.sc,List.all_cons,List.all_nil,bb,hCs];obtain⟨t1,t2,t3⟩:=t;simp[AV.scA,AV.scB,VT.cs])
   have pY:=zAo h8 hd eu.tm;show zn3 (.sl (d7.map Dat.cs) .none) (.ptr H.length 0) (.ptr (H.length+1) 0) (.ptr (H'.length+2) 0) (.int .i64 n) (.int .i64 k) (.ov iv u.length) (.int .i64 u.length) (.int .i64 0) (opH H' t C) (Out H.length K) Kb12;refine zUK (Inv:=λq t59 H3=>∃j:Nat,j≤u.length∧u.length-j=q∧t59=.int .i64 j∧H3=sw (opH H' t C) (H'.length+2) (H'.length+1) (H'.length+3) C (zaZ [] (zbe d7 t i (u.take j)))) u.length ?_ ?_
   ·intro _;exact⟨0,by omega,rfl,rfl,by simp only[List.take_zero,zbe,bZ,zyq];exact pX.symm⟩
   ·rintro q t59 H3 ⟨j,hj,rfl,rfl,rfl⟩ hsc15 hlen15 hsF15 Kb15 lF;by_cases eI:j<u.length
    ·obtain⟨w1,w2,w3,w4⟩:=eu.tm _ (af eI);have eL:=zJ4 (d7:=d7) (t:=t) (i:=i) eI;have l4:=zAp d7 t i u (j+1);have jD:=eu.sm;have kx:=eu.ln;rw[l4,zel,eL,zel]at jD;rw[l4,aw,eL,aw]at kx;obtain⟨W,hW⟩:∃ W,W=zaT d7 (u[j].1.nodes+i.nodes) t u[j].1 i:=⟨_,rfl⟩;obtain⟨P1,P2,P3,P4⟩:=zjG h8 (f:=u[j].1.nodes+i.nodes) (t:=t) (i:=u[j].1) (j:=i) (ac _) w2 hd w3;rw[←hW]at P1 P2 P3 P4 eL jD kx;obtain⟨S,pt⟩:∃ S,S=zaZ [] (zbe d7 t i (u.take j)):=⟨_,rfl⟩;have ep:zaZ [] (zbe d7 t i (u.take (j+1)))=zaZ S (scl W u[j].2):=by rw[eL,zH6,pt]
     have hSs:zaH (λ_=>1) S=zat (λ_=>1) (zbe d7 t i (u.take j)):=by rw[zc6,pt,zgE,zf5,aC]
     have hSl:=zjM (zbe d7 t i (u.take j)) [];rw[←pt]at hSl ⊢;have hSn:(S.map Prod.fst).Nodup:=by rw[pt];exact zhH _ _ (by simp)
     have hSdg:∀p∈S,Dig p.1:=λp hp=>by
      rw[pt]at hp;rcases zqn _ _ p hp with ⟨q,hq,he⟩|⟨q,hq,he⟩
      ·simp at hq
      ·obtain⟨w,hw,_,h2,_,_⟩:=pY q (by rw[zAp d7 t i u j];exact List.mem_append_left _ hq);rw[←he];exact zjP h8 _ q.1 (ac _) t h2
     have hSo':=hSo S;have hSu:Sw (sw (opH H' t C) (H'.length+2) (H'.length+1) (H'.length+3) C S) is im iv C u:=zJw hS;have b0:(sw (opH H' t C) (H'.length+2) (H'.length+1) (H'.length+3) C S)[H.length]?=some (.cells t.cs):=zzV (oh a0);have b1:(sw (opH H' t C) (H'.length+2) (H'.length+1) (H'.length+3) C S)[H.length+1]?=some (.cells i.cs):=zzV (oh a1);have hso:=om S;generalize hX:sw (opH H' t C) (H'.length+2) (H'.length+1) (H'.length+3) C S=X at *;have hu5:=zsJ eI;have hu5':j*5+5≤u.length*5:=by omega
     have hXg:(X++[AB.cells (tmC u[j])])[X.length]?=some (.cells (tmC u[j])):=by simp
     simp[zvp,eI,hSu.h3,hu5,hu5',zcK,zbK b0,zbK b1,mT,lX,ol,hXg,zcm,zcn];refine⟨zcK _,?_⟩;refine zaD (.sl (zaG W) .none) (λJ=>by rw[hW];exact(zq1 hk h8 hD (u[j].1.nodes+i.nodes)).1 t u[j].1 i (ac _) (by omega) gE w2 hd w3 (by omega) _ _ ⟨rfl,rfl⟩) ?_;refine zaD (.sl (zaG (scl W u[j].2)) .none) (λJ=>zXZ W u[j].2 (by omega) (zb0 (aV w4 (by decide))) (λp hp=>zb0 (aD (P1 p hp).2.1 (by decide))) _ _ ⟨rfl,rfl⟩) ?_;refine zsz (scl W u[j].2) (λp hp=>?_) _ _ _ _ _ S hSo'.app hSn hSdg ?_ (by simp at hSl kx ⊢;omega) _ ?_
     ·obtain⟨q,hq,rfl⟩:=aA.1 hp;obtain⟨p1,p2,p3,p4,p5,p6,p7⟩:=P1 q hq;exact⟨by show q.1.nodes≤1000;omega,zjP h8 _ q.1 (ac _) t p3⟩
     ·rw[hSs,zc6];omega
     ·rw[hSo'.sw_app];have hsw:sw X (H'.length+2) (H'.length+1) (H'.length+3) C (zaZ S (scl W u[j].2))=sw (opH H' t C) (H'.length+2) (H'.length+1) (H'.length+3) C (zaZ S (scl W u[j].2)):=by rw[←hX,zLE (by omega) (by omega) (by omega)]
      rw[hsw,←ep,wi j (by omega)];have pR:=zbm hS.h3;have iq:=cS fw;exact lF _ _ ⟨u.length-(j+1),by omega,Back.at (J:=[.cells (tmC u[j])]) (H2:=sw (opH H' t C) (H'.length+2) (H'.length+1) (H'.length+3) C (zaZ [] (zbe d7 t i (u.take (j+1))))) rfl (by simp) (om _) (by simp[zn2,ux,AV.sc,AV.scA,AV.scB,AV.scV,opH];omega) ⟨_,rfl,j+1,by omega,rfl,rfl,rfl⟩⟩
    ·obtain rfl:j=u.length:=by omega
     rw[ak]at *;simp[zvp,wi k (by omega)];have iq:=cS fw;obtain⟨J,hJ⟩:=zkV H' t C (zaZ [] (zbe d7 t i u));exact lO _ _ ⟨n-(k+1),by omega,Back.here (by simp[opH];simp at hlen12;omega) (om _) (by simp[zn1,ux,AV.sc,AV.scA,AV.scB,AV.scV,opH];omega) ⟨_,_,rfl,k+1,_,_,_,by omega,rfl,rfl,rfl,by rw[nf];exact hSo _,by rw[hJ];exact List.IsPrefix.trans fw ⟨J,rfl⟩⟩⟩
  ·obtain rfl:k=n:=by omega
   simp[zvo];rw[hC]at hS;obtain⟨J,hJ⟩:∃J,H'=H++J:=by obtain⟨J,rfl⟩:=fw;rw[hA,aq];exact⟨_,rfl⟩
   refine zBk hk t (by omega) hf _ _ _ _ _ L hS hv (zAg d7 t i _) h0 hl hL hLl iR fH _ (λfz=>?_) (λfz=>?_)
   ·simp;rw[hJ];exact⟨⟨rfl,rfl⟩,Out.tup (bs:=[.sl [] .none,.int .i64 9]) hs (ft fz) ⟨zaV rfl rfl,zaV rfl rfl,trivial⟩⟩
   ·simp;rw[hJ];exact⟨⟨rfl,rfl⟩,Out.tup (bs:=[.sl (zaG (zbB d7 t L 7)) .none,.int .i64 0]) hs (hK fz) ⟨zaV rfl rfl,zaV rfl rfl,trivial⟩⟩
section
variable (t0 t1 t12 t13:AV) (H:zaa) (K:Kt) (Kb4:Lt)
def zVr(_:Nat):List Bool:=[]
noncomputable def zVs:=Tryz.f29.body.getD .skip
def zE5:=zav t0 H λt2 H=>zav t1 H λt3 H=>zaf 0 t2 λt5=>zae false 1 t5 H λt6=>zaf 0 t3 λt7=>zae false 1 t7 H λt8=>zac .eql false t6 t8 λt9=>zad t9 true H (λK'=>zaf 1 t2 (K' · H)) λt11 H=>zad t9 true H (λK'=>zae false 1 t11 H (K' · H)) λt12 H=>zad t9 true H (λK'=>zaf 1 t3 (K' · H)) λt13 H=>zad t9 true H (λK'=>zae false 1 t13 H (K' · H)) λt14 H=>zad t9 true H (λK'=>ACalls tP zrX [t12,t14] H K') λt15 H=>zam t9 t15 (.bool false) λt16=>K t16 H
def zo4:Nat→List Bool|4=>rl false [0,2,10,2,13]|_=>[]
noncomputable def zws:=Tryz.f64.body.getD .skip
noncomputable def zYc:=Tryz.f64.results.toList
def zo5:=t0::t1::ux 10 (t12::t13::ux 13 [])
def zYa:=zo4 4
noncomputable def zX8:=zar [1,1,0,1,0,0] zws
def zX7:=zas tP zo4 [1,1,0,1,0] zws (zaB tP zYc K)
def zFX:=ALoop tP zX8 (zX7 K) (zo5 t0 t1 t12 t13) H
def zwr:=zac .lss false t13 t12 λt14=>zag t14 (apm H t0 λt16=>apm H t13 λt17=>apu H (zak 2 t16 t17) λt18=>apu H (zaj true 2 t18 H) λt19=>apm H t1 λt20=>apm H t13 λt21=>apu H (zak 2 t20 t21) λt22=>apu H (zaj true 2 t22 H) λt23=>zaC H (λH K'=>ACalls tP zil [t19,t23] H K') λt24=>apu H (aUn .not t24) λt25=>zag t25 (K (.bool false) H) (zac .add false t13 (.int .i64 1) λt26=>Kb4 (zo5 t0 t1 t12 t26) H)) (K (.bool true) H)
def zFW:=zah 1 t0 λt7=>zah 1 t1 λt9=>zac .neq false t7 t9 λt10=>zag t10 (K (.bool false) H) (zah 1 t0 λt12=>zFX t0 t1 t12 (.int .i64 0) H K)
variable {t0 t1 t12 t13} {H} {K} {Kb4}
theorem zVt(h:HSc H→zE5 t0 t1 H K):ACalls tP zil [t0,t1] H K:=
 acb zVr Tryz.func29 zVs h
theorem zX9:Lo1 (λt13=>zo5 t0 t1 t12 t13) (λt13 H Kb4=>zwr t0 t1 t12 t13 H K Kb4) t13 H (zFX t0 t1 t12 t13 H K):=lq1 zo4 zYa
theorem zYb(h:HSc H→zFW t0 t1 H K):ACalls tP zrX [t0,t1] H K:=
 acb zo4 Tryz.func64 zws h
end
theorem zYd(vs:List IT)(hl:vs.length≤1000000)(iG:∀v∈vs,∀(H:zaa) (K:Kt),K (.bool true) H→ACalls tP zil [.agg v.cs,.agg v.cs] H K)(H:zaa)(K:Kt)(hK:K (.bool true) H):ACalls tP zrX [.sl (IT.css vs) .none,.sl (IT.css vs) .none] H K:=by
 refine ACalls.out (zYb λfy=>?_);simp[zFW];refine zX9 (Inv:=λq t13 H'=>∃i:Nat,i≤vs.length∧q=vs.length-i∧t13=.int .i64 i∧H'=H) vs.length ?_ ?_
 ·intro _;exact⟨0,by omega,by omega,rfl,rfl⟩
 ·rintro q t13 H' ⟨i,hi,rfl,rfl,rfl⟩ eE ek eK Kb eq;by_cases ei:i<vs.length
  ·simp[zwr,ei];refine zaD (.bool true) (λJ=>iG _ (af ei) _ _ ⟨rfl,rfl⟩) ?_;simp;rw[zay (by omega) (by omega)];refine eq _ _ ⟨vs.length-(i+1),by omega,Back.here (by simp) eE ?_ ⟨_,rfl,i+1,by omega,rfl,by simp,rfl⟩⟩;simp[zo5,AV.sc,AV.scV,AV.scA,AV.scB]
  ·simp[zwr,ei];exact Out.bool (J:=[]) (by simp) (ac _) fy hK
theorem zVu:∀(m:Nat) (v:IT),v.nodes≤m→v.nodes≤1000000→∀(H:zaa) (K:Kt),K (.bool true) H→ACalls tP zil [.agg v.cs,.agg v.cs] H K:=by
 intro m;induction m with
 |zero=>intro v h;have:=v.nodes_pos;omega
 |succ m ih=>
  intro v hv hb H K hK;obtain⟨n,ks⟩:=v;have gd:IT.nodesL ks+1≤1000000:=by simpa[IT.nodes]using hb
  have fh:=IT.len_le ks;refine ACalls.out (zVt λfy=>?_);simp[zE5,IT.cs,aa];refine zYd ks (by omega) (λv mJ=>by
   obtain⟨i,hi,rfl⟩:=be mJ;have:=IT.kid_lt (n:=n) hi;exact ih _ (by omega) (by omega)) _ _ ?_
  try simp
  exact Out.bool rfl (ac _) fy hK
theorem zZ8(d7:List Dat)(ek:d7.length≤9223372036854775807)(t:VT)(H:zaa)(K:Kt)(hK:∀b,(b=true→zbx d7∧t.nodes≤250)→K (.bool b) H):ACalls tP zr0 [.sl (d7.map Dat.cs) .none,.agg t.cs] H K:=by
 refine ACalls.out (zZ7 λhs=>?_);have hO:∀b,(b=true→zbx d7∧t.nodes≤250)→∀J,Out H.length K (.bool b) (H++J):=λb h J=>Out.bool rfl (ac _) hs (hK b h);obtain⟨x,y,z,ew,hx,hy,hz⟩:=zbk t;simp[zq8,ew,aa];refine zVN d7 _ _ ek λb1 fz=>?_;cases b1 with
 |false=>simp;exact hO _ (λh=>by cases h) _
 |true=>
  simp[aa];rw[←ew];refine zVR t _ _ λb2 fD=>?_;try simp
  exact hO _ (λh=>⟨fz rfl,fD h⟩) _
theorem zOr(s:List (IT×Nat))(kO:∀p∈s,p.1.nodes≤1000000∧Sm (p.2:Int))(hl:s.length≤1000000)(H:zaa)(K:Kt)(hK:K (.bool true) H):ACalls tP zq6 [.sl (zaG s) .none,.sl (zaG s) .none] H K:=by
 refine ACalls.out (zOp λhs=>?_);simp[zCp];refine zOn (Inv:=λq t13 H'=>∃i:Nat,i≤s.length∧s.length-i=q∧t13=.int .i64 i∧H'=H) s.length ?_ ?_
 ·intro _;exact⟨0,by omega,rfl,rfl,rfl⟩
 ·rintro q t13 H' ⟨i,hi,rfl,rfl,rfl⟩ eE ek eK Kb eq;by_cases ei:i<s.length
  ·obtain⟨h1,h2⟩:=kO _ (af ei);simp[ztB,ei,zcm,zcn,zcU,aa];refine zaD (.bool true) (λJ=>zVu _ _ (ac _) h1 _ _ ⟨rfl,rfl⟩) ?_;simp[ei,zcm,zcn,zcU];refine zaD (.bool true) (λJ=>zEm _ h2 _ _ ⟨rfl,rfl⟩) ?_;simp[wi i (by omega)];exact eq _ _ ⟨s.length-(i+1),by omega,Back.here (by simp) hs (by simp[zmj,ux,AV.sc,AV.scA,AV.scB,AV.scV]) ⟨_,rfl,i+1,by omega,rfl,rfl,rfl⟩⟩
  ·simp[ztB,ei];exact Out.bool (J:=[]) (by simp) (ac _) hs hK
def t17:VT:=.mk 7 0 [.mk 1 0 []]
def i17:IT:=.mk 1 []
theorem zI8:zff [] t17 i17 i17=.tup [.sl (zaG [(.mk 1 [],1),(.mk 2 [],2)]) .none,.int .i64 0]:=by kernel_rfl
theorem zHM(H:zaa)(K:Kt)(hK:K (.bool true) H):ACalls tP zrf [] H K:=by
 refine ACalls.out (zO8 λhs=>?_);simp[zCB,zaq,zaJ,zaw,zaR,plain,AV.pd,AV.known,aa];refine ACalls.wk (args':=[.sl [] .none,.agg t17.cs,.agg i17.cs,.agg i17.cs]) (zNd (d7:=[]) ⟨by simp,by simp⟩ t17 (by decide) i17 i17 (by decide) (by decide) _ _ ?_) ⟨.atom .snil,.agg ⟨.refl _,.refl _,.sl _ _,trivial⟩,.agg ⟨.refl _,.snil,trivial⟩,.agg ⟨.refl _,.snil,trivial⟩,trivial⟩;rw[zI8];have h0:(tmC (IT.mk 2 [],2))[0]?=some (.int .i64 2):=rfl;simp[zcm,zcn,zcU,aa,zdn _ h0];refine zaD (.agg (zai 2)) (λJ=>zeY 2 (by omega) _ _ ⟨rfl,rfl⟩) ?_;try simp[zcm,zcn,zcU]
 refine zaD (.bool true) (λJ=>zEm 2 (zb0 (n:=2) (by decide)) _ _ ⟨rfl,rfl⟩) ?_;exact Out.bool rfl (ac _) hs hK
end Go.Proofs.YtdmamdnkcefmmaaGreatDoor
