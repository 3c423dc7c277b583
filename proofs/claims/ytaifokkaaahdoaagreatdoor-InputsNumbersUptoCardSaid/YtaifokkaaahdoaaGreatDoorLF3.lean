import Derived.Test.YtaifokkaaahdoaaGreatDoorLE3
import Derived.Test.YtaifokkaaahdoaaGreatDoorKGT
import Derived.Test.YtaifokkaaahdoaaGreatDoorKGL2
import Derived.Test.YtaifokkaaahdoaaGreatDoorKNum
import Derived.Test.YtaifokkaaahdoaaGreatDoorProg
import Derived.KernelRfl
set_option linter.unusedSectionVars false
set_option linter.unusedSimpArgs false
set_option linter.unusedVariables false
set_option maxRecDepth 100000
namespace Go.Proofs.YtaifokkaaahdoaaGreatDoor
def za5(l:List Nat):List (List AV):=l.map λi:Nat=>[AV.int .i64 i]
@[simp] theorem zxt(l:List Nat):(za5 l).length=l.length:=by simp[za5]
theorem wr{n:Nat}(h:n≤1000000000000):IntKind.i64.wrap ((n:Int)+1)=((n+1:Nat):Int):=by rw[zaz (by omega) (by omega)];rfl
theorem ShS.nodr{data:List Dat}{kk:Int}{I:SI}{S S':SS}{H:zaa}(hS:ShS data kk I S H)(h0:H[0]?=some .nodr):(shS data kk I S' H)[0]?=some .nodr:=by
 rw[zcx,h0];have hn:za3 data kk I S 0=none:=by
  cases hb:za3 data kk I S 0 with
  |none=>rfl
  |some b=>
   have:=hS.at' 0 b hb;rw[h0]at this;cases this;unfold za3 at hb;split at hb
   ·cases hb
   ·split at hb
    ·cases hb
    ·split at hb
     ·cases hb
     ·split at hb
      ·cases hb
      ·split at hb
       ·cases hb
       ·split at hb
        ·cases hb
        ·cases hb
 have e:=zgS (data:=data) (kk:=kk) (I:=I) (S:=S) (S':=S') 0;rw[hn]at e;cases hb2:za3 data kk I S' 0 with
 |none=>rfl
 |some b=>rw[hb2]at e;cases e
section
variable {data:List Dat} (hD:zaB data=true) {kk:Nat} {X:List VT} (hX:X.length≤1000000000000) {ex:Nat→Prop} {I:SI} {S:SS} {H:zaa}
include hD hX
theorem zzc(hS:ShS data kk I S H)(hI:Inv data kk X ex S)(h0:H[0]?=some .nodr)(ts:List VT)(htl:ts.length≤200)(hts:∀t∈ts,zaD data 0 t=true∧t∈X)(K:Kt)(hK:K (.sl (za5 (zaN data S ts).1) .none) (shS data kk I (zaN data S ts).2 H)):ACalls tP zkf [.ptr I.p 0,.sl (VT.css ts) .none] H K:=by
 refine ACalls.out (zLD λhs=>?_);have lp:=(List.getElem?_eq_some_iff.1 hS.hp).1;have hlt0:0<H.length:=(List.getElem?_eq_some_iff.1 h0).1;simp only[zAt,zeB,VT.css_len];refine ALoop.own 5 zc9 1 rfl ?_;show zsl _ (.sl (za5 (zaN data S (ts.take 0)).1) (.own H.length)) _ _ _ (H++[.perm zc9 1 0]) _;have hok:=λj=>zhV hD (ts.take j) S hI λt ht=>hts t (aW ht);have hSS:=λj=>hS.next (S':=(zaN data S (ts.take j)).2) (hok j).1.ml (hok j).1.cl;obtain⟨G,hG⟩:∃G:Nat→zaa,G=λj=>shS data kk I (zaN data S (ts.take j)).2 H++[.perm zc9 1 j]:=⟨_,rfl⟩;have hGl:∀j,(G j).length=H.length+1:=λj=>by rw[hG];simp
 have hGs:∀j,HSc (G j):=λj=>by rw[hG];exact(hS.scs hs).snoc rfl
 have hlk:=λj=>zpa data (ts.take j) S;have h0G:∀j,(G j)[0]?=some .nodr:=λj=>by rw[hG];simp only;rw[List.getElem?_append_left (by simpa using hlt0)];exact hS.nodr h0
 refine zLB (Inv:=λq t5 t10 H'=>∃j:Nat,j≤ts.length∧ts.length-j=q∧t10=.int .i64 j∧t5=.sl (za5 (zaN data S (ts.take j)).1) (.own H.length)∧H'=G j) ts.length ?_ ?_
 ·intro _;refine⟨0,by omega,rfl,rfl,rfl,?_⟩;rw[hG];simp only[List.take_zero,zaN];rw[hS.self]
 ·rintro q t5 t10 H' ⟨j,hj,rfl,rfl,rfl,rfl⟩ hsc' hlen hsF Kb hKb;by_cases hlt:j<ts.length
  ·obtain⟨x1,x2,x3,hvx,hxa,hxb,hxc⟩:=zaO ts[j];have hv:=hts ts[j] (ae hlt);simp[zsj,hlt,hvx,ag];refine⟨⟨hxa,hxb,hxc⟩,?_⟩;rw[←hvx];have hAp:ShS data kk I (zaN data S (ts.take j)).2 (G j++[.cells (ts[j]).cs]):=by rw[hG];exact ((hSS j).app).app
   refine ziO hD hAp (by rw[List.getElem?_append_left (by rw[hGl];omega)];exact h0G j) ts[j] hv.1 (aC (hok j).1.len hX) _ ?_;have hfin:shS data kk I (idS data (zaN data S (ts.take j)).2 ts[j]) (G j++[.cells (ts[j]).cs])=shS data kk I (zaN data S (ts.take (j+1))).2 H++[.perm zc9 1 j,.cells (ts[j]).cs]:=by rw[zjA hlt,hG];simp only;rw[ah,(hSS j).shS_app,zdh];rfl
   rw[hfin];simp[zau,za4,plain,AV.pd];simp only[zax,za6,zaZ];have hsl:(za5 (zaN data S (ts.take j)).1).length=j:=by rw[zxt,hlk,aM];omega
   simp[ai,hsl];refine⟨⟨by omega,by omega⟩,?_⟩;have hst:za5 (zaN data S (ts.take j)).1++[[AV.int .i64 (idN data (zaN data S (ts.take j)).2 ts[j]:Nat)]]=za5 (zaN data S (ts.take (j+1))).1:=by rw[zjA hlt];simp[za5]
   rw[hst,wr (by omega)];refine hKb _ _ ⟨ts.length-(j+1),by omega,Back.at (J:=[.cells (ts[j]).cs]) (H2:=G (j+1)) (by rw[hG];simp) (by rw[hGl];simp) (hGs _) (by rw[hGl];simp[zlN,ux,AV.sc,AV.scA,AV.scB,AV.scV];omega) ⟨_,_,rfl,j+1,by omega,rfl,rfl,rfl,rfl⟩⟩
  ·obtain rfl:j=ts.length:=by omega
   simp[zsj];rw[hG];simp only[aw];exact Out.at rfl (by simp) (hS.scs hs) (.atom (.sl _ _)) rfl rfl hK
end
def mkS(S:SS)(i:Nat):SS:=⟨S.types,S.made.set i true,S.cons,S.cnt⟩
def zel(S:SS)(i:Nat)(l:List (Int×List Nat)):SS:=⟨S.types,S.made,S.cons.set i l,S.cnt⟩
def zbf(data:List Dat):SS→List (Int × List VT)→List (Int × List Nat) × SS
 |S,[]=>([],S)
 |S,w::ws=>((w.1,(zaN data S w.2).1)::(zbf data (zaN data S w.2).2 ws).1,(zbf data (zaN data S w.2).2 ws).2)
theorem zAb(data:List Dat)(w:Int × List VT):∀ (ws:List (Int × List VT)) (S:SS),zbf data S (ws++[w])=((zbf data S ws).1++[(w.1,(zaN data (zbf data S ws).2 w.2).1)],(zaN data (zbf data S ws).2 w.2).2)
 |[],S=>rfl
 |u::ws,S=>by rw[List.cons_append,zbf,zbf,zAb data w ws];rfl
def zdy(data:List Dat)(S:SS)(i:Nat):List (Int×List Nat)×SS:=
 if S.made.getD i false=true then (S.cons.getD i [],S) else
  ((zbf data (mkS S i) (zaW data (S.types.getD i (.mk 0 0 [])))).1,zel (zbf data (mkS S i) (zaW data (S.types.getD i (.mk 0 0 [])))).2 i (zbf data (mkS S i) (zaW data (S.types.getD i (.mk 0 0 [])))).1)
theorem zwc{data:List Dat}{i:Nat}:∀ (ts:List VT) (S:SS),S.made[i]?=some true→(zaN data S ts).2.made[i]?=some true
 |[],S,h=>h
 |t::ts,S,h=>by
  rw[zaN];refine zwc ts _ ?_;unfold idS;split
  ·exact h
  ·simp only[zco];rw[List.getElem?_append_left (List.getElem?_eq_some_iff.1 h).1];exact h
theorem zr0{data:List Dat}(hD:zaB data=true){kk:Nat}{X:List VT}{ex:Nat→Prop}:∀ (ws:List (Int × List VT)) (S:SS),Inv data kk X ex S→(∀ w∈ws,∀ t∈w.2,zaD data 0 t=true∧t∈X)→Inv data kk X ex (zbf data S ws).2∧S.types <+: (zbf data S ws).2.types∧ConOk (zbf data S ws).2.types ws (zbf data S ws).1∧∀ i:Nat,S.made[i]?=some true→(zbf data S ws).2.made[i]?=some true
 |[],S,h,_=>⟨h,aX,trivial,λi h=>h⟩
 |w::ws,S,h,hv=>by obtain⟨h1,h2,h3⟩:=zhV hD w.2 S h (hv w (by simp));obtain⟨h4,h5,h6,h7⟩:=zr0 hD ws (zaN data S w.2).2 h1 λu hu=>hv u (by simp[hu]);exact⟨h4,h2.trans h5,⟨⟨rfl,h3.mono h5⟩,h6⟩,λi hi=>h7 i (zwc w.2 S hi)⟩
section
variable {data:List Dat} (hD:zaB data=true) {kk:Nat} {X:List VT} {S:SS} {i:Nat}
include hD
theorem zxY(h:Inv data kk X (λ_=>False) S)(i:Nat):Inv data kk X (λj=>j=i) (mkS S i):=
 ⟨by simp[mkS,h.ml],h.cl,h.nd,h.vd,h.sub,λj t hj ht hm c hc=>h.con j t id ht (by
  simp only[mkS]at hm;rwa [List.getElem?_set_ne (λe=>hj e.symm)]at hm) c hc,h.cn⟩
theorem zI1{T:SS}(h:Inv data kk X (λj=>j=i) T){t:VT}(ht:T.types[i]?=some t){l:List (Int×List Nat)}(hl:ConOk T.types (zaW data t) l):Inv data kk X (λ_=>False) (zel T i l):=
 ⟨h.ml,by simp[zel,h.cl],h.nd,h.vd,h.sub,λj u _ hu hm c hc=>by
  simp only[zel]at hu hm hc ⊢;by_cases e:i=j
  ·subst e;rw[List.getElem?_set_self (by rw[h.cl];exact(List.getElem?_eq_some_iff.1 ht).1)]at hc;cases hc;rw[ht]at hu;cases hu;exact hl
  ·rw[List.getElem?_set_ne e]at hc;exact h.con j u (λk=>e k.symm) hu hm c hc,h.cn⟩
theorem zAd(h:Inv data kk X (λ_=>False) S){t:VT}(ht:S.types[i]?=some t)(hX:∀ w∈zaW data t,∀ x∈w.2,x∈X):
  Inv data kk X (λ_=>False) (zdy data S i).2∧S.types <+: (zdy data S i).2.types∧ConOk (zdy data S i).2.types (zaW data t) (zdy data S i).1:=by
 have hil:=(List.getElem?_eq_some_iff.1 ht).1;have ht':S.types.getD i (.mk 0 0 [])=t:=by rw[List.getD_eq_getElem?_getD,ht];rfl
 have hv:=h.vd t (aQ ht);unfold zdy;rw[ht'];split
 ·rename_i hm;refine⟨h,aX,?_⟩;have hm2:S.made[i]?=some true:=by
   rw[List.getD_eq_getElem?_getD]at hm;cases e:S.made[i]? with
   |none=>rw[e]at hm;cases hm
   |some b=>rw[e]at hm;simp at hm;rw[hm]
  have hcl:i<S.cons.length:=by rw[h.cl];exact hil
  rw[List.getD_eq_getElem?_getD,List.getElem?_eq_getElem hcl];exact h.con i t id ht hm2 _ (List.getElem?_eq_getElem hcl)
 ·obtain⟨h1,h2,h3,h4⟩:=zr0 hD (zaW data t) (mkS S i) (zxY hD h i) λw hw x hx=>⟨zr2 hD hv hw x hx,hX w hw x hx⟩;refine⟨zI1 hD h1 ?_ h3,h2,h3⟩;obtain⟨E,hE⟩:=h2;rw[←hE,List.getElem?_append_left (show i<(mkS S i).types.length from hil)];exact ht
end
theorem zwa:∀ (l:List AV),All2 WkA l l
 |[]=>trivial
 |a::l=>⟨.refl a,zwa l⟩
theorem zwb{a b:AV}(h:WkA a b):∀ (l:List AV) (i:Nat),All2 WkA (l.set i a) (l.set i b)
 |[],_=>trivial
 |x::l,0=>⟨h,zwa l⟩
 |x::l,i+1=>⟨.refl x,zwb h l i⟩
theorem zzH{α:Type}(l:List α)(i:Nat)(a:α)(h:i<l.length):l.take i++[a]++l.drop (i+1)=l.set i a:=by rw[bV,aB h];simp
section
variable {data:List Dat} {kk:Int} {I:SI} {T:SS} {H J:zaa}
theorem zr3(hT:ShS data kk I T H)(hs:HSc H){i:Nat}(hi:i<T.types.length){l:AV}{cs:List (Int×List Nat)}(hl:WkA l (zcq cs))(hlc:l.cs?=some [l])(hlk:l.known=true){n:Nat}(hn:n=H.length){K:Kt}(hK:K (zcq cs) (shS data kk I (zel T i cs) H)):zu2 (.ptr I.p 0) (.int .i64 i) l (H++J) (ze5 n K):=by
 subst hn;have hp:=(hT.app (J:=J)).hp;have hic:=(hT.app (J:=J)).hic;have lic:=(List.getElem?_eq_some_iff.1 hT.hic).1;unfold zu2;have hcl:i<(T.cons.map zcq).length:=by rw[aS,hT.cl];exact hi
 simp[hp,hi];rw[←zv2];refine zzu (n:=1) (off:=i) (cs:=T.cons.map zcq) (xs:=[l]) hlc hic rfl (by omega) (by simp[hlk]) ?_;rw[zzH _ _ _ hcl];rw[a6 _ _ lic];refine⟨zcq cs,_,shS data kk I (zel T i cs) H,J,rfl,by simp,?_,by simp,hT.scs hs,.one (.wk (.atom hl) rfl rfl),hK⟩;have hset:shS data kk I (zel T i cs) H=H.set I.ic (.vec zff 1 T.types.length ((T.cons.map zcq).set i (zcq cs))):=by
  symm
  refine hT.set_one (S':=zel T i cs) (x:=I.ic) ?_ ?_
  ·simp[za3,hT.ok.a4.symm,hT.ok.b3.symm,hT.ok.c2.symm,hT.ok.d1.symm,zel,dC]
  ·intro y hy;unfold za3;simp only[zel,ap hy]
 rw[hset];intro x a b ha hb;by_cases e:I.ic=x
 ·subst e;rw[List.getElem?_set_self lic]at ha hb;cases ha;cases hb;exact .vec (zwb hl _ _)
 ·rw[List.getElem?_set_ne e]at ha hb;rw[ha]at hb;cases hb;exact .refl _
end
theorem zfC:∀ (ts:List VT) (i:Nat) (t:VT),ts[i]?=some t→((zbQ ts).drop (i*3)).take 3=t.cs
 |[],i,t,h=>by simp at h
 |u::ts,0,t,h=>by simp at h;subst h;simp only[zbQ,aA,List.flatten_cons,bx,aU];rw[dv (by simp)]
 |u::ts,i+1,t,h=>by have:=zfC ts i t (by simpa using h);simp only[zbQ,aA,List.flatten_cons]at this ⊢;rw[show (i+1)*3=u.cs.length+i*3 from by rw[VT.cs_len];omega,ch,aK (by omega),List.nil_append,show u.cs.length+i*3-u.cs.length=i*3 from by omega];exact this
theorem zGx(l:List (Int×List Nat))(c:Int)(is:List Nat):zbX (l++[(c,is)])=zbX l++[[.int .i64 c,.sl (za5 is) .none]]:=by simp[zbX,za5]
section
variable {data:List Dat} (hD:zaB data=true) {kk:Nat} {X:List VT} (hX:X.length≤1000000000000) {I:SI} {S:SS} {H:zaa}
include hD hX
theorem zze(hS:ShS data kk I S H)(hI:Inv data kk X (λ_=>False) S)(h0:H[0]?=some .nodr){i:Nat}{t:VT}(ht:S.types[i]?=some t)(htX:∀w∈zaW data t,∀x∈w.2,x∈X)(K:Kt)(hK:K (zcq (zdy data S i).1) (shS data kk I (zdy data S i).2 H)):ACalls tP ziB [.ptr I.p 0,.int .i64 i] H K:=by
 refine ACalls.outH (zVd λhs=>?_);have hil:=(List.getElem?_eq_some_iff.1 ht).1;have hlt0:0<H.length:=(List.getElem?_eq_some_iff.1 h0).1;have lp:=(List.getElem?_eq_some_iff.1 hS.hp).1;have lia:=(List.getElem?_eq_some_iff.1 hS.hia).1;have htg:S.types.getD i (.mk 0 0 [])=t:=by rw[List.getD_eq_getElem?_getD,ht];rfl
 have hv:=hI.vd t (aQ ht);have hml:i<S.made.length:=by rw[hI.ml];exact hil
 have hcl:i<S.cons.length:=by rw[hI.cl];exact hil
 obtain⟨bm,hbm⟩:∃bm,S.made[i]?=some bm:=⟨_,List.getElem?_eq_getElem hml⟩;have hbg:(zaH S.made)[i]?=some (.bool bm):=by simp[zaH,hbm]
 simp[zEn,hS.hp,hS.hia,hS.hit,hil,zc4 _ hbg];unfold zdy at hK;rw[htg,List.getD_eq_getElem?_getD,hbm]at hK;cases bm with
 |true=>
  simp[List.getD_eq_getElem?_getD,List.getElem?_eq_getElem hcl]at hK;have hcg:(S.cons.map zcq)[i]?=some (zcq S.cons[i]):=by simp[hcl]
  simp[hS.hic,zc4 _ hcg];exact Out.toH (Out.at (J:=[]) (by simp) (aa _) hs .rfl' rfl rfl (by rw[hS.self]at hK;exact hK))
 |false=>
  simp only[Option.getD_some,aD,aT]at hK;simp;refine⟨by omega,?_⟩;have hbs:(zaH S.made).take i++AV.bool true::(zaH S.made).drop (i+1)=zaH (S.made.set i true):=by have:=zzH (zaH S.made) i (AV.bool true) (by simpa[zaH]using hml);simp at this;rw[this];simp[zaH,dC]
  have hset:H.set I.ia (.vec zfg 1 S.types.length (zaH (S.made.set i true)))=shS data kk I (mkS S i) H:=by
   refine hS.set_one (S':=mkS S i) (x:=I.ia) ?_ ?_
   ·simp[za3,hS.ok.a3.symm,hS.ok.b2.symm,hS.ok.c1.symm,mkS]
   ·intro y hy;unfold za3;simp only[mkS,ap hy]
  rw[hbs,hset];have hM:=zxY hD hI i;have hMS:ShS data kk I (mkS S i) (shS data kk I (mkS S i) H):=hS.next hM.ml hM.cl;obtain⟨A,hA⟩:∃A,A=shS data kk I (mkS S i) H:=⟨_,rfl⟩;have hAl:A.length=H.length:=by rw[hA];simp
  have h0A:A[0]?=some .nodr:=by rw[hA];exact hS.nodr h0
  have hAs:HSc A:=by rw[hA];exact hS.scs hs
  rw[←hA]at hMS ⊢;have hshA:∀T,shS data kk I T A=shS data kk I T H:=λT=>by rw[hA,zdh]
  have htM:(mkS S i).types=S.types:=rfl;have hta:=zfC S.types i t ht;have htl:=zfD S.types;obtain⟨k,n,ks⟩:=t;have hkn:=VT.cs_known (.mk k n ks);obtain⟨A2,hA2⟩:∃A2,A2=A++[.cells (VT.cs (.mk k n ks))]:=⟨_,rfl⟩;have hset2:(A++[AB.cells [AV.int .i64 0,AV.int .i64 0,AV.snil]]).set H.length (.cells (VT.cs (.mk k n ks)))=A2:=by rw[hA2,←hAl];simp
  have hg2:A2[H.length]?=some (.cells (VT.cs (.mk k n ks))):=by rw[hA2,←hAl];simp
  have hA2s:HSc A2:=by rw[hA2];exact hAs.snoc (by simp[AB.sc])
  have h0A2:A2[0]?=some .nodr:=by rw[hA2,List.getElem?_append_left (by omega)];exact h0A
  have hMS2:ShS data kk I (mkS S i) A2:=by rw[hA2];exact hMS.app
  have hvk:=zfA hv;have hnod:=zfB hv;have hll:=VT.len_le ks;have hA2l:A2.length=H.length+1:=by rw[hA2];simp[hAl]
  have tup:k=6∨k=8→zgz (.ptr I.p 0) (.int .i64 i) (.ptr H.length 0) .snil (.int .i64 k) (.bool true) A2 (ze5 H.length K):=by
   intro h68;have hw:zaW data (.mk k n ks)=[(0,ks)]:=by rw[zaW,aB h68]
   rw[hw]at hK htX;unfold zgz;simp[hg2,VT.cs];have hts:∀t∈ks,zaD data 0 t=true∧t∈X:=λt ht=>⟨hvk t ht,htX (0,ks) (by simp) t ht⟩;have hok:=zhV hD ks (mkS S i) hM hts;refine zzc hD hX hMS2 hM h0A2 ks (by simp[VT.nodes]at hnod;omega) hts _ ?_;simp[zar,zaL,zau,za4,plain,AV.pd,zdc,AV.known];unfold zhP;rw[hA2,hMS.shS_app];have hfin:=hMS.next (S':=(zaN data (mkS S i) ks).2) hok.1.ml hok.1.cl;refine zr3 hfin (hMS.scs hAs) (i:=i) (cs:=[(0,(zaN data (mkS S i) ks).1)]) ?_ (.sl _ _) rfl rfl (by simp[hAl]) ?_
   ·exact a7 hil hok.2.1.length_le
   ·rw[zdh,hshA];exact hK
  have oth:k≠6→k≠8→zgz (.ptr I.p 0) (.int .i64 i) (.ptr H.length 0) .snil (.int .i64 k) (.bool false) A2 (ze5 H.length K):=by
   intro h6 h8;have h68:¬(k=6∨k=8):=by omega
   unfold zgz;by_cases h5:k=5
   ·subst h5;have hw:zaW data (.mk 5 n ks)=(List.range (zba data n).length).filterMap λc:Nat=>(za7 data (.mk 5 n ks) (c:Int)).map λl=>((c:Int),l):=by rw[zaW,ap h68,aB rfl]
    obtain⟨hn0,hnl⟩:0≤n∧n.toNat<data.length:=by
     rcases zeK (zep hv) with ⟨h,_⟩|⟨_,h,hl⟩|⟨h,_⟩|⟨h,_⟩
     ·omega
     ·exact⟨h,hl.1⟩
     ·omega
     ·omega
    have hdl:=zfW hD;have hcon:zba data n=(data[n.toNat]).cons:=by unfold zba;rw[List.getD_eq_getElem?_getD,List.getElem?_eq_getElem hnl];rfl
    have hcl8:=zh0 hD hnl;rw[←hcon]at hcl8;simp;have hdg:(data.map Dat.cs)[n.toNat]?.getD []=(data[n.toNat]).cs:=by simp[hnl]
    simp[hMS2.hp,hg2,VT.cs,hn0,hnl,Dat.cs,Con.cs];refine⟨by omega,?_⟩;rw[←hcon];refine ALoop.own 6 zjO 2 rfl ?_;rw[hA2l];obtain⟨W,hW⟩:∃W:Nat→List (Int×List VT),W=λj=>(List.range j).filterMap λc:Nat=>(za7 data (.mk 5 n ks) (c:Int)).map λl=>((c:Int),l):=⟨_,rfl⟩;have hWs:∀j,W (j+1)=W j++((za7 data (.mk 5 n ks) (j:Int)).map λl=>((j:Int),l)).toList:=λj=>by rw[hW];simp only[cb,dq,List.filterMap_cons,List.filterMap_nil];cases za7 data (.mk 5 n ks) (j:Int) <;> rfl
    have hWl:∀j,(W j).length≤j:=λj=>by rw[hW];exact aC (cz _ _) (by simp)
    have hWv:∀j,j≤(zba data n).length→∀w∈W j,∀t∈w.2,zaD data 0 t=true∧t∈X:=λj hj w hwm t ht=>by
     have:w∈zaW data (.mk 5 n ks):=by rw[hw];rw[hW]at hwm;obtain⟨c,hc1,hc2⟩:=br.1 hwm;exact br.2 ⟨c,be.2 (by have:=be.1 hc1;omega),hc2⟩
     exact⟨zr2 hD hv this t ht,htX w this t ht⟩
    have hok:=λj hj=>zr0 hD (W j) (mkS S i) hM (hWv j hj);obtain⟨G,hG⟩:∃G:Nat→zaa,G=λj=>shS data kk I (zbf data (mkS S i) (W j)).2 A++[.cells (VT.cs (.mk 5 n ks)),.perm zjO 2 (zbf data (mkS S i) (W j)).1.length]:=⟨_,rfl⟩;have hGl:∀j,(G j).length=H.length+2:=λj=>by rw[hG];simp[hAl]
    have hGs:∀j,HSc (G j):=λj=>by rw[hG];exact(hMS.scs hAs).append (by simp[AB.sc])
    have hfl:∀j,(zbf data (mkS S i) (W j)).1.length≤j:=λj=>by
     have:∀(ws:List (Int×List VT)) (S:SS),(zbf data S ws).1.length=ws.length:=by
      intro ws;induction ws with
      |nil=>intro S;rfl
      |cons w ws ih=>intro S;rw[zbf,List.length_cons,List.length_cons,ih]
     rw[this];exact hWl j
    have hW0:W 0=[]:=by rw[hW];rfl
    show zu4 _ _ _ (.sl [] (.own (H.length+1))) _ _ _ _;refine zVb (Inv:=λq t6 t60 H'=>∃j:Nat,j≤(zba data n).length∧(zba data n).length-j=q∧t60=.int .i64 j∧t6=.sl (zbX (zbf data (mkS S i) (W j)).1) (.own (H.length+1))∧H'=G j) (zba data n).length ?_ ?_
    ·intro _;refine⟨0,by omega,rfl,rfl,by rw[hW0];rfl,?_⟩;rw[hG,hA2];simp only[hW0,zbf];rw[hMS.self,ah];rfl
    ·rintro q t6 t60 H' ⟨j,hj,rfl,rfl,rfl,rfl⟩ hsc' hlen hsF Kb hKb;have hjS:=hMS.next (S':=(zbf data (mkS S i) (W j)).2) (hok j hj).1.ml (hok j hj).1.cl;have hGS:ShS data kk I (zbf data (mkS S i) (W j)).2 (G j):=by rw[hG];exact hjS.app
     have hgG:(G j)[H.length]?=some (.cells (VT.cs (.mk 5 n ks))):=by rw[hG,←hAl];simp
     have h0G:(G j)[0]?=some .nodr:=by rw[hG];simp only;rw[List.getElem?_append_left (by simp;omega)];exact hMS.nodr h0A
     by_cases hlt:j<(zba data n).length
     ·simp[zu0,hlt,hGS.hp,hgG,VT.cs];refine zaC (zcV (za7 data (.mk 5 n ks) (j:Int))) (λJ=>zFb data (by omega) (λd hd c hc=>?_) (λd hd=>?_) (.mk 5 n ks) (by omega) _ _ _ ⟨rfl,rfl⟩) ?_
      ·obtain⟨i',hi',rfl⟩:=aO.1 hd;obtain⟨h1,h2⟩:=zfc hD hi' c hc;exact⟨by omega,λx hx=>by have:=(h2 x hx).1;omega⟩
      ·obtain⟨i',hi',rfl⟩:=aO.1 hd;have:=zh0 hD hi';omega
      ·cases hf:za7 data (.mk 5 n ks) (j:Int) with
       |none=>
        have hWj:W (j+1)=W j:=by rw[hWs,hf];simp
        simp[zcV];unfold zol zu3;simp;rw[wr (by omega)];refine hKb _ _ ⟨(zba data n).length-(j+1),by omega,Back.here (by simp[hGl,hA2l]) hsc' ?_ ⟨_,_,rfl,j+1,by omega,rfl,rfl,by rw[hWj],by rw[hG];simp only[hWj]⟩⟩;rw[hGl];simp[zjm,ux,AV.sc,AV.scA,AV.scB,AV.scV];omega
       |some l=>
        simp[zcV];have hWj:W (j+1)=W j++[((j:Int),l)]:=by rw[hWs,hf];simp
        have hlv:∀t∈l,zaD data 0 t=true∧t∈X:=hWv (j+1) (by omega) ((j:Int),l) (by rw[hWj];simp);have hl6:l.length≤6:=by obtain⟨_,_,_,hn1,hc1,_,rfl,_⟩:=zgY hf;rw[aS];exact(zfc hD hn1 _ (ae hc1)).1
        refine zzc hD hX hGS (hok j hj).1 h0G l (by omega) hlv _ ?_;have hwf:zbf data (mkS S i) (W (j+1))=((zbf data (mkS S i) (W j)).1++[((j:Int),(zaN data (zbf data (mkS S i) (W j)).2 l).1)],(zaN data (zbf data (mkS S i) (W j)).2 l).2):=by rw[hWj,zAb]
        have hfin:shS data kk I (zaN data (zbf data (mkS S i) (W j)).2 l).2 (G j)=shS data kk I (zbf data (mkS S i) (W (j+1))).2 A++[.cells (VT.cs (.mk 5 n ks)),.perm zjO 2 (zbf data (mkS S i) (W j)).1.length]:=by rw[hG];simp only;rw[hjS.shS_app,zdh,hwf]
        rw[hfin];simp[zar,zaL,zau,za4,plain,AV.pd,zdc,AV.known];simp only[zax,za6,zaZ];have hcl2:(zbX (zbf data (mkS S i) (W j)).1).length=(zbf data (mkS S i) (W j)).1.length:=by simp[zbX]
        have:=hfl j;simp[ai,hAl,hcl2];refine⟨⟨by omega,by omega⟩,?_⟩;unfold zol zu3;simp;rw[wr (by omega)];have hst:zbX (zbf data (mkS S i) (W j)).1++[[AV.int .i64 j,AV.sl (za5 (zaN data (zbf data (mkS S i) (W j)).2 l).1) .none]]=zbX (zbf data (mkS S i) (W (j+1))).1:=by rw[hwf,zGx]
        rw[hst];refine hKb _ _ ⟨(zba data n).length-(j+1),by omega,Back.at (J:=[]) (H2:=G (j+1)) (by rw[hG];simp[hwf]) (by simp[hGl,hA2l]) (hGs _) ?_ ⟨_,_,rfl,j+1,by omega,rfl,rfl,rfl,rfl⟩⟩;rw[hGl];simp[zjm,ux,AV.sc,AV.scA,AV.scB,AV.scV];omega
     ·obtain rfl:j=(zba data n).length:=by omega
      simp[zu0];unfold zhP;have hWe:W (zba data n).length=zaW data (.mk 5 n ks):=by rw[hw,hW]
      rw[hWe]at hjS;have hokE:=hok _ hj;rw[hWe]at hokE;rw[hG];simp only[hWe];refine zr3 hjS (hMS.scs hAs) (i:=i) (cs:=(zbf data (mkS S i) (zaW data (.mk 5 n ks))).1) ?_ (.sl _ _) rfl rfl (by simp[hAl]) ?_
      ·exact a7 hil hokE.2.1.length_le
      ·rw[zdh,hshA];exact hK
   ·have hw:zaW data (.mk k n ks)=[]:=by rw[zaW,ap h68,ap h5]
    rw[hw]at hK;have hb:(k == 5)=false:=by simpa using h5
    simp[hb];unfold zhP;rw[hA2];refine zr3 hMS hAs (i:=i) (cs:=[]) hil .snil rfl rfl hAl.symm ?_;rw[hshA];exact hK
  have fin:∀b8:Bool,b8=(k == 8)→(k≠6)→zgz (.ptr I.p 0) (.int .i64 i) (.ptr H.length 0) .snil (.int .i64 k) (.bool b8) A2 (ze5 H.length K):=by
   intro b8 h8 h6;by_cases e8:k=8
   ·rw[h8,show (k == 8)=true from by simpa using e8];exact tup (.inr e8)
   ·rw[h8,show (k == 8)=false from by simpa using e8];exact oth h6 e8
  by_cases h6:k=6
  ·subst h6;simp[hMS.hp,hMS.hit,htM,hil,hta,hkn,hset2,hg2];refine⟨by omega,?_⟩;simp[VT.cs];exact tup (.inl rfl)
  ·have hb6:(k == 6)=false:=by simpa using h6
   simp[hMS.hp,hMS.hit,htM,hil,hta,hkn,hset2,hg2];refine⟨by omega,?_⟩;simp[VT.cs];generalize (k == 6)=b6 at hb6 ⊢;subst hb6;exact fin _ rfl h6
end
theorem zGw(a b:Nat)(ha:(lim a).length≤1000)(hb:(lim b).length≤1000)(H:zaa)(K:Kt)(hK:K (.int .i64 (zbm a b)) H):
  ACalls tP ziE [.sl (zal (lim a)) .none,.sl (zal (lim b)) .none] H K:=by
 refine ACalls.out (zVW λhs=>?_);have hO:∀r,r=zbm a b→Out H.length K (.int .i64 r) H:=λr hr=>Out.int (J:=[]) (by simp) (aa _) hs (by rw[hr];exact hK);have lA:=zbD a;have lB:=zbD b;have vA:=zbd a;have vB:=zbd b;by_cases hne:(lim a).length=(lim b).length
 ·simp[zov,hne];generalize hLA:lim a=A at *;generalize hLB:lim b=B at *;have hstart:IntKind.i64.wrap ((B.length:Int)-1)=(B.length:Int)-1:=zaz (by omega) (by omega);rw[hstart];refine zVU (Inv:=λq t5 H'=>∃i:Nat,i≤B.length∧i=q∧t5=.int .i64 ((i:Int)-1)∧H'=H∧A.drop i=B.drop i) B.length ?_ ?_
  ·intro _;exact⟨B.length,by omega,rfl,rfl,rfl,by rw[bQ (by omega),bQ (by omega)]⟩
  ·rintro q t5 H' ⟨i,hi,rfl,rfl,rfl,hd⟩ hsc' hlen hsF Kb hKb;by_cases h0:i=0
   ·subst h0;simp[zjs];refine hO _ ?_;simp at hd;rw[←vA,←vB,hd];simp[zbm]
   ·obtain⟨j,rfl⟩:∃ j,i=j+1:=⟨i-1,by omega⟩;have hja:j<A.length:=by omega
    have hjb:j<B.length:=by omega
    have ej:((j+1:Nat):Int)-1=(j:Int):=by omega
    have hstep:IntKind.i64.wrap ((j:Int)-1)=(j:Int)-1:=zaz (by omega) (by omega);rw[ej];rcases c9 A[j] B[j] with h|h|h
    ·have:=zka hne lA j hja hd h;simp[zjs,hja,hjb,h];exact hO _ (by rw[←vA,←vB];simp[zbm,this])
    ·simp[zjs,hja,hjb,h,hstep];refine hKb _ _ ⟨j,by omega,Back.here (by simp) hs (by simp[zox,ux,AV.sc,AV.scA,AV.scB,AV.scV]) ⟨_,rfl,j,by omega,rfl,rfl,rfl,?_⟩⟩;rw[af hja,af hjb,hd,h]
    ·have:=zka hne.symm lB j hjb hd.symm h;simp[zjs,hja,hjb,h,bH h,db.2 (bH h)];exact hO _ (by rw[←vA,←vB];simp[zbm,this,db.2 (bH this)])
 ·have hnb:(((lim a).length:Int) != ((lim b).length:Int))=true:=by simp;omega
  by_cases hlt:(lim a).length<(lim b).length
  ·have:=zg6 hlt;simp[zov,hnb,hlt];exact hO (-1) (by simp[zbm,this])
  ·have:=zg6 (show (lim b).length<(lim a).length by omega);simp[zov,hnb,hlt];exact hO 1 (by simp[zbm,this,db.2 (bH this)])
theorem zys{H:zaa}{K:Kt}(R:List Nat)(hs:HSc H)(hK:K (.sl (zal R) .none) H):Out H.length K (.ov H.length R.length) (H++[.vec zbh 1 R.length (us R)]):=
 ⟨.sl (zal R) .none,H,[.vec zbh 1 R.length (us R)],rfl,aa _,hs,.one (.vfz H.length zbh 1 R.length (us R) (zal R) (aa _) (by simp) (by rw[zlu,ziT]) (by simp) (zeW R)),hK⟩
theorem zv8(A B:List Nat)(lA:∀x∈A,x<1000000000)(lB:∀x∈B,x<1000000000)(ha:A.length≤1000)(hb:B.length≤A.length)(cA:lim (zao A)=A)(H:zaa)(K:Kt)(hs:HSc H)(hK:K (.sl (zal (lim (zao A+zao B))) .none) H):zmP (.sl (zal A) .none) (.sl (zal B) .none) H (Out H.length K):=by
 have hsc:∀ R:List Nat,HSc (H++[.vec zbh 1 R.length (us R)]):=λA=>hs.append (by simp[AB.sc,us,AV.scA,AV.scB]);simp[zmP,wi A.length (by omega)];refine⟨⟨by omega,by omega,by omega⟩,?_⟩;refine zPo (Inv:=λq t5 t6 t22 H'=>∃ (i c:Nat) (R:List Nat),i≤A.length∧A.length-i=q∧t22=.int .i64 i∧t6=.int .u32 c∧t5=.ov H.length R.length∧R.length=i∧(∀ x∈R,x<1000000000)∧c≤1 ∧
  zao R+1000000000 ^ i*c=zao (A.take i)+zao (B.take i)∧H'=H++[.vec zbh 1 R.length (us R)]) A.length ?_ ?_
 ·intro _;exact⟨0,0,[],by omega,rfl,rfl,rfl,rfl,rfl,by simp,by omega,by simp[zao],rfl⟩
 ·rintro q t5 t6 t22 H' ⟨i,c,R,hi,rfl,rfl,rfl,rfl,hRl,hR,hc,hv,rfl⟩ hsc' hlen hsF Kb hKb;by_cases hlt:i<A.length
  ·have hbit : ∀ (s : Nat), s ≤ 2 * 999999999 + 1 → s = c + A[i] + (if h : i < B.length then B[i] else 0) →
     zmQ (.sl (zal A) .none) (.sl (zal B) .none) (.ov H.length R.length) (.int .u32 s) (.int .i64 A.length) (.int .i64 i) (H++[.vec zbh 1 R.length (us R)]) (Out H.length K) Kb:=by
    intro s hs1 hs2;obtain⟨x,c',hx1,hx2,e1,e2⟩:=zwN s (by omega);simp only[zmQ];simp[e1,e2,zau,za4,plain,AV.pd,zax,za6,zaZ,wi i (by omega)];refine⟨⟨by omega,by omega⟩,?_⟩;have e3:us R++[AV.int .u32 (x:Int)]=us (R++[x]):=by simp[us]
    rw[e3];refine hKb _ _ ⟨A.length-(i+1),by omega,Back.here (by simp) (by simpa using hsc (R++[x])) (by simp[zmO,ux,AV.sc,AV.scA,AV.scB,AV.scV]) ⟨_,_,_,rfl,i+1,c',R++[x],by omega,rfl,rfl,rfl,by simp,by simp[hRl],?_,by omega,?_,by simp⟩⟩
    ·intro y hy;rcases aP.1 hy with hy | hy
     ·exact hR y hy
     ·simp at hy;omega
    ·have tk:zao (B.take (i+1))=zao (B.take i)+(if h:i<B.length then B[i] else 0)*1000000000 ^ i:=by
      by_cases h:i<B.length
      ·rw[dE h,zdd B i h]
      ·rw[dy h,ak (by omega),ak (by omega)];simp
     rw[zeJ,tk,zdd A i hlt,hRl,Nat.pow_succ];generalize (if h:i<B.length then B[i] else 0)=v at *;grind
   have hxa:=lA A[i] (ae hlt);obtain⟨s1,hs1⟩:∃s,s=A[i]+c:=⟨_,rfl⟩;have w1:IntKind.u32.wrap (((A[i]:Nat):Int)+(c:Int))=(s1:Int):=by rw[hs1,←Int.natCast_add];exact zcz (by omega)
   by_cases hB:i<B.length
   ·have hxb:=lB B[i] (ae hB);obtain⟨s2,hs2⟩:∃ s,s=s1+B[i]:=⟨_,rfl⟩;have w2:IntKind.u32.wrap ((s1:Int)+(B[i]:Nat))=(s2:Int):=by rw[hs2,←Int.natCast_add];exact zcz (by omega)
    simp[zi9,hlt,hB,w1,w2];exact hbit s2 (by omega) (by simp[hB];omega)
   ·simp[zi9,hlt,hB,w1];exact hbit s1 (by omega) (by simp[hB];omega)
  ·obtain rfl:i=A.length:=by omega
   rw[aw,ak hb]at hv;by_cases h0:c=0
   ·subst h0;simp[zi9,zmR];have hv':zao R=zao A+zao B:=by simpa using hv
    rw[←hv']at hK;have hcan:R=lim (zao R):=by
     refine zpr hR ?_;by_cases hA0:A.length=0
     ·omega
     ·have h3:=zj8 (n:=zao A) (by intro h;have hl0:=congrArg List.length cA;rw[h]at hl0;simp at hl0;omega);rw[cA]at h3;have:=zj7 (n:=zao R) (k:=A.length-1) (by omega);omega
    rw[←hcan]at hK;exact zys R hs hK
   ·obtain rfl:c=1:=by omega
    simp[zi9,zmR,zau,za4,plain,AV.pd,zax,za6,zaZ];refine⟨⟨by omega,by omega⟩,?_⟩;have e3:us R++[AV.int .u32 1]=us (R++[1]):=by simp[us]
    rw[e3];have hv':zao (R++[1])=zao A+zao B:=by rw[zeJ,hRl];omega
    rw[←hv']at hK;have hcan:R++[1]=lim (zao (R++[1])):=by
     refine zpr (λy hy=>?_) ?_
     ·rcases aP.1 hy with hy | hy
      ·exact hR y hy
      ·simp at hy;omega
     ·have:=zj7 (n:=zao (R++[1])) (k:=A.length) (by rw[zeJ,hRl];omega);simp;omega
    rw[←hcan]at hK;have:=zys (R++[1]) hs hK;simpa using this
theorem zPs(a b:Nat)(ha:(lim a).length≤1000)(hb:(lim b).length≤1000)(H:zaa)(K:Kt)(hK:K (.sl (zal (lim (a+b))) .none) H):
  ACalls tP zqx [.sl (zal (lim a)) .none,.sl (zal (lim b)) .none] H K:=by
 refine ACalls.out (zPq λhs=>?_);by_cases h:(lim a).length<(lim b).length
 ·have h':((lim a).length:Int)<((lim b).length:Int):=by omega
  simp[ztt,h];refine zv8 (lim b) (lim a) (zbD b) (zbD a) hb (by omega) (by rw[zbd]) _ _ hs ?_;rw[zbd,zbd,dD];exact hK
 ·have h':¬ ((lim a).length:Int)<((lim b).length:Int):=by omega
  simp[ztt,h];refine zv8 (lim a) (lim b) (zbD a) (zbD b) ha (by omega) (by rw[zbd]) _ _ hs ?_;rw[zbd,zbd];exact hK
theorem zkc(a:Nat)(ha:a<1000000000 ^ 30)(H:zaa)(K:Kt)(hK:K (.sl (zal (lim a)) .none) H):ACalls tP zcY [.sl (zal (lim a)) .none,.sl (zal [1]) .none] H K:=by have:=zp8 a 1 ha zhj H K (by rw[bK];exact hK);rwa [zfm]at this
theorem zIE(a b:Nat)(ha:a<1000000000 ^ 30)(hb:b<1000000000 ^ 30)(H:zaa)(K:Kt)(hK:K (.agg (zaq ((a+b:Nat):Int))) H):
  ACalls tP zqe [.agg (zaq (a:Int)),.agg (zaq (b:Int))] H K:=by
 refine ACalls.out (zLH λhs=>?_);have la:=zcc ha;have lb:=zcc hb;have d0:∀n:Nat,decide ((n:Int)<0)=false:=λn=>by simp
 simp[zAu,zaq,d0,ag];refine zaC (.sl (zal (lim a)) .none) (λJ=>zkc a ha _ _ ⟨rfl,rfl⟩) ?_;try simp[ag]
 refine zaC (.sl (zal (lim b)) .none) (λJ=>zkc b hb _ _ ⟨rfl,rfl⟩) ?_;try simp[ag]
 refine zxZ _ _ ?_;simp[ag];refine zaC (.sl (zal (lim (a+b))) .none) (λJ=>zPs a b (by omega) (by omega) _ _ ⟨rfl,rfl⟩) ?_;simp[zar,zaL,zdc,AV.known,ag];have e1:zaq ((a+b:Nat):Int)=[.bool false,.sl (zal (lim (a+b))) .none,.sl (zal [1]) .none]:=by simp only[zaq,d0,Int.natAbs_natCast]
 have:=zbV (H:=H) (K:=K) (z:=((a+b:Nat):Int)) (J:=[.cells [.bool false,.sl (zal (lim a)) .none,.sl (zal [1]) .none],.cells [.bool false,.sl (zal (lim b)) .none,.sl (zal [1]) .none],.cells (zaq ((a+b:Nat):Int))]) hs hK;rw[e1]at this;simpa using this
theorem zrv(a:Nat)(H:zaa)(K:Kt)(hK:K (.int .i64 (if a=0 then 0 else 1)) H):ACalls tP ziD [.agg (zaq (a:Int))] H K:=by
 refine ACalls.out (zVR λhs=>?_);have d0:∀n:Nat,decide ((n:Int)<0)=false:=λn=>by simp
 have hO:∀z J,z=(if a=0 then (0:Int) else 1)→Out H.length K (.int .i64 z) (H++J):=λz J h=>Out.int rfl (aa _) hs (by rw[h];exact hK);by_cases h:a=0
 ·subst h;simp[zvd,zaq];exact hO 0 _ (by simp)
 ·have hp:0<(lim a).length:=by rw[zcu h];simp
  have hb:(((lim a).length:Int) == 0)=false:=by generalize (lim a).length=q at hp;simp;omega
  simp[zvd,zaq,d0,hb];exact hO 1 _ (by simp[h])
section
variable (t0 t1 t5 t6 t7:AV) (H:zaa) (K:Kt) (Kb2:Lt)
def zSc(_:Nat):List Bool:=[]
noncomputable def zSe:=Tryz.f36.body.getD .skip
def zDa:=zaw t0 H λt1 H=>zay [(.bool false),.snil,.snil] H λt2 H=>zae true 3 t1 H λt3=>ACalls tP zdK [t3] H λt4 H=>ACalls tP zhg [t4] H λt5 H=>zam 3 t2 t5 H λH=>zae true 3 t2 H λr0=>K r0 H
def zSK(_:Nat):List Bool:=[]
noncomputable def zSM:=Tryz.f44.body.getD .skip
def zDk:=zaw t0 H λt2 H=>zaw t1 H λt3 H=>apu H (zan true 3 t2 H) λt9=>zaF H (λH K'=>ACalls tP zdK [t9] H K') λt10=>apu H (zan true 3 t3 H) λt11=>zaF H (λH K'=>ACalls tP zdK [t11] H K') λt12=>zay [(.bool false),.snil,.snil] H λt5 H=>zay [(.bool false),.snil,.snil] H λt6 H=>zam 3 t5 t10 H λH=>zam 3 t6 t12 H λH=>apu H (zan true 3 t5 H) λt13=>zaF H (λH K'=>ACalls tP ziD [t13] H K') λt14=>apu H (zan true 3 t6 H) λt15=>zaF H (λH K'=>ACalls tP ziD [t15] H K') λt16=>apm H t14 λt7=>apm H t16 λt8=>zab .lss false t7 t8 λt20=>zag t20 (K (.int .i64 (-1)) H) (zab .gtr false t7 t8 λt24=>zag t24 (K (.int .i64 1) H) (apm H t7 λt25=>apu H (zaf 1 t5) λt26=>apu H (zan false 1 t26 H) λt27=>apu H (zaf 2 t6) λt28=>apu H (zan false 1 t28 H) λt29=>zaF H (λH K'=>ACalls tP zcY [t27,t29] H K') λt30=>apu H (zaf 1 t6) λt31=>apu H (zan false 1 t31 H) λt32=>apu H (zaf 2 t5) λt33=>apu H (zan false 1 t33 H) λt34=>zaF H (λH K'=>ACalls tP zcY [t32,t34] H K') λt35=>zaF H (λH K'=>ACalls tP ziE [t30,t35] H K') λt36=>apu H (zab .mul false t25 t36) λt37=>apm H t37 λt4=>K t4 H))
def znw:Nat→List Bool|2=>rl false [0,1,4,3,27]|_=>[]
noncomputable def zuc:=Tryz.f43.body.getD .skip
noncomputable def zSI:=Tryz.f43.results.toList
def zjh:=t0::ux 4 (t5::t6::t7::ux 27 [])
def zSG:=znw 2
noncomputable def zSE:=zas [1,0,1,0,0] zuc
def zSD:=zat tP znw [1,0,1,0] zuc (zaA tP zSI K)
def zDj:=ALoop tP zSE (zSD K) (zjh t0 t5 t6 t7) H
def zub:=zab .lss false t7 t6 λt8=>zag t8 (zai 1 t5 t7 λt10=>zae false 1 t10 H λt11=>zab .lss false t11 (.int .i64 (-1099511627776)) λt13=>zac t13 false H (λK'=>K' t11 H) λt15 H=>zac t13 false H (λK'=>zab .gtr false t15 (.int .i64 1099511627776) (K' · H)) λt16 H=>zak t13 (.bool true) t16 λt17=>zac t17 false H (λK'=>K' t7 H) λt19 H=>zac t17 false H (λK'=>zab .gtr false t19 (.int .i64 0) (K' · H)) λt20 H=>zac t17 false H (λK'=>K' t20 H) λt21 H=>zac t21 true H (λK'=>K' t11 H) λt22 H=>zac t21 true H (λK'=>K' t0 H) λt23 H=>zac t21 true H (λK'=>K' t7 H) λt24 H=>zac t21 true H (λK'=>zab .sub false t24 (.int .i64 1) (K' · H)) λt25 H=>zac t21 true H (λK'=>zai 1 t23 t25 (K' · H)) λt26 H=>zac t21 true H (λK'=>zae false 1 t26 H (K' · H)) λt27 H=>zac t21 true H (λK'=>zab .leq false t22 t27 (K' · H)) λt28 H=>zac t17 false H (λK'=>zak t21 t28 (.bool false) (K' · H)) λt29 H=>zak t17 (.bool true) t29 λt30=>zag t30 (K (.bool false) H) (zab .add false t7 (.int .i64 1) λt31=>Kb2 (zjh t0 t5 t6 t31) H)) (zah 1 t0 λt33=>zab .leq false t33 (.int .i64 8) λt34=>K t34 H)
def zDi:=zah 1 t0 λt6=>zDj t0 t0 t6 (.int .i64 0) H K
variable {t0 t1 t5 t6 t7} {H} {K} {Kb2}
theorem zSf(h:HSc H→zDa t0 H K):ACalls tP zqL [t0] H K:=
 acb zSc Tryz.func36 zSe h
theorem zSN(h:HSc H→zDk t0 t1 H K):ACalls tP zqP [t0,t1] H K:=
 acb zSK Tryz.func44 zSM h
theorem zSF:Lo1 (λt7=>zjh t0 t5 t6 t7) (λt7 H Kb2=>zub t0 t5 t6 t7 H K Kb2) t7 H (zDj t0 t5 t6 t7 H K):=lq1 znw zSG
theorem zSH(h:HSc H→zDi t0 H K):ACalls tP zqO [t0] H K:=
 acb znw Tryz.func43 zuc h
end
def vO(o:Option Nat):Nat:=o.getD 0
theorem zcN(n:Nat):zaq (n:Int)=[.bool false,.sl (zal (lim n)) .none,.sl (zal [1]) .none]:=by simp[zaq]
theorem zfu(o:Option Nat):∃x y z,zaj o=[x,y,z]∧x.known=true∧y.known=true∧z.known=true:=by
 cases o with
 |none=>exact⟨_,_,_,rfl,rfl,rfl,rfl⟩
 |some n=>exact⟨_,_,_,zcN n,rfl,rfl,rfl⟩
theorem zfn(o:Option Nat)(h:vO o<1000000000 ^ 30)(H:zaa)(K:Kt)(hK:K (.agg (zaq (vO o:Int))) H):ACalls tP zdK [.agg (zaj o)] H K:=by
 cases o with
 |some n=>have la:=zcc h;exact zHI (n:Int) (by simpa[vO]using by simp only[vO,Option.getD_some]at la;omega) H K hK
 |none=>
  refine ACalls.out (zEe λhs=>?_);simp[zuV,zaj,ag];have e0:(AV.sl [] .none)=.sl (zal []) .none:=rfl;have nz:∀(J:zaa) (v:AV),WkV v (.sl [] .none)→ACalls tP zil [v] J λr H'=>r=.sl (zal []) .none∧H'=J:=λJ v hv=>
   ACalls.wk (args':=[.sl (zal []) .none]) (zq3 [] (by simp) (by simp) _ _ (by simp[zao,zxH,zal])) ⟨hv,trivial⟩
  refine zaC (.sl (zal []) .none) (λJ=>nz _ _ (by first|exact .rfl'|exact .atom .snil)) ?_;refine zaC (.sl (zal []) .none) (λJ=>nz _ _ (by first|exact .rfl'|exact .atom .snil)) ?_;have e1:zaq ((vO none:Nat):Int)=[.bool false,.sl [] .none,.sl [[.int .u32 1]] .none]:=by simp[zaq,zal,vO]
  rw[e1]at hK;simp[zau,za4,plain,AV.pd,zar,zaL,zdc,ag,zal];exact Out.one hs (WkV.agg (ds:=[.bool false,.sl [] .none,.sl [[.int .u32 1]] .none]) ⟨.refl _,.snil,.sl _ _,trivial⟩) rfl (by simp[AV.scV,AV.scA,AV.scB]) hK
theorem zhQ(o:Option Nat)(h:vO o<1000000000 ^ 30)(H:zaa)(K:Kt)(hK:K (.int .i64 (if vO o=0 then 0 else 1)) H):ACalls tP zfr [.agg (zaj o)] H K:=by refine ACalls.out (zV7 λhs=>?_);obtain⟨x,y,z,e,hx,hy,hz⟩:=zfu o;simp[zEJ,e,hx,hy,hz,ag];simp only[←e];refine zfn o h _ _ ?_;refine zrv (vO o) _ _ ?_;exact Out.int rfl (aa _) hs hK
theorem zu5(a b:Option Nat)(ha:vO a<1000000000 ^ 30)(hb:vO b<1000000000 ^ 30)(H:zaa)(K:Kt)(hK:K (.agg (zaj (some (vO a+vO b)))) H):ACalls tP ziC [.agg (zaj a),.agg (zaj b)] H K:=by
 refine ACalls.out (zVh λhs=>?_);have lc:(lim (vO a+vO b)).length≤31:=zcc (by omega);obtain⟨x,y,z,e,hx,hy,hz⟩:=zfu a;obtain⟨x',y',z',e',hx',hy',hz'⟩:=zfu b;simp[zEo,e,e',hx,hy,hz,hx',hy',hz',ag];simp only[←e,←e'];refine zaC (.agg (zaq (vO a:Int))) (λJ=>zfn a ha _ _ ⟨rfl,rfl⟩) ?_;refine zaC (.agg (zaq (vO b:Int))) (λJ=>zfn b hb _ _ ⟨rfl,rfl⟩) ?_;refine zaC (.agg (zaq ((vO a+vO b:Nat):Int))) (λJ=>zIE _ _ ha hb _ _ ⟨rfl,rfl⟩) ?_;refine zaC (.agg (zaq ((vO a+vO b:Nat):Int))) (λJ=>by
  rw[zcN];exact zld false _ (by omega) (z:=((vO a+vO b:Nat):Int)) (by simp) _ _ ⟨by rw[zcN],rfl⟩) ?_
 rw[zcN];simp[ag];have:=zbV (H:=H) (K:=K) (z:=((vO a+vO b:Nat):Int)) (J:=[.cells (zaj a),.cells (zaj b),.cells (zaq ((vO a+vO b:Nat):Int))]) hs hK;rw[zcN]at this;simpa using this
theorem zEL(a b:Option Nat)(ha:vO a<1000000000 ^ 30)(hb:vO b<1000000000 ^ 30)(H:zaa)(K:Kt)(hK:K (.agg (zaj (some (vO a*vO b)))) H):ACalls tP zkQ [.agg (zaj a),.agg (zaj b)] H K:=by
 refine ACalls.out (zWa λhs=>?_);have sa:Sm (vO a:Int):=by simpa[Sm]using ha
 have sb:Sm (vO b:Int):=by simpa[Sm]using hb
 have hm:=zcc (zx0 sa sb);simp only[Int.natAbs_natCast]at hm;obtain⟨x,y,z,e,hx,hy,hz⟩:=zfu a;obtain⟨x',y',z',e',hx',hy',hz'⟩:=zfu b;simp[zEK,e,e',hx,hy,hz,hx',hy',hz',ag];simp only[←e,←e'];refine zaC (.agg (zaq (vO a:Int))) (λJ=>zfn a ha _ _ ⟨rfl,rfl⟩) ?_;refine zaC (.agg (zaq (vO b:Int))) (λJ=>zfn b hb _ _ ⟨rfl,rfl⟩) ?_;simp[zcN,AV.known,ag];refine zaC (.sl (zal (lim (vO a*vO b))) .none) (λJ=>zp8 _ _ ha hb _ _ ⟨rfl,rfl⟩) ?_;refine zaC (.sl (zal [1]) .none) (λJ=>zxZ _ _ ⟨rfl,rfl⟩) ?_;simp[zar,zaL,zdc,AV.known,ag];refine zaC (.agg (zaq ((vO a*vO b:Nat):Int))) (λJ=>zld _ _ (by omega) (by simp) _ _ ⟨rfl,rfl⟩) ?_;have e3:∀z:Int,(zaq z).take 3=zaq z:=λz=>rfl;simp[AV.known,ag,e3];refine zbV hs ?_;rw[←Int.natCast_mul];exact hK
theorem zSL(a b:Option Nat)(ha:vO a<1000000000 ^ 30)(hb:vO b<1000000000 ^ 30)(H:zaa)(K:Kt)(hK:K (.int .i64 (zbm (vO a) (vO b))) H):ACalls tP zqP [.agg (zaj a),.agg (zaj b)] H K:=by
 refine ACalls.out (zSN λhs=>?_);have la:=zcc ha;have lb:=zcc hb;obtain⟨x,y,z,e,hx,hy,hz⟩:=zfu a;obtain⟨x',y',z',e',hx',hy',hz'⟩:=zfu b;simp[zDk,e,e',hx,hy,hz,hx',hy',hz',ag];simp only[←e,←e'];refine zaC (.agg (zaq (vO a:Int))) (λJ=>zfn a ha _ _ ⟨rfl,rfl⟩) ?_;refine zaC (.agg (zaq (vO b:Int))) (λJ=>zfn b hb _ _ ⟨rfl,rfl⟩) ?_;simp[zcN,AV.known,ag];simp only[←zcN];have hO:∀r J,r=zbm (vO a) (vO b)→Out H.length K (.int .i64 r) (H++J):=λr J hr=>Out.int rfl (aa _) hs (by rw[hr];exact hK);generalize hA:vO a=A at *;generalize hB:vO b=B at *;refine zaC (.int .i64 (if A=0 then 0 else 1)) (λJ=>zrv A _ _ ⟨rfl,rfl⟩) ?_;refine zaC (.int .i64 (if B=0 then 0 else 1)) (λJ=>zrv B _ _ ⟨rfl,rfl⟩) ?_;have fin:∀(s1:Int),s1=0∨s1=1→(s1=0→A=0∧B=0)→∀J,zaF (H++J) (λH K'=>ACalls tP zcY [.sl (zal (lim A)) .none,.sl (zal [1]) .none] H K') λt30=>zaF (H++J) (λH K'=>ACalls tP zcY [.sl (zal (lim B)) .none,.sl (zal [1]) .none] H K') λt35=>zaF (H++J) (λH K'=>ACalls tP ziE [t30,t35] H K') λt36=>zab .mul false (.int .i64 s1) t36 λt4=>Out H.length K t4 (H++J):=by
  intro s1 h1 h2 J;refine zaC (.sl (zal (lim A)) .none) (λJ=>zkc A ha _ _ ⟨rfl,rfl⟩) ?_;refine zaC (.sl (zal (lim B)) .none) (λJ=>zkc B hb _ _ ⟨rfl,rfl⟩) ?_;refine zaC (.int .i64 (zbm A B)) (λJ=>zGw A B (by omega) (by omega) _ _ ⟨rfl,rfl⟩) ?_;rcases h1 with rfl|rfl
  ·obtain⟨rfl,rfl⟩:=h2 rfl;simp[zbm];exact hO 0 _ (by simp[zbm])
  ·have hc:zbm A B=-1∨zbm A B=0∨zbm A B=1:=by
    unfold zbm;split
    ·exact .inl rfl
    ·split
     ·exact .inr (.inr rfl)
     ·exact .inr (.inl rfl)
   simp;refine hO _ _ ?_;rcases hc with h|h|h <;> rw[h] <;> rfl
 simp only[zcN];by_cases h1:A=0
 ·by_cases h2:B=0
  ·simp[h1,h2];have:=fin 0 (.inl rfl) (λ_=>⟨h1,h2⟩);simp[h1,h2]at this;exact this _
  ·simp[h1,h2];refine hO _ _ ?_;unfold zbm;rw[aB (by omega)]
 ·by_cases h2:B=0
  ·simp[h1,h2];refine hO _ _ ?_;unfold zbm;rw[ap (by omega),aB (by omega)]
  ·simp[h1,h2];exact fin 1 (.inr rfl) (λh=>by cases h) _
theorem zSd(a:Option Nat)(ha:vO a<1000000000 ^ 30)(H:zaa)(K:Kt)(hK:K (.agg (zaq (vO a:Int))) H):ACalls tP zqL [.agg (zaj a)] H K:=by refine ACalls.out (zSf λhs=>?_);have la:=zcc ha;obtain⟨x,y,z,e,hx,hy,hz⟩:=zfu a;simp[zDa,e,hx,hy,hz,ag];simp only[←e];refine zfn a ha _ _ ?_;rw[zcN];refine zld false (vO a) (by omega) (z:=(vO a:Int)) (by simp) _ _ ?_;simp[zcN,AV.known];rw[←zcN];exact zbV hs hK
section
variable (t0 t1 t2 t3 t6 t7 t8 t9 t10 t11 t12 t17 t18 t19 t20 t21 t29 t30 t39 t40 t41:AV) (H:zaa) (K:Kt) (Kb4 Kb8 Kb9 Kb12:Lt)
def zes:Nat→List Bool|4=>rl false [0,1,1,1,3,2,11,3,52]|8=>rl false [0,1,1,1,3,2,1,2,8,3,7,2,43]|12=>rl false [0,1,1,1,3,2,1,4,6,3,7,2,43]|500014=>rl false [0,1]|_=>[]
noncomputable def zug:=Tryz.f45.body.getD .skip
noncomputable def zSV:=Tryz.f45.results.toList
def zny:=t0::ux 1 (t2::ux 3 (t6::t7::ux 11 (t19::t20::t21::ux 52 [])))
def zDs:=zes 4
noncomputable def zuh:=zas [1,1,1,0,1,0,0] zug
def zDm:=zat tP zes [1,1,1,0,1,0] zug (zaA tP zSV K)
def zDq:=ALoop tP zuh (zDm K) (zny t0 t2 t6 t7 t19 t20 t21) H
def znz:=t0::ux 1 (t2::ux 3 (t6::t7::ux 1 (t9::t10::ux 8 (t19::t20::t21::ux 7 (t29::t30::ux 43 [])))))
def zDt:=zes 8
noncomputable def zui:=zas [1,1,0,0,1,1,0,1,0,0] zuh
def zDn:=zat tP zes [1,1,0,0,1,1,0,1,0] zuh (zbp zDs Kb4 (zDm K))
def zDr:=ALoop tP zui (zDn K Kb4) (znz t0 t2 t6 t7 t9 t10 t19 t20 t21 t29 t30) H
def zDo(t0 t2 t6 t7 t9 t10 t19 t20 t21 t29 t30:AV)(H:zaa)(K:Kt)(Kb4:Lt)(Kb8:Lt):Prop:=zab .add false t30 (.int .i64 1) λt67=>Kb8 (znz t0 t2 t6 t7 t9 t10 t19 t20 t21 t29 t67) H
def znA:=zDo t0 t2 t6 t7 t9 t10 t19 t20 t21 t29 t30 H K Kb4 Kb8
def znx:=t0::ux 1 (t2::ux 3 (t6::t7::ux 1 (t9::t10::t11::t12::ux 6 (t19::t20::t21::ux 7 (t29::t30::ux 43 [])))))
def zST:=zes 12
noncomputable def zSP:=zas [1,1,0,0,1,1,1,0,0] zui
def zSO:=zat tP zes [1,1,0,0,1,1,1,0] zui (zbp zDt Kb8 (zDn K Kb4))
def zDp:=ALoop tP zSP (zSO K Kb4 Kb8) (znx t0 t2 t6 t7 t9 t10 t11 t12 t19 t20 t21 t29 t30) H
def zud:=zab .add false t11 t12 λt41=>zab .leq false t41 t2 λt43=>zag t43 (apm H t10 λt46=>apm H t11 λt47=>apm H t12 λt48=>apu H (zab .add false t47 t48) λt49=>apm H t10 λt50=>apm H t11 λt51=>apm H t12 λt52=>apu H (zab .add false t51 t52) λt53=>apu H (zai 3 t50 t53) λt54=>apu H (zan true 3 t54 H) λt55=>apm H t7 λt56=>apm H t11 λt57=>apu H (zai 3 t56 t57) λt58=>apu H (zan true 3 t58 H) λt59=>apm H t0 λt60=>apm H t9 λt61=>apm H t12 λt62=>zbl .l false H (λK'=>ACalls tP zf7 [t60,t61,t62] H K') λt63 H'=>zd9 true [t54,t58] H H' ((λH=>zbl .l false H (λK'=>ACalls tP zkQ [t59,t63] H K') λt64 H'=>zd9 true [t54,t58] H H' ((λH=>zbl .l false H (λK'=>ACalls tP ziC [t55,t64] H K') λt65 H'=>zd9 true [t54,t58] H H' ((λH=>apu H (zai 3 t46 t49) λt66=>zbl .l false H (λK'=>zam 3 t66 t65 H (K' (.tup []))) λ_ H=>zab .add false t12 (.int .i64 1) λt45=>Kb12 (znx t0 t2 t6 t7 t9 t10 t11 t45 t19 t20 t21 t29 t30) H) H')) H')) H')) (znA t0 t2 t6 t7 t9 t10 t19 t20 t21 t29 t30 H K Kb4 Kb8)
def zuf:=zab .lss false t30 t29 λt31=>zag t31 (zai 3 t7 t30 λt35=>zae true 3 t35 H λt36=>ACalls tP zfr [t36] H λt37 H=>zab .eql false t37 (.int .i64 0) λt38=>zag t38 (znA t0 t2 t6 t7 t9 t10 t19 t20 t21 t29 t30 H K Kb4 Kb8) (zDp t0 t2 t6 t7 t9 t10 t30 (.int .i64 1) t19 t20 t21 t29 t30 H K Kb4 Kb8)) (zab .add false t21 (.int .i64 1) λt69=>Kb4 (zny t0 t2 t6 t10 t19 t20 t69) H)
def zue:=zab .lss false t21 t20 λt22=>zag t22 (zai 1 t19 t21 λt23=>zae false 1 t23 H λt24=>zab .add false t2 (.int .i64 1) λt26=>za9 56 [(.bool false),.snil,.snil] t26 t26 H λt27 H=>zah 1 t7 λt29=>zDr t0 t2 t6 t7 t24 t27 t19 t20 t21 t29 (.int .i64 0) H K Kb4) (zai 3 t7 t2 λt72=>zae true 3 t72 H λt73=>zam 3 t6 t73 H λH=>zae true 3 t6 H λr0=>K r0 H)
def zDl:=zay [(.bool false),.snil,.snil] H λt6 H=>zab .add false t2 (.int .i64 1) λt14=>za9 56 [(.bool false),.snil,.snil] t14 t14 H λt15 H=>ACalls tP zfp [(.int .i64 1)] H λt17 H=>zai 3 t15 (.int .i64 0) λt18=>zam 3 t18 t17 H λH=>zah 1 t1 λt20=>zDq t0 t2 t6 t15 t1 t20 (.int .i64 0) H K
def zgy:Nat→List Bool|4=>rl false [0,3,3,2,9,2,41]|8=>rl false [0,3,3,4,7,2,41]|500010=>rl false [0,1]|_=>[]
noncomputable def zuY:=Tryz.f75.body.getD .skip
noncomputable def zU8:=Tryz.f75.results.toList
def zoh:=t0::t1::t2::ux 3 (t6::t7::ux 9 (t17::t18::ux 41 []))
def zEm:=zgy 4
noncomputable def zuZ:=zas [1,1,1,0,1,0,0] zuY
def zEi:=zat tP zgy [1,1,1,0,1,0] zuY (zaA tP zU8 K)
def zEk:=ALoop tP zuZ (zEi K) (zoh t0 t1 t2 t6 t7 t17 t18) H
def zEj(t0 t1 t2 t6 t7 t17 t18:AV)(H:zaa)(K:Kt)(Kb4:Lt):Prop:=zab .add false t18 (.int .i64 1) λt55=>Kb4 (zoh t0 t1 t2 t6 t7 t17 t55) H
def zoj:=zEj t0 t1 t2 t6 t7 t17 t18 H K Kb4
def zoi:=t0::t1::t2::ux 3 (t6::t7::t8::t9::ux 7 (t17::t18::ux 41 []))
def zU6:=zgy 8
noncomputable def zU3:=zas [1,1,0,0,1,1,1,0,0] zuZ
def zU2:=zat tP zgy [1,1,0,0,1,1,1,0] zuZ (zbp zEm Kb4 (zEi K))
def zEl:=ALoop tP zU3 (zU2 K Kb4) (zoi t0 t1 t2 t6 t7 t8 t9 t17 t18) H
def zuX:=zab .add false t8 t9 λt29=>zab .leq false t29 t2 λt31=>zag t31 (apm H t7 λt34=>apm H t8 λt35=>apm H t9 λt36=>apu H (zab .add false t35 t36) λt37=>apm H t7 λt38=>apm H t8 λt39=>apm H t9 λt40=>apu H (zab .add false t39 t40) λt41=>apu H (zai 3 t38 t41) λt42=>apu H (zan true 3 t42 H) λt43=>apm H t7 λt44=>apm H t8 λt45=>apu H (zai 3 t44 t45) λt46=>apu H (zan true 3 t46 H) λt47=>apm H t0 λt48=>apm H t1 λt49=>apm H t9 λt50=>zbl .l false H (λK'=>ACalls tP zf7 [t48,t49,t50] H K') λt51 H'=>zd9 true [t42,t46] H H' ((λH=>zbl .l false H (λK'=>ACalls tP zkQ [t47,t51] H K') λt52 H'=>zd9 true [t42,t46] H H' ((λH=>zbl .l false H (λK'=>ACalls tP ziC [t43,t52] H K') λt53 H'=>zd9 true [t42,t46] H H' ((λH=>apu H (zai 3 t34 t37) λt54=>zbl .l false H (λK'=>zam 3 t54 t53 H (K' (.tup []))) λ_ H=>zab .add false t9 (.int .i64 1) λt33=>Kb8 (zoi t0 t1 t2 t6 t7 t8 t33 t17 t18) H) H')) H')) H')) (zoj t0 t1 t2 t6 t7 t17 t18 H K Kb4)
def zuW:=zab .lss false t18 t17 λt19=>zag t19 (zai 3 t7 t18 λt23=>zae true 3 t23 H λt24=>ACalls tP zfr [t24] H λt25 H=>zab .eql false t25 (.int .i64 0) λt26=>zag t26 (zoj t0 t1 t2 t6 t7 t17 t18 H K Kb4) (zEl t0 t1 t2 t6 t7 t18 (.int .i64 1) t17 t18 H K Kb4)) (zai 3 t7 t2 λt58=>zae true 3 t58 H λt59=>zam 3 t6 t59 H λH=>zae true 3 t6 H λr0=>K r0 H)
def zEh:=zay [(.bool false),.snil,.snil] H λt6 H=>zab .add false t2 (.int .i64 1) λt11=>za9 56 [(.bool false),.snil,.snil] t11 t11 H λt12 H=>ACalls tP zfp [(.int .i64 1)] H λt14 H=>zai 3 t12 (.int .i64 0) λt15=>zam 3 t15 t14 H λH=>zah 1 t12 λt17=>zEk t0 t1 t2 t6 t12 t17 (.int .i64 0) H K
def znt:Nat→List Bool|9=>rl false [0,3,3,1,2,1,29,3,55]|500011=>rl false [0,1]|_=>[]
noncomputable def zt9:=Tryz.f37.body.getD .skip
noncomputable def zSk:=Tryz.f37.results.toList
def zDb:=apm H t0 λt88=>apu H (zaM t88) λt89=>apu H (zaf 6 t89) λt90=>apu H (zan false 1 t90 H) λt91=>apm H t1 λt92=>apm H t2 λt93=>apu H (zar [(.int .i64 0),(.int .i64 0)] [(0,1),(1,1)] [(0,t92),(1,t93)]) λt94=>apu H (zan true 3 t9 H) λt95=>zdo t91 t94 t95 H λH=>zae true 3 t9 H λt96=>zam 3 t6 t96 H λH=>zae true 3 t6 H λr0=>K r0 H
def ze1:=zDb t0 t1 t2 t6 t9 H K
def znu:=t0::t1::t2::ux 3 (t6::ux 2 (t9::ux 29 (t39::t40::t41::ux 55 [])))
def zSj:=znt 9
noncomputable def zSh:=zas [1,1,1,1,0,1,0,1,1,1,1,1,1,1,1,1,0,0] zt9
def zSg:=zat tP znt [1,1,1,1,0,1,0,1,1,1,1,1,1,1,1,1,0] zt9 (zaA tP zSk K)
def zDc:=ALoop tP zSh (zSg K) (znu t0 t1 t2 t6 t9 t39 t40 t41) H
def zt8:=zab .lss false t41 t40 λt42=>zag t42 (zai 2 t39 t41 λt43=>zae true 2 t43 H λt44=>zay [(.int .i64 0),.snil] H λt11 H=>zam 2 t11 t44 H λH=>apu H (zan true 3 t9 H) λt45=>apm H t0 λt46=>apu H (zaf 1 t11) λt47=>apu H (zan false 1 t47 H) λt48=>apm H t2 λt49=>apu H (zab .sub false t49 (.int .i64 1)) λt50=>zbl .l false H (λK'=>ACalls tP zhd [t46,t48,t50] H K') λt51 H'=>zd9 true [t9,t47] H H' ((λH=>zbl .l false H (λK'=>ACalls tP ziC [t45,t51] H K') λt52 H'=>zd9 true [t9,t47] H H' ((λH=>zbl .l false H (λK'=>zam 3 t9 t52 H (K' (.tup []))) λ_ H=>zab .add false t41 (.int .i64 1) λt53=>Kb9 (znu t0 t1 t2 t6 t9 t39 t40 t53) H) H')) H')) (ze1 t0 t1 t2 t6 t9 H K)
def zhK:=zay [(.bool false),.snil,.snil] H λt6 H=>zab .lss false t2 (.int .i64 1) λt13=>zag t13 (ACalls tP zfp [(.int .i64 0)] H λt14 H=>zam 3 t6 t14 H λH=>zae true 3 t6 H λr0=>K r0 H) (zaM t0 λt17=>zaf 6 t17 λt18=>zae false 1 t18 H λt19=>zar [(.int .i64 0),(.int .i64 0)] [(0,1),(1,1)] [(0,t1),(1,t2)] λt22=>zeC (.agg [(.bool false),.snil,.snil]) true t19 t22 H λt23=>zaI t23 0 λt24=>zaI t23 1 λt25=>zay [(.bool false),.snil,.snil] H λt7 H=>zam 3 t7 t24 H λH=>zag t25 (zae true 3 t7 H λt27=>zam 3 t6 t27 H λH=>zae true 3 t6 H λr0=>K r0 H) (ACalls tP zfp [(.int .i64 0)] H λt28 H=>zay [(.bool false),.snil,.snil] H λt9 H=>zam 3 t9 t28 H λH=>zaM t0 λt30=>zaf 3 t30 λt31=>zae false 1 t31 H λt32=>zai 3 t32 t1 λt34=>zaf 0 t34 λt35=>zae false 1 t35 H λt36=>zab .eql false t36 (.int .i64 3) λt55=>zag t55 (ACalls tP zhh [(.int .i64 1),t2] H λt57 H=>zam 3 t9 t57 H λH=>ze1 t0 t1 t2 t6 t9 H K) (zab .eql false t36 (.int .i64 2) λt59=>zag t59 (ACalls tP zhh [(.int .i64 2),t2] H λt61 H=>zam 3 t9 t61 H λH=>ze1 t0 t1 t2 t6 t9 H K) (zab .eql false t36 (.int .i64 1) λt63=>zag t63 (zaM t0 λt65=>zaf 1 t65 λt66=>zae false 1 t66 H λt67=>ACalls tP zhh [t67,t2] H λt69 H=>zam 3 t9 t69 H λH=>ze1 t0 t1 t2 t6 t9 H K) (zab .eql false t36 (.int .i64 7) λt71=>zag t71 (zaM t0 λt75=>zaf 3 t75 λt76=>zae false 1 t76 H λt77=>zai 3 t77 t1 λt79=>zaf 2 t79 λt80=>zae false 1 t80 H λt81=>zai 3 t81 (.int .i64 0) λt82=>zae true 3 t82 H λt83=>ACalls tP zf8 [t0,t83] H λt84 H=>zab .sub false t2 (.int .i64 1) λt86=>ACalls tP ziA [t0,t84,t86] H λt87 H=>zam 3 t9 t87 H λH=>ze1 t0 t1 t2 t6 t9 H K) (ACalls tP ziB [t0,t1] H λt39 H=>zah 1 t39 λt40=>zDc t0 t1 t2 t6 t9 t39 t40 (.int .i64 0) H K))))))
def zM5(_:Nat):List Bool:=[]
noncomputable def zM6:=Tryz.f14.body.getD .skip
def zA3:=zaw t1 H λt5 H=>zay [(.bool false),.snil,.snil] H λt8 H=>zae true 3 t5 H λt12=>ACalls tP zkD [t0,t12] H λt13 H=>aUn .not t13 λt14=>zag t14 (zar [(.bool false),.snil,.snil] [(0,1),(1,1),(2,1)] [] λt15=>zam 3 t8 t15 H λH=>zae true 3 t8 H λr0=>zaX [r0,(.int .i64 6)] (K · H)) (zab .lss false t2 (.int .i64 0) λt17=>zac t17 false H (λK'=>K' t2 H) λt19 H=>zac t17 false H (λK'=>zab .gtr false t19 (.int .i64 24) (K' · H)) λt20 H=>zak t17 (.bool true) t20 λt21=>zac t21 false H (λK'=>K' t3 H) λt23 H=>zac t21 false H (λK'=>zab .lss false t23 (.int .i64 0) (K' · H)) λt24 H=>zak t21 (.bool true) t24 λt25=>zac t25 false H (λK'=>K' t3 H) λt27 H=>zac t25 false H (λK'=>zab .gtr false t27 (.int .i64 8) (K' · H)) λt28 H=>zak t25 (.bool true) t28 λt29=>zag t29 (zar [(.bool false),.snil,.snil] [(0,1),(1,1),(2,1)] [] λt30=>zam 3 t8 t30 H λH=>zae true 3 t8 H λr0=>zaX [r0,(.int .i64 8)] (K · H)) (ACalls tP zkE [t0,t3] H λt33 H=>zae true 3 t5 H λt36=>ACalls tP zf8 [t33,t36] H λt37 H=>ACalls tP zf7 [t33,t37,t2] H λt39 H=>ACalls tP zqL [t39] H λt40 H=>zam 3 t8 t40 H λH=>zae true 3 t8 H λr0=>zaX [r0,(.int .i64 0)] (K · H)))
variable {t0 t1 t2 t3 t6 t7 t8 t9 t10 t11 t12 t17 t18 t19 t20 t21 t29 t30 t39 t40 t41} {H} {K} {Kb4 Kb8 Kb9 Kb12}
theorem zSQ:Lo1 (λt12=>znx t0 t2 t6 t7 t9 t10 t11 t12 t19 t20 t21 t29 t30) (λt12 H Kb12=>zud t0 t2 t6 t7 t9 t10 t11 t12 t19 t20 t21 t29 t30 H K Kb4 Kb8 Kb12) t12 H (zDp t0 t2 t6 t7 t9 t10 t11 t12 t19 t20 t21 t29 t30 H K Kb4 Kb8):=lq1 zes zST
theorem zSS:Lo1 (λt30=>znz t0 t2 t6 t7 t9 t10 t19 t20 t21 t29 t30) (λt30 H Kb8=>zuf t0 t2 t6 t7 t9 t10 t19 t20 t21 t29 t30 H K Kb4 Kb8) t30 H (zDr t0 t2 t6 t7 t9 t10 t19 t20 t21 t29 t30 H K Kb4):=lq1 zes zDt
theorem zSR:Lo2 (λt7 t21=>zny t0 t2 t6 t7 t19 t20 t21) (λt7 t21 H Kb4=>zue t0 t2 t6 t7 t19 t20 t21 H K Kb4) t7 t21 H (zDq t0 t2 t6 t7 t19 t20 t21 H K):=lq2 zes zDs
theorem zSU(h:HSc H→zDl t0 t1 t2 H K):ACalls tP zhd [t0,t1,t2] H K:=
 acb zes Tryz.func45 zug h
theorem zU5:Lo1 (λt9=>zoi t0 t1 t2 t6 t7 t8 t9 t17 t18) (λt9 H Kb8=>zuX t0 t1 t2 t6 t7 t8 t9 t17 t18 H K Kb4 Kb8) t9 H (zEl t0 t1 t2 t6 t7 t8 t9 t17 t18 H K Kb4):=lq1 zgy zU6
theorem zU4:Lo1 (λt18=>zoh t0 t1 t2 t6 t7 t17 t18) (λt18 H Kb4=>zuW t0 t1 t2 t6 t7 t17 t18 H K Kb4) t18 H (zEk t0 t1 t2 t6 t7 t17 t18 H K):=lq1 zgy zEm
theorem zU7(h:HSc H→zEh t0 t1 t2 H K):ACalls tP ziA [t0,t1,t2] H K:=
 acb zgy Tryz.func75 zuY h
theorem zSi:Lo1 (λt41=>znu t0 t1 t2 t6 t9 t39 t40 t41) (λt41 H Kb9=>zt8 t0 t1 t2 t6 t9 t39 t40 t41 H K Kb9) t41 H (zDc t0 t1 t2 t6 t9 t39 t40 t41 H K):=lq1 znt zSj
theorem zjg(h:HSc H→zhK t0 t1 t2 H K):ACalls tP zf7 [t0,t1,t2] H K:=
 acb znt Tryz.func37 zt9 h
theorem zM7(h:HSc H→zA3 t0 t1 t2 t3 H K):ACalls tP zqi [t0,t1,t2,t3] H K:=
 acb zM5 Tryz.func14 zM6 h
end
theorem zd6{α:Type}(P:Nat→α→Prop)(R:Nat→α→α→Prop):∀ (n:Nat),(∀ k<n,∀ a,P k a→∃ a',R k a a'∧P (k+1) a')→∀ a0,P 0 a0→∃ σ:Nat→α,σ 0=a0∧(∀ k≤n,P k (σ k))∧∀ k<n,R k (σ k) (σ (k+1))
 |0,_,a0,h0=>by
  refine⟨λ_=>a0,rfl,λk hk=>?_,λk hk=>by omega⟩;have hk0:k=0:=by omega
  rw[hk0];exact h0
 |n+1,h,a0,h0=>by
  obtain⟨σ,h1,h2,h3⟩:=zd6 P R n (λk hk=>h k (by omega)) a0 h0;obtain⟨a',h4,h5⟩:=h n (by omega) (σ n) (h2 n (aa _));refine⟨λk=>if k≤n then σ k else a',by simp[h1],λk hk=>?_,λk hk=>?_⟩
  ·by_cases e:k≤n
   ·simp only[aB e];exact h2 k e
   ·simp only[ap e];obtain rfl:k=n+1:=by omega
    exact h5
  ·by_cases e:k+1≤n
   ·simp only[aB e,aB (show k≤n by omega)];exact h3 k (by omega)
   ·obtain rfl:k=n:=by omega
    simp only[ap e,aB (aa _)];exact h4
def zav(r:List (Option Nat)):List AV:=(r.map zaj).flatten
def zaS(r:List (Option Nat))(h:Nat):Nat:=vO (r.getD h none)
theorem zbG(o:Option Nat):(zaj o).length=3:=by cases o <;> rfl
theorem ziK(o:Option Nat):(zaj o).all AV.known=true:=by cases o <;> rfl
theorem zei(r:List (Option Nat)):(zav r).length=3*r.length:=by
 induction r with
 |nil=>rfl
 |cons o r ih=>unfold zav at ih ⊢;simp only[aA,List.flatten_cons,ao,zbG,ih,List.length_cons];omega
theorem zyU:∀ (r:List (Option Nat)) (h:Nat),h<r.length→((zav r).drop (h*3)).take 3=zaj (r.getD h none)
 |[],h,hl=>by simp at hl
 |o::r,0,_=>by simp only[zav,aA,List.flatten_cons,bx,aU];rw[dv (zbG o)];rfl
 |o::r,h+1,hl=>by have:=zyU r h (by simpa using hl);simp only[zav,aA,List.flatten_cons]at this ⊢;rw[show (h+1)*3=(zaj o).length+h*3 from by rw[zbG];omega,ch,aK (by omega),List.nil_append,show (zaj o).length+h*3-(zaj o).length=h*3 from by omega,this];rfl
theorem zyV:∀ (r:List (Option Nat)) (h:Nat) (o:Option Nat),h<r.length→(zav r).take (h*3)++zaj o++(zav r).drop (h*3+3)=zav (r.set h o)
 |[],h,_,hl=>by simp at hl
 |x::r,0,o,_=>by simp only[zav,aA,List.flatten_cons,bx,List.take_zero,List.nil_append,aF,List.set_cons_zero];rw[List.drop_left' (zbG x)]
 |x::r,h+1,o,hl=>by have:=zyV r h o (by simpa using hl);simp only[zav,aA,List.flatten_cons,List.set_cons_succ]at this ⊢;rw[←this];rw[show (h+1)*3=(zaj x).length+h*3 from by rw[zbG];omega,show (zaj x).length+h*3+3=(zaj x).length+(h*3+3) from by omega];rw[cP,ak (by omega),ch,aK (by omega),List.nil_append];rw[show (zaj x).length+h*3-(zaj x).length=h*3 from by omega,show (zaj x).length+(h*3+3)-(zaj x).length=h*3+3 from by omega];simp only[ah]
theorem zk5(n:Nat):(List.replicate n [AV.bool false,.snil,.snil]).flatten=zav (List.replicate n none):=by unfold zav;rw[List.map_replicate];rfl
theorem ziL(m:Nat)(r:List (Option Nat)):(zav r).all (AV.scA m)=true:=by
 unfold zav;induction r with
 |nil=>rfl
 |cons o r ih=>simp only[aA,List.flatten_cons,bZ,zc0,ih];rfl
theorem zyW(r:List (Option Nat))(h m:Nat)(o:Option Nat)(hl:h<r.length):zaS (r.set h o) m=if m=h then vO o else zaS r m:=by
 unfold zaS;rw[List.getD_eq_getElem?_getD,List.getD_eq_getElem?_getD];by_cases e:h=m
 ·subst e;rw[List.getElem?_set_self hl];simp
 ·rw[List.getElem?_set_ne e,ap (λk=>e k.symm)]
theorem zrm(n m:Nat):zaS (List.replicate n none) m=0:=by unfold zaS;rw[List.getD_eq_getElem?_getD,List.getElem?_replicate];split <;> rfl
section
variable {P:AV→Prop}
theorem zeb{id h:Nat}{r:List (Option Nat)}{H:zaa}{K:AV→Prop}(hid:H[id]?=some (.cells (zav r)))(hl:h<r.length)(hk:K (.agg (zaj (r.getD h none)))):zae true 3 (.ptr id (h*3)) H K:=by simp only[zc5,hid,zfQ,zfO];exact⟨by rw[zei];omega,by rw[zyU r h hl];exact hk⟩
theorem zfy{id h:Nat}{r:List (Option Nat)}{o:Option Nat}{H:zaa}{K:zaa→Prop}(hid:H[id]?=some (.cells (zav r)))(hl:h<r.length)(hk:K (H.set id (.cells (zav (r.set h o))))):zam 3 (.ptr id (h*3)) (.agg (zaj o)) H K:=by simp only[zgM,hid,AV.cs?,zd2];exact⟨⟨zbG o,by rw[zei];omega,ziK o⟩,by rw[zyV r h o hl];exact hk⟩
theorem zfY{id h n c:Nat}{K:AV→Prop}(hl:h<n)(hk:K (.ptr id (h*3))):zai 3 (.ms id 0 n c) (.int .i64 h) K:=by rw[zeA];exact⟨⟨by omega,by omega⟩,by simpa using hk⟩
end
section
variable (data:List Dat) (kk:Nat) (X:List VT) (I:SI)
abbrev za0(S:SS):Prop:=Inv data kk X (λ_=>False) S
def zex(S S':SS)(i m:Nat)(o:Option Nat):Prop:=∀H,ShS data kk I S H→H[0]?=some .nodr→∀K:Kt,K (.agg (zaj o)) (shS data kk I S' H)→ACalls tP zf7 [.ptr I.p 0,.int .i64 i,.int .i64 m] H K
def zcG(m:Nat):Prop:=∀(S:SS) (i:Nat) (t:VT),za0 data kk X S→S.types[i]?=some t→Rch data X m t→∃S' o,za0 data kk X S'∧S.types <+: S'.types∧vO o=cV data kk t m∧zex data kk I S S' i m o
end
theorem zdg{T T':List VT}(h:T <+: T'){i:Nat}{t:VT}(ht:T[i]?=some t):T'[i]?=some t:=by obtain⟨E,rfl⟩:=h;rw[List.getElem?_append_left (List.getElem?_eq_some_iff.1 ht).1];exact ht
theorem zzj:∀ (n:Nat) (f:Nat→Nat),sm n f=sm n λi=>f (n-1-i)
 |0,_=>rfl
 |n+1,f=>by
  rw[zfw,zzj n]
  conv=>rhs;rw[sm]
  rw[show n+1-1-n=0 from by omega,dD];congr 1;exact zb8 λi hi=>by rw[show n-1-i+1=n+1-1-i from by omega]
theorem zlc{a b:Nat}(h:a≤b)(f:Nat→Nat):sm a f≤sm b f:=by
 induction b with
 |zero=>
  obtain rfl:a=0:=by omega
  exact aa _
 |succ b ih=>
  by_cases e:a=b+1
  ·subst e;exact aa _
  ·have:=ih (by omega);rw[sm];omega
def zdu(g:Nat→Nat)(k m:Nat):Nat:=(if m=0 then 1 else 0)+sm (min k m) λh=>cA g h*g (m-h)
theorem zIx(g:Nat→Nat)(m:Nat):zdu g 0 m=if m=0 then 1 else 0:=by simp[zdu,sm]
theorem zhl{g:Nat→Nat}(h0:g 0=0){k m:Nat}(h:m≤k):zdu g k m=cA g m:=by
 unfold zdu;rw[cd h];cases m with
 |zero=>rfl
 |succ m=>
  rw[ap (by omega),aF,zgU h0]
  conv=>rhs;rw[zfw,h0,bx,aF]
  rw[zzj (m+1)];refine zb8 λi hi=>?_;rw[show m+1-1-i=m-i from by omega,show m+1-(m-i)=i+1 from by omega,show m+1-(i+1)=m-i from by omega,bq]
theorem zra(g:Nat→Nat)(k m:Nat):zdu g (k+1) m=zdu g k m+if k<m then cA g k*g (m-k) else 0:=by
 unfold zdu;by_cases h:k<m
 ·rw[aB h,ba (by omega),ba (by omega),sm];omega
 ·rw[ap h,cd (by omega),cd (by omega)];rfl
theorem zIw{g:Nat→Nat}(h0:g 0=0)(k m:Nat):zdu g k m≤cA g m:=by rw[←zhl h0 (aa m)];unfold zdu;have:=zlc (show min k m≤min m m by omega) λh=>cA g h*g (m-h);omega
section
variable {data:List Dat} (hD:zaB data=true) (hk:Kpt data) {kk:Nat} (hkk:kk≤8) {X:List VT} (hX:X.length≤1000000000000) {I:SI}
def QA(data:List Dat)(kk:Nat)(X:List VT)(S:SS)(t:VT)(n k s:Nat)(b:SS×List (Option Nat)):Prop:=
 za0 data kk X b.1∧S.types <+: b.1.types∧b.2.length=n+1∧∀m,m≤n→zaS b.2 m=zdu (cV data kk t) k m+if k<m∧m≤k+s then cA (cV data kk t) k*cV data kk t (m-k) else 0
def RA(data:List Dat)(kk:Nat)(I:SI)(t:VT)(i k s:Nat)(b b':SS×List (Option Nat)):Prop:=
 ∃o,vO o=cV data kk t (s+1)∧zex data kk I b.1 b'.1 i (s+1) o∧b'.2=b.2.set (k+(s+1)) (some (zaS b.2 (k+(s+1))+zaS b.2 k*cV data kk t (s+1)))
include hD hk hkk hX
theorem zFZ{S:SS}{i n:Nat}{t:VT}(hC:∀ m,m≤n→zcG data kk X I m)(hti:S.types[i]?=some t)(hR:Rch data X n t){k:Nat}(hkn:k≤n){a:SS × List (Option Nat)}(ha:QA data kk X S t n k 0 a):
  ∃ τ:Nat→SS×List (Option Nat),τ 0=a∧(∀s≤n-k,QA data kk X S t n k s (τ s))∧∀s<n-k,RA data kk I t i k s (τ s) (τ (s+1)):=by
 refine zd6 _ _ (n-k) (λs hs b hb=>?_) a ha;obtain⟨h1,h2,h3,h4⟩:=hb;obtain⟨S',o,h5,h6,h7,h8⟩:=hC (s+1) (by omega) b.1 i t h1 (zdg h2 hti) (hR.le _ (by omega));refine⟨(S',b.2.set (k+(s+1)) (some (zaS b.2 (k+(s+1))+zaS b.2 k*cV data kk t (s+1)))),⟨o,h7,h8,rfl⟩,h5,h2.trans h6,by simp[h3],λm hm=>?_⟩;simp only;rw[zyW _ _ _ _ (by omega)];by_cases e:m=k+(s+1)
 ·subst e;rw[aB rfl,aB ⟨by omega,by omega⟩,h4 _ hm,ap (by omega),h4 k (by omega),ap (by omega),zhl (zb3 data kk t) (aa k),show k+(s+1)-k=s+1 from by omega];rfl
 ·rw[ap e,h4 m hm];congr 1;by_cases e2:k<m∧m≤k+s
  ·rw[aB e2,aB ⟨e2.1,by omega⟩]
  ·rw[ap e2,ap (by omega)]
theorem zF0{S:SS}{i n:Nat}{t:VT}(hC:∀ m,m≤n→zcG data kk X I m)(hI:za0 data kk X S)(hti:S.types[i]?=some t)(hR:Rch data X n t):
  ∃ σ:Nat→SS×List (Option Nat),σ 0=(S,some 1::List.replicate n none)∧(∀k≤n+1,QA data kk X S t n k 0 (σ k))∧∀k<n+1,(zaS (σ k).2 k=0∧σ (k+1)=σ k)∨(zaS (σ k).2 k≠0∧∃ τ:Nat→SS×List (Option Nat),τ 0=σ k∧τ (n-k)=σ (k+1)∧(∀s≤n-k,QA data kk X S t n k s (τ s))∧∀s<n-k,RA data kk I t i k s (τ s) (τ (s+1))):=by
 refine zd6 _ (λk a a'=>(zaS a.2 k=0∧a'=a)∨(zaS a.2 k≠0∧∃ τ:Nat→SS×List (Option Nat),τ 0=a∧τ (n-k)=a'∧(∀s≤n-k,QA data kk X S t n k s (τ s))∧∀s<n-k,RA data kk I t i k s (τ s) (τ (s+1)))) (n+1) (λk hkn a ha=>?_) _ ⟨hI,aX,by simp,λm hm=>?_⟩
 ·have hk0:zaS a.2 k=cA (cV data kk t) k:=by rw[ha.2.2.2 k (by omega),ap (by omega),zhl (zb3 data kk t) (aa k)];rfl
  by_cases e:zaS a.2 k=0
  ·refine⟨a,.inl ⟨e,rfl⟩,ha.1,ha.2.1,ha.2.2.1,λm hm=>?_⟩;rw[ha.2.2.2 m hm,ap (by omega),ap (by omega),zra,←hk0,e];split <;> simp
  ·obtain⟨τ,h1,h2,h3⟩:=zFZ hD hk hkk hX hC hti hR (show k≤n by omega) ha;refine⟨τ (n-k),.inr ⟨e,τ,h1,rfl,h2,h3⟩,?_⟩;obtain⟨h4,h5,h6,h7⟩:=h2 (n-k) (aa _);refine⟨h4,h5,h6,λm hm=>?_⟩;rw[h7 m hm,ap (show ¬(k+1<m∧m≤k+1+0) by omega),zra];by_cases e2:k<m
   ·rw[aB ⟨e2,by omega⟩,aB e2];rfl
   ·rw[ap (by omega),ap e2]
 ·simp only;rw[ap (by omega),zIx];unfold zaS;cases m with
  |zero=>rfl
  |succ m=>have:=zrm n m;unfold zaS at this;simpa using this
end
theorem zpV{A J:zaa}{A':zaa}{l:Nat}(hl:A.length=l)(hl':A'.length=l){la:List AV}(has:∀a∈la,∀id off,a=.ptr id off→l≤id):zdX la (A++J) (A'++J):=by intro a ha id off e cs hcs;have:=has a ha id off e;rw[List.getElem?_append_right (by omega)]at hcs ⊢;rw[hl]at hcs;rw[hl'];exact hcs
theorem zif(la:List AV)(H:zaa):zdX la H H:=λ_ _ _ _ _ _ h=>h
theorem zdB{H:zaa}{p:(AV→zaa→Prop)→Prop}{k:AV→zaa→Prop}(r:AV)(H':zaa)(h:p λv H2=>v=r∧H2=H')(hk:k r H'):zbl .l false H p k:=⟨r,H',h,(λh=>by cases h),hk⟩
@[congr] theorem zXV{m:WM}{g:Bool}{H:zaa}{p:(AV→zaa→Prop)→Prop}{k:AV→zaa→Prop}:zbl m g H p k=zbl m g H p k:=rfl
section
variable {data:List Dat} (hD:zaB data=true) (hk:Kpt data) {kk:Nat} (hkk:kk≤8) {X:List VT} (hX:X.length≤1000000000000) {I:SI}
include hD hk hkk hX
theorem zzd{n:Nat}(hn:n≤14)(hC:∀ m,m≤n→zcG data kk X I m){S:SS}{i:Nat}{t:VT}(hI:za0 data kk X S)(hti:S.types[i]?=some t)(hR:Rch data X n t):
  ∃S' o,za0 data kk X S'∧S.types <+: S'.types∧vO o=cA (cV data kk t) n∧∀H,ShS data kk I S H→H[0]?=some .nodr→∀K:Kt,K (.agg (zaj o)) (shS data kk I S' H)→ACalls tP ziA [.ptr I.p 0,.int .i64 i,.int .i64 n] H K:=by
 obtain⟨σ,hσ0,hσQ,hσR⟩:=zF0 (I:=I) hD hk hkk hX hC hI hti hR;have hlast:=hσQ (n+1) (aa _);have hgz:=zb3 data kk t;refine⟨(σ (n+1)).1,(σ (n+1)).2.getD n none,hlast.1,hlast.2.1,?_,λH hS h0 K hK=>?_⟩
 ·have:=hlast.2.2.2 n (aa _);rw[ap (by omega),zhl hgz (by omega)]at this;exact this
 refine ACalls.out (zU7 λhs=>?_);have hlt0:0<H.length:=(List.getElem?_eq_some_iff.1 h0).1;have lp:=(List.getElem?_eq_some_iff.1 hS.hp).1;obtain⟨Hp,hHp⟩:∃Hp:SS×List (Option Nat)→zaa,Hp=λa=>shS data kk I a.1 H++[.cells (zaj none),.cells (zav a.2)]:=⟨_,rfl⟩;have hpl:∀a,(Hp a).length=H.length+2:=λa=>by rw[hHp];simp
 have hps:∀a,HSc (Hp a):=λa=>by rw[hHp];refine(hS.scs hs).append ?_;simp only[List.all_cons,List.all_nil,AB.sc,ziL,zc0,bW]
 have hp0:∀a,(Hp a)[0]?=some .nodr:=λa=>by rw[hHp];simp only;rw[List.getElem?_append_left (by simpa using hlt0)];exact hS.nodr h0
 have hp1:∀a,(Hp a)[H.length+1]?=some (.cells (zav a.2)):=λa=>by rw[hHp];simp[List.getElem?_append]
 have hpr:∀a,(Hp a)[H.length]?=some (.cells (zaj none)):=λa=>by rw[hHp];simp[List.getElem?_append]
 have hpS:∀a,za0 data kk X a.1→ShS data kk I a.1 (Hp a):=λa ha=>by rw[hHp];exact(hS.next ha.ml ha.cl).app
 have hset:∀a r,(Hp a).set (H.length+1) (.cells (zav r))=Hp (a.1,r):=λa r=>by rw[hHp];simp only;rw[ai _ _ (by simp)];simp
 have hmv:∀a S',za0 data kk X a.1→shS data kk I S' (Hp a)=Hp (S',a.2):=λa S' ha=>by rw[hHp];simp only;rw[(hS.next ha.ml ha.cl).shS_app,zdh]
 have glim:∀m,m≤n→cV data kk t m<1000000000 ^ 30:=λm hm=>zdD hk hkk t (by omega);have alim:∀m,m≤n→cA (cV data kk t) m<1000000000 ^ 30:=λm hm=>zpm hk hkk t (by omega);simp[zEh];obtain⟨N,hN⟩:∃N:Nat,N=n+1:=⟨_,rfl⟩;have hwn:IntKind.i64.wrap ((n:Int)+1)=(N:Int):=by rw[hN];exact wr (by omega)
 rw[hwn];simp only[za9];refine⟨by omega,?_⟩;refine zfJ 1 (by omega) _ _ ?_;simp only[Int.toNat_natCast,ao,List.length_cons,List.length_nil,ah,List.cons_append,List.nil_append];refine zfY (h:=0) (by omega) ?_;have e11:H.length+(0+1)=H.length+1:=by omega
 rw[zk5,e11];have hH1:(H++[AB.cells [AV.bool false,AV.snil,AV.snil],AB.cells (zav (List.replicate N none))])[H.length+1]?=some (.cells (zav (List.replicate N none))):=by simp[List.getElem?_append]
 refine zfy (o:=some 1) hH1 (by simp;omega) ?_;have hst0:(H++[AB.cells [AV.bool false,AV.snil,AV.snil],AB.cells (zav (List.replicate N none))]).set (H.length+1) (.cells (zav ((List.replicate N none).set 0 (some 1))))=Hp (σ 0):=by rw[hσ0,hHp];simp only;rw[hS.self,ai _ _ (by simp)];simp[hN,List.replicate_succ];rfl
 rw[hst0,zFx];have hrow:∀k,k≤N→(σ k).2.length=N:=λk hk=>by rw[hN]at hk ⊢;exact(hσQ k hk).2.2.1
 refine zU4 (Inv:=λq t18 H'=>∃k:Nat,k≤N∧N-k=q∧t18=.int .i64 k∧H'=Hp (σ k)) N ?_ ?_
 ·intro _;exact⟨0,by omega,rfl,rfl,rfl⟩
 ·rintro q t18 H' ⟨k,hkn,rfl,rfl,rfl⟩ hsc' hlen hsF Kb4 hKb4;have hQ:=hσQ k (by omega);by_cases hlt:k<N
  ·-- a round
   have hkn':k<n+1:=by omega
   have hcur:zaS (σ k).2 k=cA (cV data kk t) k:=by rw[hQ.2.2.2 k (by omega),ap (by omega),zhl hgz (aa k)];rfl
   have hj:zoj (.ptr I.p 0) (.int .i64 i) (.int .i64 n) (.ptr H.length 0) (.ms (H.length+1) 0 N N) (.int .i64 N) (.int .i64 k) (Hp (σ (k+1))) (Out H.length K) Kb4:=by unfold zoj zEj;simp;rw[wr (by omega)];refine hKb4 _ _ ⟨N-(k+1),by omega,Back.here (by rw[hpl,hpl];omega) (hps _) ?_ ⟨_,rfl,k+1,by omega,rfl,rfl,rfl⟩⟩;rw[hpl];simp[zoh,ux,AV.sc,AV.scA,AV.scB,AV.scV];omega
   simp[zuW,hlt];rw[←zc5];refine zeb (hp1 _) (by rw[hrow k hkn];exact hlt) ?_;have hcl:=alim k (by omega);rw[←hcur]at hcl;refine zhQ _ hcl _ _ ?_;change zab .eql false (.int .i64 (if zaS (σ k).2 k=0 then 0 else 1)) _ _;rcases hσR k hkn' with ⟨e,hst⟩|⟨e,τ,hτ0,hτ1,hτQ,hτR⟩
   ·simp[e];rw[←hst];exact hj
   ·simp[e];rw[←hτ0];refine zU5 (Inv:=λq t9 H'=>∃s s1:Nat,s1=s+1∧s≤n-k∧n-k-s=q∧t9=.int .i64 s1∧H'=Hp (τ s)) (n-k) ?_ ?_
    ·intro _;exact⟨0,1,rfl,by omega,rfl,rfl,rfl⟩
    ·rintro q t9 H' ⟨s,s1,hs1,hsn,rfl,rfl,rfl⟩ hsc8 hlen8 hsF8 Kb8 hKb8;have hS2:=hτQ s hsn;obtain⟨p,hp⟩:∃ p:Nat,p=k+s1:=⟨_,rfl⟩;have hw1:IntKind.i64.wrap ((k:Int)+(s1:Int))=(p:Int):=by rw[zaz (by omega) (by omega)];omega
     by_cases hs8:s<n-k
     ·have hle:p≤n:=by omega
      have hpN:p<N:=by omega
      obtain⟨o,hov,hcc,hrw⟩:=hτR s hs8;rw[←hs1]at hov hcc hrw;rw[←hp]at hrw;have hl2:(τ s).2.length=N:=by rw[hS2.2.2.1,hN]
      have v1:zaS (τ s).2 k=cA (cV data kk t) k:=by rw[hS2.2.2.2 k (by omega),ap (by omega),zhl hgz (aa k)];rfl
      have vp:zaS (τ s).2 p=zdu (cV data kk t) k p:=by rw[hS2.2.2.2 p hle,ap (by omega)];rfl
      have hsum:zdu (cV data kk t) k p+cA (cV data kk t) k*cV data kk t s1≤cA (cV data kk t) p:=by have h1:=zIw hgz (k+1) p;rw[zra,aB (by omega),show p-k=s1 from by omega]at h1;exact h1
      have hpl':=alim p hle;have b1:zaS (τ s).2 k<1000000000 ^ 30:=by rw[v1];exact alim k (by omega)
      have b2:vO o<1000000000 ^ 30:=by rw[hov];exact glim s1 (by omega)
      have b3:zaS (τ s).2 p<1000000000 ^ 30:=by rw[vp];omega
      have b4:zaS (τ s).2 k*vO o<1000000000 ^ 30:=by rw[v1,hov];omega
      unfold zuX;simp[hw1,hle,hpN];rw[←zc5];refine zeb (hp1 _) (by omega) ?_;refine⟨by omega,?_⟩;rw[←zc5];refine zeb (hp1 _) (by omega) ?_;refine zdB (.agg (zaj o)) (Hp ((τ s1).1,(τ s).2)) (hcc _ (hpS _ hS2.1) (hp0 _) _ ⟨rfl,hmv _ _ hS2.1⟩) ?_;have kp:∀(a b:SS×List (Option Nat)),a.2=b.2→zdX [AV.ptr (H.length+1) (p*3),AV.ptr (H.length+1) (k*3)] (Hp a) (Hp b):=λa b e=>by rw[hHp];simp only[e];exact zpV (l:=H.length) (by simp) (by simp) (by simp)
      refine⟨kp _ _ rfl,?_⟩;refine zdB (.agg (zaj (some (zaS (τ s).2 k*vO o)))) _ (zEL _ _ b1 b2 _ _ ⟨rfl,rfl⟩) ?_;refine⟨zif _ _,?_⟩;refine zdB (.agg (zaj (some (zaS (τ s).2 p+zaS (τ s).2 k*vO o)))) _ (zu5 ((τ s).2.getD p none) (some (zaS (τ s).2 k*vO o)) b3 b4 _ _ ⟨rfl,rfl⟩) ?_;refine⟨zif _ _,?_⟩;simp[hpN];rw[hov];have hst8:Hp ((τ s1).1,(τ s).2.set p (some (zaS (τ s).2 p+zaS (τ s).2 k*cV data kk t s1)))=Hp (τ s1):=by rw[←hrw]
      refine zdB (.tup []) (Hp (τ s1)) ?_ ?_
      ·refine(zgM (H:=Hp ((τ s1).1,(τ s).2)) 3 (H.length+1) (p*3) (.agg (zaj (some (zaS (τ s).2 p+zaS (τ s).2 k*cV data kk t s1))))) ▸ ?_;refine zfy (hp1 _) (by simp only;omega) ?_;rw[hset];exact⟨rfl,hst8⟩
      ·rw[wr (by omega)];refine hKb8 _ _ ⟨n-k-(s+1),by omega,Back.here (by rw[hpl,hpl];omega) (hps _) ?_ ⟨_,rfl,s+1,s1+1,by omega,by omega,rfl,rfl,by rw[hs1]⟩⟩;rw[hpl];simp[zoi,ux,AV.sc,AV.scA,AV.scB,AV.scV];omega
     ·obtain rfl:s=n-k:=by omega
      have hgt:¬p≤n:=by omega
      unfold zuX;simp[hw1,hgt];rw[hτ1];exact hj
  ·obtain rfl:k=N:=by omega
   have hnk:n<k:=by omega
   simp[zuW,hnk];rw[←zc5];refine zeb (hp1 _) (by rw[hrow _ (by omega)];omega) ?_;have htk:∀o:Option Nat,(zaj o).take 3=zaj o:=λo=>ak (by rw[zbG];omega);have hd3:(zaj none).drop (0+3)=[]:=rfl;simp only[hpr,AV.cs?,zd2,hd3,List.take_zero,List.nil_append,aE];refine⟨⟨zbG _,by rw[zbG];omega,ziK _⟩,?_⟩;rw[List.getElem?_set_self (by rw[hpl];omega)];simp only[zfQ,zfO,aU,htk];refine⟨by rw[zbG];omega,?_⟩;have hfin:(Hp (σ k)).set H.length (.cells (zaj ((σ k).2.getD n none)))=shS data kk I (σ k).1 H++[.cells (zaj ((σ k).2.getD n none)),.cells (zav (σ k).2)]:=by rw[hHp];simp only;rw[ai _ _ (by simp)];simp
   rw[hN]at hfin ⊢;exact Out.at hfin (by simp) (hS.scs hs) .rfl' rfl (by simpa[AV.scV]using zc0 _ _) hK
end
end Go.Proofs.YtaifokkaaahdoaaGreatDoor
