import Derived.Test.YtdmamdnkcefmmaaGreatDoorKMI
import Derived.WalkKit
import Derived.BigCall
import Derived.Laws.Externs
import Derived.Laws.Entries
import Derived.Lib.Builder
import Derived.RegionTactic
import Derived.Shelf.Spec.SlicesGrow
set_option linter.unusedSimpArgs false
set_option linter.unusedVariables false
set_option linter.unusedSectionVars false
set_option linter.defProp false
set_option maxRecDepth 100000
namespace Go.Proofs.YtdmamdnkcefmmaaGreatDoor
def Gd(s:List (IT×Nat)):Prop:=∀p∈s,p.1.ZO≤1000∧0<p.2
def Gd.add{s:List (IT×Nat)}(h:Gd s){i:IT}(hi:i.ZO≤1000)(c:Nat):Gd (vU s i c):=by
 intro p hp;rcases SV p hp with ⟨q,hq,he,fS⟩|⟨h0,he,fS⟩
 ·have:=h q hq;rw[←he];omega
 ·rw[he];omega
def Gd.nil:Gd []:=λp hp=>by simp at hp
def B5{s:List (IT × Nat)}(hG:Gd s)(hN:uB (λ_=>1) s≤100000)(i:IT)(hi:i.ZO≤1000)(c:Nat)(hc:c≤100000)(id:Nat)(H:or)(K:Kt)(fA:H[id]?=some (.vec 55 5 s.length (tms s)))(hK:K (.ov id (vU s i c).length) (H.set id (.vec 55 5 (vU s i c).length (tms (vU s i c))))):
  ge tP 63 [.ov id s.length,.agg i.cs,.agg (ue (c:Int))] H K:=by
 have hl:=BV (λp hp=>(hG p hp).2);refine ycM s i c hi (λp hp=>⟨(hG p hp).1,(hG p hp).2,?_⟩) (aI hc (by decide)) (by omega) id H K fA hK;exact aI (aC (Ab hp) hN) (by decide)
def yR{s:List (IT×Nat)}{β:Type}(h:β→IT×Nat)(L:List β){j:Nat}(hj:j<L.length):uu s ((L.take (j+1)).map h)=vU (uu s ((L.take j).map h)) (h L[j]).1 (h L[j]).2:=by rw[ag hj,a6,aL,bI,zKx]
def Ae(s L:List (IT×Nat)):uB (λ_=>1) (uu s L)=uB (λ_=>1) s+uB (λ_=>1) L:=xm _ _ _
def Tf(i:IT)(hi:i.ZO≤1000)(H0:or)(B:or)(hs:HSc H0)(K:Kt)(hK:K (.sl (vi [(i,1)]) .none) H0):
  ge tP 63 [.ZG,.agg i.cs,.agg (ue 1)] (H0++B) (λr H=>Out H0.length K r H):=by
 refine ge.vecA (us:=[.agg i.cs,.agg (ue 1)]) 55 5 ?_;have:=B5 (s:=[]) Gd.nil (by simp) i hi 1 (by omega) (H0++B).length (H0++B++[.vec 55 5 0 []]) (λr H=>Out H0.length K r H) (by simp[tms]) ?_
 ·simpa using this
 ·have e:vU [] i 1=[(i,1)]:=by simp[vU,yY]
  rw[e];have e2:(H0++B++[AB.vec 55 5 0 []]).set (H0++B).length (.vec 55 5 [(i,1)].length (tms [(i,1)]))=H0++(B++[.vec 55 5 [(i,1)].length (tms [(i,1)])]):=by rw[au _ _ (af _)];simp
  rw[e2];exact S9 [(i,1)] (H0++B).length (by simp) (by rw[←aB];simp) hs hK
def FK:∀ x:IT,x.ZO=IT.ZA (uz x)+1
 |.mk _ _=>rfl
def DB(h:IT→IT)(L:List (IT×Nat)):uB (λ_=>1) (L.map λw=>(h w.1,w.2))=uB (λ_=>1) L:=by rw[FC _ (λ_=>1) h 1 (λx=>by simp),c9]
def B6(p:IT×Nat):List.take 5 (tmC p)=tmC p:=am (by simp)
def Af(p:IT×Nat):List.take 2 (tmC p)=p.1.cs:=by rw[tmC,cc (by simp)]
def y5(p:IT×Nat):List.take 3 (List.drop 2 (tmC p))=ue (p.2:Int):=by rw[tmC,bS (by simp),am (by simp[ue])]
def AT(p:IT×Nat):∀x∈tmC p,x.ZP=true:=aA.1 (by rw[tmC,bl,IT.cs_known,IS];rfl)
def hpM(H:or)(tn:Int)(tks:List VT)(s:List (IT×Nat)):or:=H++[.cells [I6 5,I6 tn,.sl (VT.css tks) .none],.vec 55 5 s.length (tms s)]
def MA{H:or}(hs:HSc H){tn:Int}{tks:List VT}{s:List (IT×Nat)}:HSc (hpM H tn tks s):=
 hs.append (by simp only[AB.sc,List.all_cons,List.all_nil,zDX];simp[AV.ZH,AV.ZI])
def Tg{H:or}{tn:Int}{tks:List VT}{s s':List (IT×Nat)}{J:or}:(hpM H tn tks s++J).set (H.length+1) (.vec 55 5 s'.length (tms s'))=hpM H tn tks s'++J:=by simp[hpM,List.set_append]
def Th{H:or}{tn:Int}{tks:List VT}{s:List (IT×Nat)}{J:or}:(hpM H tn tks s++J)[H.length+1]?=some (.vec 55 5 s.length (tms s)):=by simp[hpM,aR]
@[simp] theorem yiw{H:or}{tn:Int}{tks:List VT}{s:List (IT×Nat)}:(hpM H tn tks s).length=H.length+2:=by simp[hpM]
@[simp] theorem yiv{H:or}{tn:Int}{tks:List VT}{s:List (IT×Nat)}(h:H.length<(hpM H tn tks s).length):(hpM H tn tks s)[H.length]=.cells [I6 5,I6 tn,.sl (VT.css tks) .none]:=by simp[hpM,List.getElem_append]
theorem Ti(g:List IT→Nat):∀ (l:List (List IT × Nat)) (k:Nat),vw g (l.take k)≤vw g l
 |l,0=>by simp
 |[],k+1=>by simp
 |r::l,k+1=>by have:=Ti g l k;simp only[List.take_succ_cons,BT];omega
theorem zDH(ca:Int)(C:List (IT × Nat)):∀ R:List (List IT × Nat),uB (λ_=>1) (R.flatMap λr=>C.map λw=>(bef (.mk ca r.1) w.1,r.2*w.2))=vw (λ_=>1) R*uB (λ_=>1) C
 |[]=>by simp
 |r::R=>by rw[bj,JA,zDH ca C R,Mo,DB (bef (.mk ca r.1)),BT,bp];simp
def zKw(s a b:List (IT×Nat)):uu s (a++b)=uu (uu s a) b:=by simp[uu]
def zzQ{s:List (IT×Nat)}(F:List IT×Nat→List (IT×Nat))(R:List (List IT×Nat)){j:Nat}(hj:j<R.length):uu s ((R.take (j+1)).flatMap F)=uu (uu s ((R.take j).flatMap F)) (F R[j]):=by rw[ag hj,bF,zKw,bj,dc,aP]
def zMv{eq:List Dat}(hk:vj eq)(h8:∀D∈eq,D.cons.length≤8)(hD:vM eq=true){f:Nat}(hQ:My eq f)(hM:Mz eq f):Mz eq (f+1):=by
 intro t l m hf ky jn pS hl hm h6 hn H K hK;obtain⟨k,tn,tks⟩:=t;simp only[VT.kind]at pS;subst pS;refine ge.out (ye2 λhs=>?_);have ip:(VT.mk 5 tn tks).cs=[I6 5,I6 tn,.sl (VT.css tks) .none]:=rfl;cases l with
 |nil=>
  have e:uM eq (f+1) (.mk 5 tn tks) [] m=[(.mk 0 m,1)]:=by rw[uM]
  rw[e]at hK;simp[KL,IT.css,ug,uv,xb,AV.ZP,ip,aa];refine AS 1 (by omega) _ _ ?_;exact Tf (.mk 0 m) (by simp only[IT.ZO,IT.ZA]at hn ⊢;omega) H [_] hs K hK
 |cons a l=>
  cases m with
  |nil=>
   have e:uM eq (f+1) (.mk 5 tn tks) (a::l) []=[(.mk 0 (a::l),1)]:=by rw[uM]
   rw[e]at hK;have hb:(((l.length:Int)+1) == 0)=false:=by simp;omega
   simp[KL,ug,uv,xb,AV.ZP,ip,hb,aa];refine AS 1 (by omega) _ _ ?_;exact Tf (.mk 0 (a::l)) (by simp only[IT.ZO,IT.ZA]at hn ⊢;omega) H [_] hs K hK
  |cons b m=>
   obtain⟨ca,pa⟩:=a;obtain⟨cb,pb⟩:=b;obtain⟨la,ll,el⟩:=Dx h8 _ _ l hl;obtain⟨mb,mm,em⟩:=Dx h8 _ _ m hm;obtain⟨ca0,ca8,psa,kG,jL,pQ,ea⟩:=BW la;obtain⟨cb0,cb8,psb,mq,iI,pR,eb⟩:=BW mb;have na:=(IT.mk ca pa).ZB;have nb:=(IT.mk cb pb).ZB;simp only[IT.ZA]at hf hn;obtain⟨A,hA⟩:∃A,A=uM eq f (.mk 5 tn tks) l (.mk cb pb::m):=⟨_,rfl⟩;obtain⟨B,hB⟩:∃B,B=uM eq f (.mk 5 tn tks) (.mk ca pa::l) m:=⟨_,rfl⟩;obtain⟨C,hC⟩:∃C,C=uM eq f (.mk 5 tn tks) l m:=⟨_,rfl⟩;obtain⟨A1,A2⟩:=(xV h8 f).2.2 (.mk 5 tn tks) l (.mk cb pb::m) (by simp only[IT.ZA];omega) ll hm (by omega);obtain⟨B1,B2⟩:=(xV h8 f).2.2 (.mk 5 tn tks) (.mk ca pa::l) m (by simp only[IT.ZA];omega) hl mm (by omega);obtain⟨C1,C2⟩:=(xV h8 f).2.2 (.mk 5 tn tks) l m (by omega) ll mm (by omega);rw[←hA]at A1 A2;rw[←hB]at B1 B2;rw[←hC]at C1 C2;simp only[IT.ZA]at A1 B1
   replace A2:=aC A2 (xW (by omega))
   replace B2:=aC B2 (xW (by omega))
   replace C2:=aC C2 (xW (by omega))
   have Al:=BV λp hp=>(A1 p hp).1;have Bl:=BV λp hp=>(B1 p hp).1;have Cl:=BV λp hp=>(C1 p hp).1;have gy:=IT.ZQ l;have qJ:=IT.ZQ m;have gJ:(((l.length:Int)+1) == 0)=false:=by simp;omega
   have gF:(((m.length:Int)+1) == 0)=false:=by simp;omega
   have oD:∀(x:List IT),∀c∈IT.css x,c.length=2:=λx c hc=>by rw[IT.ZC]at hc;obtain⟨v,_,rfl⟩:=aF.1 hc;simp
   have tr:∀j≤A.length,Gd (uu [] ((A.take j).map λw=>(bef (.mk ca pa) w.1,w.2))):=by
    intro j;induction j with
    |zero=>intro _;exact Gd.nil
    |succ j ih=>intro hj;rw[yR _ _ (show j<A.length by omega)];have:=(A1 A[j] (ae (by omega))).2.2.2.2.2.2;exact(ih (by omega)).add (by simp only[bef,IT.ZO,IT.ZA]at this ⊢;simp only[IT.ZO]at hn;omega) _
   have tl1:(List.take (l.length+1) (IT.css (.mk ca pa::l))).tail=IT.css l:=by simp[IT.css,am]
   have tl2:(List.take (m.length+1) (IT.css (.mk cb pb::m))).tail=IT.css m:=by simp[IT.css,am]
   have nL:∀(e:IT) (w:IT),IT.ZA (uz w)≤320→e.ZO≤320→(bef e w).ZO≤1000:=λe w h1 h2=>by simp only[bef,IT.ZO,IT.ZA];omega
   simp[KL,ug,uv,xb,AV.ZP,ip,gJ,gF,aa];refine⟨oD _,?_⟩;rw[tl1,←ip];refine ur (.sl (vi A) .none) (λJ=>by rw[hA];exact hM _ l (.mk cb pb::m) (by simp only[IT.ZA];omega) ky jn rfl ll hm (by omega) (by simp only[IT.ZA];omega) _ _ ⟨rfl,rfl⟩) ?_;simp[aa];unfold KF;refine tM.vec 9 55 5 rfl ?_;have g8:(H++[AB.cells (VT.mk 5 tn tks).cs]).length=H.length+1:=by simp
   rw[g8,aB];show KF _ _ _ _ (.ov (H.length+1) (uu [] ((A.take 0).map λw=>(bef (.mk ca pa) w.1,w.2))).length) _ _ _ (hpM H tn tks (uu [] ((A.take 0).map λw=>(bef (.mk ca pa) w.1,w.2)))) _;refine yeY (Inv:=λq t9 t44 H'=>∃j:Nat,j≤A.length∧A.length-j=q∧t44=I6 j∧t9=.ov (H.length+1) (uu [] ((A.take j).map λw=>(bef (.mk ca pa) w.1,w.2))).length∧H'=hpM H tn tks (uu [] ((A.take j).map λw=>(bef (.mk ca pa) w.1,w.2)))) A.length ?_ ?_
   ·intro _;exact⟨0,by omega,rfl,rfl,rfl,rfl⟩
   ·rintro q t9 t44 H' ⟨j,hj,rfl,rfl,rfl,rfl⟩ hsc7 hlen7 hsF7 Kb7 nv;by_cases fU:j<A.length
    ·have hw:=A1 A[j] (ae fU);have tt:=Ab (ae fU);have fC:=yR (s:=[]) (λw:IT × Nat=>(bef (.mk ca pa) w.1,w.2)) A fU;have rp:uB (λ_=>1) (uu [] ((A.take j).map λw=>(bef (.mk ca pa) w.1,w.2)))≤729:=by rw[Ae,x9,aX,DB];exact aC (FF _ _ _) A2
     have hG:=tr j (by omega);generalize nX:uu [] ((A.take j).map λw=>(bef (.mk ca pa) w.1,w.2))=s at *;simp[Rh,fU,B6,Af,y5,wi j (by omega)];refine⟨AT _,?_⟩;have rt:(bef (.mk ca pa) A[j].1).ZO≤1000:=nL _ _ (by omega) (by omega);have ru:A[j].1.ZO≤1000:=by have:=hw.2.2.2.2.2.2;have:=FK A[j].1;omega
     refine ur (.agg (bef (.mk ca pa) A[j].1).cs) (λJ=>Ta _ _ ru _ _ ⟨rfl,rfl⟩) ?_;refine B5 hG (by omega) (bef (.mk ca pa) A[j].1) rt A[j].2 (by omega) (H.length+1) _ _ Th ?_;rw[Tg];exact nv _ _ ⟨A.length-(j+1),by omega,Back.at (J:=[.cells (tmC A[j])]) (H2:=hpM H tn tks (vU s (bef (.mk ca pa) A[j].1) A[j].2)) rfl (by simp) (MA hs) (by simp[KE,ux,AV.sc,AV.ZH,AV.ZI,AV.ZJ]) ⟨_,_,rfl,j+1,by omega,rfl,rfl,by rw[fC],by rw[fC]⟩⟩
    ·obtain rfl:j=A.length:=by omega
     rw[az];obtain⟨s1,f9⟩:∃s1,s1=uu [] (A.map λw=>(bef (.mk ca pa) w.1,w.2)):=⟨_,rfl⟩;have hG1:Gd s1:=by have:=tr A.length (af _);rw[az,←f9]at this;exact this
     have hN1:uB (λ_=>1) s1≤729:=by rw[f9,Ae,x9,aX,DB];exact A2
     rw[←f9];have hsB:∀j≤B.length,Gd (uu s1 ((B.take j).map λw=>(bef (.mk cb pb) w.1,w.2))):=by
      intro j;induction j with
      |zero=>intro _;exact hG1
      |succ j ih=>intro hj;rw[yR _ _ (show j<B.length by omega)];have:=(B1 B[j] (ae (by omega))).2.2.2.2.2.2;exact(ih (by omega)).add (nL _ _ (by omega) (by omega)) _
     simp[Rh,aa];refine⟨oD _,?_⟩;rw[tl2,←ip];refine ur (.sl (vi B) .none) (λJ=>by rw[hB];exact hM _ (.mk ca pa::l) m (by simp only[IT.ZA];omega) ky jn rfl hl mm (by omega) (by simp only[IT.ZA];omega) _ _ ⟨rfl,rfl⟩) ?_;simp[aa];show Rc _ _ _ _ (.ov (H.length+1) (uu s1 ((B.take 0).map λw=>(bef (.mk cb pb) w.1,w.2))).length) _ _ _ (hpM H tn tks (uu s1 ((B.take 0).map λw=>(bef (.mk cb pb) w.1,w.2)))) _;refine yeV (Inv:=λq t9 t66 H'=>∃j:Nat,j≤B.length∧B.length-j=q∧t66=I6 j∧t9=.ov (H.length+1) (uu s1 ((B.take j).map λw=>(bef (.mk cb pb) w.1,w.2))).length∧H'=hpM H tn tks (uu s1 ((B.take j).map λw=>(bef (.mk cb pb) w.1,w.2)))) B.length ?_ ?_
     ·intro _;exact⟨0,by omega,rfl,rfl,rfl,rfl⟩
     ·rintro q t9 t66 H' ⟨j,hj,rfl,rfl,rfl,rfl⟩ hsc12 hlen12 hsF12 Kb12 hKb12;by_cases fU:j<B.length
      ·have hw:=B1 B[j] (ae fU);have tt:=Ab (ae fU);have fC:=yR (s:=s1) (λw:IT × Nat=>(bef (.mk cb pb) w.1,w.2)) B fU;have rp:uB (λ_=>1) (uu s1 ((B.take j).map λw=>(bef (.mk cb pb) w.1,w.2)))≤1500:=by rw[Ae,DB];have:=FF (λ_=>1) B j;omega
       have hG:=hsB j (by omega);generalize nX:uu s1 ((B.take j).map λw=>(bef (.mk cb pb) w.1,w.2))=s at *;simp[KJ,fU,B6,Af,y5,wi j (by omega)];refine⟨AT _,?_⟩;have rt:(bef (.mk cb pb) B[j].1).ZO≤1000:=nL _ _ (by omega) (by omega);have ru:B[j].1.ZO≤1000:=by have:=hw.2.2.2.2.2.2;have:=FK B[j].1;omega
       refine ur (.agg (bef (.mk cb pb) B[j].1).cs) (λJ=>Ta _ _ ru _ _ ⟨rfl,rfl⟩) ?_;refine B5 hG (by omega) (bef (.mk cb pb) B[j].1) rt B[j].2 (by omega) (H.length+1) _ _ Th ?_;rw[Tg];exact hKb12 _ _ ⟨B.length-(j+1),by omega,Back.at (J:=[.cells (tmC B[j])]) (H2:=hpM H tn tks (vU s (bef (.mk cb pb) B[j].1) B[j].2)) rfl (by simp) (MA hs) (by simp[KG,ux,AV.sc,AV.ZH,AV.ZI,AV.ZJ]) ⟨_,_,rfl,j+1,by omega,rfl,rfl,by rw[fC],by rw[fC]⟩⟩
      ·obtain rfl:j=B.length:=by omega
       rw[az];obtain⟨s2,gn⟩:∃s2,s2=uu s1 (B.map λw=>(bef (.mk cb pb) w.1,w.2)):=⟨_,rfl⟩;have hG2:Gd s2:=by have:=hsB B.length (af _);rw[az,←gn]at this;exact this
       have hN2:uB (λ_=>1) s2≤1500:=by rw[gn,Ae,DB];omega
       rw[←gn];have gz:∀(s:List (IT×Nat)) (J:or),s=uM eq (f+1) (.mk 5 tn tks) (.mk ca pa::l) (.mk cb pb::m)→Out H.length K (.ov (H.length+1) s.length) (hpM H tn tks s++J):=by intro s J gK;subst gK;have:=S9 (H:=H) (J:=[.cells [I6 5,I6 tn,.sl (VT.css tks) .none],.vec 55 5 (uM eq (f+1) (.mk 5 tn tks) (.mk ca pa::l) (.mk cb pb::m)).length (tms (uM eq (f+1) (.mk 5 tn tks) (.mk ca pa::l) (.mk cb pb::m)))]++J) (K:=K) (uM eq (f+1) (.mk 5 tn tks) (.mk ca pa::l) (.mk cb pb::m)) (H.length+1) (by omega) (by simp[aR]) hs hK;simpa[hpM]using this
       by_cases gc:ca=cb
       ·subst gc;have jx:uM eq (f+1) (.mk 5 tn tks) (.mk ca pa::l) (.mk ca pb::m)=uu s2 ((wU eq f ((vt eq (.mk 5 tn tks) ca).getD []) pa pb).flatMap λr=>C.map λw=>(bef (.mk ca r.1) w.1,r.2*w.2)):=by rw[uM,aG (by simp[uT]),gn,f9,hA,hB,hC];rfl
        rw[kG]at mq;cases mq;obtain⟨lf,ny⟩:∃lf,wa eq (.mk 5 tn tks) ca=some lf:=by
         cases ny:wa eq (.mk 5 tn tks) ca with
         |none=>simp[vt,ny]at kG
         |some lf=>exact⟨lf,rfl⟩
        obtain⟨bs,re,pw,qA,i5,iP,_⟩:=ST hk ny;rw[kG]at i5;have ke:psa=pick lf bs:=dQ i5;have hpsl:psa.length≤8:=by rw[ke];have:=Fw lf bs;omega
        have pT:∀x∈psa,x.ZO≤1000∧uW eq 0 x=true:=λx hx=>by rw[ke]at hx;have hm:=Ds hx;have:=iP x hm;exact⟨by omega,Sj hD (zEf jn) ny _ hm⟩
        obtain⟨R,hR⟩:∃R,R=wU eq f psa pa pb:=⟨_,rfl⟩;obtain⟨R1,R2⟩:=(xV h8 f).2.1 psa pa pb (by simp only[IT.ZO]at hf;omega) jL.symm iI.symm pQ pR (by omega);rw[←hR]at R1 R2;have C3:=((xV h8 f).2.2 (.mk 5 tn tks) l m (by omega) ll mm (by omega)).2;rw[←hC]at C3;have hRC:vw (λ_=>1) R*uB (λ_=>1) C≤729:=by refine aC (aZ R2 C3) ?_;rw[←Mp (by omega) (by omega)];exact xW (by omega)
        have hR7:vw (λ_=>1) R≤729:=aC R2 (xW (by omega));have Rl:=Tc λp hp=>(R1 p hp).1;rw[kG,Option.getD_some,←hR]at jx;simp[KJ,IT.cs,aa];refine ur (.tup [.sl (VT.css psa) .none,.bool true]) (λJ=>by
         have:=zEI eq hk (.mk 5 tn tks) ky ca (hpM H tn tks s2++J) (λv H'=>v=.tup [.sl (VT.css psa) .none,.bool true]∧H'=hpM H tn tks s2++J) (by rw[kG];exact⟨rfl,rfl⟩);exact this) ?_
        simp;refine⟨oD _,oD _,?_⟩;rw[tl1,tl2,←ip];refine ur (.sl (vi C) .none) (λJ=>by rw[hC];exact hM _ l m (by omega) ky jn rfl ll mm (by omega) (by omega) _ _ ⟨rfl,rfl⟩) ?_;refine ur (.sl (uC R) .none) (λJ=>by rw[hR];exact hQ psa pa pb (by simp only[IT.ZO]at hf;omega) jL.symm iI.symm (by omega) pT pQ pR (by omega) (by simp only[IT.ZO]at hn;omega) _ _ ⟨rfl,rfl⟩) ?_;simp;obtain⟨F,hF⟩:∃F:List IT×Nat→List (IT×Nat),F=λr=>C.map λw=>(bef (.mk ca r.1) w.1,r.2*w.2):=⟨_,rfl⟩;have hFN:∀L,uB (λ_=>1) (List.flatMap F L)=vw (λ_=>1) L*uB (λ_=>1) C:=λL=>by rw[hF];exact zDH ca C L
        have hFg:∀r∈R,∀(i:Nat) (s:List (IT×Nat)),i≤C.length→Gd s→Gd (uu s ((C.take i).map λw=>(bef (.mk ca r.1) w.1,r.2*w.2))):=by
         intro r hr i s hi hs;induction i with
         |zero=>exact hs
         |succ i ih=>rw[yR _ _ (show i<C.length by omega)];have h1:=(R1 r hr).2.2.2.2.2.2;have h2:=(C1 C[i] (ae (by omega))).2.2.2.2.2.2;exact(ih (by omega)).add (nL _ _ (by omega) (by simp only[IT.ZO]at hn ⊢;omega)) _
        have pU:∀j≤R.length,Gd (uu s2 ((R.take j).flatMap F)):=by
         intro j;induction j with
         |zero=>intro _;exact hG2
         |succ j ih=>intro hj;rw[zzQ _ _ (show j<R.length by omega)];have:=hFg R[j] (ae (by omega)) C.length _ (af _) (ih (by omega));rw[az]at this;rw[hF]at this ⊢;exact this
        show Re _ (.ov (H.length+1) (uu s2 ((R.take 0).flatMap F)).length) _ _ _ _ (hpM H tn tks (uu s2 ((R.take 0).flatMap F))) _;refine yeW (Inv:=λq t9 t120 H'=>∃j:Nat,j≤R.length∧R.length-j=q∧t120=I6 j∧t9=.ov (H.length+1) (uu s2 ((R.take j).flatMap F)).length∧H'=hpM H tn tks (uu s2 ((R.take j).flatMap F))) R.length ?_ ?_
        ·intro _;exact⟨0,by omega,rfl,rfl,rfl,rfl⟩
        ·rintro q t9 t120 H' ⟨j,hj,rfl,rfl,rfl,rfl⟩ hsc21 hlen21 hsF21 Kb21 nz;by_cases fU:j<R.length
         ·have hr:=R1 R[j] (ae fU);have rv:=Tb (ae fU);have fC:=zzQ (s:=s2) F R fU;have rp:uB (λ_=>1) (uu s2 ((R.take j).flatMap F))≤2300:=by rw[Ae,hFN];have:=aD (uB (λ_=>1) C) (Ti (λ_=>1) R j);omega
          have hG:=pU j (by omega);generalize nX:uu s2 ((R.take j).flatMap F)=s at *;simp[Rg,fU];obtain⟨cr,pV⟩:∃cr:List AV,cr=.sl (IT.css R[j].1) .none::ue (R[j].2:Int):=⟨_,rfl⟩;have cr1:cr[0]?=some (.sl (IT.css R[j].1) .none):=by rw[pV];rfl
          have cr3:List.take 3 (List.drop 1 cr)=ue (R[j].2:Int):=by rw[pV];simp[am]
          have crl:cr.length=4:=by rw[pV];simp
          have crs:∀n,cr.all (AV.ZH n)=true:=λn=>by rw[pV];simp[AV.ZH,AV.ZI,ue]
          rw[←pV];have hp24:∀s',HSc (hpM H tn tks s'++[.cells cr]):=λs'=>(MA hs).append (by simp only[AB.sc,List.all_cons,List.all_nil,crs];rfl);have hat3:∀s' c,(hpM H tn tks s'++[.cells cr,c])[H.length+3]?=some c:=λs' c=>by
           have e:H.length+3=(hpM H tn tks s'++[AB.cells cr]).length:=by simp
           rw[e,show hpM H tn tks s'++[AB.cells cr,c]=(hpM H tn tks s'++[.cells cr])++[c] by simp,aM (af _)];simp
          have kP:=hr.2.2.2.2.2.2;refine yeX (Inv:=λq t9 t126 H'=>∃i:Nat,i≤C.length∧C.length-i=q∧t126=I6 i∧t9=.ov (H.length+1) (uu s ((C.take i).map λw=>(bef (.mk ca R[j].1) w.1,R[j].2*w.2))).length∧H'=hpM H tn tks (uu s ((C.take i).map λw=>(bef (.mk ca R[j].1) w.1,R[j].2*w.2)))++[.cells cr]) C.length ?_ ?_
          ·intro _;exact⟨0,by omega,rfl,rfl,rfl,rfl⟩
          ·rintro q t9 t126 H' ⟨i,hi,rfl,rfl,rfl,rfl⟩ hsc24 hlen24 hsF24 Kb24 hKb24;by_cases gq:i<C.length
           ·have hw:=C1 C[i] (ae gq);have tt:=Ab (ae gq);have hstep2:=yR (s:=s) (λw:IT × Nat=>(bef (.mk ca R[j].1) w.1,R[j].2*w.2)) C gq;have hprod:R[j].2*C[i].2≤729:=aC (aZ rv tt) hRC;have hNi:uB (λ_=>1) (uu s ((C.take i).map λw=>(bef (.mk ca R[j].1) w.1,R[j].2*w.2)))≤3100:=by rw[Ae,Mo,DB (bef (.mk ca R[j].1))];have:=aZ rv (FF (λ_=>1) C i);omega
            have hGi:=hFg R[j] (ae fU) i s (by omega) hG;generalize pE:uu s ((C.take i).map λw=>(bef (.mk ca R[j].1) w.1,R[j].2*w.2))=s' at *;have ij:Sm (R[j].2:Int):=xf (aI (show R[j].2≤729 by omega) (by decide));have l6:Sm (C[i].2:Int):=xf (aI (show C[i].2≤729 by omega) (by decide));have cra:∀k,vH false 1 0 cr k=k (.sl (IT.css R[j].1) .none):=λk=>by rw[pV];simp
            have crt:List.take 3 cr.tail=ue (R[j].2:Int):=by rw[pV];simp[am]
            have tu:([I6 ca,.sl (IT.css R[j].1) .none]:List AV)=(IT.mk ca R[j].1).cs:=rfl;simp[Rf,gq,B6,Af,y5,hat3,cra,crt,crl,IT.cs,ug,uv,wi i (by omega)];refine⟨AT _,?_⟩;rw[tu];have rt:(bef (.mk ca R[j].1) C[i].1).ZO≤1000:=nL _ _ (by omega) (by simp only[IT.ZO]at hn ⊢;omega);have ru:C[i].1.ZO≤1000:=by have:=hw.2.2.2.2.2.2;have:=FK C[i].1;omega
            refine ur (.agg (bef (.mk ca R[j].1) C[i].1).cs) (λJ=>Ta _ _ ru _ _ ⟨rfl,rfl⟩) ?_;refine ur (.agg (ue ((R[j].2*C[i].2:Nat):Int))) (λJ=>FH _ _ ij l6 _ _ ⟨by rw[Int.natCast_mul],rfl⟩) ?_;refine B5 hGi (by omega) (bef (.mk ca R[j].1) C[i].1) rt (R[j].2*C[i].2) (by omega) (H.length+1) _ _ Th ?_;rw[Tg];exact hKb24 _ _ ⟨C.length-(i+1),by omega,Back.at (J:=[.cells (tmC C[i])]) (H2:=hpM H tn tks (vU s' (bef (.mk ca R[j].1) C[i].1) (R[j].2*C[i].2))++[.cells cr]) (by simp) (by simp) (hp24 _) (by simp[KI,ux,AV.sc,AV.ZH,AV.ZI,AV.ZJ]) ⟨_,_,rfl,i+1,by omega,rfl,rfl,by rw[hstep2],by rw[hstep2]⟩⟩
           ·obtain rfl:i=C.length:=by omega
            rw[az];have hFj:F R[j]=C.map λw=>(bef (.mk ca R[j].1) w.1,R[j].2*w.2):=by rw[hF]
            rw[hFj]at fC;simp[Rf,wi j (by omega)];exact nz _ _ ⟨R.length-(j+1),by omega,Back.at (J:=[.cells cr]) (H2:=hpM H tn tks (uu s (C.map λw=>(bef (.mk ca R[j].1) w.1,R[j].2*w.2)))) rfl (by simp) (MA hs) (by simp[KH,ux,AV.sc,AV.ZH,AV.ZI,AV.ZJ]) ⟨_,_,rfl,j+1,by omega,rfl,rfl,by rw[fC],by rw[fC]⟩⟩
         ·obtain rfl:j=R.length:=by omega
          rw[az];have:=gz (uu s2 (R.flatMap F)) [] (by rw[jx,hF]);simp[Rg];simpa using this
       ·have jx:uM eq (f+1) (.mk 5 tn tks) (.mk ca pa::l) (.mk cb pb::m)=s2:=by rw[uM,aN (by simpa[uT]using gc),gn,f9,hA,hB]
        have tv:(ca != cb)=true:=by simpa using gc
        have:=gz s2 [] jx.symm;simp[KJ,IT.cs,tv,aa];simpa using this
def FL:∀n,n<13→fct n≤479001600:=by decide
def MB(n:Nat)(hn:n≤12)(H:or)(K:Kt)(hK:K (.agg (ue (fct n:Int))) H):ge tP 142 [I6 n] H K:=by
 refine ge.out (zTo λhs=>?_);simp[zFB,aa];refine AS 1 (by omega) _ _ ?_;simp[aa,zy];have hsc:∀z:Int,HSc (H++[.cells [.bool false,.ZG,.ZG],.cells (ue z)]):=λz=>hs.append (by simp[AB.sc,ue,AV.ZH,AV.ZI]);refine zTl (Inv:=λq t4 H'=>∃i:Nat,1≤i∧i≤12∧(i≤n∨i=1)∧n-i=q∧t4=I6 ((i+1:Nat):Int)∧H'=H++[.cells [.bool false,.ZG,.ZG],.cells (ue (fct i:Int))]) (n-1) ?_ ?_
 ·intro _;exact⟨1,by omega,by omega,by omega,rfl,rfl,rfl⟩
 ·rintro q t4 H' ⟨i,hi1,qT,hi3,rfl,rfl,rfl⟩ fG fz fM Kb fB;by_cases fy:i+1≤n
  ·have fK:((i+1:Nat):Int)≤(n:Int):=by omega
   have nA:(i:Int)+1≤(n:Int):=by omega
   have hf:=FL i (by omega);simp[S8,nA];refine ur (.agg (ue ((i+1:Nat):Int))) (λJ=>by
    have:=AS (i+1) (by omega) (H++[.cells [.bool false,.ZG,.ZG],.cells (ue (fct i:Int))]++J) (λv H'=>v=.agg (ue ((i+1:Nat):Int))∧H'=H++[.cells [.bool false,.ZG,.ZG],.cells (ue (fct i:Int))]++J) ⟨rfl,rfl⟩;simpa using this) ?_
   refine ur (.agg (ue (fct (i+1):Int))) (λJ=>FH _ _ (xf (aI hf (by decide))) (xf (aI (show i+1≤13 by omega) (by decide))) _ _ ⟨by rw[fct,Int.natCast_mul,eX],rfl⟩) ?_;have w:IntKind.i64.wrap ((i:Int)+1+1)=((i+1+1:Nat):Int):=by rw[um (by omega) (by omega)];omega
   simp[aa,zy,w];exact fB _ _ ⟨n-(i+1),by omega,Back.here (by simp) (hsc _) (by simp[Mv,ux,AV.sc,AV.ZH,AV.ZI,AV.ZJ]) ⟨_,rfl,i+1,by omega,by omega,by omega,rfl,by simp;omega,rfl⟩⟩
  ·have nA:¬ ((i:Int)+1≤(n:Int)):=by omega
   have he:fct i=fct n:=by
    by_cases h:i=n
    ·rw[h]
    ·have:n=0∧i=1:=by omega
     rw[this.1,this.2];rfl
   rw[←he]at hK;simp[S8,nA,aa,zy];exact EY hs hK
def zNc:∀a,a<7→∀b,b<7→∀k,k<13→(k≤a+b∧max a b≤k→(fct k=pcf a b k*(fct (k-a)*fct (k-b)*fct (a+b-k))∧fct (k-a)*fct (k-b)*fct (a+b-k)<1000000000∧0<fct (k-a)*fct (k-b)*fct (a+b-k))):=by
 have:=(by decide +kernel:((List.range 7).all λa=>(List.range 7).all λb=>(List.range 13).all λk=>decide (¬(k≤a+b∧max a b≤k)∨(fct k=pcf a b k*(fct (k-a)*fct (k-b)*fct (a+b-k))∧fct (k-a)*fct (k-b)*fct (a+b-k)<1000000000∧0<fct (k-a)*fct (k-b)*fct (a+b-k))))=true);intro a ha b hb k hk h;have h1:=aA.mp this a (bP.mpr ha);have h2:=aA.mp h1 b (bP.mpr hb);have h3:=aA.mp h2 k (bP.mpr hk);rcases c6 h3 with h4|h4
 ·exact absurd h h4
 ·exact h4
def ww(l:List Nat):List (List AV):=l.map λ(z:Nat)=>ue (z:Int)
@[simp] theorem zNl(l:List Nat):(ww l).length=l.length:=by simp[ww]
def vV(a b n:Nat):List Nat:=(List.range n).map (pcf a b)
def yeO(a b:Nat)(ha:a≤6)(hb:b≤6)(H:or)(K:Kt)(hK:K (.tup [.sl (ww (vV a b (a+b+1))) .none,.bool true]) H):ge tP 89 [I6 a,I6 b] H K:=by
 refine ge.out (yeM λhs=>?_);have c1:¬((a:Int)<0):=by omega
 have c2:¬((b:Int)<0):=by omega
 have c3:¬((16:Int)<(a:Int)):=by omega
 have c4:¬((16:Int)<(b:Int)):=by omega
 simp[zJA,c1,c2,c3,c4];unfold KR;refine tM.own 6 46 3 rfl ?_;show KR (I6 a) (I6 b) (.sl (ww (vV a b 0)) (.own H.length)) I0 (H++[.perm 46 3 0]) _;have hsc:∀n,HSc (H++[.perm 46 3 n]):=λn=>hs.append (by simp[AB.sc]);refine yeK (Inv:=λq t6 t7 H'=>∃k:Nat,k≤a+b+1∧a+b+1-k=q∧t7=I6 k∧t6=.sl (ww (vV a b k)) (.own H.length)∧H'=H++[.perm 46 3 k]) (a+b+1) ?_ ?_
 ·intro _;exact⟨0,by omega,rfl,rfl,rfl,rfl⟩
 ·rintro q t6 t7 H' ⟨k,hk,rfl,rfl,rfl,rfl⟩ fG fz fM Kb fB;have wab:IntKind.i64.wrap ((a:Int)+(b:Int))=((a+b:Nat):Int):=by rw[um (by omega) (by omega)];omega
  by_cases fy:k≤a+b
  ·have fK:(k:Int)≤(a:Int)+(b:Int):=by omega
   have gQ:(vV a b k).length=k:=by simp[vV]
   have fC:ww (vV a b k)++[ue (pcf a b k:Int)]=ww (vV a b (k+1)):=by simp[ww,vV,c5]
   have hj:∀(z:Nat) (J:or),z=pcf a b k→KS (I6 a) (I6 b) (.sl (ww (vV a b k)) (.own H.length)) (I6 k) (.ptr (H.length+1) 0) (H++([.perm 46 3 k,.cells (ue (z:Int))]++J)) (Out H.length K) Kb:=by intro z J hz;subst hz;simp[KS,uk,uI,plain,AV.pd,xH,wi k (by omega),zy];simp only[uj,uD,uy];simp[gQ,au];refine⟨⟨by omega,by omega⟩,?_⟩;rw[fC];exact fB _ _ ⟨a+b+1-(k+1),by omega,Back.at (J:=.cells (ue (pcf a b k:Int))::J) (H2:=H++[.perm 46 3 (k+1)]) (by simp) (by simp) (hsc _) (by simp[KQ,ux,AV.sc,AV.ZH,AV.ZI,AV.ZJ]) ⟨_,_,rfl,k+1,by omega,rfl,rfl,rfl,rfl⟩⟩
   simp[Rn,wab,fK,aa];refine AS 0 (by omega) _ _ ?_;have nS:(if (b:Int)>(a:Int) then (b:Int) else (a:Int))=((max a b:Nat):Int):=by split <;> omega
   have oE:(if a<b then (b:Int) else (a:Int))=((max a b:Nat):Int):=by split <;> omega
   simp[aa,zy,oE];by_cases hm:max a b≤k
   ·obtain⟨d1,d2,d3⟩:=zNc a (by omega) b (by omega) k (by omega) ⟨fy,hm⟩;have hm':((max a b:Nat):Int)≤(k:Int):=by omega
    have w1:IntKind.i64.wrap ((k:Int)-(a:Int))=((k-a:Nat):Int):=by rw[um (by omega) (by omega)];omega
    have w2:IntKind.i64.wrap ((k:Int)-(b:Int))=((k-b:Nat):Int):=by rw[um (by omega) (by omega)];omega
    have w3:IntKind.i64.wrap ((a:Int)+(b:Int)-(k:Int))=((a+b-k:Nat):Int):=by rw[um (by omega) (by omega)];omega
    have f1:=FL (k-a) (by omega);have f2:=FL (k-b) (by omega);have f3:=FL (a+b-k) (by omega);have kC:∀x y:Nat,x*y<1000000000→Sm ((x*y:Nat):Int):=λx y h=>xf (eu h (by decide));have lu:∀i:Nat,fct i≤479001600→Sm (fct i:Int):=λi h=>xf (aI h (by decide));have p3:0<fct (a+b-k):=by
     rcases Nat.eq_zero_or_pos (fct (a+b-k)) with h|h
     ·rw[h]at d3;omega
     ·exact h
    have d4:fct (k-a)*fct (k-b)<1000000000:=aI (Nat.le_mul_of_pos_right _ p3) d2;simp[hm,w1,w2,w3];refine MB (k-a) (by omega) _ _ ?_;refine MB (k-b) (by omega) _ _ ?_;refine FH _ _ (lu _ f1) (lu _ f2) _ _ ?_;refine MB (a+b-k) (by omega) _ _ ?_;rw[←Int.natCast_mul];refine FH _ _ (kC _ _ d4) (lu _ f3) _ _ ?_;rw[←Int.natCast_mul];generalize hd:fct (k-a)*fct (k-b)*fct (a+b-k)=d at d1 d2 d3 ⊢;simp[aa,zy];refine ur (.agg (ue (fct k:Int))) (λJ=>MB k (by omega) _ _ ⟨rfl,rfl⟩) ?_;have f4:=FL k (by omega);refine ur (.tup [.agg (ue (pcf a b k:Int)),.bool true]) (λJ=>by
     rw[d1]at f4 ⊢;exact zNL (pcf a b k) d (aI f4 (by decide)) d3 d2 _ _ ⟨rfl,rfl⟩) ?_
    simp[aa,zy];exact hj (pcf a b k) [.cells (ue (d:Int))] rfl
   ·have hz:pcf a b k=0:=by simp[pcf];omega
    have hm':¬(((max a b:Nat):Int)≤(k:Int)):=by omega
    simp[hm];exact hj 0 [] hz.symm
  ·obtain rfl:k=a+b+1:=by omega
   have fK:¬((a:Int)+(b:Int)+1≤(a:Int)+(b:Int)):=by omega
   simp[Rn,wab,fK];exact⟨⟨rfl,rfl⟩,Out.tup (bs:=[.sl (ww (vV a b (a+b+1))) .none,.bool true]) hs hK ⟨slV,uJ rfl rfl,trivial⟩⟩
def hpL(H:or)(t:VT)(i j:IT)(s:List (IT×Nat)):or:=H++[.cells t.cs,.cells i.cs,.cells j.cs,.vec 55 5 s.length (tms s)]
def Tj{H:or}(hs:HSc H){t:VT}{i j:IT}{s:List (IT×Nat)}:HSc (hpL H t i j s):=
 hs.append (by
  obtain⟨kt,nt,tk⟩:=t;obtain⟨ni,li⟩:=i;obtain⟨nj,lj⟩:=j;simp only[AB.sc,List.all_cons,List.all_nil,zDX];simp[AV.ZH,AV.ZI,VT.cs,IT.cs])
def Tl{H:or}{t:VT}{i j:IT}{s s':List (IT×Nat)}{J:or}:(hpL H t i j s++J).set (H.length+3) (.vec 55 5 s'.length (tms s'))=hpL H t i j s'++J:=by simp[hpL,List.set_append]
def Tm{H:or}{t:VT}{i j:IT}{s:List (IT×Nat)}{J:or}:(hpL H t i j s++J)[H.length+3]?=some (.vec 55 5 s.length (tms s)):=by simp[hpL,aR]
@[simp] theorem yiu{H:or}{t:VT}{i j:IT}{s:List (IT×Nat)}:(hpL H t i j s).length=H.length+4:=by simp[hpL]
def zMz{eq:List Dat}(hk:vj eq)(h8:∀D∈eq,D.cons.length≤8)(hD:vM eq=true){f:Nat}(hQ:My eq f)(hM:Mz eq f):Te eq (f+1):=by
 intro t i j hf ky jn hi hj h6 hn H K hK;obtain⟨k,tn,tks⟩:=t;obtain⟨n,l⟩:=i;obtain⟨n',m⟩:=j;simp only[IT.ZO]at hf hn;refine ge.out (ybx λhs=>?_);have emp:Gd ([]:List (IT×Nat)):=Gd.nil;have ip:(VT.mk k tn tks).cs=[I6 k,I6 tn,.sl (VT.css tks) .none]:=rfl;have kL:(IT.mk n l).cs=[I6 n,.sl (IT.css l) .none]:=rfl;have lJ:(IT.mk n' m).cs=[I6 n',.sl (IT.css m) .none]:=rfl;have mr:(H++[AB.cells (VT.mk k tn tks).cs,.cells (IT.mk n l).cs,.cells (IT.mk n' m).cs]).length=H.length+3:=by simp
 have gz:∀(s:List (IT×Nat)) (J:or),s=we eq (f+1) (.mk k tn tks) (.mk n l) (.mk n' m)→Out H.length K (.ov (H.length+3) s.length) (hpL H (.mk k tn tks) (.mk n l) (.mk n' m) s++J):=by intro s J gK;subst gK;have:=S9 (H:=H) (J:=[.cells (VT.mk k tn tks).cs,.cells (IT.mk n l).cs,.cells (IT.mk n' m).cs,.vec 55 5 (we eq (f+1) (.mk k tn tks) (.mk n l) (.mk n' m)).length (tms (we eq (f+1) (.mk k tn tks) (.mk n l) (.mk n' m)))]++J) (K:=K) (we eq (f+1) (.mk k tn tks) (.mk n l) (.mk n' m)) (H.length+3) (by omega) (by simp[aR]) hs hK;simpa[hpL]using this
 by_cases k6:k=6
 ·subst k6;have ev:∀(n:Int) (l:List IT),0≤rdV eq (.mk n l) (.mk 6 tn tks)→n=0∧l.length=tks.length∧rdV eq (.mk n l) (.mk 6 tn tks)=rdA eq l tks 0:=λn l h=>by
   rw[rdV]at h ⊢;simp only[VT.kind,VT.kids,br]at h ⊢;by_cases hn:n=0
   ·by_cases hl:tks.length=l.length
    ·simp[hn,hl]
    ·simp[hn,hl]at h
   ·simp[hn]at h
  obtain⟨i1,i2,i3⟩:=ev n l hi;obtain⟨j1,j2,j3⟩:=ev n' m hj;rw[i3]at hi h6;rw[j3]at hj h6;have jV:=VT.ZQ tks;have gu:∀(ts:List VT) (x:VT),x∈ts→x.ZO≤VT.ZA ts:=by
   intro ts;induction ts with
   |nil=>intro x hx;simp at hx
   |cons t ts ih=>
    intro x hx;simp only[VT.ZA];rcases aT.1 hx with rfl|hx
    ·omega
    ·have:=ih x hx;omega
  have pW:∀x∈tks,x.ZO≤1000∧uW eq 0 x=true:=λx hx=>by have:=gu tks x hx;simp only[VT.ZO]at ky;exact⟨by omega,Si jn x hx⟩
  simp only[VT.ZO]at ky;obtain⟨R,hR⟩:∃R,R=wU eq f tks l m:=⟨_,rfl⟩;obtain⟨R1,R2⟩:=(xV h8 f).2.1 tks l m (by omega) i2 j2 hi hj h6;rw[←hR]at R1 R2
  replace R2:=aC R2 (xW h6)
  have Rl:=Tc λp hp=>(R1 p hp).1;have jx:we eq (f+1) (.mk 6 tn tks) (.mk n l) (.mk n' m)=uu [] (R.map λr=>(.mk 0 r.1,r.2)):=by rw[we,hR];simp[VT.kind,VT.kids,uz]
  have pU:∀q≤R.length,Gd (uu [] ((R.take q).map λr=>(IT.mk 0 r.1,r.2))):=by
   intro q;induction q with
   |zero=>intro _;exact Gd.nil
   |succ q ih=>intro hq;rw[yR _ _ (show q<R.length by omega)];have:=(R1 R[q] (ae (by omega))).2.2.2.2.2.2;exact(ih (by omega)).add (by simp only[IT.ZO];omega) _
  simp[Fi,ip,kL,lJ,aa];refine hQ tks l m (by omega) i2 j2 (by omega) pW hi hj h6 (by omega) _ _ ?_;rw[←hR];simp;rw[←ip,←kL,←lJ];unfold Kv;refine tM.vec 9 55 5 rfl ?_;rw[mr,aB];show Kv (.ov (H.length+3) (uu [] ((R.take 0).map λr=>(IT.mk 0 r.1,r.2))).length) _ _ _ (hpL H (.mk 6 tn tks) (.mk n l) (.mk n' m) (uu [] ((R.take 0).map λr=>(IT.mk 0 r.1,r.2)))) _;refine ybt (Inv:=λq t9 t35 H'=>∃q':Nat,q'≤R.length∧R.length-q'=q∧t35=I6 q'∧t9=.ov (H.length+3) (uu [] ((R.take q').map λr=>(IT.mk 0 r.1,r.2))).length∧H'=hpL H (.mk 6 tn tks) (.mk n l) (.mk n' m) (uu [] ((R.take q').map λr=>(IT.mk 0 r.1,r.2)))) R.length ?_ ?_
  ·intro _;exact⟨0,by omega,rfl,rfl,rfl,rfl⟩
  ·rintro q t9 t35 H' ⟨q',hq,rfl,rfl,rfl,rfl⟩ pX nB pY Kb6 kM;by_cases jw:q'<R.length
   ·have hr:=R1 R[q'] (ae jw);have rv:=Tb (ae jw);have fC:=yR (s:=[]) (λr:List IT × Nat=>(IT.mk 0 r.1,r.2)) R jw;have rp:uB (λ_=>1) (uu [] ((R.take q').map λr=>(IT.mk 0 r.1,r.2)))≤729:=by rw[Ae,x9,aX,Dv];exact aC (Ti (λ_=>1) R q') R2
    have hG:=pU q' (by omega);generalize nX:uu [] ((R.take q').map λr=>(IT.mk 0 r.1,r.2))=s at *;have tu:([I0,.sl (IT.css R[q'].1) .none]:List AV)=(IT.mk 0 R[q'].1).cs:=rfl;simp[Q3,jw,ug,uv,wi q' (by omega),AV.ZP];rw[tu];have kP:=hr.2.2.2.2.2.2;refine B5 hG (by omega) (IT.mk 0 R[q'].1) (by simp only[IT.ZO];omega) R[q'].2 (by omega) (H.length+3) _ _ Tm ?_;rw[Tl];exact kM _ _ ⟨R.length-(q'+1),by omega,Back.at (J:=[.cells (.sl (IT.css R[q'].1) .none::ue (R[q'].2:Int))]) (H2:=hpL H (.mk 6 tn tks) (.mk n l) (.mk n' m) (vU s (IT.mk 0 R[q'].1) R[q'].2)) rfl (by simp) (Tj hs) (by simp[Ku,ux,AV.sc,AV.ZH,AV.ZI,AV.ZJ]) ⟨_,_,rfl,q'+1,by omega,rfl,rfl,by rw[fC],by rw[fC]⟩⟩
   ·obtain rfl:q'=R.length:=by omega
    rw[az];have:=gz (uu [] (R.map λr=>(IT.mk 0 r.1,r.2))) [] jx.symm;simp[Q3,Bx,Kw];simpa using this
 ·by_cases k7:k=7
  ·subst k7;have ev:∀(n:Int) (l:List IT),0≤rdV eq (.mk n l) (.mk 7 tn tks)→0≤n∧n≤6∧rdV eq (.mk n l) (.mk 7 tn tks)=n:=λn l h=>by
    rw[rdV]at h ⊢;simp only[VT.kind,k6,ba,br]at h ⊢;by_cases hc:0≤n∧n≤6∧l.length=0
    ·rw[aN hc];exact⟨hc.1,hc.2.1,rfl⟩
    ·rw[aG hc]at h;omega
   obtain⟨i1,i2,i3⟩:=ev n l hi;obtain⟨j1,j2,j3⟩:=ev n' m hj;rw[i3]at hi h6;rw[j3]at hj h6;obtain⟨a,rfl⟩:∃a:Nat,n=a:=⟨n.toNat,by omega⟩;obtain⟨b,rfl⟩:∃b:Nat,n'=b:=⟨n'.toNat,by omega⟩;have jx:we eq (f+1) (.mk 7 tn tks) (.mk a l) (.mk b m)=uu [] (u9 a b):=by rw[we];simp[VT.kind,uT]
   simp[Fi,ip,kL,lJ,aa];refine yeO a b (by omega) (by omega) _ _ ?_;simp;rw[←ip,←kL,←lJ];unfold Ky;refine tM.vec 9 55 5 rfl ?_;rw[mr,aB];have gQ:(vV a b (a+b+1)).length=a+b+1:=by simp[vV]
   have pU:∀q≤a+b+1,Gd (uu [] ((u9 a b).take q)):=by
    intro q;induction q with
    |zero=>intro _;exact Gd.nil
    |succ q ih=>
     intro hq;have oF:q<(u9 a b).length:=by simp[u9];omega
     have:=yR (s:=[]) (λr:IT×Nat=>r) (u9 a b) oF;simp only[eY]at this;rw[this];exact(ih (by omega)).add (by simp[u9,IT.ZO,IT.ZA]) _
   have tx:uB (λ_=>1) (u9 a b)≤729:=by rw[u9,Dv];have:=SY a (by omega) b (by omega) (by omega);unfold Mn at this;refine aC (by simpa using this) (aC (bi (by omega) (show a+b≤6 by omega)) (by decide))
   show Ky (.ov (H.length+3) (uu [] ((u9 a b).take 0)).length) _ _ _ (hpL H (.mk 7 tn tks) (.mk a l) (.mk b m) (uu [] ((u9 a b).take 0))) _;refine ybr (Inv:=λq t9 t59 H'=>∃q':Nat,q'≤a+b+1∧a+b+1-q'=q∧t59=I6 q'∧t9=.ov (H.length+3) (uu [] ((u9 a b).take q')).length∧H'=hpL H (.mk 7 tn tks) (.mk a l) (.mk b m) (uu [] ((u9 a b).take q'))) (a+b+1) ?_ ?_
   ·intro _;exact⟨0,by omega,rfl,rfl,rfl,rfl⟩
   ·rintro q t9 t59 H' ⟨q',hq,rfl,rfl,rfl,rfl⟩ hsc13 hlen13 hsF13 Kb13 jZ;have ly:(u9 a b).length=a+b+1:=by simp[u9]
    by_cases jw:q'<a+b+1
    ·have oF:q'<(u9 a b).length:=by omega
     have fC:=yR (s:=[]) (λr:IT×Nat=>r) (u9 a b) oF;simp only[eY]at fC;have rp:uB (λ_=>1) (uu [] ((u9 a b).take q'))≤729:=by rw[Ae,x9,aX];exact aC (FF _ _ _) tx
     have hG:=pU q' (by omega);have he:(u9 a b)[q']=(.mk (q':Int) [],pcf a b q'):=by simp[u9]
     have hc:=Ab (ae oF);rw[he]at fC hc;generalize nX:uu [] ((u9 a b).take q')=s at *;have gW:(vV a b (a+b+1))[q']'(by omega)=pcf a b q':=by simp[vV]
     have pZ:(q':Int)<(a:Int)+(b:Int)+1:=by omega
     have oW:(ww (vV a b (a+b+1)))[q']?=some (ue (pcf a b q':Int)):=by simp[ww,vV,jw]
     simp[Q4,gQ,pZ,gW,oW,ug,uv,wi q' (by omega),AV.ZP];refine ge.wk (args':=[.ov (H.length+3) s.length,.agg (IT.mk (q':Int) []).cs,.agg (ue (pcf a b q':Int))]) ?_ ⟨.rfl',.agg ⟨.refl _,.ZG,trivial⟩,.rfl',trivial⟩;refine B5 hG (by omega) (IT.mk (q':Int) []) (by simp[IT.ZO,IT.ZA]) (pcf a b q') (by omega) (H.length+3) _ _ Tm ?_;rw[Tl];exact jZ _ _ ⟨a+b+1-(q'+1),by omega,Back.at (J:=[.cells (ue (pcf a b q':Int))]) (H2:=hpL H (.mk 7 tn tks) (.mk a l) (.mk b m) (vU s (.mk (q':Int) []) (pcf a b q'))) rfl (by simp) (Tj hs) (by simp[Kx,ux,AV.sc,AV.ZH,AV.ZI,AV.ZJ]) ⟨_,_,by simp only[gQ];rfl,q'+1,by omega,rfl,rfl,by rw[fC],by rw[fC]⟩⟩
    ·obtain rfl:q'=a+b+1:=by omega
     rw[am (by omega)];have:=gz (uu [] (u9 a b)) [] jx.symm;simp[Q4,Bx,Kw,gQ];simpa using this
  ·by_cases k5:k=5
   ·subst k5;have ev:∀(n:Int) (l:List IT),0≤rdV eq (.mk n l) (.mk 5 tn tks)→n=0∧l.length≤6∧rdV eq (.mk n l) (.mk 5 tn tks)=rdE eq l (.mk 5 tn tks) 0:=λn l h=>by
     rw[Fz]at h ⊢;by_cases hc:n=0∧l.length≤6
     ·rw[aN hc];exact⟨hc.1,hc.2,rfl⟩
     ·rw[aG hc]at h;omega
    obtain⟨i1,i2,i3⟩:=ev n l hi;obtain⟨j1,j2,j3⟩:=ev n' m hj;rw[i3]at hi h6;rw[j3]at hj h6;obtain⟨R,hR⟩:∃R,R=uM eq f (.mk 5 tn tks) l m:=⟨_,rfl⟩;obtain⟨R1,R2⟩:=(xV h8 f).2.2 (.mk 5 tn tks) l m (by omega) hi hj h6;rw[←hR]at R1 R2
    replace R2:=aC R2 (xW h6)
    have Rl:=BV λp hp=>(R1 p hp).1;have jx:we eq (f+1) (.mk 5 tn tks) (.mk n l) (.mk n' m)=uu [] R:=by rw[we,hR];simp[VT.kind,uz]
    simp[Fi,ip,kL,lJ,aa];rw[←ip];refine hM (.mk 5 tn tks) l m (by omega) ky jn rfl hi hj h6 (by omega) _ _ ?_;rw[←hR];simp;rw[←kL,←lJ];have pU:∀q≤R.length,Gd (uu [] (R.take q)):=by
     intro q;induction q with
     |zero=>intro _;exact Gd.nil
     |succ q ih=>intro hq;have:=yR (s:=[]) (λr:IT×Nat=>r) R (show q<R.length by omega);simp only[eY]at this;rw[this];have h1:=(R1 R[q] (ae (by omega))).2.2.2.2.2.2;have h2:=FK R[q].1;exact(ih (by omega)).add (by omega) _
    unfold KA;refine tM.vec 9 55 5 rfl ?_;rw[mr,aB];show KA (.ov (H.length+3) (uu [] (R.take 0)).length) _ _ _ (hpL H (.mk 5 tn tks) (.mk n l) (.mk n' m) (uu [] (R.take 0))) _;refine ybs (Inv:=λq t9 t80 H'=>∃q':Nat,q'≤R.length∧R.length-q'=q∧t80=I6 q'∧t9=.ov (H.length+3) (uu [] (R.take q')).length∧H'=hpL H (.mk 5 tn tks) (.mk n l) (.mk n' m) (uu [] (R.take q'))) R.length ?_ ?_
    ·intro _;exact⟨0,by omega,rfl,rfl,rfl,rfl⟩
    ·rintro q t9 t80 H' ⟨q',hq,rfl,rfl,rfl,rfl⟩ hsc19 hlen19 hsF19 Kb19 hKb19;by_cases jw:q'<R.length
     ·have hr:=R1 R[q'] (ae jw);have rv:=Ab (ae jw);have fC:=yR (s:=[]) (λr:IT × Nat=>r) R jw;simp only[eY]at fC;have rp:uB (λ_=>1) (uu [] (R.take q'))≤729:=by rw[Ae,x9,aX];exact aC (FF _ _ _) R2
      have hG:=pU q' (by omega);generalize nX:uu [] (R.take q')=s at *;simp[Q5,jw,B6,Af,y5,wi q' (by omega)];refine⟨AT _,?_⟩;have kP:=hr.2.2.2.2.2.2;have jF:=FK R[q'].1;refine B5 hG (by omega) R[q'].1 (by omega) R[q'].2 (by omega) (H.length+3) _ _ Tm ?_;rw[Tl];exact hKb19 _ _ ⟨R.length-(q'+1),by omega,Back.at (J:=[.cells (tmC R[q'])]) (H2:=hpL H (.mk 5 tn tks) (.mk n l) (.mk n' m) (vU s R[q'].1 R[q'].2)) rfl (by simp) (Tj hs) (by simp[Kz,ux,AV.sc,AV.ZH,AV.ZI,AV.ZJ]) ⟨_,_,rfl,q'+1,by omega,rfl,rfl,by rw[fC],by rw[fC]⟩⟩
     ·obtain rfl:q'=R.length:=by omega
      rw[az];have:=gz (uu [] R) [] jx.symm;simp[Q5,Bx,Kw];simpa using this
   ·have jx:we eq (f+1) (.mk k tn tks) (.mk n l) (.mk n' m)=[(.mk 0 [],1)]:=by rw[we];simp[VT.kind,k6,k7,k5]
    rw[jx]at hK;have b6:(k == 6)=false:=by simpa using k6
    have b7:(k == 7)=false:=by simpa using k7
    have b5:(k == 5)=false:=by simpa using k5
    simp[Fi,ip,kL,lJ,b6,b7,b5,ug,uv,AV.ZP,aa];refine AS 1 (by omega) _ _ ?_;refine ge.wk (args':=[.ZG,.agg (IT.mk 0 []).cs,.agg (ue 1)]) ?_ ⟨.rfl',.agg ⟨.refl _,.ZG,trivial⟩,.rfl',trivial⟩;exact Tf (.mk 0 []) (by simp[IT.ZO,IT.ZA]) H [_,_,_] hs K hK
theorem zBV{eq:List Dat}(hk:vj eq)(h8:∀ D∈eq,D.cons.length≤8)(hD:vM eq=true):∀ f,Te eq f∧My eq f∧Mz eq f
 |0=>⟨λt i j h=>by have:=i.ZB;omega,λts l m h=>by omega,λt l m h=>by omega⟩
 |f+1=>by obtain⟨h1,h2,h3⟩:=zBV hk h8 hD f;exact⟨zMz hk h8 hD h2 h3,zMA h8 h1,zMv hk h8 hD h2 h3⟩
def ye6{eq:List Dat}(hk:vj eq)(h8:∀D∈eq,D.cons.length≤8)(t:VT)(ht:t.ZO≤1000)(v:IT)(hv:v.ZO≤900)(H:or)(K:Kt)(hK:K (I6 (rdV eq v t)) H):ge tP 91 [.sl (eq.map Dat.cs) .none,.agg t.cs,.agg v.cs] H K:=by refine ge.out (ye5 λhs=>?_);obtain⟨x,y,z,fD,hx,hy,hz⟩:=ve t;obtain⟨x2,y2,gd,gf,lx⟩:=yb v;simp[zJE,fD,gd,aa];rw[←fD,←gd];refine zIM hk h8 _ v (af _) hv t ht _ _ ?_;exact Out.int rfl (af _) hs hK
def MC(i:IT):IT.same i i=true:=(IT.cmp_zero i i).1 (S5 i)
mutual
def wj:IT→List UInt8
 |.mk n ks=>UInt8.ofNat (48+n.toNat)::(if ks.length=0 then [] else 40::(vF ks++[41]))
def vF:List IT→List UInt8
 |[]=>[]
 |k::ks=>wj k++44::vF ks
end
mutual
def Dig:IT→Prop
 |.mk n ks=>0≤n∧n≤9∧xX ks
def xX:List IT→Prop
 |[]=>True
 |k::ks=>Dig k∧xX ks
end
theorem zzr:∀ {ks:List IT},xX ks→∀ k∈ks,Dig k
 |k::ks,h,x,hx=>by
  rw[xX]at h;rcases aT.1 hx with rfl|hx
  ·exact h.1
  ·exact zzr h.2 x hx
theorem Tn:∀ {ks:List IT},(∀ k∈ks,Dig k)→xX ks
 |[],_=>by rw[xX];trivial
 |k::ks,h=>by rw[xX];exact⟨h k bu,Tn λx hx=>h x (be _ hx)⟩
def zLB{a b:Int}(ha:0≤a)(ha9:a≤9)(hb:0≤b)(hb9:b≤9)(h:UInt8.ofNat (48+a.toNat)=UInt8.ofNat (48+b.toNat)):a=b:=by have:=congrArg UInt8.toNat h;rw[dK (by show _<256;omega),dK (by show _<256;omega)]at this;omega
def zAO{a:Int}(ha:0≤a)(ha9:a≤9):UInt8.ofNat (48+a.toNat)≠41:=by intro h;have:=congrArg UInt8.toNat h;rw[dK (by show _<256;omega)]at this;simp at this;omega
def To(k:IT)(s:List UInt8):∃r,wj k++s=UInt8.ofNat (48+(uT k).toNat)::r:=by obtain⟨n,ks⟩:=k;rw[wj];exact⟨_,rfl⟩
def zzs{k:IT}(h:Dig k):0≤uT k∧uT k≤9:=by obtain⟨n,ks⟩:=k;rw[Dig]at h;exact⟨h.1,h.2.1⟩
mutual
theorem zEz:∀ (i j:IT) (s s':List UInt8),Dig i→Dig j→s.head?≠some 40→s'.head?≠some 40→wj i++s=wj j++s'→i=j∧s=s'
 |.mk n ks,.mk m ls,s,s',hi,hj,h1,h2,h=>by
  rw[Dig]at hi hj;rw[wj,wj,List.cons_append,List.cons_append,dM]at h;obtain rfl:=zLB hi.1 hi.2.1 hj.1 hj.2.1 h.1;have h':=h.2;by_cases hk:ks.length=0
  ·obtain rfl:=aO hk;by_cases hl:ls.length=0
   ·obtain rfl:=aO hl;simp at h';exact⟨rfl,h'⟩
   ·rw[aN (show ([]:List IT).length=0 from rfl),aG hl]at h';rw[List.nil_append]at h';rw[h']at h1;simp at h1
  ·by_cases hl:ls.length=0
   ·obtain rfl:=aO hl;rw[aG hk,aN (show ([]:List IT).length=0 from rfl),List.nil_append]at h';rw[←h']at h2;simp at h2
   ·rw[aG hk,aG hl,List.cons_append,List.cons_append,dM]at h';have h3:=h'.2;simp only[aB,List.cons_append,List.nil_append]at h3;obtain⟨e1,e2⟩:=zEx ks ls s s' hi.2.2 hj.2.2 h3;exact⟨by rw[e1],e2⟩
theorem zEx:∀ (ks ls:List IT) (s s':List UInt8),xX ks→xX ls→vF ks++41::s=vF ls++41::s'→ks=ls∧s=s'
 |[],[],s,s',_,_,h=>by rw[vF,List.nil_append,List.nil_append]at h;simp at h;exact⟨rfl,h⟩
 |[],l::ls,s,s',_,hl,h=>by rw[xX]at hl;rw[vF,vF,aB,List.nil_append,List.cons_append]at h;obtain⟨r,hr⟩:=To l (44::(vF ls++41::s'));rw[hr]at h;have h0:=(fe h).1;have:=zzs hl.1;exact absurd h0.symm (zAO this.1 this.2)
 |k::ks,[],s,s',hk,_,h=>by rw[xX]at hk;rw[vF,vF,aB,List.nil_append,List.cons_append]at h;obtain⟨r,hr⟩:=To k (44::(vF ks++41::s));rw[hr]at h;have h0:=(fe h).1;have:=zzs hk.1;exact absurd h0 (zAO this.1 this.2)
 |k::ks,l::ls,s,s',hk,hl,h=>by rw[xX]at hk hl;rw[vF,vF,aB,aB,List.cons_append,List.cons_append]at h;obtain⟨e1,e2⟩:=zEz k l (44::(vF ks++41::s)) (44::(vF ls++41::s')) hk.1 hl.1 (by simp) (by simp) h;rw[dM]at e2;obtain⟨e3,e4⟩:=zEx ks ls s s' hk.2 hl.2 e2.2;exact⟨by rw[e1,e3],e4⟩
end
def zEA{i j:IT}(hi:Dig i)(hj:Dig j)(h:wj i=wj j):i=j:=
 (zEz i j [] [] hi hj (by simp) (by simp) (by rw[h])).1
def Tp{eq:List Dat}(h8:∀D∈eq,D.cons.length≤8):∀(m:Nat) (i:IT),i.ZO≤m→∀t:VT,0≤rdV eq i t→Dig i:=by
 intro m;induction m with
 |zero=>intro i h;have:=i.ZB;omega
 |succ m ih=>
  have hA:∀(l:List IT) (ts:List VT),IT.ZA l≤m→l.length=ts.length→0≤rdA eq l ts 0→xX l:=by intro l ts hm hl h;refine Tn λk hk=>?_;obtain⟨j,hj,rfl⟩:=bv hk;have:=(Du (eq:=eq) l ts 0 (by omega) hl h).1 j hj (by omega);exact ih l[j] (by have:=Aa hj;omega) ts[j] this
  intro i hm t h;obtain⟨n,ks⟩:=i;obtain⟨k,tn,tks⟩:=t;simp only[IT.ZO]at hm;rw[Dig];by_cases k6:k=6
  ·subst k6;rw[rdV]at h;simp only[VT.kind,VT.kids,br]at h;by_cases hn:n=0
   ·by_cases hl:tks.length=ks.length
    ·simp[hn,hl]at h;exact⟨by omega,by omega,hA ks tks (by omega) hl.symm h⟩
    ·simp[hn,hl]at h
   ·simp[hn]at h
  ·by_cases k7:k=7
   ·subst k7;rw[rdV]at h;simp only[VT.kind,k6,ba,br]at h;by_cases hc:0≤n∧n≤6∧ks.length=0
    ·obtain rfl:=aO hc.2.2;exact⟨hc.1,by omega,by rw[xX];trivial⟩
    ·rw[aG hc]at h;omega
   ·by_cases k5:k=5
    ·subst k5;rw[Fz]at h;by_cases hc:n=0∧ks.length≤6
     ·rw[aN hc]at h;refine⟨by omega,by omega,Tn λx hx=>?_⟩;obtain⟨j,hj,rfl⟩:=bv hx;have hn:=Aa hj;obtain⟨c,eks,he⟩:∃ c eks,ks[j]=.mk c eks:=⟨uT ks[j],uz ks[j],by cases ks[j];rfl⟩;obtain⟨ps,e1,e2,e3⟩:=zNE h8 h hj he;have hrE:0≤rdE eq [ks[j]] (.mk 5 tn tks) 0:=by have h0:=h;rw[SU ks]at h0;exact (Mh h8 (.mk 5 tn tks) (ks.map λx=>[x]) 0 (by omega) (by omega) h0).1 [ks[j]] (aF.2 ⟨ks[j],ae hj,rfl⟩)
      rw[he]at hrE;obtain⟨c0,c8,_⟩:=BW hrE;rw[he,Dig];rw[he]at hn;simp only[IT.ZO]at hn;exact⟨c0,by omega,hA eks ps (by omega) e2.symm e3.1⟩
     ·rw[aG hc]at h;omega
    ·rw[rdV]at h;simp only[VT.kind,k6,k7,k5,ba]at h;by_cases hc:n=0∧ks.length=0
     ·obtain rfl:=aO hc.2;exact⟨by omega,by omega,by rw[xX];trivial⟩
     ·rw[aG hc]at h;omega
mutual
theorem Tq:∀ i:IT,(wj i).length+1≤4*i.ZO
 |.mk n ks=>by
  have:=MD ks;rw[wj];simp only[IT.ZO];split
  ·simp;omega
  ·rename_i h;have hl:=IT.ZQ ks;simp;omega
theorem MD:∀ ks:List IT,(vF ks).length≤4*IT.ZA ks
 |[]=>by simp[vF]
 |k::ks=>by have:=Tq k;have:=MD ks;rw[vF];simp only[IT.ZA,aH,List.length_cons];omega
end
section
open Go.RowKit
set_option maxHeartbeats 1000000 in
set_option maxRecDepth 100000 in
def zLn(b:Nat)(w:World)(h0:w.cell? ⟨b,0,none⟩=some (.pointer (some ⟨b,0,none⟩))):
  Calls tP 169 #[.pointer (some ⟨b,0,none⟩)] w λe w'=>e=.returned (.tuple #[])∧w'=w:=by
 obtain⟨j,hj⟩:∃j,tP.info? 112=some j:=dI.1 (by kernel_rfl)
 go_enter Tryz.func169,Tryz.ntmps169
 go_wp2
 rw[Lib.run_neq_ptr_same w _ Tryz.underlying109 hj]
 go_wp2
 go_end0
 exact⟨rfl,rfl⟩
set_option maxHeartbeats 1000000 in
set_option maxRecDepth 100000 in
def zLm(b:Nat)(w:World)(h0:w.cell? ⟨b,0,none⟩=some (.pointer none))(fY:w.shape? b=some (112,2))(hfz:w.frozen? ⟨b,0,none⟩=false):
  Calls tP 169 #[.pointer (some ⟨b,0,none⟩)] w λe w'=>e=.returned (.tuple #[])∧w'=w.setCell ⟨b,0,none⟩ (.pointer (some ⟨b,0,none⟩)):=by
 obtain⟨j,hj⟩:∃j,tP.info? 112=some j:=dI.1 (by kernel_rfl);have hjs:j.size=2:=by
  have:(tP.info? 112).map (·.size)=some 2:=by kernel_rfl
  rw[hj]at this;simpa using this
 go_enter Tryz.func169,Tryz.ntmps169
 go_wp2
 rw[Lib.run_to_unsafe w ⟨b,0,none⟩ Tryz.underlying109 Tryz.underlying256 hj (by rw[hjs];decide) fY (Nat.zero_lt_succ 1)];simp only[Result.andThen];rw[Oper.upon_value]
 go_wp2
 rw[run_callFunc_extern Tryz.func214 (by kernel_rfl) (by kernel_rfl) (by kernel_rfl) (e:=Extern.AbiNoEscape.same) (by kernel_rfl)];rw[Lib.run_noEscape];simp only[Result.andThen];rw[Oper.upon_value]
 go_wp2
 rw[Lib.run_from_unsafe w ⟨b,0,none⟩ Tryz.underlying256 Tryz.underlying109 hj fY (by kernel_rfl)];simp only[Result.andThen];rw[Oper.upon_value]
 go_wp2
 go_end0
 exact⟨rfl,rfl⟩
set_option maxHeartbeats 2000000 in
set_option maxRecDepth 100000 in
def zP2(b:Nat)(s:ByteArray)(v v':Value)(w w1 w2:World)(iD:Calls tP 169 #[.pointer (some ⟨b,0,none⟩)] w λe w'=>e=.returned (.tuple #[])∧w'=w1)(gJ:w1.heap[b]?=some (.cells #[.pointer (some ⟨b,0,none⟩),v] 112 (0,0)))(hr:∀ ty,(Builtin.append_ #[110,9] ty #[v,.string s]).run tP w1=.ok v' w2)(gF:w2.heap[b]?=some (.cells #[.pointer (some ⟨b,0,none⟩),v] 112 (0,0)))(gU:∃ ao n cap,v'=.slice ao n cap):
  Calls tP 126 #[.pointer (some ⟨b,0,none⟩),.string s] w λe w'=>e=.returned (.tuple #[.int .i64 s.size,.nilIface])∧w'=w2.setCell ⟨b,1,none⟩ v':=by
 obtain⟨ao,n',cap,rfl⟩:=gU;have c1:w1.cell? ⟨b,1,none⟩=some v:=by rw[Lib.cell_of_heap gJ];rfl
 have d1:w2.cell? ⟨b,1,none⟩=some v:=by rw[Lib.cell_of_heap gF];rfl
 have f1:w2.frozen? ⟨b,1,none⟩=false:=Lib.frozen_of_heap gF 1
 go_enter Tryz.func126,Tryz.ntmps126
 go_wp2_with (go_at_call 169;refine iD.mono ?_)
 rintro e w1' ⟨rfl,rfl⟩
 go_wp2_with (at_builtin;refine Go.Proofs.YtdmamdnkcefmmaaGreatDoor.wpList_append_str rfl _ _ 110 9 rfl rfl rfl hr ?_)
 go_wp2
 go_ret2
 exact⟨rfl,rfl⟩
def zAl:∃i,tP.info? 5=some i∧i.zero=some (.int .u8 0)∧i.size=1∧i.bytes=1:=by
 obtain⟨i,hi⟩:∃i,tP.info? 5=some i:=dI.1 (by kernel_rfl);have h1:(tP.info? 5).map (·.size)=some 1:=by kernel_rfl
 have h2:(tP.info? 5).map (·.bytes)=some 1:=by kernel_rfl
 have h3:(tP.info? 5).bind (·.zero)=some (.int .u8 0):=by kernel_rfl
 rw[hi]at h1 h2 h3;exact⟨i,hi,by simpa using h3,by simpa using h1,by simpa using h2⟩
def zAG{B:Nat}{w:World}{G:Gh}{H:or}(hH:tU B w G H){id b:Nat}{p c:AV}(hp:p=.nilp∨p=.ptr id 0)(h1:H[id]?=some (.bld 112 [p,c]))(hμ:G.μ[id]?=some (.blk b)):
  ∃ w1 v,Calls tP 169 #[.pointer (some ⟨b,0,none⟩)] w (λe w'=>e=.returned (.tuple #[])∧w'=w1)∧Ext B w G w1 G∧tU B w1 G (H.set id (.bld 112 [.ptr id 0,c])) ∧
   w1.heap[b]?=some (.cells #[.pointer (some ⟨b,0,none⟩),v] 112 (0,0))∧ARel w1 G v c:=by
 obtain⟨hB,hL,⟨vs⟩,hw,hc⟩:=hH.ok id _ _ h1 hμ
 match vs,hc with
 |[vp,v],⟨oM,hv,_⟩=>
  have hvp':vp=.pointer none∨vp=.pointer (some ⟨b,0,none⟩):=by
   rcases hp with rfl|rfl
   ·exact .inl oM
   ·obtain⟨b',k1,k2⟩:=oM;rw[hμ]at k1;cases k1;exact .inr k2
  have fC:=hH.storeB (cs':=[.ptr id 0,c]) (vs':=#[.pointer (some ⟨b,0,none⟩),v]) h1 hμ hw ⟨⟨b,hμ,rfl⟩,hv,trivial⟩;rcases hvp' with rfl|rfl
  ·refine⟨_,v,?_,fC.1,fC.2,setRow_heap w b _ _ _ _ hw,fC.1.arel hv⟩;refine(zLm b w (by rw[Lib.cell_of_heap hw];rfl) (by simp[World.shape?,hw]) (Lib.frozen_of_heap hw 0)).mono ?_;rintro e w' ⟨rfl,rfl⟩;refine⟨rfl,?_⟩;rw[setCell_eq_setRow w b 0 _ _ _ _ hw];rfl
  ·refine⟨w,v,zLn b w (by rw[Lib.cell_of_heap hw];rfl),Ext.refl _ _ _,?_,hw,hv⟩;refine hH.reCellB h1 λus hus=>?_
   match us,hus with
   |[u1,u2],⟨k1,k2⟩=>
    refine⟨?_,k2⟩;rcases hp with rfl|rfl
    ·cases oM
    ·exact k1
def zJ9{H:or}{id id2:Nat}{l s:List UInt8}{p:AV}(hp:p=.nilp∨p=.ptr id 0)(h1:H[id]?=some (.bld 112 [p,.sl (bcs l) (.own id2)]))(h2:H[id2]?=some (.perm 5 1 l.length))(hn:l.length+s.length≤140737488355328){K:AV→or→Prop}(hK:K (.tup [.int .i64 s.length,.nili]) ((H.set id2 (.perm 5 1 (l.length+s.length))).set id (.bld 112 [.ptr id 0,.sl (bcs (l++s)) (.own id2)]))):
  ge tP 126 [.ptr id 0,.str s] H K:=by
 intro B w G ⟨vs⟩ hH hv
 match vs,hv with
 |[v0,v1],⟨⟨b,hμ,jW⟩,iW,_⟩=>
  have iW:v1=.string ⟨s.toArray⟩:=iW;subst jW iW;obtain⟨w1,v,iD,mP,jK,qC,pk⟩:=zAG hH hp h1 hμ;obtain⟨hd,v',size,n',hμ2,fS,heq⟩:=pk;have fI:id≠id2:=by rintro rfl;rw[h1]at h2;cases h2
  have p5:(H.set id (.bld 112 [.ptr id 0,.sl (bcs l) (.own id2)]))[id2]?=some (.perm 5 1 l.length):=by rw[aj fI];exact h2
  have fH:=jK.ok id2 _ _ p5 hμ2;obtain⟨f9,gx,⟨xs,fF⟩,o7⟩:=fH;subst f9 gx;obtain⟨rfl,fX⟩:=heq (zT l);have p6:v.ownBlock≠some b:=λh=>fI (jK.dist id id2 _ _ b hμ hμ2 rfl h);have nC:b<w1.heap.size:=jK.lt id _ b hμ rfl;obtain⟨i,hi,hz,fP,gD⟩:=zAl;have nS:maxLen=9223372036854775807:=rfl;have key:∃ v' w2 G2,(∀ ty,(Builtin.append_ #[110,9] ty #[v,.string ⟨s.toArray⟩]).run tP w1=.ok v' w2)∧Ext B w1 G w2 G2 ∧
    tU B w2 G2 ((H.set id (.bld 112 [.ptr id 0,.sl (bcs l) (.own id2)])).set id2 (.perm 5 1 (l.length+s.length)))∧ARel w2 G2 v' (.sl (bcs (l++s)) (.own id2))∧w2.heap[b]?=w1.heap[b]?:=by
   by_cases hs:s=[]
   ·subst hs;refine⟨v,w1,G,λty=>zM6 Tryz.underlying110 Tryz.underlying9 hi fP fF _ rfl,Ext.refl _ _ _,?_,?_,rfl⟩
    ·have:(H.set id (.bld 112 [.ptr id 0,.sl (bcs l) (.own id2)])).set id2 (.perm 5 1 (l.length+([]:List UInt8).length))=H.set id (.bld 112 [.ptr id 0,.sl (bcs l) (.own id2)]):=by
      apply aU;intro k;by_cases hk:k=id2
      ·subst hk;rw[ak (ac.1 p5).1,p5];rfl
      ·rw[aj (λh=>hk h.symm)]
     rw[this];exact jK
    ·rw[aP];exact⟨hd,v,1,_,hμ2,fS,heq⟩
   ·have jb:0<s.length:=bV.2 hs;obtain⟨v',w2,fE,fV,fL⟩:=zM5 (P:=tP) (ty:=110) (B:=B) Tryz.underlying110 Tryz.underlying9 hi hz fP gD fF ⟨s.toArray⟩ (by simpa[ByteArray.size]using jb) (by simp[ByteArray.size];omega) (by simpa[ByteArray.size]using hn) jK.base;have sD:(⟨s.toArray⟩:ByteArray).size=s.length:=rfl;rw[sD]at fV;have hx:All2 (DRel w1 G.L) xs (bcs l).flatten:=NQ fF hd (zT l) (Bm l);obtain⟨G2,mg,p7,hT⟩:=Gj jK p5 hμ2 fF fV fL (zT s) jb (zT l) (Bm l) (Bm s) hx (zKQ s);refine⟨v',w2,G2,λty=>fE,mg,p7,by rw[←Xo];exact hT,?_⟩;rcases fL with ⟨g,k1,_,k3⟩ | ⟨_,k3⟩
    ·exact k3.block b nC (λh=>p6 (by rw[k1,h]))
    ·exact k3.block b nC (by simp)
  obtain⟨v',w2,G2,fE,mg,p7,nD,gF⟩:=key;have l6:=gF.trans qC;have hμ':=(mg.blk hμ);obtain⟨rx,mr⟩:=p7.storeB (id:=id) (cs':=[.ptr id 0,.sl (bcs (l++s)) (.own id2)]) (vs':=#[.pointer (some ⟨b,0,none⟩),v']) (by rw[aj (λh=>fI h.symm)];exact ak (ac.1 h1).1) hμ' l6 ⟨⟨b,hμ',rfl⟩,nD,trivial⟩;refine(zP2 b ⟨s.toArray⟩ v v' w w1 w2 iD qC fE l6 ?_).mono ?_
  ·obtain⟨my,_⟩:=nD;generalize bcs (l++s)=cs at my;cases my with
   |slE a c=>exact⟨_,_,_,rfl⟩
   |sl=>exact⟨_,_,_,rfl⟩
  ·rintro e w' ⟨rfl,rfl⟩;have fW:w2.setCell ⟨b,1,none⟩ v'=w2.setRow b #[.pointer (some ⟨b,0,none⟩),v']:=by rw[setCell_eq_setRow w2 b 1 _ _ _ _ l6];rfl
   rw[fW];refine⟨_,_,_,G2,rfl,(mP.trans mg).trans rx,?_,?_,hK⟩
   ·rw[eI _ _ fI,bX]at mr;exact mr
   ·exact⟨#[.int .i64 s.length,.nilIface],rfl,rfl,rfl,trivial⟩
def zKY:tP.cellsOf 5=1:=by kernel_rfl
set_option maxHeartbeats 2000000 in
set_option maxRecDepth 100000 in
def zPn{fr:Nat × Nat}(b g cap n:Nat)(p:Value)(cur:Array Value)(l:List UInt8)(w:World)(h0:l≠[])(p8:w.heap[b]?=some (.cells #[p,.slice (some ⟨g,0,none⟩) l.length cap] 112 (0,0)))(hg:w.heap[g]?=some (.cells cur 5 fr))(gM:l.length≤cap)(iU:cap≤maxLen)(f5:cur.size=cap)(fR:∀ j x,l[j]?=some x→w.cell? ((⟨g,0,none⟩:Addr).add j)=some (.int .u8 x.toNat)):
  Calls tP 76 #[.pointer (some ⟨b,0,none⟩)] w λe w'=>e=.returned (.string ⟨l.toArray⟩)∧w'=w.drew.freeze ⟨g,0,none⟩ l.length:=by
 have jC:l.length≠0:=by simpa using h0
 have c1:w.drew.cell? ⟨b,1,none⟩=some (.slice (some ⟨g,0,none⟩) l.length cap):=by have:w.drew.heap[b]?=some (.cells #[p,.slice (some ⟨g,0,none⟩) l.length cap] 112 (0,0)):=p8;rw[Lib.cell_of_heap this];rfl
 have hSD:(Builtin.unsafeSliceData_ #[110] 174 #[.slice (some ⟨g,0,none⟩) l.length cap]).run tP w.drew=.ok (.pointer (some ⟨g,0,none⟩)) w.drew:=
  Lib.run_unsafeSliceData_row _ _ _ _ _ _ (by omega)
 have hUS:(Builtin.unsafeString_ #[174,3] 9 #[.pointer (some ⟨g,0,none⟩),.int .i64 l.length]).run tP w.drew=.ok (.string ⟨l.toArray⟩) (w.drew.freeze ⟨g,0,none⟩ l.length):=by refine Lib.run_unsafeString_row w.drew 174 3 9 5 Tryz.underlying174 zKY g cur.size (by have mc:w.drew.heap[g]?=some (.cells cur 5 fr):=hg;simp[World.shape?,mc]) l h0 (by omega) (by unfold maxLen at iU;omega) ?_;intro j x hx;exact fR j x hx
 go_enter Tryz.func76,Tryz.ntmps76
 go_wp2
 go_region
 all_goals (go_wp2;go_ret;exact⟨rfl,rfl⟩)
theorem zAe{w:World}{L:Nat→Nat}:∀{l:List UInt8} {xs:List Value},All2 (DRel w L) xs (bcs l).flatten→xs=l.map λb=>Value.int .u8 b.toNat
 |[],[],_=>rfl
 |[],_::_,h=>h.elim
 |_::_,[],h=>h.elim
 |c::l,x::xs,⟨gG,gf⟩=>by cases gG;rw[aL,zAe (l:=l) gf]
end
section
variable (t0:AV) (H:or) (K:Kt)
def zZb(_:Nat):List Bool:=[]
def Tr:=gt .lss false t0 (I6 10) λt4=>tO t4 (gt .add false t0 I1 λt7=>uF 0 0 (.str [48,49,50,51,52,53,54,55,56,57,97,98,99,100,101,102,103,104,105,106,107,108,109,110,111,112,113,114,115,116,117,118,119,120,121,122]) (some t0) (some t7) λt8=>K t8 H) (gt .mul false t0 (I6 2) λt10=>gt .mul false t0 (I6 2) λt12=>gt .add false t12 (I6 2) λt13=>uF 0 0 (.str [48,48,48,49,48,50,48,51,48,52,48,53,48,54,48,55,48,56,48,57,49,48,49,49,49,50,49,51,49,52,49,53,49,54,49,55,49,56,49,57,50,48,50,49,50,50,50,51,50,52,50,53,50,54,50,55,50,56,50,57,51,48,51,49,51,50,51,51,51,52,51,53,51,54,51,55,51,56,51,57,52,48,52,49,52,50,52,51,52,52,52,53,52,54,52,55,52,56,52,57,53,48,53,49,53,50,53,51,53,52,53,53,53,54,53,55,53,56,53,57,54,48,54,49,54,50,54,51,54,52,54,53,54,54,54,55,54,56,54,57,55,48,55,49,55,50,55,51,55,52,55,53,55,54,55,55,55,56,55,57,56,48,56,49,56,50,56,51,56,52,56,53,56,54,56,55,56,56,56,57,57,48,57,49,57,50,57,51,57,52,57,53,57,54,57,55,57,56,57,57]) (some t10) (some t13) λt14=>K t14 H)
def zSg(_:Nat):List Bool:=[]
def zSf:=ge tP 170 [t0] H λt4 H=>K t4 H
def zV5(_:Nat):List Bool:=[]
def zV4:=ge tP 215 [t0,(I6 10)] H λt4 H=>K t4 H
variable {t0} {H} {K}
def zZd(h:HSc H→Tr t0 H K):ge tP 240 [t0] H K:=
 acb zZb Tryz.func240 h
def zSi(h:HSc H→zSf t0 H K):ge tP 127 [t0] H K:=
 acb zSg Tryz.func127 h
def zV7(h:HSc H→zV4 t0 H K):ge tP 170 [t0] H K:=
 acb zV5 Tryz.func170 h
end
section
open Go.RowKit
def small(n:Nat):List UInt8:=if n<10 then [48+UInt8.ofNat n] else [48+UInt8.ofNat (n / 10),48+UInt8.ofNat (n % 10)]
def digs:List UInt8:=[48,49,50,51,52,53,54,55,56,57,97,98,99,100,101,102,103,104,105,106,107,108,109,110,111,112,113,114,115,116,117,118,119,120,121,122]
def pairs:List UInt8:=(List.range 100).flatMap λn=>[48+UInt8.ofNat (n / 10),48+UInt8.ofNat (n % 10)]
def zLD:∀n,n<10→(digs.take (n+1)).drop n=small n:=by decide
def zM8:∀n,n<100→10≤n→(pairs.take (2*n+2)).drop (2*n)=small n:=by decide
def zOD(n:Nat)(hn:n<100)(H:or)(K:Kt)(hK:K (.str (small n)) H):ge tP 240 [.int .i64 n] H K:=by
 refine zZd λhs=>?_;by_cases kR:n<10
 ·have:(n:Int)<10:=by omega
  have e1:IntKind.i64.wrap ((n:Int)+1)=((n+1:Nat):Int):=by rw[um (by omega) (by omega)];omega
  simp[Tr,this];rw[e1];refine⟨by omega,⟨by omega,by omega⟩,?_⟩;have jd:K (.str ((digs.take (n+1)).drop n)) H:=by rw[zLD n kR];exact hK
  rw[Int.toNat_natCast];exact jd
 ·have:¬ (n:Int)<10:=by omega
  have e1:IntKind.i64.wrap ((n:Int)*2)=((2*n:Nat):Int):=by rw[um (by omega) (by omega)];omega
  have e2:IntKind.i64.wrap (((2*n:Nat):Int)+2)=((2*n+2:Nat):Int):=by rw[um (by omega) (by omega)];omega
  simp[Tr,this];rw[e1,e2];refine⟨by omega,by omega,⟨by omega,by omega⟩,?_⟩;have jd:K (.str ((pairs.take (2*n+2)).drop (2*n))) H:=by rw[zM8 n hn (by omega)];exact hK
  have hp:pairs=[48,48,48,49,48,50,48,51,48,52,48,53,48,54,48,55,48,56,48,57,49,48,49,49,49,50,49,51,49,52,49,53,49,54,49,55,49,56,49,57,50,48,50,49,50,50,50,51,50,52,50,53,50,54,50,55,50,56,50,57,51,48,51,49,51,50,51,51,51,52,51,53,51,54,51,55,51,56,51,57,52,48,52,49,52,50,52,51,52,52,52,53,52,54,52,55,52,56,52,57,53,48,53,49,53,50,53,51,53,52,53,53,53,54,53,55,53,56,53,57,54,48,54,49,54,50,54,51,54,52,54,53,54,54,54,55,54,56,54,57,55,48,55,49,55,50,55,51,55,52,55,53,55,54,55,55,55,56,55,57,56,48,56,49,56,50,56,51,56,52,56,53,56,54,56,55,56,56,56,57,57,48,57,49,57,50,57,51,57,52,57,53,57,54,57,55,57,56,57,57]:=by decide
  rw[hp]at jd;rw[Int.toNat_natCast,Int.toNat_natCast];exact jd
def zL9(n:Nat)(hn:n<100)(w:World)(R:World→Prop)(s:ByteArray)(hs:Calls tP 240 #[.int .i64 n] w λe w'=>e=.returned (.string s)∧R w'):
  Calls tP 215 #[.int .i64 n,.int .i64 10] w λe w'=>e=.returned (.string s)∧R w':=by
 have a1:((0:Int)≤(n:Int)):=by omega
 have a2:((n:Int)<100):=by omega
 go_enter Tryz.func215,Tryz.ntmps215
 go_wp2_with (go_at_call 240;refine hs.mono ?_)
 rintro e w1 ⟨rfl,hR⟩
 go_wp2
 go_ret
 exact⟨rfl,hR⟩
def zMa(n:Nat)(hn:n<100)(H:or)(K:Kt)(hK:K (.str (small n)) H):ge tP 215 [.int .i64 n,.int .i64 10] H K:=by
 intro B w G ⟨vs⟩ hH hv
 match vs,hv with
 |[v0,v1],⟨h0,h1,_⟩=>
  have h0:v0=.int .i64 n:=h0;have h1:v1=.int .i64 10:=h1;subst h0 h1;have hs:=zOD n hn H (λr H'=>r=.str (small n)∧H'=H) ⟨rfl,rfl⟩ B w G #[.int .i64 n] hH ⟨rfl,trivial⟩;refine(zL9 n hn w (λw'=>∃G',Ext B w G w' G'∧tU B w' G' H) ⟨(small n).toArray⟩ (hs.mono ?_)).mono ?_
  ·rintro e w1 ⟨v,r,H',G',rfl,hE,f7,hT,rfl,rfl⟩;have hT:v=.string ⟨(small n).toArray⟩:=hT;exact⟨by rw[hT],G',hE,f7⟩
  ·rintro e w1 ⟨rfl,G',hE,f7⟩;exact⟨_,.str (small n),_,G',rfl,hE,f7,rfl,hK⟩
def zJ0(n:Nat)(hn:n<100)(H:or)(K:Kt)(hK:K (.str (small n)) H):ge tP 127 [.int .i64 n] H K:=
 zSi λhs=>zV7 λhs=>zMa n hn _ _ hK
end
def wb(H:or)(id id2:Nat)(l:List UInt8):or:=(H.set id2 (.perm 5 1 l.length)).set id (.bld 112 [.ptr id 0,.sl (bcs l) (.own id2)])
structure Wb (H:or) (id id2:Nat) (l:List UInt8):Prop where
 ne:id≠id2
 h1:∃p,(p=.nilp∨p=.ptr id 0)∧H[id]?=some (.bld 112 [p,.sl (bcs l) (.own id2)])
 h2:H[id2]?=some (.perm 5 1 l.length)
section
variable {H J:or} {id id2:Nat} {l l' s:List UInt8}
def Wb.lt1(h:Wb H id id2 l):id<H.length:=by obtain⟨p,_,h⟩:=h.h1;exact(ac.1 h).1
def Wb.lt2(h:Wb H id id2 l):id2<H.length:=(ac.1 h.h2).1
@[simp] theorem yjj:(wb H id id2 l).length=H.length:=by simp[wb]
def ME(fI:id≠id2):wb (wb H id id2 l) id id2 l'=wb H id id2 l':=by unfold wb;rw[eI _ _ fI,bX,bX]
def Wb.app(h:Wb H id id2 l):Wb (H++J) id id2 l:=by obtain⟨p,hp,h1⟩:=h.h1;exact⟨h.ne,⟨p,hp,by rw[ah h.lt1];exact h1⟩,by rw[ah h.lt2];exact h.h2⟩
def Wb.wb_app(h:Wb H id id2 l):wb (H++J) id id2 l'=wb H id id2 l'++J:=by unfold wb;rw[aY _ _ h.lt2,aY _ _ (by simpa using h.lt1)]
def Wb.next(h:Wb H id id2 l):Wb (wb H id id2 l') id id2 l':=by
 refine⟨h.ne,⟨_,.inr rfl,?_⟩,?_⟩
 ·unfold wb;rw[ak (by simpa using h.lt1)]
 ·unfold wb;rw[aj h.ne,ak h.lt2]
def Wb.hsc(h:Wb H id id2 l)(hs:HSc H):HSc (wb H id id2 l'):=by refine HSc.set (HSc.set hs rfl) ?_;have:=h.lt1;have:=h.lt2;simp[AB.sc,AV.ZH,AV.ZI];try omega
def Ws(h:Wb H id id2 l)(hn:l.length+s.length≤140737488355328){K:AV→or→Prop}(hK:K (.tup [I6 s.length,.nili]) (wb H id id2 (l++s))):
  ge tP 126 [.ptr id 0,.str s] H K:=by
 obtain⟨p,hp,h1⟩:=h.h1;refine zJ9 hp h1 h.h2 hn ?_;unfold wb at hK;rwa [aH]at hK
end
section
open Go.RowKit
variable {P:Program} {B:Nat} {w:World} {G:Gh} {H:or}
theorem tU.toFrz(h:tU B w G H){id e n:Nat}(hn:0<n)(hH:H[id]?=some (.perm e 1 n)):tU B w G (H.set id (.frz e 1 n)):=by
 refine⟨by simp[h.len],?_,h.dist,h.fresh,h.lt,h.base⟩;intro i ab gi h1 h2;by_cases hi:i=id
 ·subst hi;rw[ak (ac.1 hH).1]at h1;cases h1;have fH:=h.ok i _ _ hH h2;cases gi with
  |blk b=>exact fH.elim
  |gap=>exact fH.elim
  |own v s n'=>
   obtain⟨rfl,rfl,⟨xs,ix,hx⟩,hL⟩:=fH;rcases hx with ⟨_,h0⟩|⟨g,cap,cur,rfl,lK,hg,gM,iU,kA,kB⟩
   ·omega
   ·exact⟨g,cap,cur,_,rfl,rfl,rfl,hg,lK,hL g rfl,gM,iU,kA⟩
 ·rw[aj (λh=>hi h.symm)]at h1;exact h.ok i ab gi h1 h2
theorem ge.toFrz{f:FuncId}{args:List AV}{K:Kt}(h:ge P f args H λr H'=>∃id e n,0<n∧H'[id]?=some (.perm e 1 n)∧K r (H'.set id (.frz e 1 n))):ge P f args H K:=by intro B w G vs hH hv;refine(h B w G vs hH hv).mono λex w' ⟨v,r,H',G',h1,h2,h3,h4,h5⟩=>?_;obtain⟨id,e,n,hn,fA,hk⟩:=h5;exact⟨v,r,_,G',h1,h2,h3.toFrz hn fA,h4,hk⟩
end
section
open Go.RowKit
def zJ5{H:or}{id id2:Nat}{l:List UInt8}{p:AV}(h0:l≠[])(h1:H[id]?=some (.bld 112 [p,.sl (bcs l) (.own id2)]))(h2:H[id2]?=some (.frz 5 1 l.length)){K:AV→or→Prop}(hK:K (.str l) H):ge tP 76 [.ptr id 0] H K:=by
 intro B w G ⟨vs⟩ hH hv
 match vs,hv with
 |[v0],⟨⟨b,hμ,jW⟩,_⟩=>
  subst jW;obtain⟨hB,hL,⟨us⟩,hw,hc⟩:=hH.ok id _ _ h1 hμ
  match us,hc with
  |[vp,v],⟨oM,⟨hd,v',size,n',hμ2,fS,heq⟩,_⟩=>
   obtain⟨g,cap,cur,fr,f9,gx,gU,k2,k3,k4,k5,k6,k7⟩:=hH.ok id2 _ _ h2 hμ2;subst f9 gx;obtain⟨rfl,fX⟩:=heq (zT l);have gT:=Ext.drew B w G (w.drawn+1) (cF _);have hHd:=hH.drew (w.drawn+1) (cF _);have fI:bcs l≠[]:=λh=>h0 (by simpa[bcs]using h);obtain⟨b',off,cap',zs,jS,l9,sy,qm,_⟩:=hd.flat fI (Bm l);rw[gU]at jS;simp only[Value.slice.injEq,cK,Addr.mk.injEq]at jS;obtain⟨⟨rfl,rfl,_⟩,_,rfl⟩:=jS;have kV:zs=l.map λb=>Value.int .u8 b.toNat:=zAe sy;subst gU;refine(zPn b g cap l.length vp cur l w h0 hw k2 k5 k6 (by omega) ?_).mono ?_
   ·intro j x hj;have:=qm j (.int .u8 x.toNat) (by rw[kV,bn,hj];rfl);by_cases h0j:j=0
    ·subst h0j;simpa[Addr.add]using this
    ·simpa[Addr.add,h0j]using this
   ·rintro e w' ⟨rfl,rfl⟩;obtain⟨mP,jK⟩:=hHd.freezeG h2 hμ2 l.length;exact⟨_,(.str l),_,G,rfl,gT.trans mP,jK,rfl,hK⟩
def wpList_append_any{P:Program}{w:World}{fx:Array Oper}{rest:List Oper}{o:Oper}{a:Act}{Q:Exit→Act→World→Prop}(pt:o.guard=none)(sl x:Operand)(t u:TypeId)(ho:o.op=.call { callee:=.builtin .append,args:=#[sl,x],argTypes:=#[t,u] }){v v' xv:Value}{w':World}(hs:a.eval sl=v)(hx:a.eval x=xv)(hr:∀ty,(Builtin.append_ #[t,u] ty #[v,xv]).run P w=.ok v' w')(h:wpList P fx Q rest (a.put o.dst v') w'):wpList P fx Q (o::rest) a w:=by
 refine wpList_plain pt λK hK=>?_;unfold Oper.wp execOp;simp only[ho,resolve,invoke,builtin,Sem.run_bind,Sem.run_pure,Result.andThen_ok,cR,aL,bI,hs,hx,hr];exact hK _ _ h
set_option maxHeartbeats 2000000 in
set_option maxRecDepth 100000 in
def zP1(b:Nat)(c:UInt8)(v v':Value)(w w1 w2:World)(iD:Calls tP 169 #[.pointer (some ⟨b,0,none⟩)] w λe w'=>e=.returned (.tuple #[])∧w'=w1)(gJ:w1.heap[b]?=some (.cells #[.pointer (some ⟨b,0,none⟩),v] 112 (0,0)))(hr:∀ ty,(Builtin.append_ #[110,110] ty #[v,.slice (some ⟨w1.heap.size,0,none⟩) 1 1]).run tP (w1.alloc (.cells #[.int .u8 c.toNat] 5))=.ok v' w2)(gF:w2.heap[b]?=some (.cells #[.pointer (some ⟨b,0,none⟩),v] 112 (0,0)))(gU:∃ ao n cap,v'=.slice ao n cap):
  Calls tP 128 #[.pointer (some ⟨b,0,none⟩),.int .u8 c.toNat] w λe w'=>e=.returned .nilIface∧w'=w2.setCell ⟨b,1,none⟩ v':=by
 obtain⟨ao,n',cap,rfl⟩:=gU;have c1:w1.cell? ⟨b,1,none⟩=some v:=by rw[Lib.cell_of_heap gJ];rfl
 have d1:w2.cell? ⟨b,1,none⟩=some v:=by rw[Lib.cell_of_heap gF];rfl
 have f1:w2.frozen? ⟨b,1,none⟩=false:=Lib.frozen_of_heap gF 1
 go_enter Tryz.func128,Tryz.ntmps128
 go_wp2_with (go_at_call 169;refine iD.mono ?_)
 rintro e w1' ⟨rfl,rfl⟩
 go_wp2_with (at_builtin;refine Go.Proofs.YtdmamdnkcefmmaaGreatDoor.wpList_append_any rfl _ _ 110 110 rfl rfl rfl hr ?_)
 go_wp2
 go_ret
 exact⟨rfl,rfl⟩
def zJ8{H:or}{id id2:Nat}{l:List UInt8}{c:UInt8}{p:AV}(hp:p=.nilp∨p=.ptr id 0)(h1:H[id]?=some (.bld 112 [p,.sl (bcs l) (.own id2)]))(h2:H[id2]?=some (.perm 5 1 l.length))(hn:l.length+1≤140737488355328){K:AV→or→Prop}(hK:K .nili ((H.set id2 (.perm 5 1 (l.length+1))).set id (.bld 112 [.ptr id 0,.sl (bcs (l++[c])) (.own id2)]))):
  ge tP 128 [.ptr id 0,.int .u8 c.toNat] H K:=by
 intro B w G ⟨vs⟩ hH hv
 match vs,hv with
 |[v0,v1],⟨⟨b,hμ,jW⟩,iW,_⟩=>
  have iW:v1=.int .u8 c.toNat:=iW;subst jW iW;obtain⟨w1,v,iD,mP,jK,qC,hva0⟩:=zAG hH hp h1 hμ;obtain⟨tA,ry⟩:=jK.other (.cells #[.int .u8 c.toNat] 5);have pk:=tA.arel hva0;obtain⟨W,hW⟩:∃W,W=w1.alloc (.cells #[.int .u8 c.toNat] 5):=⟨_,rfl⟩;rw[←hW]at tA ry pk;obtain⟨hd,v',size,n',hμ2,fS,heq⟩:=pk;have fI:id≠id2:=by rintro rfl;rw[h1]at h2;cases h2
  have p5:(H.set id (.bld 112 [.ptr id 0,.sl (bcs l) (.own id2)]))[id2]?=some (.perm 5 1 l.length):=by rw[aj fI];exact h2
  have fH:=ry.ok id2 _ _ p5 hμ2;obtain⟨f9,gx,⟨xs,fF⟩,o7⟩:=fH;subst f9 gx;obtain⟨rfl,fX⟩:=heq (zT l);have p6:v.ownBlock≠some b:=λh=>fI (jK.dist id id2 _ _ b hμ hμ2 rfl h);have nC:b<W.heap.size:=ry.lt id _ b hμ rfl;have ku:W.heap[b]?=w1.heap[b]?:=by rw[hW];exact yk (jK.lt id _ b hμ rfl)
  obtain⟨i,hi,hz,fP,gD⟩:=zAl;have nS:maxLen=9223372036854775807:=rfl;have key:∃ v' w2 G2,(∀ ty,(Builtin.append_ #[110,110] ty #[v,.slice (some ⟨w1.heap.size,0,none⟩) 1 1]).run tP W=.ok v' w2)∧Ext B W G w2 G2 ∧
    tU B w2 G2 ((H.set id (.bld 112 [.ptr id 0,.sl (bcs l) (.own id2)])).set id2 (.perm 5 1 (l.length+1)))∧ARel w2 G2 v' (.sl (bcs (l++[c])) (.own id2))∧w2.heap[b]?=W.heap[b]?:=by
   have mK:W.ownsRow B 5 i.size v l.length xs:=by rw[fP];exact fF
   obtain⟨v',w2,fE,fV,fL⟩:=Gi (P:=tP) (ty:=110) (t:=110) (B:=B) Tryz.underlying110 hi hz (by rw[fP];rfl) mK ⟨w1.heap.size,0,none⟩ 1 1 [.int .u8 c.toNat] (by rw[fP];rfl) (λj u hu=>by
    have hj:j=0:=by have:=(ac.1 hu).1;simp at this;omega
    subst hj;simp at hu;subst hu;rw[hW];show (match (w1.alloc (.cells #[.int .u8 c.toNat] 5)).heap[w1.heap.size]? with|some (.cells c _ _)=>c[0]?|_=>none)=_;rw[y6];rfl) (λu hu=>by simp at hu;subst hu;rfl) (by omega) (by omega) (by rw[gD];omega) ry.base
   rw[fP]at fV;have hx:All2 (DRel W G.L) xs (bcs l).flatten:=NQ fF hd (zT l) (Bm l);obtain⟨G2,mg,p7,hT⟩:=Gj ry p5 hμ2 fF fV fL (ys:=bcs [c]) (zT [c]) (by omega) (zT l) (Bm l) (Bm [c]) hx ⟨.int _ _,trivial⟩;refine⟨v',w2,G2,λty=>fE,mg,p7,by rw[←Xo];exact hT,?_⟩;rcases fL with ⟨g,k1,_,k3⟩|⟨_,k3⟩
   ·exact k3.block b nC (λh=>p6 (by rw[k1,h]))
   ·exact k3.block b nC (by simp)
  obtain⟨v',w2,G2,fE,mg,p7,nD,gF⟩:=key;have l6:=gF.trans (ku.trans qC);have hμ':=(mg.blk hμ);obtain⟨rx,mr⟩:=p7.storeB (id:=id) (cs':=[.ptr id 0,.sl (bcs (l++[c])) (.own id2)]) (vs':=#[.pointer (some ⟨b,0,none⟩),v']) (by rw[aj (λh=>fI h.symm)];exact ak (ac.1 h1).1) hμ' l6 ⟨⟨b,hμ',rfl⟩,nD,trivial⟩;rw[hW]at fE;refine(zP1 b c v v' w w1 w2 iD qC fE l6 ?_).mono ?_
  ·obtain⟨my,_⟩:=nD;generalize bcs (l++[c])=cs at my;cases my with
   |slE a c=>exact⟨_,_,_,rfl⟩
   |sl=>exact⟨_,_,_,rfl⟩
  ·rintro e w' ⟨rfl,rfl⟩;have fW:w2.setCell ⟨b,1,none⟩ v'=w2.setRow b #[.pointer (some ⟨b,0,none⟩),v']:=by rw[setCell_eq_setRow w2 b 1 _ _ _ _ l6];rfl
   rw[fW];refine⟨_,_,_,G2,rfl,((mP.trans tA).trans mg).trans rx,?_,?_,hK⟩
   ·rw[eI _ _ fI,bX]at mr;exact mr
   ·rfl
def Wy{H:or}{id id2:Nat}{l:List UInt8}{c:UInt8}(h:Wb H id id2 l)(hn:l.length+1≤1000000000){K:AV→or→Prop}(hK:K .nili (wb H id id2 (l++[c]))):
  ge tP 128 [.ptr id 0,.int .u8 c.toNat] H K:=by
 obtain⟨p,hp,h1⟩:=h.h1;refine zJ8 hp h1 h.h2 (by omega) ?_;unfold wb at hK;rwa [aH]at hK
end
section
open Go.Shelf
def zP8:Go.Shelf.Ren:=⟨λ| 4=>176|n=>n,λ| 22=>26|25=>28|n=>n,λ| n=>n⟩
def zP7:Go.Proofs.Lays8.n4 tP zP8:={
 mixed:=by kernel_rfl
 f4:=⟨Tryz.f176.name,by decide,Tryz.func176.trans (congrArg some (by kernel_rfl))⟩
 t0:=Tryz.underlying0
 a0:=Tryz.isAgg0
 z0:=Tryz.sizeOf0
 v0:=Tryz.zeroValue0
 t3:=Tryz.underlying3
 a3:=Tryz.isAgg3
 z3:=Tryz.sizeOf3
 v3:=Tryz.zeroValue3
 t4:=Tryz.underlying4
 a4:=Tryz.isAgg4
 z4:=Tryz.sizeOf4
 v4:=Tryz.zeroValue4
 t9:=Tryz.underlying9
 a9:=Tryz.isAgg9
 z9:=Tryz.sizeOf9
 v9:=Tryz.zeroValue9
 t20:=Tryz.underlying20
 a20:=Tryz.isAgg20
 z20:=Tryz.sizeOf20
 v20:=Tryz.zeroValue20
 t22:=Tryz.underlying26
 a22:=Tryz.isAgg26
 z22:=Tryz.sizeOf26
 v22:=Tryz.zeroValue26 }
def zQb:Go.Shelf.Ren:=⟨λ| 4=>141|n=>n,λ| 22=>31|25=>55|n=>n,λ| n=>n⟩
def zEF:Go.Proofs.Lays8.n4 tP zQb:={
 mixed:=by kernel_rfl
 f4:=⟨Tryz.f141.name,by decide,Tryz.func141.trans (congrArg some (by kernel_rfl))⟩
 t0:=Tryz.underlying0
 a0:=Tryz.isAgg0
 z0:=Tryz.sizeOf0
 v0:=Tryz.zeroValue0
 t3:=Tryz.underlying3
 a3:=Tryz.isAgg3
 z3:=Tryz.sizeOf3
 v3:=Tryz.zeroValue3
 t4:=Tryz.underlying4
 a4:=Tryz.isAgg4
 z4:=Tryz.sizeOf4
 v4:=Tryz.zeroValue4
 t9:=Tryz.underlying9
 a9:=Tryz.isAgg9
 z9:=Tryz.sizeOf9
 v9:=Tryz.zeroValue9
 t20:=Tryz.underlying20
 a20:=Tryz.isAgg20
 z20:=Tryz.sizeOf20
 v20:=Tryz.zeroValue20
 t22:=Tryz.underlying31
 a22:=Tryz.isAgg31
 z22:=Tryz.sizeOf31
 v22:=Tryz.zeroValue31 }
end
section
variable (t0 t3 t6 t9 t10 t11 t25 t26 t27:AV) (H:or) (K:Kt) (Kb3 Kb11:Lt)
def B7:Nat→List Bool|3=>rl false [0,1,2,1,5,3,24]|11=>rl false [6,1,18,3,8]|_=>[]
noncomputable def MF:=bd Tryz.f134
noncomputable def zFt:=Tryz.f134.results.toList
def MG:=t0::ux 2 (t3::ux 5 (t9::t10::t11::ux 24 []))
def zSS:=B7 3
noncomputable def zSO:=uc [1,1,0,1,0,0] MF
def zSM:=ud tP B7 [1,1,0,1,0] MF (uq tP zFt K)
def zFs:=tM tP zSO (zSM K) (MG t0 t3 t9 t10 t11) H
def zFq(t0 t3 t9 t10 t11:AV)(H:or)(K:Kt)(Kb3:Lt):Prop:=gt .add false t11 I1 λt22=>Kb3 (MG t0 t3 t9 t10 t22) H
def zFp:=zFq t0 t3 t9 t10 t11 H K Kb3
def MH:=ux 6 (t6::ux 18 (t25::t26::t27::ux 8 []))
def zSR:=B7 11
noncomputable def zSN:=uc [1,1,1,1,0,1,0,0] MF
def zSL:=ud tP B7 [1,1,1,1,0,1,0] MF (uq tP zFt K)
def zFr:=tM tP zSN (zSL K) (MH t6 t25 t26 t27) H
def Ts:=gt .lss false t27 t26 λt28=>tO t28 (tW 1 t25 t27 λt29=>tL false 1 t29 H λt30=>uj 28 2 32 t6 t30 H λt33 H=>gt .add false t27 I1 λt34=>Kb11 (MH t33 t25 t26 t34) H) (K t6 H)
def Tt:=gt .lss false t11 t10 λt12=>tO t12 (tW 1 t9 t11 λt13=>tL false 1 t13 H λt14=>tV 1 t14 λt17=>gt .add false t3 t17 λt18=>gt .lss false t18 I0 λt20=>tO t20 (False) (zFp t0 t18 t9 t10 t11 H K Kb3)) (ge tP 176 [.ZG,t3] H λt24 H=>tV 1 t0 λt26=>zFr t24 t0 t26 I0 H K)
def zFo:=tV 1 t0 λt10=>zFs t0 I0 t0 t10 I0 H K
def B8:Nat→List Bool|3=>rl false [0,1,2,1,5,3,24]|11=>rl false [6,1,18,3,8]|_=>[]
noncomputable def MI:=bd Tryz.f87
noncomputable def zJs:=Tryz.f87.results.toList
def FM:=t0::ux 2 (t3::ux 5 (t9::t10::t11::ux 24 []))
def yez:=B8 3
noncomputable def yex:=uc [1,1,0,1,0,0] MI
def yev:=ud tP B8 [1,1,0,1,0] MI (uq tP zJs K)
def zJo:=tM tP yex (yev K) (FM t0 t3 t9 t10 t11) H
def Tu(t0 t3 t9 t10 t11:AV)(H:or)(K:Kt)(Kb3:Lt):Prop:=gt .add false t11 I1 λt22=>Kb3 (FM t0 t3 t9 t10 t22) H
def Tv:=Tu t0 t3 t9 t10 t11 H K Kb3
def FN:=ux 6 (t6::ux 18 (t25::t26::t27::ux 8 []))
def yey:=B8 11
noncomputable def yew:=uc [1,1,1,1,0,1,0,0] MI
def yeu:=ud tP B8 [1,1,1,1,0,1,0] MI (uq tP zJs K)
def zJn:=tM tP yew (yeu K) (FN t6 t25 t26 t27) H
def FO:=gt .lss false t27 t26 λt28=>tO t28 (tW 1 t25 t27 λt29=>tL false 1 t29 H λt30=>uj 55 5 88 t6 t30 H λt33 H=>gt .add false t27 I1 λt34=>Kb11 (FN t33 t25 t26 t34) H) (K t6 H)
def FP:=gt .lss false t11 t10 λt12=>tO t12 (tW 1 t9 t11 λt13=>tL false 1 t13 H λt14=>tV 1 t14 λt17=>gt .add false t3 t17 λt18=>gt .lss false t18 I0 λt20=>tO t20 (False) (Tv t0 t18 t9 t10 t11 H K Kb3)) (ge tP 141 [.ZG,t3] H λt24 H=>tV 1 t0 λt26=>zJn t24 t0 t26 I0 H K)
def Tw:=tV 1 t0 λt10=>zJo t0 I0 t0 t10 I0 H K
variable {t0 t3 t6 t9 t10 t11 t25 t26 t27} {H} {K} {Kb3 Kb11}
def zSP:Lo2 (λt6 t27=>MH t6 t25 t26 t27) (λt6 t27 H Kb11=>Ts t6 t25 t26 t27 H K Kb11) t6 t27 H (zFr t6 t25 t26 t27 H K):=lq2 B7 zSR
def zSQ:Lo2 (λt3 t11=>MG t0 t3 t9 t10 t11) (λt3 t11 H Kb3=>Tt t0 t3 t9 t10 t11 H K Kb3) t3 t11 H (zFs t0 t3 t9 t10 t11 H K):=lq2 B7 zSS
def zST(h:HSc H→zFo t0 H K):ge tP 134 [t0] H K:=
 acb B7 Tryz.func134 h
def zJp:Lo2 (λt6 t27=>FN t6 t25 t26 t27) (λt6 t27 H Kb11=>FO t6 t25 t26 t27 H K Kb11) t6 t27 H (zJn t6 t25 t26 t27 H K):=lq2 B8 yey
def zJq:Lo2 (λt3 t11=>FM t0 t3 t9 t10 t11) (λt3 t11 H Kb3=>FP t0 t3 t9 t10 t11 H K Kb3) t3 t11 H (zJo t0 t3 t9 t10 t11 H K):=lq2 B8 yez
def zJr(h:HSc H→Tw t0 H K):ge tP 87 [t0] H K:=
 acb B8 Tryz.func87 h
end
end Go.Proofs.YtdmamdnkcefmmaaGreatDoor
