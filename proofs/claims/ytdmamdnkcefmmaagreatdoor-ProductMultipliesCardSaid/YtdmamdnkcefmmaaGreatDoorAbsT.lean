import Derived.Test.YtdmamdnkcefmmaaGreatDoorKOQ
import Derived.Test.YtdmamdnkcefmmaaGreatDoorKME
import Derived.Test.YtdmamdnkcefmmaaGreatDoorVO
import Derived.Test.YtdmamdnkcefmmaaGreatDoorKGQ1
import Derived.Test.YtdmamdnkcefmmaaGreatDoorAbsQ1
import Derived.Shelf.SlSortCmp.NoneTotal
import Derived.Test.YtdmamdnkcefmmaaGreatDoorProg
import Derived.Test.YtdmamdnkcefmmaaGreatDoorKNum
import Derived.KernelRfl
import Derived.Test.YtdmamdnkcefmmaaGreatDoorKGS8
import Derived.Test.YtdmamdnkcefmmaaGreatDoorKGJ
import Derived.Deep.Slices
import Derived.DataReads
set_option linter.unusedSimpArgs false
set_option linter.unusedVariables false
set_option maxRecDepth 100000
namespace Go.Proofs.YtdmamdnkcefmmaaGreatDoor
def sw (H:zaa) (is im iv:Nat) (c:List AV) (s:List (IT × Nat)):zaa:=
 ((H.set iv (.vec zax 5 s.length (tms s))).set im (.map (kvS s 0))).set is (.cells (c++[.map im,.ov iv s.length]))
structure Sw (H:zaa) (is im iv:Nat) (c:List AV) (s:List (IT × Nat)):Prop where
 c4:c.length=4
 n1:is≠im
 n2:is≠iv
 n3:im≠iv
 h1:H[is]?=some (.cells (c++[.map im,.ov iv s.length]))
 h2:H[im]?=some (.map (kvS s 0))
 h3:H[iv]?=some (.vec zax 5 s.length (tms s))
section
variable {H J:zaa} {is im iv:Nat} {c:List AV} {s s':List (IT × Nat)}
@[simp] theorem zJM:(sw H is im iv c s).length=H.length:=by simp[sw]
theorem Sw.app (h:Sw H is im iv c s):Sw (H++J) is im iv c s:=⟨h.c4,h.n1,h.n2,h.n3,zb8 h.h1,zb8 h.h2,zb8 h.h3⟩
theorem Sw.next (h:Sw H is im iv c s):Sw (sw H is im iv c s') is im iv c s':=by
 have l1:=zbr h.h1;have l2:=zbr h.h2;have l3:=zbr h.h3;refine⟨h.c4,h.n1,h.n2,h.n3,?_,?_,?_⟩
 ·unfold sw;rw[List.getElem?_set_self (by simpa using l1)]
 ·unfold sw;rw[List.getElem?_set_ne h.n1,List.getElem?_set_self (by simpa using l2)]
 ·unfold sw;rw[List.getElem?_set_ne h.n2,List.getElem?_set_ne h.n3,List.getElem?_set_self l3]
theorem Sw.self (h:Sw H is im iv c s):sw H is im iv c s=H:=by
 unfold sw;have e:∀ (H:zaa) (i:Nat) (b:AB),H[i]?=some b→H.set i b=H:=λH i b hb=>by
  refine List.ext_getElem? λj=>?_;by_cases hj:i=j
  ·subst hj;rw[List.getElem?_set_self (zbr hb),hb]
  ·rw[List.getElem?_set_ne hj]
 rw[e H iv _ h.h3,e H im _ h.h2,e H is _ h.h1]
theorem Sw.hsc (h:Sw H is im iv c s) (hs:HSc H):HSc (sw H is im iv c s'):=by
 have l2:=zbr h.h2;have l3:=zbr h.h3;have hc:(c.all (AV.scA H.length))=true:=by have:=hs _ (List.mem_of_getElem? h.h1);simp only[AB.sc,List.all_append,Bool.and_eq_true]at this;exact this.1
 unfold sw;refine HSc.set (HSc.set (HSc.set hs (by simp only[AB.sc];exact zgQ _ _)) (by simp only[AB.sc];exact zxS _ _)) ?_;simp only[AB.sc,List.all_append,List.length_set,hc,Bool.true_and];simp[AV.scA,AV.scB];omega
end
theorem zJL {H:zaa} {is im iv:Nat} {c:List AV} {s s':List (IT × Nat)} (h1:is≠im) (h2:is≠iv) (h3:im≠iv) (hl:s.length=s'.length) (hk:kvS s 0=kvS s' 0) :
  (sw H is im iv c s).set iv (.vec zax 5 s.length (tms s'))=sw H is im iv c s':=by
 refine List.ext_getElem? λi=>?_;unfold sw;rw[hk,hl];simp only[List.getElem?_set,List.length_set]
 repeat' split
 all_goals first | rfl | omega | simp_all
theorem zJN {H:zaa} {is im iv:Nat} {c:List AV} {s s':List (IT × Nat)} (h1:is≠im) (h2:is≠iv) (h3:im≠iv) {a b d:AB} (ha:a=.map (kvS s' 0)) (hb:b=.vec zax 5 s'.length (tms s')) (hd:d=.cells (c++[.map im,.ov iv s'.length])) :
  (((sw H is im iv c s).set im a).set iv b).set is d=sw H is im iv c s':=by
 subst ha hb hd;refine List.ext_getElem? λi=>?_;unfold sw;simp only[List.getElem?_set,List.length_set]
 repeat' split
 all_goals first | rfl | omega | simp_all
theorem zwz (i:IT) (c:Nat):∀ s:List (IT × Nat),(zbb s i c).length≤s.length+1
 | []=>by simp[zbb]
 | p::s=>by have:=zwz i c s;unfold zbb;split <;> simp <;> omega
theorem zpo:∀ (l s:List (IT × Nat)),(zbA s l).length≤s.length+l.length
 | [],s=>by simp[zbA]
 | p::l,s=>by have h1:=zpo l (zbb s p.1 p.2);have h2:=zwz p.1 p.2 s;have e:zbA s (p::l)=zbA (zbb s p.1 p.2) l:=rfl;rw[e,List.length_cons];omega
theorem zxb:∀ (l s:List (IT × Nat)),∀ p∈zbA s l,(∃ q∈s,q.1=p.1)∨∃ q∈l,q.1=p.1
 | [],s,p,hp=>.inl ⟨p,hp,rfl⟩
 | x::l,s,p,hp=>by
  have e:zbA s (x::l)=zbA (zbb s x.1 x.2) l:=rfl;rw[e]at hp;rcases zxb l _ p hp with ⟨q,hq,h⟩ | ⟨q,hq,h⟩
  ·rcases zha hq with ⟨h1,_⟩ | h1
   ·exact .inr ⟨x,by simp,by rw[←h,h1]⟩
   ·exact .inl ⟨q,h1,h⟩
  ·exact .inr ⟨q,by simp[hq],h⟩
theorem zJJ (l:List (IT × Nat)) (hl:∀ p∈l,p.1.nodes≤1000∧Dig p.1) (H:zaa) (is im iv:Nat) (c:List AV) (s:List (IT × Nat)) (hS:Sw H is im iv c s) (mr:(s.map Prod.fst).Nodup) (iL:∀ p∈s,Dig p.1)
  (hb:zaG (λ_=>1) s+zaG (λ_=>1) l<1000000000 ^ 20) (aS:s.length+l.length≤100000) (K:Kt) (hK:K (.tup []) (sw H is im iv c (zbA s l))) :
  ACalls tP zqQ [.ptr is 0,.sl (zaL l) .none] H K:=by
 refine ACalls.out (zTT λhs=>?_);simp[zDK,Nat.add_assoc];have bP:∀ j,((zbA s (l.take j)).map Prod.fst).Nodup:=λj=>zpp _ _ mr;have hcd:∀ j,∀ p∈zbA s (l.take j),Dig p.1:=λj p hp=>by
  rcases zxb _ _ p hp with ⟨q,hq,he⟩ | ⟨q,hq,he⟩
  ·rw[←he];exact iL q hq
  ·rw[←he];exact (hl q (List.mem_of_mem_take hq)).2
 have cp:∀ j,(zbA s (l.take j)).length≤s.length+l.length:=λj=>Nat.le_trans (zpo _ _) (by simp[List.length_take];omega);refine zTR (Inv:=λq t11 H'=>∃ j:Nat,j≤l.length∧l.length-j=q∧t11=.int .i64 j∧H'=sw H is im iv c (zbA s (l.take j))) l.length ?_ ?_
 ·intro _;exact⟨0,by omega,rfl,rfl,by rw[List.take_zero,zGo,hS.self]⟩
 ·rintro q t11 H' ⟨j,hj,rfl,rfl,rfl⟩ aJ am aM Kb au;by_cases aQ:j<l.length
  ·have aR:zbA s (l.take (j+1))=zbb (zbA s (l.take j)) l[j].1 l[j].2:=by rw[List.take_succ_eq_append_getElem aQ,zGp]
   have jM:=bP j;have iE:=hcd j;have l6:=cp j;have dl:zaG (λ_=>1) (zbA s (l.take j))+l[j].2≤zaG (λ_=>1) s+zaG (λ_=>1) l:=by have h1:=zpq (λ_=>1) (l.take (j+1)) s;rw[aR,zo8]at h1;have h2:=zgJ (λ_=>1) l (j+1);rw[zdj]at h2 ⊢;simp only[zdj,Nat.mul_one]at h1 h2 ⊢;omega
   obtain⟨hn,hd⟩:=hl _ (List.getElem_mem aQ);generalize hu:zbA s (l.take j)=u at *;have fK:Sw (sw H is im iv c u) is im iv c u:=hS.next;obtain⟨x2,y2,aP,bg,fB⟩:=zck l[j].1;simp[zuB,aQ,zd7,zc8,zcB,Nat.add_assoc];refine⟨zd7 _,?_⟩;have hlen0:(sw H is im iv c u).length=H.length:=zJM;simp only[zo4];have dM:∀ J,(sw H is im iv c u++(AB.cells (tmC l[j])::J))[H.length]?=some (.cells (tmC l[j])):=λJ=>by simp[List.getElem?_append]
   simp[dM,zcB,Nat.add_assoc];obtain⟨txt,iw⟩:∃ txt,txt=wrI l[j].1:=⟨_,rfl⟩;have mu:=zr1 l[j].1;have htne:txt≠[]:=by rw[iw];obtain⟨r,hr⟩:=zr0 l[j].1 [];rw[List.append_nil]at hr;rw[hr];simp
   have htp:0<txt.length:=List.length_pos_iff.2 htne;refine ACalls.ownB (id:=H.length+1) (t:=112) (p:=.nilp) 5 1 (by simp[List.getElem?_append]) ?_;have hX1:(sw H is im iv c u++[AB.cells (tmC l[j]),.bld 112 [.nilp,.snil]]).set (H.length+1) (.bld 112 [.nilp,.sl [] (.own (sw H is im iv c u++[AB.cells (tmC l[j]),.bld 112 [.nilp,.snil]]).length)])++[.perm 5 1 0] =
     sw H is im iv c u++[AB.cells (tmC l[j]),.bld 112 [.nilp,.sl (bcs []) (.own (H.length+2))],.perm 5 1 0]:=by simp[List.set_append_right,bcs]
   rw[hX1];have hWb:Wb (sw H is im iv c u++[AB.cells (tmC l[j]),.bld 112 [.nilp,.sl (bcs []) (.own (H.length+2))],.perm 5 1 0]) (H.length+1) (H.length+2) []:=⟨by omega,⟨.nilp,.inl rfl,by simp[List.getElem?_append]⟩,by simp[List.getElem?_append]⟩;refine ACalls.toFrz (zWf _ l[j].1 (Nat.le_refl _) hn hd _ _ _ [] hWb (by simp;omega) _ ?_);rw[List.nil_append,←iw];refine⟨H.length+2,5,txt.length,htp,hWb.next.h2,?_⟩;have hX2:(wb (sw H is im iv c u++[AB.cells (tmC l[j]),.bld 112 [.nilp,.sl (bcs []) (.own (H.length+2))],.perm 5 1 0]) (H.length+1) (H.length+2) txt).set (H.length+2) (.frz 5 1 txt.length) =
     sw H is im iv c u++[AB.cells (tmC l[j]),.bld 112 [.ptr (H.length+1) 0,.sl (bcs txt) (.own (H.length+2))],.frz 5 1 txt.length]:=by simp[wb,List.set_append_right]
   rw[hX2];obtain⟨E,hE⟩:∃ E,E=[AB.cells (tmC l[j]),.bld 112 [.ptr (H.length+1) 0,.sl (bcs txt) (.own (H.length+2))],.frz 5 1 txt.length]:=⟨_,rfl⟩;rw[←hE];have hSE:∀ J,Sw (sw H is im iv c u++(E++J)) is im iv c u:=λJ=>fK.app;have e1:∀ J,(sw H is im iv c u++(E++J))[H.length]?=some (.cells (tmC l[j])):=λJ=>by rw[hE];simp[List.getElem?_append]
   have e2:∀ J,(sw H is im iv c u++(E++J))[H.length+1]?=some (.bld 112 [.ptr (H.length+1) 0,.sl (bcs txt) (.own (H.length+2))]):=λJ=>by rw[hE];simp[List.getElem?_append]
   have e3:∀ J,(sw H is im iv c u++(E++J))[H.length+2]?=some (.frz 5 1 txt.length):=λJ=>by rw[hE];simp[List.getElem?_append]
   have eP:(c++[.map im,.ov iv u.length])[4]?=some (.map im):=by rw[List.getElem?_append_right (by rw[hS.c4];omega),hS.c4];rfl
   have kM:(c++[.map im,.ov iv u.length])[5]?=some (.ov iv u.length):=by rw[List.getElem?_append_right (by rw[hS.c4];omega),hS.c4];rfl
   have cV:=hSE [];rw[List.append_nil]at cV;have e10:=e1 [];rw[List.append_nil]at e10;have hstr:∀ (J:zaa) (r:AV→zaa→Prop),r (.str txt) (sw H is im iv c u++(E++J))→ACalls tP zh1 [.ptr (H.length+1) 0] (sw H is im iv c u++(E++J)) r:=λJ r h=>zFu htne (e2 J) (e3 J) h;simp[cV.h1,zdn _ eP];refine zaB (.str txt) (λJ=>by rw[List.append_assoc];exact hstr J _ ⟨rfl,rfl⟩) ?_;simp[cV.h2];have hdone:∀ E:zaa,Kb (ziL (.ptr is 0) (.sl (zaL l) .none) (.int .i64 l.length) (.int .i64 (j+1))) (sw H is im iv c (zbb u l[j].1 l[j].2)++E):=λE=>
    au _ _ ⟨l.length-(j+1),by omega,Back.at (J:=E) (H2:=sw H is im iv c (zbb u l[j].1 l[j].2)) rfl (by simp) (hS.hsc hs) (by
     have:=zbr hS.h1;simp[ziL,ux,AV.sc,AV.scA,AV.scB,AV.scV];omega) ⟨_,rfl,j+1,by omega,rfl,rfl,by rw[aR]⟩⟩
   by_cases mH:∃ k,∃ h:k<u.length,u[k].1=l[j].1
   ·obtain⟨k,jA,hke⟩:=mH;have jK:=zxT hd u 0 k jA iE jM hke;rw[Nat.zero_add,←iw]at jK;simp[jK,cV.h1,zdn _ kM,jA];have hku2:=zd3 (List.getElem_mem jA);have fF:zaG (λ_=>1) s+zaG (λ_=>1) l<1000000000 ^ 30:=Nat.lt_of_lt_of_le hb (by decide);have bI:u[k].2<1000000000 ^ 30:=by omega
    have bq:l[j].2<1000000000 ^ 30:=by omega
    have kN:zbb u l[j].1 l[j].2=u.set k (u[k].1,u[k].2+l[j].2):=zwy jA hke jM;have iK:∀ x∈zai ((u[k].2+l[j].2:Nat):Int),x.known=true:=List.all_eq_true.1 (zeY _);simp[cV.h3,zrN jA,e10,zcJ];refine⟨by omega,?_⟩;refine zaB (.agg (zai ((u[k].2+l[j].2:Nat):Int))) (λJ=>zWj _ _ bI bq _ _ ⟨rfl,rfl⟩) ?_;have jB:=zzW jA (u[k].2+l[j].2);rw[List.append_assoc]at jB;simp[cV.h3,znr,zuD,wi j (by omega)];refine⟨by omega,?_⟩;rw[Int.natCast_add]at jB;rw[jB,←kN];have bn:u.length=(zbb u l[j].1 l[j].2).length:=by rw[kN];simp
    have hkk:kvS u 0=kvS (zbb u l[j].1 l[j].2) 0:=by rw[kN,zHc u jA]
    have aW:=zJL (H:=H) (c:=c) hS.n1 hS.n2 hS.n3 bn hkk;have gz:(sw H is im iv c u++E).set iv (.vec zax 5 u.length (tms (zbb u l[j].1 l[j].2)))=sw H is im iv c (zbb u l[j].1 l[j].2)++E:=by rw[List.set_append_left _ _ (by simpa using zbr hS.h3),aW]
    rw[gz];exact hdone E
   ·have hnone:=zxR hd u 0 iE (λp hp he=>by
     obtain⟨k,hk,rfl⟩:=List.getElem_of_mem hp;exact mH ⟨k,hk,he⟩)
    rw[←iw]at hnone;obtain⟨gG,gH⟩:=hnone;simp[gG,cV.h1,zdn _ eP];refine zaB (.str txt) (λJ=>by rw[List.append_assoc];exact hstr J _ ⟨rfl,rfl⟩) ?_;simp[cV.h1,zdn _ kM,cV.h2];have kN:zbb u l[j].1 l[j].2=u++[l[j]]:=zwB (λp hp he=>by
     obtain⟨k,hk,rfl⟩:=List.getElem_of_mem hp;exact mH ⟨k,hk,he⟩)
    have hmp:=gH l[j].2;rw[Nat.zero_add]at hmp;have iA:=zbr hS.h2;have mI:=zbr hS.h3;have mJ:=zbr hS.h1;obtain⟨M,hM⟩:∃ M,M=AB.map (zcH (kvS u 0) txt (.int .i64 u.length)):=⟨_,rfl⟩;rw[←hM];have g1:((sw H is im iv c u++E).set im M)[is]?=some (.cells (c++[.map im,.ov iv u.length])):=by rw[List.getElem?_set_ne hS.n1.symm];exact cV.h1
    have g2:((sw H is im iv c u++E).set im M)[iv]?=some (.vec zax 5 u.length (tms u)):=by rw[List.getElem?_set_ne hS.n3];exact cV.h3
    have g3:((sw H is im iv c u++E).set im M)[H.length]?=some (.cells (tmC l[j])):=by rw[List.getElem?_set_ne (by omega)];exact e10
    have cZ:plain ([.int .i64 0,.snil,.bool false,.snil,.snil]:List AV)=some [.int .i64 0,.sl [] .none,.bool false,.sl [] .none,.sl [] .none]:=rfl;simp[g1,zdn _ kM,g3,zc8,zau,zaQ,zks,cZ];simp only[zav,zaM,zaJ,g2];simp[g1];refine⟨by omega,?_⟩;have g4:(((sw H is im iv c u++E).set im M).set iv (.vec zax 5 (u.length+1) (tms u++tmC l[j])))[is]?=some (.cells (c++[.map im,.ov iv u.length])):=by rw[List.getElem?_set_ne hS.n2.symm];exact g1
    have jo:List.take 5 (c++[.map im,.ov iv u.length])=c++[.map im]:=by
     have:c++[.map im,.ov iv u.length]=(c++[.map im])++[.ov iv u.length]:=by simp
     rw[this,List.take_append_of_le_length (by simp[hS.c4]),List.take_of_length_le (by simp[hS.c4])]
    have kz:List.drop (5+1) (c++[.map im,.ov iv u.length])=[]:=List.drop_of_length_le (by simp[hS.c4]);rw[g4];simp only[zFK,jo,kz];simp[AV.known,hS.c4,znr,zuD,wi j (by omega)];have hlu:u.length+1=(u++[l[j]]).length:=by simp
    have aW:=zJN (H:=H) (c:=c) (s:=u) (s':=u++[l[j]]) hS.n1 hS.n2 hS.n3 (a:=M) (b:=.vec zax 5 (u.length+1) (tms u++tmC l[j])) (d:=.cells (c++[.map im,.ov iv (u.length+1)]))
     (by rw[hM,hmp]) (by rw[hlu,zgO];simp[tms]) (by rw[hlu])
    have gz:(((sw H is im iv c u++E).set im M).set iv (.vec zax 5 (u.length+1) (tms u++tmC l[j]))).set is (.cells (c++[.map im,.ov iv (u.length+1)]))=sw H is im iv c (zbb u l[j].1 l[j].2)++E:=by rw[List.set_append_left _ _ (by simpa using iA),List.set_append_left _ _ (by simpa using mI),List.set_append_left _ _ (by simpa using mJ),aW,kN]
    rw[gz];exact hdone E
  ·obtain rfl:j=l.length:=by omega
   rw[List.take_length]at *;simp[zuB];exact zz3 (J:=[]) (by simp) (by simp) (hS.hsc hs) hK
section
open Go.RowKit
variable {P:Program} {B:Nat} {w:World} {G:Gh} {H:zaa}
inductive OutX (H:zaa) (n:Nat):AV→AV→Prop
 | two {a b:AV} (h:OutW H n a b):OutX H n a b
 | msr (id len:Nat) (cs:List AV) (rs:List (List (List AV))) (ap:n≤id) (hH:H[id]?=some (.cells cs)) (hm:rs.length=len)
   (aO:All2 (OutV H n) cs (rs.map λr=>.sl r .none)):OutX H n (.ms id 0 len len) (.sl (rs.map λr=>[.sl r .none]) .none)
theorem OutX.vrel (hH:HRel B w G H) {n:Nat} {v:Value} {a b:AV} (h:OutX H n a b) (hr:TRel w G v a):VRel w (G.cut w n) v b:=by
 cases h with
 | two h=>exact h.vrel hH hr
 | msr id len cs rs ap cG hm aO=>
  obtain⟨b,hμ,rfl⟩:=hr;obtain⟨hB,hL,vs,e,hw,aN⟩:=hH.ok id _ _ cG hμ;subst hm;show DRel w (G.cut w n).L _ _;by_cases aB:rs=[]
  ·subst aB;exact .slE _ _
  ·have hd:All2 (DRel w (G.cut w n).L) vs.toList (rs.map λr=>AV.sl r .none):=All2.of_get (aN.length.trans aO.length) λi x y hx hy=>by
    obtain⟨a,ha,eZ⟩:=All2.get' aN hx;obtain⟨y',dQ,hY⟩:=All2.get' aO ha;rw[hy]at dQ;cases dQ;obtain⟨r,hr,rfl⟩:∃ r,rs[i]?=some r∧AV.sl r .none=y:=by simpa using hy
    exact hY.vrel hH (TRel.of_v (VRel.of_a eZ))
   have bn:∀ l:List (List (List AV)),(l.map λr=>[AV.sl r .none]).flatten=l.map λr=>AV.sl r .none:=by
    intro l;induction l with
    | nil=>rfl
    | cons r l ih=>simp[ih]
   have jG:=aN.length;have dX:=aO.length;have:=DRel.of_flat_at (w:=w) (L:=(G.cut w n).L) (g:=b) (off:=0) (size:=1) (cap:=rs.length) (es:=rs.map λr=>[AV.sl r .none]) (zs:=vs.toList) (by simp) (by simpa using aB) (by simp) ?_ (by rw[bn rs];exact hd) ?_
   ·simpa using this
   ·have:(G.cut w n).L b=vs.size:=by simp only[Gh.cut];rw[if_pos (cut_dropped.2 ⟨id,_,ap,hμ,rfl⟩),hw]
    rw[this];simp at jG dX ⊢;omega
   ·intro j u hj;rw[Nat.zero_add];simp only[World.cell?,hw];simpa using hj
inductive OutT3 (H:zaa) (n:Nat):AV→AV→Prop
 | one {a b:AV} (h:OutX H n a b):OutT3 H n a b
 | tup {asx bs:List AV} (h:All2 (OutX H n) asx bs):OutT3 H n (.tup asx) (.tup bs)
/- Slots that are appended to: a block of their own for each. -/
theorem ALoop.ovC {c:Code} {Q:AExit→List AV→zaa→Prop} {F:List AV} {id j:Nat} {cs:List AV} (e size:Nat) (ap:H[id]?=some (.cells cs)) (hj:cs[j]?=some .snil)
  (h:ALoop P c Q F (H.set id (.cells (cs.set j (.ov H.length 0)))++[.vec e size 0 []])):ALoop P c Q F H:=by
 intro B w G a hH hF hd;obtain⟨G',hE,aV⟩:=hH.ovCell e size ap hj;refine wp_mono (h B w G' a aV (hF.ext hE) hd) λe a' w' hp=>?_;obtain⟨F'',H'',G'',e'',rfl,k1,k2,k3,k4,k5⟩:=hp;exact⟨F'',H'',G'',e'',rfl,hE.trans k1,k2,k3,k4,k5⟩
section
variable {α:Type}
def vcs:Nat→List (List α)→List AV
 | _,[]=>[]
 | b,l::ls=>.ov b l.length::vcs (b+1) ls
def vbs (f:α→List AV) (e size:Nat) (ls:List (List α)):List AB:=ls.map λl=>.vec e size l.length (l.flatMap f)
@[simp] theorem zAk:∀ (b:Nat) (ls:List (List α)),(vcs b ls).length=ls.length
 | _,[]=>rfl
 | b,l::ls=>by simp[vcs,zAk (b+1) ls]
@[simp] theorem ycj (f:α→List AV) (e size:Nat) (ls:List (List α)):(vbs f e size ls).length=ls.length:=by simp[vbs]
theorem zkT:∀ (b:Nat) (ls:List (List α)) (k:Nat),(vcs b ls)[k]?=ls[k]?.map λl=>.ov (b+k) l.length
 | _,[],k=>by simp[vcs]
 | b,l::ls,0=>by simp[vcs]
 | b,l::ls,k+1=>by simp[vcs,zkT (b+1) ls k];cases ls[k]? <;> simp;omega
theorem zJ6 (f:α→List AV) (e size:Nat) (ls:List (List α)) (k:Nat):(vbs f e size ls)[k]?=ls[k]?.map λl=>.vec e size l.length (l.flatMap f):=by simp[vbs]
theorem zrW:∀ (b:Nat) (ls:List (List α)) (k:Nat) (l:List α),(vcs b ls).set k (.ov (b+k) l.length)=vcs b (ls.set k l)
 | _,[],k,l=>by simp[vcs]
 | b,x::ls,0,l=>by simp[vcs]
 | b,x::ls,k+1,l=>by have:=zrW (b+1) ls k l;rw[show b+1+k=b+(k+1) by omega]at this;simp[vcs,this]
theorem zJ7 (f:α→List AV) (e size:Nat) (ls:List (List α)) (k:Nat) (l:List α):(vbs f e size ls).set k (.vec e size l.length (l.flatMap f))=vbs f e size (ls.set k l):=by simp[vbs,List.map_set]
theorem zJ8:∀ (b n:Nat),vcs b (List.replicate (n+1) ([]:List α))=.ov b 0::vcs (b+1) (List.replicate n ([]:List α))
 | b,n=>rfl
theorem ALoop.ovCs {c:Code} {Q:AExit→List AV→zaa→Prop} {F:List AV} (α:Type) (f:α→List AV) {id:Nat} (e size:Nat):∀ (n:Nat) (pre:List AV) (H:zaa),H[id]?=some (.cells (pre++List.replicate n .snil)) →
  ALoop P c Q F (H.set id (.cells (pre++vcs H.length (List.replicate n ([]:List α))))++vbs f e size (List.replicate n ([]:List α)))→ALoop P c Q F H
 | 0,pre,H,ap,h=>by
  have hs:H.set id (.cells (pre++vcs H.length (List.replicate 0 ([]:List α))))=H:=by
   refine List.ext_getElem? λi=>?_;rw[List.getElem?_set];split
   ·rename_i hi;subst hi;rw[if_pos (List.getElem?_eq_some_iff.1 ap).1,ap];simp[vcs]
   ·rfl
  rw[hs]at h;simpa[vbs]using h
 | n+1,pre,H,ap,h=>by
  refine ALoop.ovC e size ap (j:=pre.length) (by simp) ?_;have ak:=(List.getElem?_eq_some_iff.1 ap).1;have h1:(pre++List.replicate (n+1) AV.snil).set pre.length (.ov H.length 0)=(pre++[.ov H.length 0])++List.replicate n .snil:=by rw[List.set_append_right _ _ (Nat.le_refl _)];simp[List.replicate_succ]
  rw[h1];refine ALoop.ovCs α f e size n (pre++[.ov H.length 0]) _ (by rw[List.getElem?_append_left (by simpa using ak),List.getElem?_set_self ak]) ?_;have h2:(H.set id (.cells (pre++[AV.ov H.length 0]++List.replicate n AV.snil))++[AB.vec e size 0 []]).set id (.cells (pre++[AV.ov H.length 0]++vcs (H.set id (.cells (pre++[AV.ov H.length 0]++List.replicate n AV.snil))++[AB.vec e size 0 []]).length (List.replicate n ([]:List α))))++vbs f e size (List.replicate n ([]:List α))
    = H.set id (.cells (pre++vcs H.length (List.replicate (n+1) ([]:List α))))++vbs f e size (List.replicate (n+1) ([]:List α)):=by
   rw[List.set_append_left _ _ (by simpa using ak),List.set_set,List.append_assoc];simp[zJ8,vbs,List.replicate_succ,vcs]
  rw[h2];exact h
def RdC (H:zaa) (lo:Nat) (f:α→List AV) (e size:Nat) (c:AV) (l:List α):Prop:=
 (l=[]∧c=.snil)∨∃ b,lo≤b∧c=.ov b l.length∧H[b]?=some (.vec e size l.length (l.flatMap f))
def RdL (H:zaa) (lo:Nat) (f:α→List AV) (e size:Nat) (a:AV) (ls:List (List α)):Prop:=
 ∃ id cs,lo≤id∧a=.ms id 0 ls.length ls.length∧H[id]?=some (.cells cs)∧All2 (RdC H lo f e size) cs ls
theorem RdC.pre {H H':zaa} {lo lo':Nat} {f:α→List AV} {e size:Nat} {c:AV} {l:List α} (h:RdC H lo f e size c l) (hp:H <+: H') (hl:lo'≤lo):RdC H' lo' f e size c l:=by
 rcases h with h | ⟨b,h1,h2,h3⟩
 ·exact .inl h
 ·obtain⟨J,rfl⟩:=hp;exact .inr ⟨b,by omega,h2,by rw[List.getElem?_append_left (List.getElem?_eq_some_iff.1 h3).1];exact h3⟩
theorem RdL.pre {H H':zaa} {lo lo':Nat} {f:α→List AV} {e size:Nat} {a:AV} {ls:List (List α)} (h:RdL H lo f e size a ls) (hp:H <+: H') (hl:lo'≤lo):RdL H' lo' f e size a ls:=by obtain⟨id,cs,h1,h2,h3,h4⟩:=h;refine⟨id,cs,by omega,h2,?_,h4.mono λ_ _ hc=>hc.pre hp hl⟩;obtain⟨J,rfl⟩:=hp;rw[List.getElem?_append_left (List.getElem?_eq_some_iff.1 h3).1];exact h3
theorem RdL.get {H:zaa} {lo:Nat} {f:α→List AV} {e size:Nat} {a:AV} {ls:List (List α)} (h:RdL H lo f e size a ls):∃ id cs,a=.ms id 0 ls.length ls.length∧H[id]?=some (.cells cs)∧cs.length=ls.length∧∀ k (hk:k<ls.length),∃ c,cs[k]?=some c∧RdC H lo f e size c ls[k]:=by obtain⟨id,cs,h1,h2,h3,h4⟩:=h;refine⟨id,cs,h2,h3,h4.length,λk hk=>?_⟩;exact All2.get h4 (List.getElem?_eq_getElem hk)
theorem zkrq:∀ {a b a' b':List AV},plain a=some a'→plain b=some b'→plain (a++b)=some (a'++b')
 | [],b,a',b',h1,h2=>by simp[plain]at h1;subst h1;simpa using h2
 | x::a,b,a',b',h1,h2=>by
  simp only[plain]at h1;cases hx:x.pd with
  | none=>rw[hx]at h1;simp at h1
  | some d=>
   cases ha:plain a with
   | none=>rw[hx,ha]at h1;simp at h1
   | some ds=>rw[hx,ha]at h1;simp at h1;subst h1;simp[plain,hx,zkrq ha h2]
theorem RdC.out {H:zaa} {lo:Nat} {f g:α→List AV} {e size:Nat} {c:AV} {l:List α} (h:RdC H lo f e size c l) (hp:∀ x∈l,plain (f x)=some (g x)) (hs:∀ x,(g x).length=size):OutV H lo c (.sl (l.map g) .none):=by
 rcases h with ⟨rfl,rfl⟩ | ⟨b,h1,rfl,h3⟩
 ·exact .wk (.atom .snil) rfl rfl
 ·refine .vfz b e size l.length _ _ h1 h3 ?_ (by simp) λc hc=>by obtain⟨x,_,rfl⟩:=List.mem_map.1 hc;exact hs x
  clear h3;induction l with
  | nil=>rfl
  | cons x l ih=>rw[List.flatMap_cons,List.map_cons,List.flatten_cons];exact zkrq (hp x (by simp)) (ih λy hy=>hp y (by simp[hy]))
theorem RdL.out {H:zaa} {lo:Nat} {f g:α→List AV} {e size:Nat} {a:AV} {ls:List (List α)} (h:RdL H lo f e size a ls) (hp:∀ l∈ls,∀ x∈l,plain (f x)=some (g x)) (hs:∀ x,(g x).length=size):OutX H lo a (.sl (ls.map λl=>[.sl (l.map g) .none]) .none):=by
 obtain⟨id,cs,h1,rfl,h3,h4⟩:=h;have:=OutX.msr (H:=H) (n:=lo) id ls.length cs (ls.map λl=>l.map g) h1 h3 (by simp) (All2.of_get (by simpa using h4.length) λi x y hx hy=>by
  obtain⟨l,hl,hc⟩:=All2.get' h4 hx;simp only[List.map_map,List.getElem?_map,hl,Option.map_some,Function.comp_apply,Option.some.injEq]at hy;subst hy;exact hc.out (hp l (List.mem_of_getElem? hl)) hs)
 rw[List.map_map]at this;exact this
def NX (f:α→List AV) (e size:Nat) (H1:zaa) (st:List (List α)):zaa:=H1++(.cells (vcs (H1.length+1) st)::vbs f e size st)
theorem zeH (f:α→List AV) (e size:Nat) (H1:zaa) (st:List (List α)):(NX f e size H1 st).length=H1.length+1+st.length:=by simp[NX];omega
theorem zwd (f:α→List AV) (e size:Nat) (H1:zaa) (st:List (List α)):H1 <+: NX f e size H1 st:=⟨_,rfl⟩
theorem zwa (f:α→List AV) (e size:Nat) (H1 J:zaa) (st:List (List α)):(NX f e size H1 st++J)[H1.length]?=some (.cells (vcs (H1.length+1) st)):=by simp[NX]
theorem zwb (f:α→List AV) (e size:Nat) (H1:zaa) (st:List (List α)):(NX f e size H1 st)[H1.length]?=some (.cells (vcs (H1.length+1) st)):=by simp[NX]
theorem zv8 (f:α→List AV) (e size:Nat) (H1 J:zaa) (st:List (List α)) {k:Nat} (hk:k<st.length):(NX f e size H1 st++J)[H1.length+1+k]?=some (.vec e size st[k].length (st[k].flatMap f)):=by rw[List.getElem?_append_left (by rw[zeH];omega),NX,List.getElem?_append_right (by omega),show H1.length+1+k-H1.length=k+1 by omega,List.getElem?_cons_succ,zJ6,List.getElem?_eq_getElem hk];rfl
theorem zv9 (f:α→List AV) (e size:Nat) (H1 J:zaa) {st:List (List α)} {k:Nat} {l:List α} (h:st[k]?=some l):(NX f e size H1 st++J)[H1.length+1+k]?=some (.vec e size l.length (l.flatMap f)):=by obtain⟨hk,rfl⟩:=List.getElem?_eq_some_iff.1 h;exact zv8 f e size H1 J st hk
theorem zrV (b:Nat) {st:List (List α)} {k:Nat} {l:List α} (h:st[k]?=some l):(vcs b st)[k]?=some (.ov (b+k) l.length):=by rw[zkT,h];rfl
theorem zwe (f:α→List AV) (e size:Nat) (H1 J:zaa) (st:List (List α)) {k:Nat} (hk:k<st.length) (l:List α):((NX f e size H1 st++J).set (H1.length+1+k) (.vec e size l.length (l.flatMap f))).set H1.length (.cells (vcs (H1.length+1) (st.set k l)))=NX f e size H1 (st.set k l)++J:=by rw[List.set_append_left _ _ (by rw[zeH];omega),List.set_append_left _ _ (by simp[zeH];omega)];congr 1;unfold NX;rw[List.set_append_right _ _ (by omega),List.set_append_right _ _ (by omega),show H1.length+1+k-H1.length=k+1 by omega,List.set_cons_succ,Nat.sub_self,List.set_cons_zero,zJ7]
theorem zJ9 (b:Nat) (ls:List (List α)) {k:Nat} (hk:k<ls.length) (l:List α):(vcs b ls).take k++.ov (b+k) l.length::(vcs b ls).drop (k+1)=vcs b (ls.set k l):=by rw[←zrW,List.set_eq_take_append_cons_drop,if_pos (by simpa using hk)]
theorem zAl {n:Nat}:∀ (b:Nat) (ls:List (List α)),b+ls.length≤n→(vcs b ls).all (AV.scA n)=true
 | _,[],_=>rfl
 | b,l::ls,h=>by
  simp only[List.length_cons]at h;have ih:=zAl (n:=n) (b+1) ls (by omega);have hb:b<n:=by omega
  rw[vcs,List.all_cons,ih,Bool.and_true];simpa[AV.scA,AV.scB]using hb
theorem zFr {f:α→List AV} {e size:Nat} {H1:zaa} {st:List (List α)} (hs:HSc H1) (hf:∀ x n,(f x).all (AV.scA n)=true):HSc (NX f e size H1 st):=by
 refine hs.append ?_;rw[List.all_eq_true];intro b hb;rcases List.mem_cons.1 hb with rfl | hb
 ·simp only[AB.sc];exact zAl _ _ (by simp;omega)
 ·obtain⟨l,_,rfl⟩:=List.mem_map.1 hb;simp only[AB.sc,List.all_flatMap,hf];simp
theorem ALoop.nx {c:Code} {Q:AExit→List AV→zaa→Prop} {F:List AV} (f:α→List AV) (e size n:Nat) (h:ALoop P c Q F (NX f e size H (List.replicate n []))):ALoop P c Q F (H++[.cells (List.replicate n .snil)]):=by
 refine ALoop.ovCs α f (id:=H.length) e size n [] _ (by simp) ?_;have:(H++[AB.cells (List.replicate n AV.snil)]).set H.length (.cells ([]++vcs (H++[AB.cells (List.replicate n AV.snil)]).length (List.replicate n ([]:List α))))++vbs f e size (List.replicate n ([]:List α))=NX f e size H (List.replicate n []):=by simp[NX,List.set_append_right]
 rw[this];exact h
theorem HRel.reVec (h:HRel B w G H) {id e size n:Nat} {cs cs':List AV} (ap:H[id]?=some (.vec e size n cs)) (hc:All2 WkA cs cs'):HRel B w G (H.set id (.vec e size n cs')):=by
 refine⟨by simp[h.len],?_,h.dist,h.fresh,h.lt,h.base⟩;intro i ab gi h1 h2;by_cases hi:i=id
 ·subst hi;rw[List.getElem?_set_self (List.getElem?_eq_some_iff.1 ap).1]at h1;cases h1;have az:=h.ok i _ _ ap h2;cases gi with
  | blk b=>exact az.elim
  | own v s n=>obtain⟨k1,k2,⟨xs,k3,k4⟩,k5⟩:=az;exact⟨k1,k2,⟨xs,k3,zrY (vs:=[]) hc k4⟩,k5⟩
  | gap=>exact az.elim
 ·rw[List.getElem?_set_ne (λh=>hi h.symm)]at h1;exact h.ok i ab gi h1 h2
theorem ALoop.reVec {c:Code} {Q:AExit→List AV→zaa→Prop} {F:List AV} {id e size n:Nat} {cs cs':List AV} (ap:H[id]?=some (.vec e size n cs)) (hw:All2 WkA cs cs') (h:ALoop P c Q F (H.set id (.vec e size n cs'))):ALoop P c Q F H:=by intro B w G a hH hF hd;exact h B w G a (hH.reVec ap hw) hF hd
theorem ACalls.reVec {f:FuncId} {args:List AV} {K:Kt} (h:ACalls P f args H λr H'=>K r H'∨∃ id e size n cs cs',H'[id]?=some (.vec e size n cs)∧All2 WkA cs cs'∧K r (H'.set id (.vec e size n cs'))):ACalls P f args H K:=by
 intro B w G vs hH hv;refine (h B w G vs hH hv).mono λex w' ⟨v,r,H',G',h1,h2,h3,h4,h5⟩=>?_;rcases h5 with hk | ⟨id,e,size,n,cs,cs',ap,hw,hk⟩
 ·exact⟨v,r,H',G',h1,h2,h3,h4,hk⟩
 ·exact⟨v,r,_,G',h1,h2,h3.reVec ap hw,h4,hk⟩
end
end
section
open Go.RowKit
variable {P:Program} {B:Nat} {w:World} {G:Gh} {H:zaa}
theorem HRel.newRowV (h:HRel B w G H) (e size cap:Nat) (cur:Array Value) (hc:cap≤maxLen) (hs:cur.size=cap*size) :
  Ext B w G (w.alloc (.cells cur e)) ⟨G.L,G.μ++[.own (.slice (some ⟨w.heap.size,0,none⟩) 0 cap) size 0]⟩∧HRel B (w.alloc (.cells cur e)) ⟨G.L,G.μ++[.own (.slice (some ⟨w.heap.size,0,none⟩) 0 cap) size 0]⟩ (H++[.vec e size 0 []]):=by
 have he:=Ext.alloc h (.cells cur e) G.L (λ_ _=>rfl) [.own (.slice (some ⟨w.heap.size,0,none⟩) 0 cap) size 0];have split:∀ (id:Nat) gi,(G.μ++[GI.own (.slice (some ⟨w.heap.size,0,none⟩) 0 cap) size 0])[id]?=some gi→G.μ[id]?=some gi∨(id=G.μ.length∧gi=.own (.slice (some ⟨w.heap.size,0,none⟩) 0 cap) size 0):=by
  intro id gi hg;by_cases ak:id<G.μ.length
  ·rw[List.getElem?_append_left ak]at hg;exact .inl hg
  ·have aY:=(List.getElem?_eq_some_iff.1 hg).1;simp at aY;have:id=G.μ.length:=by omega
   subst this;simp at hg;exact .inr ⟨rfl,hg.symm⟩
 refine⟨he,by simp[h.len],?_,?_,λb hb=>?_,?_,?_⟩
 ·intro id ab gi h1 h2;rcases split id gi h2 with h2 | ⟨rfl,rfl⟩
  ·have ak:id<H.length:=by rw[←h.len];exact (List.getElem?_eq_some_iff.1 h2).1
   rw[List.getElem?_append_left ak]at h1;exact (h.ok id ab gi h1 h2).keep he (λb hb=>⟨zcN (h.lt id gi b h2 hb),rfl⟩)
  ·rw[h.len]at h1;simp at h1;subst h1;refine⟨rfl,rfl,⟨[],⟨by simp,.inr ⟨w.heap.size,cap,cur,rfl,h.base,zds _,Nat.zero_le _,hc,hs,by simp⟩⟩,trivial⟩,λb hb=>?_⟩;simp[Value.ownBlock]at hb;subst hb;exact h.fresh _ (Nat.le_refl _)
 ·intro id id' gi gi' b h1 h2 h3 h4;rcases split id gi h1 with k1 | ⟨e1,e2⟩ <;> rcases split id' gi' h2 with k2 | ⟨e3,e4⟩
  ·exact h.dist id id' gi gi' b k1 k2 h3 h4
  ·rw[e4]at h4;simp[GI.block,Value.ownBlock]at h4;have:=h.lt id gi b k1 h3;omega
  ·rw[e2]at h3;simp[GI.block,Value.ownBlock]at h3;have:=h.lt id' gi' b k2 h4;omega
  ·rw[e1,e3]
 ·rw[zb7]at hb;exact h.fresh b (by omega)
 ·intro id gi b h1 h2;rw[zb7];rcases split id gi h1 with k1 | ⟨e1,e2⟩
  ·have:=h.lt id gi b k1 h2;omega
  ·rw[e2]at h2;simp[GI.block,Value.ownBlock]at h2;omega
 ·rw[zb7];have:=h.base;omega
end
theorem zIR (n:Nat) (hn:0<n) (gE:n≤1000000) (H:zaa) (K:Kt) (hK:K (.ov H.length 0) (H++[.vec zax 5 0 []])) :
  ACalls tP zyf [.snil,.int .i64 n] H K:=by
 rintro B w G ⟨vs⟩ hR hv
 match vs,hv with
 | [v1,v2],⟨h1,h2,_⟩=>
 have h1:v1=.slice none 0 0:=h1;have h2:v2=.int .i64 n:=h2;subst h1 h2;obtain⟨i0,lr,mF,iM,bE⟩:∃ i0,tP.info? 55=some i0∧i0.zero=some (.agg #[.int .i64 0,.slice none 0 0,.bool false,.slice none 0 0,.slice none 0 0])∧i0.size=5∧i0.bytes=88:=⟨_,rfl,rfl,rfl,rfl⟩;refine (Go.Proofs.Any8.slices_Grow_grow zKn i0 _ lr mF (by omega) none 0 0 n [] w (Nat.le_refl _) (by omega) (by rw[bE];omega) (by omega) (by simp) (λ_=>rfl) (λ_ h=>by cases h)).mono ?_;rintro e w' ⟨rfl,rfl⟩;have cF:=grownCap_ge w (0+n) 0 55;have bO:=grownCap_le_maxLen w (0+n) 0 55 (by simp only[maxLen];omega);obtain⟨z,hz⟩:∃ z:Value,z=.agg #[.int .i64 0,.slice none 0 0,.bool false,.slice none 0 0,.slice none 0 0]:=⟨_,rfl⟩;rw[←hz];obtain⟨hE,hH⟩:=hR.drew (w.drawn+1) (Nat.le_succ _) |>.newRowV 55 5 (grownCap w (0+n) 0 55) (([]:List Value).toArray++Builtin.zeroCells z.cells (0+n-0)++Builtin.zeroCells z.cells (grownCap w (0+n) 0 55-(0+n))) bO (by
  simp only[Array.size_append,size_zeroCells,List.size_toArray,List.length_nil];have:z.cells.size=5:=by rw[hz];rfl
  rw[this];omega)
 refine⟨_,_,_,_,rfl,(Ext.drew B w G (w.drawn+1) (Nat.le_succ _)).trans hE,hH,?_,hK⟩;refine⟨⟨_,_,rfl,λh=>by omega,Nat.zero_le _⟩,_,5,0,?_,Nat.le_refl _,λ_=>rfl⟩;rw[←hR.len];simp;rfl
theorem zIP (ls:List (List (IT × Nat))) (hp:0<ls.flatten.length) (hb:ls.flatten.length≤1000000) (hn:ls.length≤1000) (H0:zaa) (K:Kt) (hK:K (.sl (zaL ls.flatten) .none) (NX tmC zax 5 H0 ls)) :
  ACalls tP zq3 [.ms H0.length 0 ls.length ls.length] (NX tmC zax 5 H0 ls) K:=by
 refine ACalls.out (zW4 λhs=>?_);obtain⟨H,hH⟩:∃ H,H=NX tmC zax 5 H0 ls:=⟨_,rfl⟩;have bP:(vcs (H0.length+1) ls).length=ls.length:=zAk _ _;have hC:∀ J,(H++J)[H0.length]?=some (.cells (vcs (H0.length+1) ls)):=λJ=>by rw[hH];exact zwa _ _ _ _ _ _
 have hC0:H[H0.length]?=some (.cells (vcs (H0.length+1) ls)):=by have:=hC [];simpa using this
 have hV:∀ J k (hk:k<ls.length),(H++J)[H0.length+1+k]?=some (.vec zax 5 ls[k].length (tms ls[k])):=λJ k hk=>by rw[hH,zv8 tmC zax 5 H0 J ls hk,tms,List.flatMap_def]
 have hl:H0.length<H.length:=zbr hC0;have bn:∀ i,(ls.take i).flatten.length≤ls.flatten.length:=λi=>by
  conv=>rhs;rw[←List.take_append_drop i ls]
  rw[List.flatten_append,List.length_append];omega
 have hsu:∀ i (hi:i<ls.length),(ls.take (i+1)).flatten=(ls.take i).flatten++ls[i]:=λi hi=>by rw[List.take_succ_eq_append_getElem hi,List.flatten_append];simp
 rw[←hH]at hs hK ⊢;simp[zEM];refine zW1 (Inv:=λq t3 t11 H'=>∃ i:Nat,i≤ls.length∧q=ls.length-i∧t11=.int .i64 i∧t3=.int .i64 ((ls.take i).flatten.length:Nat)∧H'=H) ls.length ?_ ?_
 ·intro _;exact⟨0,by omega,by omega,rfl,rfl,rfl⟩
 ·rintro q t3 t11 H' ⟨i,hi,rfl,rfl,rfl,rfl⟩ hsc am aM Kb au;by_cases ak:i<ls.length
  ·have h1:=bn i;have h2:=bn (i+1);have h3:=hsu i ak;have h4:=zkT (H0.length+1) ls i;rw[List.getElem?_eq_getElem ak]at h4;have h5:(ls.take (i+1)).flatten.length=(ls.take i).flatten.length+ls[i].length:=by rw[h3,List.length_append]
   obtain⟨m,hm⟩:∃ m,m=(ls.take i).flatten.length:=⟨_,rfl⟩;rw[←hm]at h1 h5 aM ⊢;have dU:¬ ((m:Int)+(ls[i].length:Int)<0):=by omega
   have w1:IntKind.i64.wrap ((m:Int)+(ls[i].length:Int))=(m:Int)+(ls[i].length:Int):=zaw (by omega) (by omega);simp[zvy,ak,hC0,zdn _ h4,w1,dU,wi i (by omega)];simp[zEN,zEO,wi i (by omega)];refine au _ _ ⟨ls.length-(i+1),by omega,Back.at (J:=[]) (H2:=H') (by simp) (by omega) hsc ?_ ⟨_,_,rfl,i+1,by omega,rfl,rfl,by rw[h5];simp,rfl⟩⟩;simpa[zor,AV.sc,AV.scV,AV.scA,AV.scB]using hl
  ·obtain rfl:i=ls.length:=by omega
   rw[List.take_length];simp[zvy];have hg:=zIR ls.flatten.length hp hb;simp at hg;refine hg _ _ ?_;refine zW0 (Inv:=λq t6 t27 H2=>∃ i:Nat,i≤ls.length∧q=ls.length-i∧t27=.int .i64 i∧t6=.ov H'.length (ls.take i).flatten.length∧H2=H'++[.vec zax 5 (ls.take i).flatten.length (tms (ls.take i).flatten)]) ls.length ?_ ?_
   ·intro _;exact⟨0,by omega,by omega,rfl,rfl,rfl⟩
   ·rintro q t6 t27 H2 ⟨i,hi,rfl,rfl,rfl,rfl⟩ ck dY g9 Kb2 bB;by_cases ak:i<ls.length
    ·have h1:=bn i;have h2:=bn (i+1);have h3:=hsu i ak;have h4:=zkT (H0.length+1) ls i;rw[List.getElem?_eq_getElem ak]at h4;obtain⟨u,hu⟩:∃ u,u=(ls.take i).flatten:=⟨_,rfl⟩;rw[←hu]at h1 h3 g9 ck ⊢;have hVi:=hV [.vec zax 5 u.length (tms u)] i ak;have hCi:=hC [.vec zax 5 u.length (tms u)];have bb:H0.length+1+i≠H'.length:=by have h9:=hV [] i ak;rw[List.append_nil]at h9;have:=zbr h9;omega
     simp[zvx,ak,hCi,zdn _ h4,wi i (by omega)];simp only[zav,hVi,zdW];simp[zzV,List.set_append_right];have hl3:u.length+ls[i].length=((ls.take (i+1)).flatten).length:=by rw[h3,List.length_append]
     refine⟨⟨by omega,by omega⟩,?_⟩;have mK:tms u++tms ls[i]=tms ((ls.take (i+1)).flatten):=by rw[h3,zgO]
     rw[hl3,mK];refine bB _ _ ⟨ls.length-(i+1),by omega,Back.at (J:=[]) (H2:=H'++[.vec zax 5 (ls.take (i+1)).flatten.length (tms (ls.take (i+1)).flatten)]) (by simp) (by simp) (hs.append (by simp only[AB.sc,List.all_cons,List.all_nil,zgQ];rfl)) ?_ ⟨_,_,rfl,i+1,by omega,rfl,rfl,rfl,rfl⟩⟩;simp[zoq,AV.sc,AV.scV,AV.scA,AV.scB];omega
    ·obtain rfl:i=ls.length:=by omega
     rw[List.take_length]at *;simp[zvx];have cx:=zkm (J:=[.vec zax 5 ls.flatten.length (tms ls.flatten)]) ls.flatten H'.length (Nat.le_refl _) (by simp) hs hK;simpa using cx
section
open Go.RowKit
variable {P:Program} {B:Nat} {w:World} {G:Gh} {H:zaa}
theorem zxo {v:Value} {a:AV} (h:DRel w G.L v a):ARel w G v a:=by
 cases h with
 | bool b=>rfl
 | int k n=>rfl
 | str s=>rfl
 | slE a cap=>exact .slE a cap
 | sl b off cap ag es vs aB aL hL aD hc hd=>exact .sl b off cap ag es vs aB aL hL aD hc hd
end
section
open Go.Proofs (sortWorld sortWorldK ltOf CmpLays)
open Go.RowKit
open Go.Sort (grow putRow putCells mapBlock onCells ahead SWO PermIn SortedIn Holds HoldsK flatK size_flatK get_flatK)
variable {P:Program} {B:Nat} {w:World} {G:Gh} {H:zaa}
theorem zpE {α:Type} {k:Nat}:∀ {l:List (List α)} (hk:∀ r∈l,r.length=k) {i j:Nat} (hj:j<k),l.flatten[i*k+j]?=(l[i]?).bind λr=>r[j]?
 | [],_,i,j,_=>by simp
 | r::l,hk,0,j,hj=>by have:=hk r (by simp);simp[List.getElem?_append_left (show j<r.length by omega)]
 | r::l,hk,i+1,j,hj=>by
  have h1:=hk r (by simp);have h2:r.length≤(i+1)*k+j:=by rw[Nat.add_mul];omega
  rw[List.flatten_cons,List.getElem?_append_right h2,show (i+1)*k+j-r.length=i*k+j by rw[Nat.add_mul];omega,zpE (λx hx=>hk x (by simp[hx])) hj];rfl
theorem zxv {α:Type} {k:Nat}:∀ {l:List (List α)} (hk:∀ r∈l,r.length=k),l.flatten.length=l.length*k
 | [],_=>by simp
 | r::l,hk=>by rw[List.flatten_cons,List.length_append,zxv (λx hx=>hk x (by simp[hx])),hk r (by simp),List.length_cons,Nat.add_mul];omega
theorem zGO {α:Type} [Inhabited α] (enc:α→List Value) (k:Nat) (df:0<k) (hk:∀ x,(enc x).length=k) (d:Array α):(flatK enc k d).toList=(d.toList.map enc).flatten:=by
 have hl:∀ r∈d.toList.map enc,r.length=k:=λr hr=>by obtain⟨x,_,rfl⟩:=List.mem_map.1 hr;exact hk x
 refine List.ext_getElem? λt=>?_;have ht:t=t / k*k+t % k:=by rw[Nat.mul_comm];exact (Nat.div_add_mod t k).symm
 have hm:t % k<k:=Nat.mod_lt _ df;by_cases h:t<d.size*k
 ·have h1:t / k<d.size:=(Nat.div_lt_iff_lt_mul df).2 h;rw[Array.getElem?_toList,Array.getElem?_eq_getElem (by simpa using h),←getElem!_pos (flatK enc k d) t (by simpa using h),get_flatK _ _ _ _ h]
  conv=>rhs;rw[ht,zpE hl hm]
  rw[List.getElem?_map,Array.getElem?_toList,Array.getElem?_eq_getElem h1];simp only[Option.map_some,Option.bind_some];rw[getElem!_pos d _ h1,List.getElem?_eq_getElem (by rw[hk];exact hm),getElem!_pos (enc d[t / k]) _ (by rw[hk];exact hm)]
 ·rw[List.getElem?_eq_none (by simpa using h),List.getElem?_eq_none (by rw[zxv hl];simpa using h)]
theorem zwF {α β:Type} {R:α→β→Prop}:∀ {l:List (List α)} {m:List (List β)},All2 (λa b=>All2 R a b) l m→All2 R l.flatten m.flatten
 | [],[],_=>trivial
 | a::l,b::m,⟨h1,h2⟩=>by rw[List.flatten_cons,List.flatten_cons];exact All2.append h1 (zwF h2)
theorem HRel.sortedK (h:HRel B w G H) {id e k n g cap:Nat} {cs cs':List AV} (hH:H[id]?=some (.vec e k n cs)) (hμ:G.μ[id]?=some (.own (.slice (some ⟨g,0,none⟩) n cap) k n))
  (d:Array Value) (hd:d.size=n*k) (hc:All2 (ARel w G) d.toList cs') (m:Nat) (os:Array Obj) :
  Ext B w G (sortWorld _root_.id w g 0 m d os) G∧HRel B (sortWorld _root_.id w g 0 m d os) G (H.set id (.vec e k n cs')):=by
 obtain⟨_,_,⟨xs,⟨bZ,ho⟩,kR⟩,eO⟩:=h.ok id _ _ hH hμ;rcases ho with ⟨h1,_⟩ | ⟨g',cap',cur,h1,hB,hw,aL,bO,aD,bk⟩
 ·cases h1
 cases h1;have aS:d.size≤cur.size:=by rw[hd,aD];exact Nat.mul_le_mul_right _ aL
 have bp:=zIe _root_.id d cur aS;rw[hd]at bp;simp only[List.map_id]at bp;have h1:=h.storeV (cur':=putCells _root_.id 0 d cur) (xs':=d.toList) hH hμ hw hB aL bO (by simp[putCells,aD]) bp (by simp[hd]) hc;obtain⟨fX,hR1⟩:=h1;have fw:=Ext.drew B (w.setRow g (putCells _root_.id 0 d cur)) G ((w.setRow g (putCells _root_.id 0 d cur)).drawn+m) (Nat.le_add_right _ _);have cw:=hR1.drew ((w.setRow g (putCells _root_.id 0 d cur)).drawn+m) (Nat.le_add_right _ _);obtain⟨kJ,hR3⟩:=HRel.grown os.toList cw;have heq:sortWorld _root_.id w g 0 m d os=grow { w.setRow g (putCells _root_.id 0 d cur) with drawn:=(w.setRow g (putCells _root_.id 0 d cur)).drawn+m } os.toList.toArray:=by
  have hh:w.heap.modify g (onCells (putCells _root_.id 0 d))=(w.setRow g (putCells _root_.id 0 d cur)).heap:=by
   unfold World.setRow;refine Array.ext_getElem? λi=>?_;simp only[Array.getElem?_modify];by_cases hi:g=i
   ·subst hi;simp[hw,onCells]
   ·simp[hi]
  have e:sortWorld _root_.id w g 0 m d os=grow { w with heap:=w.heap.modify g (onCells (putCells _root_.id 0 d)),drawn:=w.drawn+m } os:=rfl;rw[e,hh,Array.toArray_toList];rfl
 rw[heq];exact⟨(fX.trans fw).trans kJ,hR3⟩
theorem zI1 (h:HRel B w G H) {n k g f:Nat} (fg:G.L g=0) {enc:Fin n→List Value} [Inhabited (Fin n)] {rows:Nat→List AV} {cf:Nat→Nat→Int} (hd:∀ i:Fin n,All2 (DRel w G.L) (enc i) (rows i))
  (eM:∀ i j,i<n→j<n→ACalls P f [.agg (rows i),.agg (rows j)] [] λr _=>r=.int .i64 (cf i j)):CmpLays P f #[] enc k (λi j=>cf i j) g 0 n w:=by
 intro m os dk hdk x y;show Calls P f _ (sortWorld _root_.id w g 0 m (flatK enc k dk) os) λe w'=>e=.returned (.int .i64 (cf x y))∧∃ q os',w'=grow ((sortWorld _root_.id w g 0 m (flatK enc k dk) os).drewN q) os';generalize hW:sortWorld _root_.id w g 0 m (flatK enc k dk) os=W;have aD:w.heap.size≤W.heap.size:=by rw[←hW];exact zI0 _ _ _ _ _ _
 have aH:∀ a:Addr,a.block≠g→a.block<w.heap.size→W.cell? a=w.cell? a:=λa h1 h2=>by rw[←hW];exact zIZ _ _ _ _ _ _ a h1 h2
 have hL:∀ b,W.heap.size≤b→G.L b=0:=λb hb=>h.fresh b (by omega);have bY:∀ {v:Value} {a:AV},DRel w G.L v a→DRel W G.L v a:=λhx=>hx.mono (λ_=>Nat.le_refl _) λb off ho=>by
  refine aH ⟨b,off,none⟩ ?_ ?_
  ·intro hb;have hb:b=g:=hb;rw[hb,fg]at ho;omega
  ·show b<w.heap.size;refine Nat.lt_of_not_le λhb=>?_;rw[h.fresh b hb]at ho;omega
 have harg:∀ i:Fin n,VRel W ⟨G.L,[]⟩ (.agg (enc i).toArray) (.agg (rows i)):=λi=>⟨_,rfl,by
  rw[List.toList_toArray];exact (hd i).mono λ_ _ hx=>zxo (G:=⟨G.L,[]⟩) (bY hx)⟩
 refine (eM x y x.2 y.2 W.heap.size W ⟨G.L,[]⟩ #[.agg (enc x).toArray,.agg (enc y).toArray]
  ⟨rfl,λ_ _ _ h=>by simp at h,λ_ _ _ _ _ h=>by simp at h,hL,λ_ _ _ h=>by simp at h,Nat.le_refl _⟩ ⟨harg x,harg y,trivial⟩).mono ?_
 rintro e w' ⟨v,r,H',G',rfl,h2,_,h4,rfl⟩;have h4:v=.int .i64 (cf x y):=h4;subst h4;exact⟨rfl,zGW h2.dr h2.below⟩
theorem ACalls.sortFuncK {ρ:Go.Shelf.Ren} (L:Go.Proofs.SlLaysF0.n6 P ρ) {id e k n f:Nat} (df:0<k) (aE:∀ w,(isAgg (ρ.t 24)).run P w=.ok true w) (zE:∀ w,(Go.sizeOf (ρ.t 24)).run P w=.ok k w)
  {cs:List AV} (hH:H[id]?=some (.vec e k n cs)) (hn:n<4611686018427387904) (rows:List (List AV)) (cf:Nat→Nat→Int)
  (hp:plain cs=some rows.flatten) (fk:rows.length=n) (iK:∀ r∈rows,r.length=k) (eg:∀ args w,(callFunc f args).run P w=.ok (.enter f args) w)
  (eM:∀ i j,i<n→j<n→ACalls P f [.agg (rows.getD i []),.agg (rows.getD j [])] [] λr _=>r=.int .i64 (cf i j))
  (lD:∀ i,i<n→¬ cf i i<0) (lE:∀ i j k,i<n→j<n→k<n→cf i j<0→cf j k<0→cf i k<0) (lF:∀ i j k,i<n→j<n→k<n→¬ cf i j<0→¬ cf j k<0→¬ cf i k<0)
  {K:Kt} (hK:∀ p:List Nat,p.Perm (List.range n)→(∀ a b (ha:a<p.length) (hb:b<p.length),a<b→¬ cf p[b] p[a]<0)→K (.tup []) (H.set id (.vec e k n (p.map λi=>rows.getD i []).flatten))) :
  ACalls P (ρ.f 6) [.ov id n,.fn f []] H K:=by
 rintro B w G ⟨vs⟩ hR hv
 match vs,hv with
 | [v1,v2],⟨h1,h2,_⟩=>
 obtain⟨⟨a0,cap0,rfl,_⟩,v',s0,n',hμ,aS,heq⟩:=h1;obtain⟨ws,rfl,fN⟩:=h2;have fN:ws=#[]:=by
  cases kL:ws.toList with
  | nil=>exact Array.toList_inj.1 kL
  | cons x l=>rw[kL]at fN;exact fN.elim
 subst fN;obtain⟨rfl,rfl,⟨xs,ar,aN⟩,eO⟩:=hR.ok id _ _ hH hμ;obtain rfl:=heq rfl;have bZ:=ar.1;have bF:=zdB aN hp
 match n,bZ,hH,hn,eM,lD,lE,lF,hK,hμ,ar,fk with
 | 0,bZ,hH,hn,eM,lD,lE,lF,hK,hμ,ar,fk=>
  refine (Go.Proofs.AnyF.slices_SortFunc_none (P:=P) (ρ:=ρ) L a0 cap0 _ w).mono ?_;rintro e' w' ⟨rfl,rfl⟩;have hc:cs=[]:=by
   have bP:=aN.length;cases cs with
   | nil=>rfl
   | cons x l=>simp at bP;omega
  subst hc;have:=hK [] (by simp) (by simp);refine⟨_,.tup [],_,G,rfl,Ext.refl _ _ _,?_,⟨#[],rfl,trivial⟩,this⟩;have hs:H.set id (.vec e k 0 [])=H:=by
   refine List.ext_getElem? λi=>?_;rw[List.getElem?_set];split
   ·rename_i hi;subst hi;rw[if_pos (List.getElem?_eq_some_iff.1 hH).1,hH]
   ·rfl
  simpa[hs]using hR
 | n+1,bZ,hH,hn,eM,lD,lE,lF,hK,hμ,ar,fk=>
  obtain⟨_,ho⟩:=ar;rcases ho with ⟨h1,h0⟩ | ⟨g,cap,cur,h1,hB,hw,aL,bO,aD,bk⟩
  ·omega
  cases h1;have fg:G.L g=0:=eO g rfl;have kL:g<w.heap.size:=(Array.getElem?_eq_some_iff.1 hw).1;have fu:∀ i,i<n+1→i*k+k≤(n+1)*k:=λi hi=>by have:=Nat.mul_le_mul_right k (show i+1≤n+1 from hi);rwa [Nat.add_mul,Nat.one_mul]at this
  let enc:Fin (n+1)→List Value:=λi=>(xs.drop (i.1*k)).take k
  have gA:∀ i,(enc i).length=k:=λi=>by have:=fu i.1 i.2;simp only[enc,List.length_take,List.length_drop];omega
  have aA:∀ (i:Fin (n+1)) (j:Nat),j<k→(enc i)[j]?=xs[i.1*k+j]?:=λi j hj=>by simp only[enc,List.getElem?_take,List.getElem?_drop,if_pos hj]
  have fb:∀ i:Fin (n+1),All2 (DRel w G.L) (enc i) (rows.getD i.1 []):=λi=>by
   have hi:i.1<rows.length:=by rw[fk];exact i.2
   have hri:rows.getD i.1 []=rows[i.1]:=by rw[List.getD_eq_getElem?_getD,List.getElem?_eq_getElem hi];rfl
   rw[hri];refine All2.of_get (by rw[gA,iK _ (List.getElem_mem hi)]) λj x y hx hy=>?_;have hj:j<k:=by rw[←iK _ (List.getElem_mem hi)];exact (List.getElem?_eq_some_iff.1 hy).1
   rw[aA i j hj]at hx;have bn:rows.flatten[i.1*k+j]?=some y:=by rw[zpE iK hj,List.getElem?_eq_getElem hi];exact hy
   obtain⟨x',fH,hr⟩:=All2.get bF bn;rw[hx]at fH;cases fH;exact hr
  have bv:∀ i,∀ v∈enc i,v.oneCell'=true:=λi v hv=>by
   obtain⟨j,hj,rfl⟩:=List.mem_iff_getElem.1 hv;have hjr:j<(rows.getD i.1 []).length:=by rw[←(fb i).length];exact hj
   obtain⟨x,hx,hr⟩:=All2.get (fb i) (List.getElem?_eq_getElem hjr);rw[List.getElem?_eq_getElem hj]at hx;cases hx;generalize (rows.getD i.1 [])[j]=a at hr;generalize (enc i)[j]=v at hr;cases hr <;> rfl
  have hlays:=zI1 (P:=P) (f:=f) (n:=n+1) (k:=k) (rows:=λi=>rows.getD i []) hR fg fb eM;let d:Array (Fin (n+1)):=Array.ofFn λi=>i
  have eQ:d.size=n+1:=by simp[d]
  have iE:∀ j (hj:j<n+1),d[j]! = ⟨j,hj⟩:=λj hj=>by rw[getElem!_pos d j (by rw[eQ];exact hj)];simp[d]
  have hholds:HoldsK enc k w g 0 d:=by
   intro t ht;rw[size_flatK,eQ]at ht;have gU:t / k<n+1:=(Nat.div_lt_iff_lt_mul df).2 ht;have hm:t % k<k:=Nat.mod_lt _ df;have htk2:t=t / k*k+t % k:=by rw[Nat.mul_comm];exact (Nat.div_add_mod t k).symm
   have htx:t<xs.length:=by rw[bZ];exact ht
   have hc:cur[t]?=some xs[t]:=by have:xs[t]?=some xs[t]:=List.getElem?_eq_getElem _;rw[←this,←bk,List.getElem?_take,if_pos ht,Array.getElem?_toList]
   have hv:(flatK enc k d)[t]! = xs[t]:=by rw[get_flatK _ _ _ _ (by rw[eQ];exact ht),iE _ gU];have h3:=aA ⟨t / k,gU⟩ (t % k) hm;simp only at h3;rw[←htk2,List.getElem?_eq_getElem htx,List.getElem?_eq_getElem (by rw[gA];exact hm)]at h3;rw[getElem!_pos (enc _) _ (by rw[gA];exact hm)];exact Option.some.inj h3
   refine⟨?_,?_⟩
   ·rw[Nat.zero_add,hv];simp[World.cell?,hw,hc]
   ·simp[World.frozen?,hw]
  have hO:SWO (ltOf λi j:Fin (n+1)=>cf i j):=⟨λx=>by simp only[ltOf,decide_eq_false_iff_not];exact lD x x.2,
   λx y z h1 h2=>by simp only[ltOf,decide_eq_true_eq]at *;exact lE x y z x.2 y.2 z.2 h1 h2,
   λx y z h1 h2=>by simp only[ltOf,decide_eq_false_iff_not]at *;exact lF x y z x.2 y.2 z.2 h1 h2⟩
  have cO:=Go.Proofs.AnyQ.slices_SortFunc (P:=P) (ρ:=ρ) L k aE zE enc gA bv (λi j=>cf i j) hO f #[] g 0 cap0 d w eg (by rw[eQ];exact hlays) hholds kL (by rw[eQ];exact hn);rw[eQ]at cO;refine cO.mono ?_;rintro e' w' ⟨rfl,d',m,os,hp',hsrt,rfl⟩;obtain⟨eJ,_,kI⟩:=hp';have hds':d'.size=n+1:=eJ.trans eQ;have mL:(d'.toList.map Fin.val).Perm (List.range (n+1)):=by
   have h1:d'.toList.Perm d.toList:=by have e1:(d'.extract 0 (n+1))=d':=zxr d' hds';have e2:(d.extract 0 (n+1))=d:=zxr d eQ;rwa [e1,e2]at kI
   exact (h1.map Fin.val).trans (List.Perm.of_eq (zHH _))
  have hS:=hR.sortedK hH hμ (flatK enc k d') (by rw[size_flatK,hds']) (cs':=((d'.toList.map Fin.val).map λi=>rows.getD i []).flatten) (by
   rw[zGO enc k df gA,List.map_map];refine zwF (All2.of_get (by simp) λi x y hx hy=>?_);simp only[List.getElem?_map,Option.map_eq_some_iff]at hx hy;obtain⟨a,ha,rfl⟩:=hx;obtain⟨b,hb,rfl⟩:=hy;rw[ha]at hb;cases hb;exact (fb a).mono λ_ _ h=>zxo h) m os
  refine⟨_,.tup [],_,G,rfl,hS.1,hS.2,⟨#[],rfl,trivial⟩,hK _ mL λa b ha hb bb=>?_⟩;simp only[List.length_map,Array.length_toList]at ha hb;have:=hsrt a b (Nat.zero_le _) bb (by omega);rw[getElem!_pos d' a ha,getElem!_pos d' b hb]at this;simp only[ltOf,decide_eq_false_iff_not]at this;simpa using this
end
section
open Go.Shelf
def zKm:Go.Shelf.Ren:=⟨λ| 6=>84 | 15=>137 | 14=>136 | 28=>185 | 29=>186 | 20=>177 | 21=>178 | 22=>179 | 23=>180 | 24=>181 | 25=>182 | 26=>183 | 27=>184 | 46=>217 | 47=>218 | 48=>219 | 49=>220 | 50=>221 | 57=>244 | n=>n,λ| 22=>31 | 24=>55 | 25=>127 | 3=>3 | 39=>184 | 0=>0 | 53=>88 | 55=>100 | 4=>4 | 46=>224 | 45=>223 | 50=>107 | 5=>5 | 9=>9 | 66=>260 | 70=>72 | 76=>288 | 77=>289 | n=>n,λ| n=>n⟩
theorem zKl:Go.Proofs.SlLaysF0.n6 tP zKm:={
 mixed:=by kernel_rfl
 f6:=⟨Tryz.f84.name,by decide,Tryz.func84.trans (congrArg some (by kernel_rfl))⟩
 f14:=⟨Tryz.f136.name,by decide,Tryz.func136.trans (congrArg some (by kernel_rfl))⟩
 f15:=Tryz.func137.trans (congrArg some (by kernel_rfl))
 f20:=⟨Tryz.f177.name,by decide,Tryz.func177.trans (congrArg some (by kernel_rfl))⟩
 f21:=⟨Tryz.f178.name,by decide,Tryz.func178.trans (congrArg some (by kernel_rfl))⟩
 f22:=⟨Tryz.f179.name,by decide,Tryz.func179.trans (congrArg some (by kernel_rfl))⟩
 f23:=⟨Tryz.f180.name,by decide,Tryz.func180.trans (congrArg some (by kernel_rfl))⟩
 f24:=⟨Tryz.f181.name,by decide,Tryz.func181.trans (congrArg some (by kernel_rfl))⟩
 f25:=⟨Tryz.f182.name,by decide,Tryz.func182.trans (congrArg some (by kernel_rfl))⟩
 f26:=⟨Tryz.f183.name,by decide,Tryz.func183.trans (congrArg some (by kernel_rfl))⟩
 f27:=⟨Tryz.f184.name,by decide,Tryz.func184.trans (congrArg some (by kernel_rfl))⟩
 f28:=Tryz.func185.trans (congrArg some (by kernel_rfl))
 f29:=Tryz.func186.trans (congrArg some (by kernel_rfl))
 f46:=⟨Tryz.f217.name,by decide,Tryz.func217.trans (congrArg some (by kernel_rfl))⟩
 f47:=Tryz.func218.trans (congrArg some (by kernel_rfl))
 f48:=Tryz.func219.trans (congrArg some (by kernel_rfl))
 f49:=⟨Tryz.f220.name,by decide,Tryz.func220.trans (congrArg some (by kernel_rfl))⟩
 f50:=⟨Tryz.f221.name,by decide,Tryz.func221.trans (congrArg some (by kernel_rfl))⟩
 f57:=⟨Tryz.f244.name,by decide,Tryz.func244.trans (congrArg some (by kernel_rfl))⟩
 t0:=Tryz.underlying0
 a0:=Tryz.isAgg0
 z0:=Tryz.sizeOf0
 v0:=Tryz.zeroValue0
 t3:=Tryz.underlying3
 a3:=Tryz.isAgg3
 z3:=Tryz.sizeOf3
 v3:=Tryz.zeroValue3
 t4:=Tryz.underlying4
 a4:=Tryz.isAgg4
 z4:=Tryz.sizeOf4
 v4:=Tryz.zeroValue4
 t5:=Tryz.underlying5
 a5:=Tryz.isAgg5
 z5:=Tryz.sizeOf5
 v5:=Tryz.zeroValue5
 t9:=Tryz.underlying9
 a9:=Tryz.isAgg9
 z9:=Tryz.sizeOf9
 v9:=Tryz.zeroValue9
 t22:=Tryz.underlying31
 a22:=Tryz.isAgg31
 z22:=Tryz.sizeOf31
 v22:=Tryz.zeroValue31
 t25:=Tryz.underlying127
 a25:=Tryz.isAgg127
 z25:=Tryz.sizeOf127
 v25:=Tryz.zeroValue127
 t39:=Tryz.underlying184
 a39:=Tryz.isAgg184
 z39:=Tryz.sizeOf184
 v39:=Tryz.zeroValue184
 t45:=Tryz.underlying223
 a45:=Tryz.isAgg223
 z45:=Tryz.sizeOf223
 v45:=Tryz.zeroValue223
 t46:=Tryz.underlying224
 a46:=Tryz.isAgg224
 z46:=Tryz.sizeOf224
 v46:=Tryz.zeroValue224
 t50:=Tryz.underlying107
 a50:=Tryz.isAgg107
 z50:=Tryz.sizeOf107
 v50:=Tryz.zeroValue107
 t53:=Tryz.underlying88
 a53:=Tryz.isAgg88
 z53:=Tryz.sizeOf88
 v53:=Tryz.zeroValue88
 t55:=Tryz.underlying100
 a55:=Tryz.isAgg100
 z55:=Tryz.sizeOf100
 v55:=Tryz.zeroValue100
 t66:=Tryz.underlying260
 a66:=Tryz.isAgg260
 z66:=Tryz.sizeOf260
 v66:=Tryz.zeroValue260
 t70:=Tryz.underlying72
 a70:=Tryz.isAgg72
 z70:=Tryz.sizeOf72
 v70:=Tryz.zeroValue72
 t76:=Tryz.underlying288
 a76:=Tryz.isAgg288
 z76:=Tryz.sizeOf288
 v76:=Tryz.zeroValue288
 t77:=Tryz.underlying289
 a77:=Tryz.isAgg289
 z77:=Tryz.sizeOf289
 v77:=Tryz.zeroValue289 }
end
theorem zJT {s:List (IT × Nat)} {k:Nat} (h:k<s.length):((tms s).drop (k*5)).take 5=tmC s[k]:=by have h1:=zkL h;have h2:=zip (Nat.le_of_lt h);rw[h1,List.drop_append,h2];simp[List.drop_of_length_le,h2]
theorem zwc {f:IT × Nat→List AV} {e size:Nat} {H1:zaa} {st:List (List (IT × Nat))} {i:Nat} {b:AB} (h:H1[i]?=some b) (J:zaa):(NX f e size H1 st++J)[i]?=some b:=by unfold NX;rw[List.append_assoc];exact zb8 h
theorem zIl (p q:IT × Nat) (hp:p.1.nodes≤1000000) (H:zaa) (K:Kt) (hK:K (.int .i64 (IT.cmp p.1 q.1)) H):ACalls tP zka [.agg (tmC p),.agg (tmC q)] H K:=by refine ACalls.out (zWS λhs=>?_);simp[zEK,zc8,zcB,Nat.add_assoc];refine zG4 _ _ _ (Nat.le_refl _) hp _ _ ?_;exact Out.int rfl (Nat.le_refl _) hs hK
theorem zI2 {H:zaa} {b:Nat} {l:List (IT × Nat)} (hb:H[b]?=some (.vec zax 5 l.length (tms l))) (hn:l.length≤1000000) (ky:∀ x∈l,x.1.nodes≤1000000) (K:Kt)
  (hK:∀ r:List (IT × Nat),r.Perm l→r.Pairwise (λp q=>¬ IT.cmp q.1 p.1<0)→K (.tup []) (H.set b (.vec zax 5 l.length (tms r)))):ACalls tP zyl [.ov b l.length,.fn zka []] H K:=by
 let d0:IT × Nat:=(.mk 0 [],0)
 have jj:∀ i,i<l.length→(zaL l).getD i []=tmC (l.getD i d0):=λi hi=>by simp[zaL,List.getD_eq_getElem?_getD,hi]
 have hgm:∀ i,i<l.length→l.getD i d0∈l:=λi hi=>by simp[List.getD_eq_getElem?_getD,hi]
 have cmp_self:∀ a:IT,IT.cmp a a=0:=zgg;refine ACalls.sortFuncK zKl (k:=5) (by omega) Tryz.isAgg55 Tryz.sizeOf55 hb (by omega) (zaL l) (λi j=>IT.cmp (l.getD i d0).1 (l.getD j d0).1) (by rw[zzU];exact zrg l) (by simp) (λr hr=>by
  obtain⟨x,_,rfl⟩:=List.mem_map.1 hr;simp) (λargs w=>rfl) (λi j hi hj=>?_) (λi hi=>?_) (λi j k hi hj hk h1 h2=>?_) (λi j k hi hj hk h1 h2=>?_) (λp hp hsort=>?_)
 ·rw[jj i hi,jj j hj];exact zIl _ _ (ky _ (hgm i hi)) _ _ rfl
 ·rw[cmp_self];omega
 ·exact zw9 h1 (by omega)
 ·have:=IT.cmp_tri (l.getD k d0).1 (l.getD j d0).1 (l.getD i d0).1;have a1:=IT.cmp_anti (l.getD i d0).1 (l.getD j d0).1;have a2:=IT.cmp_anti (l.getD j d0).1 (l.getD k d0).1;have a3:=IT.cmp_anti (l.getD i d0).1 (l.getD k d0).1;unfold Tri at this;omega
 ·have mL:∀ i∈p,i<l.length:=λi hi=>by simpa using hp.subset hi
  have eW:(List.range l.length).map (λi=>l.getD i d0)=l:=List.ext_getElem (by simp) λi h1 h2=>by simp[List.getD_eq_getElem?_getD,h2]
  have aI:(p.map λi=>l.getD i d0).Perm l:=by have h1:=hp.map λi=>l.getD i d0;rwa [eW]at h1
  have bn:(p.map λi=>(zaL l).getD i []).flatten=tms (p.map λi=>l.getD i d0):=by rw[tms,List.map_map];congr 1;refine List.map_congr_left λi hi=>?_;exact jj i (mL i hi)
  rw[bn];refine hK _ aI ?_;rw[List.pairwise_iff_getElem];intro a b ha hb bb;simp only[List.getElem_map];exact hsort a b (by simpa using ha) (by simpa using hb) bb
def zb1 (aa:List Dat) (t:VT) (u L:List (IT × Nat)) (k:Nat):List (List (IT × Nat)):=(List.range 7).map λd=>if d<k then ofD aa t L d else ofD aa t u d
@[simp] theorem zrz (aa:List Dat) (t:VT) (u L:List (IT × Nat)) (k:Nat):(zb1 aa t u L k).length=7:=by simp[zb1]
theorem zzr (aa:List Dat) (t:VT) (u L:List (IT × Nat)) (k:Nat) {d:Nat} (h:d<7):(zb1 aa t u L k)[d]?=some (if d<k then ofD aa t L d else ofD aa t u d):=by simp[zb1,h]
theorem zIT (aa:List Dat) (t:VT) (u L:List (IT × Nat)):(zb1 aa t u L 7).flatten=zbC aa t L 7:=by unfold zb1 zbC;rw[List.flatMap_def];refine congrArg List.flatten (List.map_congr_left λd hd=>?_);rw[if_pos (by simpa using hd)]
theorem zIV {aa:List Dat} {t:VT} {u L:List (IT × Nat)} {k:Nat} (h:k<7):(zb1 aa t u L k).set k (ofD aa t L k)=zb1 aa t u L (k+1):=by
 refine List.ext_getElem (by simp) λi h1 h2=>?_;rw[List.getElem_set];simp only[zb1,List.getElem_map,List.getElem_range];split
 ·rename_i e;subst e;rw[if_pos (by omega)]
 ·rename_i e;by_cases hi:i<k
  ·rw[if_pos hi,if_pos (by omega)]
  ·rw[if_neg hi,if_neg (by omega)]
theorem zIU {aa:List Dat} {t:VT} {s L:List (IT × Nat)} {j d:Nat} (hj:j<s.length) (hd:d<7) (hr:rdV aa s[j].1 t=(d:Int)):(zb1 aa t (s.take j) L 0).set d (ofD aa t (s.take j) d++[s[j]])=zb1 aa t (s.take (j+1)) L 0:=by
 refine List.ext_getElem (by simp) λi h1 h2=>?_;rw[List.getElem_set];simp only[zb1,List.getElem_map,List.getElem_range,Nat.not_lt_zero,if_false];have aR:=zyv (aa:=aa) (t:=t) (d:=i) hj;split
 ·rename_i e;subst e;rw[aR,if_pos hr]
 ·rename_i e;rw[aR,if_neg (by omega),List.append_nil]
theorem zFq {H:zaa} {st:List (List (IT × Nat))} {k:Nat} {M r:List (IT × Nat)} (aA:st[k]?=some M) (hl:r.length=M.length) :
  (NX tmC zax 5 H st).set (H.length+1+k) (.vec zax 5 M.length (tms r))=NX tmC zax 5 H (st.set k r):=by
 obtain⟨hk,hM⟩:=List.getElem?_eq_some_iff.1 aA;have h1:=zwe tmC zax 5 H [] st hk r;have hv:vcs (H.length+1) (st.set k r)=vcs (H.length+1) st:=by
  rw[←zrW,hl];refine List.ext_getElem? λi=>?_;rw[List.getElem?_set];split
  ·rename_i h;subst h;rw[if_pos (by simpa using hk),zrV _ aA]
  ·rfl
 simp only[List.append_nil]at h1;rw[hv]at h1;rw[←h1,hl,tms,List.flatMap_def];have hc:=zwb tmC zax 5 H st;have eY:∀ (X:zaa) (i:Nat) (b:AB),X[i]?=some b→X.set i b=X:=λX i b hb=>by
  refine List.ext_getElem? λj=>?_;by_cases hj:i=j
  ·subst hj;rw[List.getElem?_set_self (zbr hb),hb]
  ·rw[List.getElem?_set_ne hj]
 exact (eY _ _ _ (by rw[List.getElem?_set_ne (by omega)];exact hc)).symm
theorem zJK {aa:List Dat} (hk:zbv aa) (t:VT) (ht:t.nodes≤1000) (hf:zbY aa t=true) (H:zaa) (is im iv:Nat) (s L:List (IT × Nat)) (hS:Sw H is im iv (.sl (aa.map Dat.cs) .none::t.cs) s)
  (hv:∀ p∈s,p.1.nodes≤900∧0<p.2∧p.2<1000000000 ^ 20∧0≤rdV aa p.1 t∧rdV aa p.1 t≤6) (hn:(s.map Prod.fst).Nodup) (h0:0<s.length) (hl:s.length≤100000)
  (hL:Asc L) (hLl:L.length≤100000) (eO:∀ p∈L,0<p.2) (dl:∀ g:IT→Nat,zaE g s=zaE g L) (K:Kt)
  (bA:1000<s.length→K (.tup [.sl [] .none,.int .i64 9]) H) (hK:s.length≤1000→K (.tup [.sl (zaL (zbC aa t L 7)) .none,.int .i64 0]) H):ACalls tP zqR [.ptr is 0] H K:=by
 refine ACalls.out (zUg λhs=>?_);obtain⟨T,hT⟩:∃ T,T=(AV.sl (aa.map Dat.cs) .none::t.cs):=⟨_,rfl⟩;rw[←hT]at hS;have hT4:T.length=4:=hS.c4;have f8:=hS.h1;have be:=zbr f8;have cH:(T++[.map im,.ov iv s.length])[0]?=some (.sl (aa.map Dat.cs) .none):=by rw[hT];rfl
 have bG:List.take 3 (T++[AV.map im,AV.ov iv s.length]).tail=t.cs:=by rw[hT];obtain⟨t1,t2,t3⟩:=t;rfl
 have kM:(T++[.map im,.ov iv s.length])[5]?=some (.ov iv s.length):=by rw[List.getElem?_append_right (by omega),hT4];rfl
 have hrep:(List.replicate 7 [AV.snil]).flatten=List.replicate 7 AV.snil:=rfl;simp[zDM,zbe,hrep,zb8 f8,zdn _ kM,Nat.add_assoc];unfold znC;refine ALoop.nx tmC zax 5 7 ?_;show znC (.ptr is 0) (.ms H.length 0 7 7) (.int .i64 0) (.ov iv s.length) (.int .i64 s.length) (.int .i64 0) (NX tmC zax 5 H (List.replicate 7 [])) _;have hst0:List.replicate 7 []=zb1 aa t (s.take 0) L 0:=by simp[zb1,ofD,List.range_succ,List.replicate]
 rw[hst0];have hscN:∀ st,HSc (NX tmC zax 5 H st):=λst=>zFr hs λx n=>by have:=zgQ [x] n;simpa[tms]using this
 refine zUd (Inv:=λq t5 t17 H'=>∃ j:Nat,j≤s.length∧s.length-j=q∧t17=.int .i64 j∧t5=.int .i64 j∧H'=NX tmC zax 5 H (zb1 aa t (s.take j) L 0)) s.length ?_ ?_
 ·intro _;exact⟨0,by omega,rfl,rfl,rfl,rfl⟩
 ·rintro q t5 t17 H' ⟨j,hj,rfl,rfl,rfl,rfl⟩ aJ am aM Kb au;by_cases aQ:j<s.length
  ·obtain⟨v1,v2,v3,v4,v5⟩:=hv _ (List.getElem_mem aQ);obtain⟨d,hd⟩:∃ d:Nat,rdV aa s[j].1 t=d:=⟨(rdV aa s[j].1 t).toNat,by omega⟩;have hd7:d<7:=by omega
   have et:=zIU (L:=L) aQ hd7 hd;have aA:=zzr aa t (s.take j) L 0 hd7;simp only[Nat.not_lt_zero,if_false]at aA;have hol:(ofD aa t (s.take j) d).length≤100000:=Nat.le_trans zki (by simp;omega);have dD:=zrz aa t (s.take j) L 0;generalize hM:ofD aa t (s.take j) d=M at *;generalize aR:zb1 aa t (s.take j) L 0=st at *;have mI:=λJ=>zwc (f:=tmC) (e:=zax) (size:=5) (st:=st) hS.h3 J;have mJ:=λJ=>zwc (f:=tmC) (e:=zax) (size:=5) (st:=st) hS.h1 J;have hiv0:=mI [];rw[List.append_nil]at hiv0;have h5:=zJT aQ;have hb5:j*5+5≤s.length*5:=by omega
   simp[znz,aQ,hiv0,h5,hb5,zd7,Nat.add_assoc];refine⟨zd7 _,?_⟩;have fL:Sm (s[j].2:Int):=zcb (Nat.lt_of_lt_of_le v3 (by decide));rw[zcJ];refine zEG s[j].2 fL _ _ ?_;have hne0:s[j].2≠0:=by omega
   have mq:(NX tmC zax 5 H st).length=H.length+8:=by rw[zeH,dD]
   have aH:∀ J,(NX tmC zax 5 H st++(AB.cells (tmC s[j])::J))[H.length+8]?=some (.cells (tmC s[j])):=λJ=>by rw[←mq];simp
   have jg:=λJ=>zwa tmC zax 5 H J st;have jz:=λJ=>zv9 tmC zax 5 H J aA;have gY:=zrV (H.length+1) aA;rw[mq];simp[hne0,mJ,zdn _ cH,bG,aH,zcB,zcJ,hT4];refine zaB (.int .i64 d) (λJ=>zuA aa hk t ht s[j].1 (by omega) _ _ ⟨by rw[←hd];unfold zbc;rw[if_pos hf],rfl⟩) ?_;have hd7':(d:Int)<7:=by omega
   simp[hd7',zaj,jg,zdn _ gY,aH,zcB,zcJ];refine zaB (.agg s[j].1.cs) (λJ=>zWL _ s[j].1 (Nat.le_refl _) (by omega) _ _ ⟨rfl,rfl⟩) ?_;try simp[aH,zcJ]
   refine zaB (.agg (zai (s[j].2:Int))) (λJ=>zWP _ fL _ _ ⟨rfl,rfl⟩) ?_;have kz:List.drop 5 (s[j].1.cs++[AV.bool false,.snil,.snil])=[]:=List.drop_of_length_le (by simp);have fu:∀ x∈s[j].1.cs,x.known=true:=List.all_eq_true.1 (IT.cs_known s[j].1);have iK:∀ x∈zai (s[j].2:Int),x.known=true:=List.all_eq_true.1 (zeY _);have cZ:plain ([.int .i64 0,.snil,.bool false,.snil,.snil]:List AV)=some [.int .i64 0,.sl [] .none,.bool false,.sl [] .none,.sl [] .none]:=rfl;simp[zaq,zaI,kz];rw[show s[j].1.cs++zai (s[j].2:Int)=tmC s[j] from rfl];simp[zau,zaQ,zks,cZ];simp only[zav,zaM,zaJ,jz];have dh:d<st.length:=by omega
   have aW:=zwe tmC zax 5 H [AB.cells (tmC s[j])] st dh (M++[s[j]]);have gR:(M++[s[j]]).length=M.length+1:=by simp
   have hfm:(M++[s[j]]).flatMap tmC=M.flatMap tmC++tmC s[j]:=by simp
   rw[gR,hfm,←zJ9 _ _ dh,gR,et]at aW;have hXc:=jg [AB.cells (tmC s[j])];have hXb:=jz [AB.cells (tmC s[j])];generalize hX:NX tmC zax 5 H st++[AB.cells (tmC s[j])]=X at *;have cQ:=zbr hXb;have g2:∀ v,(X.set (H.length+1+d) v)[H.length]?=some (.cells (vcs (H.length+1) st)):=λv=>by rw[List.getElem?_set_ne (by omega)];exact hXc
   simp[g2];refine⟨⟨by omega,by omega⟩,by omega,?_⟩;rw[aW];simp[zuK,zDN,wi j (by omega)];exact au _ _ ⟨s.length-(j+1),by omega,Back.at (J:=[.cells (tmC s[j])]) (H2:=NX tmC zax 5 H (zb1 aa t (s.take (j+1)) L 0)) rfl (by simp[zeH]) (hscN _) (by
    have h3:=zbr hS.h3;simp[znB,ux,AV.sc,AV.scA,AV.scB,AV.scV,zeH];omega) ⟨_,_,rfl,j+1,by omega,rfl,rfl,rfl,rfl⟩⟩
  ·obtain rfl:j=s.length:=by omega
   rw[List.take_length]at *;by_cases ce:1000<s.length
   ·have cP:(1000:Int)<(s.length:Int):=by omega
    simp[znz,cP];obtain⟨J,hJ⟩:=zwd tmC zax 5 H (zb1 aa t s L 0);rw[←hJ];exact⟨⟨rfl,rfl⟩,Out.tup (bs:=[.sl [] .none,.int .i64 9]) hs (bA ce) ⟨zdE,zaY rfl rfl,trivial⟩⟩
   ·have cP:¬ (1000:Int)<(s.length:Int):=by omega
    simp[znz,cP];refine zUc (Inv:=λq t59 H'=>∃ k:Nat,k≤7∧7-k=q∧t59=.int .i64 k∧H'=NX tmC zax 5 H (zb1 aa t s L k)) 7 ?_ ?_
    ·intro _;exact⟨0,by omega,rfl,rfl,rfl⟩
    ·rintro q t59 H' ⟨k,hk7,rfl,rfl,rfl⟩ hsc14 hlen14 hsF14 Kb14 hKb14;by_cases ak:k<7
     ·have aG:(k:Int)<7:=by omega
      have aA:=zzr aa t s L k ak;simp only[Nat.lt_irrefl,if_false]at aA;have aR:=zIV (aa:=aa) (t:=t) (u:=s) (L:=L) ak;have dD:=zrz aa t s L k;obtain⟨M,hM⟩:∃ M,M=ofD aa t s k:=⟨_,rfl⟩;obtain⟨st,cM⟩:∃ st,st=zb1 aa t s L k:=⟨_,rfl⟩;rw[←hM]at aA;rw[←cM]at aA aR dD hsF14 hsc14 ⊢;have jg:=zwb tmC zax 5 H st;have gY:=zrV (H.length+1) aA;have jz:=zv9 tmC zax 5 H [] aA;rw[List.append_nil]at jz;have hMl:M.length≤100000:=by rw[hM];exact Nat.le_trans zki (by omega)
      simp[zuJ,aG,jg,zdn _ gY];refine zI2 (b:=H.length+1+k) (l:=M) (by rw[jz,tms,List.flatMap_def]) (by omega) (λp hp=>by
       rw[hM]at hp;have:=hv p (List.mem_filter.1 hp).1;omega) _ λr eU du=>?_
      have hre:r=ofD aa t L k:=zF3 (by rw[←hM];exact eU) du hn (λp hp=>(hv p hp).2.1) hL eO dl;have fk:r.length=M.length:=eU.length_eq;rw[zFq aA fk,hre,aR,wi k (by omega)];exact hKb14 _ _ ⟨7-(k+1),by omega,Back.at (J:=[]) (H2:=NX tmC zax 5 H (zb1 aa t s L (k+1))) (by simp) (by simp[zeH]) (hscN _) (by simp[znA,ux,AV.sc,AV.scA,AV.scB,AV.scV,zeH];try omega) ⟨_,rfl,k+1,by omega,rfl,rfl,rfl⟩⟩
     ·obtain rfl:k=7:=by omega
      have eq:=zIT aa t s L;have ci:=zIP (zb1 aa t s L 7);simp[zuJ];rw[zrz,eq]at ci;have hrg:∀ p∈L,0≤rdV aa p.1 t∧rdV aa p.1 t≤6:=λp hp=>by obtain⟨q,hq,he⟩:=zer (λg=>(dl g).symm) hp (eO p hp);have:=hv q hq;rw[←he];omega
      have bL:=zkk (aa:=aa) (t:=t) (s:=L) 7;have bU:0<(zbC aa t L 7).length:=by
       have h1:=zHU hrg (λ_=>1);have h2:=dl (λ_=>1);rw[zdj,zdj]at h1;cases ho:zbC aa t L 7 with
       | nil=>
        rw[ho,zrD]at h1;cases eh:s with
        | nil=>rw[eh]at h0;simp at h0
        | cons p s'=>have:=(hv p (by rw[eh];simp)).2.1;rw[eh,zbh]at h2;omega
       | cons p o=>simp
      refine ci bU (by omega) (by omega) H _ ?_;obtain⟨J,hJ⟩:=zwd tmC zax 5 H (zb1 aa t s L 7);rw[←hJ];exact⟨⟨rfl,rfl⟩,Out.tup (bs:=[.sl (zaL (zbC aa t L 7)) .none,.int .i64 0]) hs (hK (by omega)) ⟨zaY rfl rfl,zaY rfl rfl,trivial⟩⟩
theorem zrM (a:List (IT × Nat)) (i:IT) (c:Nat):zaL a++[i.cs++zai (c:Int)]=zaL (a++[(i,c)]):=by simp[zaL,tmC]
theorem zHu {aa:List Dat} (h8:∀ D∈aa,D.cons.length≤8) {f:Nat} (hQ:zi6 aa f) (hM:zi4 aa f):zoY aa (f+1):=by
 intro t i j hf dR cT hi hj h6 hn H K hK;obtain⟨k,tn,tks⟩:=t;obtain⟨n,l⟩:=i;obtain⟨n',m⟩:=j;simp only[IT.nodes]at hf hn;refine ACalls.out (zT7 λhs=>?_);have bS:(VT.mk k tn tks).cs=[.int .i64 k,.int .i64 tn,.sl (VT.css tks) .none]:=rfl;have dZ:(IT.mk n l).cs=[.int .i64 n,.sl (IT.css l) .none]:=rfl;have eN:(IT.mk n' m).cs=[.int .i64 n',.sl (IT.css m) .none]:=rfl;have eJ:plain ([.int .i64 0,.snil,.bool false,.snil,.snil]:List AV)=some [.int .i64 0,.sl [] .none,.bool false,.sl [] .none,.sl [] .none]:=rfl;have fE:(H++[AB.cells (VT.mk k tn tks).cs,.cells (IT.mk n l).cs,.cells (IT.mk n' m).cs]).length=H.length+3:=by simp
 have eA:∀ c,HSc (H++[AB.cells (VT.mk k tn tks).cs,.cells (IT.mk n l).cs,.cells (IT.mk n' m).cs,.perm zax 5 c]):=λc=>hs.append (by simp[AB.sc,VT.cs,IT.cs,AV.scA,AV.scB]);by_cases k6:k=6
 ·subst k6;have ev:∀ (n:Int) (l:List IT),0≤rdV aa (.mk n l) (.mk 6 tn tks)→n=0∧l.length=tks.length∧rdV aa (.mk n l) (.mk 6 tn tks)=rdA aa l tks 0:=λn l h=>by
   rw[rdV]at h ⊢;simp only[VT.kind,VT.kids,if_true]at h ⊢;by_cases hn:n=0
   ·by_cases hl:tks.length=l.length
    ·simp[hn,hl]
    ·simp[hn,hl]at h
   ·simp[hn]at h
  obtain⟨i1,i2,i3⟩:=ev n l hi;obtain⟨j1,j2,j3⟩:=ev n' m hj;rw[i3]at hi h6;rw[j3]at hj h6;have dP:=VT.len_le tks;have bf:∀ (ts:List VT) (x:VT),x∈ts→x.nodes≤VT.nodesL ts:=by
   intro ts;induction ts with
   | nil=>intro x hx;simp at hx
   | cons t ts ih=>
    intro x hx;simp only[VT.nodesL];rcases List.mem_cons.1 hx with rfl | hx
    ·omega
    ·have:=ih x hx;omega
  have js:∀ x∈tks,x.nodes≤1000∧zaV aa 0 x=true:=λx hx=>by have:=bf tks x hx;simp only[VT.nodes]at dR;exact⟨by omega,zrR cT x hx⟩
  simp only[VT.nodes]at dR;obtain⟨R,hR⟩:∃ R,R=zcn aa f tks l m:=⟨_,rfl⟩;obtain⟨R1,R2,R3,R4⟩:=zwU h8 (f:=f) (ts:=tks) (l:=l) (m:=m) (by omega) i2 j2 hi hj h6;rw[←hR]at R1 R2 R3 R4;have c5:zbo aa (f+1) (.mk 6 tn tks) (.mk n l) (.mk n' m)=R.map λr=>(.mk 0 r.1,r.2):=by rw[zbo,hR];simp[VT.kind,VT.kids,zaH]
  rw[c5]at hK;simp[ziM,bS,dZ,eN,Nat.add_assoc];refine hQ tks l m (by omega) i2 j2 (by omega) js hi hj h6 (by omega) _ _ ?_;rw[←hR];simp;rw[←bS,←dZ,←eN];unfold zny;refine ALoop.own 9 zax 5 rfl ?_;rw[fE,List.append_assoc];show zny (.sl (zaL ((R.take 0).map λr=>(IT.mk 0 r.1,r.2))) (.own (H.length+3))) _ _ _ (H++[AB.cells (VT.mk 6 tn tks).cs,.cells (IT.mk n l).cs,.cells (IT.mk n' m).cs,.perm zax 5 0]) _;refine zT3 (Inv:=λq t9 t36 H'=>∃ q':Nat,q'≤R.length∧R.length-q'=q∧t36=.int .i64 q'∧t9=.sl (zaL ((R.take q').map λr=>(IT.mk 0 r.1,r.2))) (.own (H.length+3))∧H'=H++[AB.cells (VT.mk 6 tn tks).cs,.cells (IT.mk n l).cs,.cells (IT.mk n' m).cs,.perm zax 5 q']) R.length ?_ ?_
  ·intro _;exact⟨0,by omega,rfl,rfl,rfl,rfl⟩
  ·rintro q t9 t36 H' ⟨q',hq,rfl,rfl,rfl,rfl⟩ jt gw ju Kb6 d5;have cn:min q' R.length=q':=by omega
   by_cases dw:q'<R.length
   ·have aR:(R.take (q'+1)).map (λr=>(IT.mk 0 r.1,r.2))=(R.take q').map (λr=>(IT.mk 0 r.1,r.2))++[(IT.mk 0 R[q'].1,R[q'].2)]:=by rw[List.take_succ_eq_append_getElem dw];simp only[List.map_append,List.map_cons,List.map_nil]
    simp[zuG,dw,zaq,zaI,wi q' (by omega),AV.known,zau,zaQ,plain,AV.pd,zcI,eJ];simp only[zav,zaM,zaJ];simp[cn,List.set_append_right];refine⟨⟨by omega,by omega⟩,?_⟩;have kO:zaL (List.take q' (List.map (λr=>(IT.mk 0 r.1,r.2)) R))++[.int .i64 0::.sl (IT.css R[q'].1) .none::zai (R[q'].2:Int)]=zaL ((R.take (q'+1)).map λr=>(IT.mk 0 r.1,r.2)):=by rw[aR,←zrM,List.map_take];rfl
    rw[kO];exact d5 _ _ ⟨R.length-(q'+1),by omega,Back.at (J:=[.cells (.sl (IT.css R[q'].1) .none::zai (R[q'].2:Int))]) (H2:=H++[AB.cells (VT.mk 6 tn tks).cs,.cells (IT.mk n l).cs,.cells (IT.mk n' m).cs,.perm zax 5 (q'+1)]) (by simp) (by simp) (eA _) (by simp[znt,ux,AV.sc,AV.scA,AV.scB,AV.scV]) ⟨_,_,rfl,q'+1,by omega,rfl,rfl,rfl,rfl⟩⟩
   ·obtain rfl:q'=R.length:=by omega
    rw[List.take_length];simp[zuG,zf0,znu];exact Out.at (b:=.sl (zaL (R.map λr=>(IT.mk 0 r.1,r.2))) .none) rfl (Nat.le_refl _) hs (.atom (.sl _ _)) rfl rfl hK
 ·by_cases k7:k=7
  ·subst k7;have ev:∀ (n:Int) (l:List IT),0≤rdV aa (.mk n l) (.mk 7 tn tks)→0≤n∧n≤6∧rdV aa (.mk n l) (.mk 7 tn tks)=n:=λn l h=>by
    rw[rdV]at h ⊢;simp only[VT.kind,k6,if_false,if_true]at h ⊢;by_cases hc:0≤n∧n≤6∧l.length=0
    ·rw[if_pos hc];exact⟨hc.1,hc.2.1,rfl⟩
    ·rw[if_neg hc]at h;omega
   obtain⟨i1,i2,i3⟩:=ev n l hi;obtain⟨j1,j2,j3⟩:=ev n' m hj;rw[i3]at hi h6;rw[j3]at hj h6;obtain⟨a,rfl⟩:∃ a:Nat,n=a:=⟨n.toNat,by omega⟩;obtain⟨b,rfl⟩:∃ b:Nat,n'=b:=⟨n'.toNat,by omega⟩;have c5:zbo aa (f+1) (.mk 7 tn tks) (.mk a l) (.mk b m)=(zaW a b).filter λp=>p.2 != 0:=by rw[zbo];simp[VT.kind,zaS]
   rw[c5]at hK;simp[ziM,bS,dZ,eN,Nat.add_assoc];refine zWv a b (by omega) (by omega) _ _ ?_;simp;rw[←bS,←dZ,←eN];unfold znw;refine ALoop.own 9 zax 5 rfl ?_;rw[fE,List.append_assoc];have bH:(zby a b (a+b+1)).length=a+b+1:=by simp[zby]
   have dX:(zaW a b).length=a+b+1:=by simp[zaW]
   show znw (.sl (zaL (((zaW a b).take 0).filter λp=>p.2 != 0)) (.own (H.length+3))) _ _ _ (H++[AB.cells (VT.mk 7 tn tks).cs,.cells (IT.mk a l).cs,.cells (IT.mk b m).cs,.perm zax 5 0]) _;refine zT1 (Inv:=λq t9 t62 H'=>∃ q':Nat,q'≤a+b+1∧a+b+1-q'=q∧t62=.int .i64 q'∧t9=.sl (zaL (((zaW a b).take q').filter λp=>p.2 != 0)) (.own (H.length+3))∧H'=H++[AB.cells (VT.mk 7 tn tks).cs,.cells (IT.mk a l).cs,.cells (IT.mk b m).cs,.perm zax 5 (((zaW a b).take q').filter λp=>p.2 != 0).length]) (a+b+1) ?_ ?_
   ·intro _;exact⟨0,by omega,rfl,rfl,rfl,rfl⟩
   ·rintro q t9 t62 H' ⟨q',hq,rfl,rfl,rfl,rfl⟩ hsc13 hlen13 hsF13 Kb13 dv;by_cases dw:q'<a+b+1
    ·have jv:q'<(zaW a b).length:=by omega
     have jw:(q':Int)<(a:Int)+(b:Int)+1:=by omega
     have he:(zaW a b)[q']=(.mk (q':Int) [],pcf a b q'):=by simp[zaW]
     have aR:((zaW a b).take (q'+1)).filter (λp=>p.2 != 0)=((zaW a b).take q').filter (λp=>p.2 != 0)++(if pcf a b q'=0 then [] else [(.mk (q':Int) [],pcf a b q')]):=by rw[List.take_succ_eq_append_getElem jv,he,List.filter_append];by_cases h0:pcf a b q'=0 <;> simp[h0]
     have bn:(((zaW a b).take q').filter λp=>p.2 != 0).length≤20:=Nat.le_trans (List.length_filter_le _ _) (by simp;omega);have ki:(zbE (zby a b (a+b+1)))[q']?=some (zai (pcf a b q':Int)):=by simp[zbE,zby,dw]
     obtain⟨s,eh⟩:∃ s,s=((zaW a b).take q').filter λp=>p.2 != 0:=⟨_,rfl⟩;rw[←eh]at aR bn ⊢;have mA:zaG (λ_=>1) (zaW a b)≤729:=by rw[zaW,zgI];have:=zpf a (by omega) b (by omega) (by omega);unfold zkG at this;refine Nat.le_trans (by simpa using this) (Nat.le_trans (Nat.pow_le_pow_right (by omega) (show a+b≤6 by omega)) (by decide))
     have hpc:pcf a b q'≤729:=by have hc:=zd3 (List.getElem_mem jv);rw[he]at hc;exact Nat.le_trans hc mA
     have hsmp:pcf a b q'<1000000000 ^ 30:=Nat.lt_of_le_of_lt hpc (by decide);simp[zuE,bH,jw,ki,zc3];refine zEG (pcf a b q') (zcb hsmp) _ _ ?_;by_cases h0:pcf a b q'=0
     ·rw[if_pos h0,List.append_nil]at aR;simp[h0,znv,zuH,wi q' (by omega)];have cM:s=List.filter (λp=>p.2 != 0) ((zaW a b).take (q'+1)):=aR.symm;exact dv _ _ ⟨a+b+1-(q'+1),by omega,Back.at (J:=[.cells (zai 0)]) (H2:=H++[AB.cells (VT.mk 7 tn tks).cs,.cells (IT.mk a l).cs,.cells (IT.mk b m).cs,.perm zax 5 s.length]) (by simp) (by simp) (eA _) (by simp[ziN,ux,AV.sc,AV.scA,AV.scB,AV.scV]) ⟨_,_,by simp only[bH];rfl,q'+1,by omega,rfl,rfl,by rw[←cM],by rw[←cM]⟩⟩
     ·rw[if_neg h0]at aR;simp[h0,zaq,zaI,zau,zaQ,plain,AV.pd,AV.known,zcI,eJ];simp only[zav,zaM,zaJ];simp[List.set_append_right,znv,zuH,wi q' (by omega)];refine⟨⟨by omega,by omega⟩,?_⟩;have kO:zaL s++[.int .i64 (q':Int)::.sl [] .none::zai (pcf a b q':Int)]=zaL (((zaW a b).take (q'+1)).filter λp=>p.2 != 0):=by rw[aR,←zrM];rfl
      have ct:s.length+1=(((zaW a b).take (q'+1)).filter λp=>p.2 != 0).length:=by rw[aR];simp
      rw[kO,ct];exact dv _ _ ⟨a+b+1-(q'+1),by omega,Back.at (J:=[.cells (zai (pcf a b q':Int))]) (H2:=H++[AB.cells (VT.mk 7 tn tks).cs,.cells (IT.mk a l).cs,.cells (IT.mk b m).cs,.perm zax 5 (((zaW a b).take (q'+1)).filter λp=>p.2 != 0).length]) (by simp) (by simp) (eA _) (by simp[ziN,ux,AV.sc,AV.scA,AV.scB,AV.scV]) ⟨_,_,by simp only[bH];rfl,q'+1,by omega,rfl,rfl,rfl,rfl⟩⟩
    ·obtain rfl:q'=a+b+1:=by omega
     rw[List.take_of_length_le (by omega)];simp[zuE,zf0,znu,bH];exact Out.at (b:=.sl (zaL ((zaW a b).filter λp=>p.2 != 0)) .none) rfl (Nat.le_refl _) hs (.atom (.sl _ _)) rfl rfl hK
  ·by_cases k5:k=5
   ·subst k5;have ev:∀ (n:Int) (l:List IT),0≤rdV aa (.mk n l) (.mk 5 tn tks)→n=0∧l.length≤6∧rdV aa (.mk n l) (.mk 5 tn tks)=rdE aa l (.mk 5 tn tks) 0:=λn l h=>by
     rw[zid]at h ⊢;by_cases hc:n=0∧l.length≤6
     ·rw[if_pos hc];exact⟨hc.1,hc.2,rfl⟩
     ·rw[if_neg hc]at h;omega
    obtain⟨i1,i2,i3⟩:=ev n l hi;obtain⟨j1,j2,j3⟩:=ev n' m hj;rw[i3]at hi h6;rw[j3]at hj h6;obtain⟨R,hR⟩:∃ R,R=za3 aa f (.mk 5 tn tks) l m:=⟨_,rfl⟩;obtain⟨R1,R2,R3,R4⟩:=zjb h8 (f:=f) (t:=.mk 5 tn tks) (l:=l) (m:=m) (by omega) hi hj h6;rw[←hR]at R1 R2 R3 R4;have c5:zbo aa (f+1) (.mk 5 tn tks) (.mk n l) (.mk n' m)=R.map λr=>(.mk 0 r.1,r.2):=by rw[zbo,hR];simp[VT.kind,zaH]
    rw[c5]at hK;simp[ziM,bS,dZ,eN,Nat.add_assoc];rw[←bS];refine hM (.mk 5 tn tks) l m (by omega) dR cT rfl hi hj h6 (by omega) _ _ ?_;rw[←hR];simp;rw[←dZ,←eN];unfold znx;refine ALoop.own 9 zax 5 rfl ?_;rw[fE,List.append_assoc];show znx (.sl (zaL ((R.take 0).map λr=>(IT.mk 0 r.1,r.2))) (.own (H.length+3))) _ _ _ (H++[AB.cells (VT.mk 5 tn tks).cs,.cells (IT.mk n l).cs,.cells (IT.mk n' m).cs,.perm zax 5 0]) _;refine zT2 (Inv:=λq t9 t36 H'=>∃ q':Nat,q'≤R.length∧R.length-q'=q∧t36=.int .i64 q'∧t9=.sl (zaL ((R.take q').map λr=>(IT.mk 0 r.1,r.2))) (.own (H.length+3))∧H'=H++[AB.cells (VT.mk 5 tn tks).cs,.cells (IT.mk n l).cs,.cells (IT.mk n' m).cs,.perm zax 5 q']) R.length ?_ ?_
    ·intro _;exact⟨0,by omega,rfl,rfl,rfl,rfl⟩
    ·rintro q t9 t36 H' ⟨q',hq,rfl,rfl,rfl,rfl⟩ jt gw ju Kb6 d5;have cn:min q' R.length=q':=by omega
     by_cases dw:q'<R.length
     ·have aR:(R.take (q'+1)).map (λr=>(IT.mk 0 r.1,r.2))=(R.take q').map (λr=>(IT.mk 0 r.1,r.2))++[(IT.mk 0 R[q'].1,R[q'].2)]:=by rw[List.take_succ_eq_append_getElem dw];simp only[List.map_append,List.map_cons,List.map_nil]
      simp[zuF,dw,zaq,zaI,wi q' (by omega),AV.known,zau,zaQ,plain,AV.pd,zcI,eJ];simp only[zav,zaM,zaJ];simp[cn,List.set_append_right];refine⟨⟨by omega,by omega⟩,?_⟩;have kO:zaL (List.take q' (List.map (λr=>(IT.mk 0 r.1,r.2)) R))++[.int .i64 0::.sl (IT.css R[q'].1) .none::zai (R[q'].2:Int)]=zaL ((R.take (q'+1)).map λr=>(IT.mk 0 r.1,r.2)):=by rw[aR,←zrM,List.map_take];rfl
      rw[kO];exact d5 _ _ ⟨R.length-(q'+1),by omega,Back.at (J:=[.cells (.sl (IT.css R[q'].1) .none::zai (R[q'].2:Int))]) (H2:=H++[AB.cells (VT.mk 5 tn tks).cs,.cells (IT.mk n l).cs,.cells (IT.mk n' m).cs,.perm zax 5 (q'+1)]) (by simp) (by simp) (eA _) (by simp[zns,ux,AV.sc,AV.scA,AV.scB,AV.scV]) ⟨_,_,rfl,q'+1,by omega,rfl,rfl,rfl,rfl⟩⟩
     ·obtain rfl:q'=R.length:=by omega
      rw[List.take_length];simp[zuF,zf0,znu];exact Out.at (b:=.sl (zaL (R.map λr=>(IT.mk 0 r.1,r.2))) .none) rfl (Nat.le_refl _) hs (.atom (.sl _ _)) rfl rfl hK
   ·have c5:zbo aa (f+1) (.mk k tn tks) (.mk n l) (.mk n' m)=[(.mk 0 [],1)]:=by rw[zbo];simp[VT.kind,k6,k7,k5]
    rw[c5]at hK;have b6:(k == 6)=false:=by simpa using k6
    have b7:(k == 7)=false:=by simpa using k7
    have b5:(k == 5)=false:=by simpa using k5
    simp[ziM,bS,dZ,eN,b6,b7,b5,zaq,zaI,AV.known,Nat.add_assoc];refine zeF 1 (by omega) _ _ ?_;simp[zaq,zaI,zau,zaQ,plain,AV.pd,AV.known,zcI,zav,zaM,zaJ];exact Out.at (b:=.sl (zaL [(IT.mk 0 [],1)]) .none) rfl (Nat.le_refl _) hs (.atom (.sl _ _)) rfl rfl hK
theorem zyb {aa:List Dat} (hk:zbv aa) (h8:∀ D∈aa,D.cons.length≤8) (hD:zbq aa=true):∀ f,zoY aa f∧zi6 aa f∧zi4 aa f
 | 0=>⟨λt i j h=>by have:=i.nodes_pos;omega,λts l m h=>by omega,λt l m h=>by omega⟩
 | f+1=>by obtain⟨h1,h2,h3⟩:=zyb hk h8 hD f;exact⟨zHu h8 h2 h3,zIs h8 h1,zHm hk h8 hD h2 h3⟩
section
variable (t0 t1 t2 t3 t12 t13:AV) (H:zaa) (K:Kt) (Kb4:Lt)
def zLk (_:Nat):List Bool:=[]
noncomputable def zLl:Code:=Tryz.f12.body.getD .skip
def zAx:Prop:=zat t1 H λt5 H=>zat t2 H λt6 H=>zat t3 H λt7 H=>zab H (λK'=>K' t0 H) λt13=>zab H (λK'=>zaj true 3 t5 H (K' · H)) λt14=>zab H (λK'=>zaj true 2 t6 H (K' · H)) λt15=>zaA H (λH K'=>ACalls tP zhX [t13,t14,t15] H K') λt16=>zab H (λK'=>K' t0 H) λt17=>zab H (λK'=>zaj true 3 t5 H (K' · H)) λt18=>zab H (λK'=>zaj true 2 t7 H (K' · H)) λt19=>zaA H (λH K'=>ACalls tP zhX [t17,t18,t19] H K') λt20=>zab H (λK'=>K' t16 H) λt10=>zab H (λK'=>K' t20 H) λt11=>zac .lss false t10 (.int .i64 0) λt22=>zad t22 false H (λK'=>K' t11 H) λt24 H=>zad t22 false H (λK'=>zac .lss false t24 (.int .i64 0) (K' · H)) λt25 H=>zam t22 (.bool true) t25 λt26=>zag t26 (zaF [.snil,(.int .i64 1)] (K · H)) (zac .add false t10 t11 λt29=>zac .gtr false t29 (.int .i64 6) λt30=>zag t30 (zaF [.snil,(.int .i64 13)] (K · H)) (zae true 3 t5 H λt32=>ACalls tP zqP [t0,t32] H λt33 H=>zae true 3 t5 H λt36=>zae true 2 t6 H λt37=>zae true 2 t7 H λt38=>ACalls tP zj0 [t0,t36,t37,t38] H λt39 H=>ACalls tP zqQ [t33,t39] H λt40 H=>ACalls tP zqR [t33] H λt42 H=>zaC t42 0 λt43=>zaC t42 1 λt44=>zaF [t43,t44] (K · H)))
def zRq (_:Nat):List Bool:=[]
noncomputable def zRr:Code:=Tryz.f3.body.getD .skip
def zq1:Prop:=zat t1 H λt5 H=>zat t2 H λt6 H=>zat t3 H λt7 H=>zae true 3 t5 H λt14=>ACalls tP zq0 [t0,t14] H λt15 H=>aUn .not t15 λt16=>zad t16 false H (λK'=>zae true 2 t6 H (K' · H)) λt18 H=>zad t16 false H (λK'=>ACalls tP zkc [t18] H K') λt19 H=>zad t16 false H (λK'=>aUn .not t19 (K' · H)) λt20 H=>zam t16 (.bool true) t20 λt21=>zad t21 false H (λK'=>zae true 2 t7 H (K' · H)) λt23 H=>zad t21 false H (λK'=>ACalls tP zkc [t23] H K') λt24 H=>zad t21 false H (λK'=>aUn .not t24 (K' · H)) λt25 H=>zam t21 (.bool true) t25 λt26=>zag t26 (K (.bool true) H) (zae true 3 t5 H λt29=>zae true 2 t6 H λt30=>zae true 2 t7 H λt31=>ACalls tP zjs [t0,t29,t30,t31] H λt32 H=>zaC t32 0 λt33=>zaC t32 1 λt34=>zae true 3 t5 H λt37=>zae true 2 t6 H λt38=>zae true 2 t7 H λt39=>ACalls tP zp8 [t0,t37,t38,t39] H λt40 H=>zaC t40 0 λt41=>zaC t40 1 λt42=>zac .eql false t34 t42 λt45=>zad t45 true H (λK'=>K' t33 H) λt47 H=>zad t45 true H (λK'=>K' t41 H) λt48 H=>zad t45 true H (λK'=>ACalls tP zp9 [t47,t48] H K') λt49 H=>zam t45 t49 (.bool false) λt50=>zad t50 true H (λK'=>ACalls tP zqg [] H K') λt52 H=>zam t50 t52 (.bool false) λt53=>K t53 H)
def zXC (_:Nat):List Bool:=[]
noncomputable def zXD:Code:=Tryz.f10.body.getD .skip
def zq8:Prop:=zat t1 H λt3 H=>ACalls tP zqN [t0] H λt6 H=>zad t6 true H (λK'=>zae true 3 t3 H (K' · H)) λt8 H=>zad t6 true H (λK'=>ACalls tP zqO [t8] H K') λt9 H=>zam t6 t9 (.bool false) λt10=>K t10 H
def zM9 (_:Nat):List Bool:=[]
noncomputable def zNa:Code:=Tryz.f15.body.getD .skip
def zBd:Prop:=zaq [(.int .i64 0),(.int .i64 0),.snil] [(0,1),(1,1),(2,1)] [(0,(.int .i64 1))] λt4=>zau 3 [(.int .i64 0),(.int .i64 0),.snil] 1 [(0,t4)] λt5=>zaq [(.int .i64 0),(.int .i64 0),.snil] [(0,1),(1,1),(2,1)] [(0,(.int .i64 7)),(2,t5)] λt6=>zay [(.int .i64 0),(.int .i64 0),.snil] H λt1 H=>zao 3 t1 t6 H λH=>zae true 3 t1 H λt8=>zaq [(.int .i64 0),.snil] [(0,1),(1,1)] [(0,(.int .i64 1))] λt9=>zaq [(.int .i64 0),.snil] [(0,1),(1,1)] [(0,(.int .i64 1))] λt10=>ACalls tP zjs [.snil,t8,t9,t10] H λt11 H=>zaC t11 0 λt12=>zaC t11 1 λt13=>zab H (λK'=>K' t13 H) λt14=>zab H (λK'=>zac .eql false t14 (.int .i64 0) (K' · H)) λt15=>zab H (λK'=>K' t15 H) λt16=>zad t16 true H (λK'=>zab H (λK''=>K'' t12 H) (K' · H)) λt17 H=>zad t16 true H (λK'=>zab H (λK''=>zah 1 t17 (K'' · H)) (K' · H)) λt18 H=>zad t16 true H (λK'=>zab H (λK''=>zac .eql false t18 (.int .i64 2) (K'' · H)) (K' · H)) λt19 H=>zab H (λK'=>zam t16 t19 (.bool false) (K' · H)) λt20=>zab H (λK'=>K' t20 H) λt21=>zad t21 true H (λK'=>zab H (λK''=>K'' t12 H) (K' · H)) λt22 H=>zad t21 true H (λK'=>zab H (λK''=>zak 5 t22 (.int .i64 1) (K'' · H)) (K' · H)) λt23 H=>zad t21 true H (λK'=>zab H (λK''=>zaf 0 t23 (K'' · H)) (K' · H)) λt24 H=>zad t21 true H (λK'=>zab H (λK''=>zaf 0 t24 (K'' · H)) (K' · H)) λt25 H=>zad t21 true H (λK'=>zab H (λK''=>zaj false 1 t25 H (K'' · H)) (K' · H)) λt26 H=>zad t21 true H (λK'=>zab H (λK''=>zac .eql false t26 (.int .i64 2) (K'' · H)) (K' · H)) λt27 H=>zab H (λK'=>zam t21 t27 (.bool false) (K' · H)) λt28=>zab H (λK'=>K' t28 H) λt29=>zad t29 true H (λK'=>zab H (λK''=>K'' t12 H) (K' · H)) λt30 H=>zad t29 true H (λK'=>zab H (λK''=>zak 5 t30 (.int .i64 1) (K'' · H)) (K' · H)) λt31 H=>zad t29 true H (λK'=>zab H (λK''=>zaf 2 t31 (K'' · H)) (K' · H)) λt32 H=>zad t29 true H (λK'=>zab H (λK''=>zaj true 3 t32 H (K'' · H)) (K' · H)) λt33 H=>zad t29 true H (λK'=>zaA H (λH K''=>ACalls tP zdO [(.int .i64 2)] H K'') (K' · H)) λt34 H=>zad t29 true H (λK'=>zaA H (λH K''=>ACalls tP zjM [t33,t34] H K'') (K' · H)) λt35 H=>zab H (λK'=>zam t29 t35 (.bool false) (K' · H)) λt36=>zab H (λK'=>K' t36 H) λt0=>K t0 H
def zly:Nat→List Bool | 4=>rl false [0,2,10,2,29] | _=>[]
noncomputable def zsB:Code:=Tryz.f14.body.getD .skip
noncomputable def zMu:List ResultVar:=Tryz.f14.results.toList
def zlz:List AV:=t0::t1::ux 10 (t12::t13::ux 29 [])
def zMs:List Bool:=zly 4
noncomputable def zMq:Code:=zar [1,1,0,1,0,0] zsB
def zMp:AExit→List AV→zaa→Prop:=zas tP zly [1,1,0,1,0] zsB (zaz tP zMu K)
def zBb:Prop:=ALoop tP zMq (zMp K) (zlz t0 t1 t12 t13) H
def zsA:Prop:=zac .lss false t13 t12 λt14=>zag t14 (zab H (λK'=>K' t0 H) λt16=>zab H (λK'=>K' t13 H) λt17=>zab H (λK'=>zak 5 t16 t17 (K' · H)) λt18=>zab H (λK'=>zaf 0 t18 (K' · H)) λt19=>zab H (λK'=>zaj true 2 t19 H (K' · H)) λt20=>zab H (λK'=>K' t1 H) λt21=>zab H (λK'=>K' t13 H) λt22=>zab H (λK'=>zak 5 t21 t22 (K' · H)) λt23=>zab H (λK'=>zaf 0 t23 (K' · H)) λt24=>zab H (λK'=>zaj true 2 t24 H (K' · H)) λt25=>zaA H (λH K'=>ACalls tP zhW [t20,t25] H K') λt26=>zab H (λK'=>aUn .not t26 (K' · H)) λt27=>zab H (λK'=>K' t27 H) λt28=>zad t28 false H (λK'=>zab H (λK''=>K'' t0 H) (K' · H)) λt29 H=>zad t28 false H (λK'=>zab H (λK''=>K'' t13 H) (K' · H)) λt30 H=>zad t28 false H (λK'=>zab H (λK''=>zak 5 t29 t30 (K'' · H)) (K' · H)) λt31 H=>zad t28 false H (λK'=>zab H (λK''=>zaf 2 t31 (K'' · H)) (K' · H)) λt32 H=>zad t28 false H (λK'=>zab H (λK''=>zaj true 3 t32 H (K'' · H)) (K' · H)) λt33 H=>zad t28 false H (λK'=>zab H (λK''=>K'' t1 H) (K' · H)) λt34 H=>zad t28 false H (λK'=>zab H (λK''=>K'' t13 H) (K' · H)) λt35 H=>zad t28 false H (λK'=>zab H (λK''=>zak 5 t34 t35 (K'' · H)) (K' · H)) λt36 H=>zad t28 false H (λK'=>zab H (λK''=>zaf 2 t36 (K'' · H)) (K' · H)) λt37 H=>zad t28 false H (λK'=>zab H (λK''=>zaj true 3 t37 H (K'' · H)) (K' · H)) λt38 H=>zad t28 false H (λK'=>zaA H (λH K''=>ACalls tP zjM [t33,t38] H K'') (K' · H)) λt39 H=>zad t28 false H (λK'=>zab H (λK''=>aUn .not t39 (K'' · H)) (K' · H)) λt40 H=>zab H (λK'=>zam t28 (.bool true) t40 (K' · H)) λt41=>zag t41 (K (.bool false) H) (zac .add false t13 (.int .i64 1) λt42=>Kb4 (zlz t0 t1 t12 t42) H)) (K (.bool true) H)
def zA0:Prop:=zah 1 t0 λt7=>zah 1 t1 λt9=>zac .neq false t7 t9 λt10=>zag t10 (K (.bool false) H) (zah 1 t0 λt12=>zBb t0 t1 t12 (.int .i64 0) H K)
variable {t0 t1 t2 t3 t12 t13} {H} {K} {Kb4}
theorem zLm (h:HSc H→zAx t0 t1 t2 t3 H K):ACalls tP zjs [t0,t1,t2,t3] H K:=
 acb zLk Tryz.func12 zLl (by kernel_rfl) (by kernel_rfl) h
theorem zRs (h:HSc H→zq1 t0 t1 t2 t3 H K):ACalls tP zp5 [t0,t1,t2,t3] H K:=
 acb zRq Tryz.func3 zRr (by kernel_rfl) (by kernel_rfl) h
theorem zXE (h:HSc H→zq8 t0 t1 H K):ACalls tP zq0 [t0,t1] H K:=
 acb zXC Tryz.func10 zXD (by kernel_rfl) (by kernel_rfl) h
theorem zNb (h:HSc H→zBd H K):ACalls tP zqg [] H K:=
 acb zM9 Tryz.func15 zNa (by kernel_rfl) (by kernel_rfl) h
theorem zMr (Inv:Nat→AV→zaa→Prop) (n:Nat) (h0:HSc H→Inv n t13 H)
  (ac:Rd1 (λt13=>zlz t0 t1 t12 t13) (λt13=>λH Kb4=>zsA t0 t1 t12 t13 H K Kb4) H Inv):zBb t0 t1 t12 t13 H K:=
 lp1 (M:=zly) zMs t13 (by kernel_rfl) Inv n h0 ac
theorem zMt (h:HSc H→zA0 t0 t1 H K):ACalls tP zp9 [t0,t1] H K:=
 acb zly Tryz.func14 zsB (by kernel_rfl) (by kernel_rfl) h
end
theorem zx7 {aa:List Dat}:∀ (f:Nat) (t:VT) (l m:List IT),IT.nodesL l+IT.nodesL m+1≤f→za3 aa f t l m≠[]
 | 0,_,_,_,h=>by omega
 | f+1,t,[],m,h=>by simp[za3]
 | f+1,t,a::l,[],h=>by simp[za3]
 | f+1,t,a::l,b::m,h=>by have na:=a.nodes_pos;simp only[IT.nodesL]at h;have:=zx7 (aa:=aa) f t l (b::m) (by simp only[IT.nodesL];omega);rw[za3];simp[this]
theorem zH7:∀ a<7,∀ b<7,pcf a b (max a b)≠0:=by decide
theorem zy6 {aa:List Dat} {f:Nat} {ts:List VT} {l m:List IT} (h:∀ k,k<ts.length→zbo aa f (ts.getD k tz) (l.getD k d0) (m.getD k d0)≠[]):∀ k,k≤ts.length→zco aa f ts l m k≠[]
 | 0,_=>by simp[zrp]
 | k+1,hk=>by
  have h1:=zy6 h k (by omega);have h2:=h k (by omega);rw[zkx];generalize zco aa f ts l m k=out at *;generalize zbo aa f (ts.getD k tz) (l.getD k d0) (m.getD k d0)=ws at *;cases out with
  | nil=>exact absurd rfl h1
  | cons r out=>
   cases ws with
   | nil=>exact absurd rfl h2
   | cons w ws=>simp[zbW]
theorem zyc {aa:List Dat}:∀ (f:Nat) (t:VT) (i j:IT),i.nodes+j.nodes≤f→0≤rdV aa i t→0≤rdV aa j t→zbo aa f t i j≠[]
 | 0,t,i,j,h,_,_=>by have:=i.nodes_pos;omega
 | f+1,.mk k tn tks,.mk n l,.mk n' m,h,hi,hj=>by
  rw[zyY]at hi hj;simp only[IT.nodes]at h;rw[zbo];simp only[VT.kind,VT.kids,zaH,zaS];by_cases h6:k=6
  ·subst h6;simp only[if_true]at hi hj ⊢;by_cases hn:n=0;case neg=>rw[if_neg hn]at hi;omega
   by_cases bT:n'=0;case neg=>rw[if_neg bT]at hj;omega
   rw[if_pos hn]at hi;rw[if_pos bT]at hj;by_cases hl:tks.length=l.length;case neg=>rw[if_neg hl]at hi;omega
   by_cases hm:tks.length=m.length;case neg=>rw[if_neg hm]at hj;omega
   rw[if_pos hl]at hi;rw[if_pos hm]at hj;have ii:=(zeZ (aa:=aa) l tks 0 (by omega) hl.symm hi).1;have ij:=(zeZ (aa:=aa) m tks 0 (by omega) hm.symm hj).1;cases f with
   | zero=>omega
   | succ f=>
    rw[zky];have:=zy6 (aa:=aa) (f:=f) (ts:=tks) (l:=l) (m:=m) (λk hk=>by
     have h1:k<l.length:=by omega
     have h2:k<m.length:=by omega
     have n1:=zdQ h1;have n2:=zdQ h2;have e1:tks.getD k tz=tks[k]:=by simp[List.getD_eq_getElem?_getD,hk]
     have e2:l.getD k d0=l[k]:=by simp[List.getD_eq_getElem?_getD,h1]
     have e3:m.getD k d0=m[k]:=by simp[List.getD_eq_getElem?_getD,h2]
     rw[e1,e2,e3];exact zyc f tks[k] l[k] m[k] (by omega) (ii k h1 hk) (ij k h2 hk)) tks.length (Nat.le_refl _)
    simp[this]
  ·simp only[h6,if_false]at hi hj ⊢;by_cases h7:k=7
   ·subst h7;simp only[if_true]at hi hj ⊢;by_cases hc:0≤n∧n≤6∧l.length=0;case neg=>rw[if_neg hc]at hi;omega
    by_cases jF:0≤n'∧n'≤6∧m.length=0;case neg=>rw[if_neg jF]at hj;omega
    have hp:=zH7 n.toNat (by omega) n'.toNat (by omega);intro he;rw[List.filter_eq_nil_iff]at he;have:=he (.mk ((max n.toNat n'.toNat:Nat):Int) [],pcf n.toNat n'.toNat (max n.toNat n'.toNat)) (by
     unfold zaW;exact List.mem_map.2 ⟨max n.toNat n'.toNat,by simp;omega,rfl⟩)
    simp at this;exact hp this
   ·simp only[h7,if_false]at hi hj ⊢;by_cases h5:k=5
    ·subst h5;simp only[if_true]at hi hj ⊢;have:=zx7 (aa:=aa) f (.mk 5 tn tks) l m (by omega);simp[this]
    ·simp[h5]
theorem zHt {aa:List Dat} {t:VT} {i j:IT} {f:Nat} (h:i.nodes+j.nodes≤f) (hi:0≤rdV aa i t) (hj:0≤rdV aa j t):0<zaE (λ_=>1) (zbo aa f t i j):=by
 have h1:=zyc f t i j h hi hj;have h2:=(zgA aa f).1 t i j;generalize zbo aa f t i j=s at *;cases s with
 | nil=>exact absurd rfl h1
 | cons p s=>have:=h2 p (by simp);rw[zbh];omega
def zdx (aa:List Dat) (t:VT) (i j:IT):AV:=
 if zbc aa t i<0∨zbc aa t j<0 then .tup [.sl [] .none,.int .i64 1] else if 6<zbc aa t i+zbc aa t j then .tup [.sl [] .none,.int .i64 13]
 else .tup [.sl (zaL (zbC aa t (za8 aa (i.nodes+j.nodes) t i j) 7)) .none,.int .i64 0]
theorem zhG {aa:List Dat} {t:VT} {i j:IT} (h:zbc aa t i<0∨zbc aa t j<0):zdx aa t i j=.tup [.sl [] .none,.int .i64 1]:=if_pos h
theorem zeQ {aa:List Dat} {t:VT} (hf:zbY aa t=true) (i:IT):zbc aa t i=rdV aa i t:=by unfold zbc;rw[if_pos hf]
theorem zp4 {aa:List Dat} {t:VT} {i j:IT} (hf:zbY aa t=true) (h1:0≤rdV aa i t) (h2:0≤rdV aa j t) (h6:rdV aa i t+rdV aa j t>6):zdx aa t i j=.tup [.sl [] .none,.int .i64 13]:=by unfold zdx;rw[zeQ hf,zeQ hf,if_neg (by omega),if_pos (by omega)]
theorem zp3 {aa:List Dat} {t:VT} {i j:IT} (hf:zbY aa t=true) (h1:0≤rdV aa i t) (h2:0≤rdV aa j t) (h6:rdV aa i t+rdV aa j t≤6):zdx aa t i j=.tup [.sl (zaL (zbC aa t (za8 aa (i.nodes+j.nodes) t i j) 7)) .none,.int .i64 0]:=by unfold zdx;rw[zeQ hf,zeQ hf,if_neg (by omega),if_neg (by omega)]
theorem zAZ {aa:List Dat} (hk:zbv aa) (t:VT) (ht:t.nodes≤250) (i j:IT) (hi:i.nodes≤100) (hj:j.nodes≤100) (H:zaa) (K:Kt) (hK:K (zdx aa t i j) H) :
  ACalls tP zp8 [.sl (aa.map Dat.cs) .none,.agg t.cs,.agg i.cs,.agg j.cs] H K:=by
 refine ACalls.out (zLN λhs=>?_);have hO:∀ (e:Int) J,zdx aa t i j=.tup [.sl [] .none,.int .i64 e]→Out H.length K (.tup [.snil,.int .i64 e]) (H++J):=λe J he=>Out.tup (bs:=[.sl [] .none,.int .i64 e]) hs (by rw[←he];exact hK) ⟨zdE,zaY rfl rfl,trivial⟩;obtain⟨x,y,z,aC,hx,hy,hz⟩:=zbs t;obtain⟨x2,y2,aP,bg,fB⟩:=zck i;obtain⟨x3,y3,bh,bz,mt⟩:=zck j;simp[zAQ,aC,aP,bh,Nat.add_assoc];rw[←aC,←aP,←bh];refine zaB (.int .i64 (zbc aa t i)) (λJ=>zC6 aa hk t (by omega) i (by omega) _ _ ⟨rfl,rfl⟩) ?_;refine zaB (.int .i64 (zbc aa t j)) (λJ=>zC6 aa hk t (by omega) j (by omega) _ _ ⟨rfl,rfl⟩) ?_;by_cases h1:zbc aa t i<0
 ·simp[h1];exact⟨⟨rfl,rfl⟩,hO 1 _ (zhG (.inl h1))⟩
 ·by_cases h2:zbc aa t j<0
  ·simp[h1,h2];exact⟨⟨rfl,rfl⟩,hO 1 _ (zhG (.inr h2))⟩
  ·have hf:zbY aa t=true:=by
    unfold zbc at h1;by_cases h:zbY aa t=true
    ·exact h
    ·rw[if_neg h]at h1;omega
   have e1:zbc aa t i=rdV aa i t:=by unfold zbc;rw[if_pos hf]
   have e2:zbc aa t j=rdV aa j t:=by unfold zbc;rw[if_pos hf]
   rw[e1]at h1 ⊢;rw[e2]at h2 ⊢;have h8:=zhp hf;obtain⟨hD,cT⟩:zbq aa=true∧zaV aa 0 t=true:=by unfold zbY at hf;simpa using hf
   have r1:=zie (h8:=h8) i t;have r2:=zie (h8:=h8) j t;have w:IntKind.i64.wrap (rdV aa i t+rdV aa j t)=rdV aa i t+rdV aa j t:=zaw (by omega) (by omega);by_cases h6:rdV aa i t+rdV aa j t>6
   ·have dI:6<rdV aa i t+rdV aa j t:=h6;simp[h1,h2,w,dI];exact⟨⟨rfl,rfl⟩,hO 13 _ (zp4 hf (by omega) (by omega) h6)⟩
   ·have dI:¬ (6<rdV aa i t+rdV aa j t):=h6;simp[h1,h2,w,dI,aC,aP,bh,Nat.add_assoc];rw[←aC,←aP,←bh];obtain⟨R,hR⟩:∃ R,R=za8 aa (i.nodes+j.nodes) t i j:=⟨_,rfl⟩;obtain⟨R1,R2⟩:=(zcq h8 (i.nodes+j.nodes)).1 t i j (by omega) (by omega) (by omega) (by omega);rw[←hR]at R1 R2
    replace R2:=Nat.le_trans R2 (zcw (by omega))
    have Rl:=zep λp hp=>(R1 p hp).1;refine (zyd hk h8 hD (i.nodes+j.nodes)).1 t i j (by omega) (by omega) cT (by omega) (by omega) (by omega) (by omega) _ _ ?_;rw[←hR];have dG:¬ ((1000:Int)<(R.length:Int)):=by omega
    simp[dG,aC,aP,bh,Nat.add_assoc];rw[←aC];refine zUB hk h8 t (by omega) R (λp hp=>by have:=(R1 p hp).2.2.2.2.2;omega) (by omega) _ _ ?_;have hg:=hK;rw[zp3 hf (by omega) (by omega) (by omega),←hR]at hg;exact⟨⟨rfl,rfl⟩,Out.tup (bs:=[.sl (zaL (zbC aa t R 7)) .none,.int .i64 0]) hs hg ⟨zaY rfl rfl,zaY rfl rfl,trivial⟩⟩

theorem zTO (aa:List Dat) (T:VT) (H:zaa) (K:Kt) (hK:K (.ptr (H.length+2) 0) (H++[.cells T.cs,.map [],.cells (.sl (aa.map Dat.cs) .none::T.cs++[.map (H.length+1),.snil])])) :
  ACalls tP zqP [.sl (aa.map Dat.cs) .none,.agg T.cs] H K:=by
 refine zTN λhs=>?_;obtain⟨x,y,z,aC,hx,hy,hz⟩:=zbs T;simp[zDJ,aC,zdZ,zaq,zaI,AV.known,Nat.add_assoc];rw[aC]at hK;simpa using hK
theorem zAP {aa:List Dat} (hk:zbv aa) (t:VT) (ht:t.nodes≤250) (i j:IT) (hi:i.nodes≤100) (hj:j.nodes≤100) (H:zaa) (K:Kt) (hK:K (zdx aa t i j) H) :
  ACalls tP zjs [.sl (aa.map Dat.cs) .none,.agg t.cs,.agg i.cs,.agg j.cs] H K:=by
 refine ACalls.out (zLm λhs=>?_);have hO:∀ (e:Int) J,zdx aa t i j=.tup [.sl [] .none,.int .i64 e]→Out H.length K (.tup [.snil,.int .i64 e]) (H++J):=λe J he=>Out.tup (bs:=[.sl [] .none,.int .i64 e]) hs (by rw[←he];exact hK) ⟨zdE,zaY rfl rfl,trivial⟩;obtain⟨x,y,z,aC,hx,hy,hz⟩:=zbs t;obtain⟨x2,y2,aP,bg,fB⟩:=zck i;obtain⟨x3,y3,bh,bz,mt⟩:=zck j;simp[zAx,aC,aP,bh,Nat.add_assoc];rw[←aC,←aP,←bh];refine zaB (.int .i64 (zbc aa t i)) (λJ=>zuA aa hk t (by omega) i (by omega) _ _ ⟨rfl,rfl⟩) ?_;refine zaB (.int .i64 (zbc aa t j)) (λJ=>zuA aa hk t (by omega) j (by omega) _ _ ⟨rfl,rfl⟩) ?_;by_cases h1:zbc aa t i<0
 ·simp[h1];exact⟨⟨rfl,rfl⟩,hO 1 _ (zhG (.inl h1))⟩
 ·by_cases h2:zbc aa t j<0
  ·simp[h1,h2];exact⟨⟨rfl,rfl⟩,hO 1 _ (zhG (.inr h2))⟩
  ·have hf:zbY aa t=true:=by
    unfold zbc at h1;by_cases h:zbY aa t=true
    ·exact h
    ·rw[if_neg h]at h1;omega
   have e1:=zeQ hf i;have e2:=zeQ hf j;rw[e1]at h1 ⊢;rw[e2]at h2 ⊢;have h8:=zhp hf;obtain⟨hD,cT⟩:zbq aa=true∧zaV aa 0 t=true:=by unfold zbY at hf;simpa using hf
   have r1:=zie (h8:=h8) i t;have r2:=zie (h8:=h8) j t;have w:IntKind.i64.wrap (rdV aa i t+rdV aa j t)=rdV aa i t+rdV aa j t:=zaw (by omega) (by omega);by_cases h6:rdV aa i t+rdV aa j t>6
   ·have dI:6<rdV aa i t+rdV aa j t:=h6;simp[h1,h2,w,dI];exact⟨⟨rfl,rfl⟩,hO 13 _ (zp4 hf (by omega) (by omega) h6)⟩
   ·have dI:¬ (6<rdV aa i t+rdV aa j t):=h6;simp[h1,h2,w,dI,aC,aP,bh,Nat.add_assoc];rw[←aC,←aP,←bh];rw[zp3 hf (by omega) (by omega) (by omega)]at hK;refine zTO aa t _ _ ?_;simp[aC,aP,bh,Nat.add_assoc];rw[←aC,←aP,←bh];refine (zyb hk h8 hD (i.nodes+j.nodes)).1 t i j (by omega) (by omega) cT (by omega) (by omega) (by omega) (by omega) _ _ ?_;obtain⟨W,hW⟩:∃ W,W=zbo aa (i.nodes+j.nodes) t i j:=⟨_,rfl⟩;obtain⟨P1,P2,P3,P4⟩:=zwT h8 (f:=i.nodes+j.nodes) (t:=t) (i:=i) (j:=j) (Nat.le_refl _) (by omega) (by omega) (by omega);have hWp:=zHt (aa:=aa) (t:=t) (i:=i) (j:=j) (Nat.le_refl _) (by omega) (by omega);have lG:=(zgL aa (i.nodes+j.nodes)).1 t i j;obtain⟨L,hL⟩:∃ L,L=za8 aa (i.nodes+j.nodes) t i j:=⟨_,rfl⟩;obtain⟨R1,R2⟩:=(zcq h8 (i.nodes+j.nodes)).1 t i j (by omega) (by omega) (by omega) (by omega);have hLa:=zHp aa (i.nodes+j.nodes) t i j;rw[←hW]at P1 P2 P3 P4 hWp lG ⊢;rw[←hL]at hK R1 R2 lG hLa
    replace R2:=Nat.le_trans R2 (zcw (by omega))
    have Rl:=zep λp hp=>(R1 p hp).1;have hg5:(H++[AB.cells t.cs,.cells i.cs,.cells j.cs,.cells t.cs,.map [],.cells [.sl (aa.map Dat.cs) .none,x,y,z,.map (H.length+4),.snil]])[H.length+5]?=some (.cells [.sl (aa.map Dat.cs) .none,x,y,z,.map (H.length+4),.snil]):=by simp[List.getElem?_append]
    refine ACalls.ovC (id:=H.length+5) (j:=5) zax 5 hg5 rfl ?_;have hS0:Sw (H++[AB.cells t.cs,.cells i.cs,.cells j.cs,.cells t.cs,.map [],.cells [.sl (aa.map Dat.cs) .none,x,y,z,.map (H.length+4),.ov (H.length+6) 0],.vec zax 5 0 []]) (H.length+5) (H.length+4) (H.length+6) (.sl (aa.map Dat.cs) .none::t.cs) []:=
     ⟨by rw[aC];rfl,by omega,by omega,by omega,by rw[aC];simp[List.getElem?_append],by simp[List.getElem?_append,kvS],by simp[List.getElem?_append,tms]⟩
    have ed:(H++[AB.cells t.cs,.cells i.cs,.cells j.cs,.cells t.cs,.map [],.cells [.sl (aa.map Dat.cs) .none,x,y,z,.map (H.length+4),.snil]]).set (H.length+5) (.cells ([AV.sl (aa.map Dat.cs) .none,x,y,z,.map (H.length+4),.snil].set 5 (.ov (H++[AB.cells t.cs,.cells i.cs,.cells j.cs,.cells t.cs,.map [],.cells [.sl (aa.map Dat.cs) .none,x,y,z,.map (H.length+4),.snil]]).length 0)))++[.vec zax 5 0 []] =
     H++[AB.cells t.cs,.cells i.cs,.cells j.cs,.cells t.cs,.map [],.cells [.sl (aa.map Dat.cs) .none,x,y,z,.map (H.length+4),.ov (H.length+6) 0],.vec zax 5 0 []]:=by simp[List.set_append_right]
    rw[ed];generalize di:H++[AB.cells t.cs,.cells i.cs,.cells j.cs,.cells t.cs,.map [],.cells [.sl (aa.map Dat.cs) .none,x,y,z,.map (H.length+4),.ov (H.length+6) 0],.vec zax 5 0 []]=H1 at *;refine zJJ W (λp hp=>?_) H1 _ _ _ _ [] hS0 (by simp) (by simp) ?_ (by simp;omega) _ ?_
    ·obtain⟨p1,p2,p3,p4,p5,p6,p7⟩:=P1 p hp;exact⟨by omega,zGD h8 _ p.1 (Nat.le_refl _) t p3⟩
    ·have:zaG (λ_=>1) W≤729:=P3;refine Nat.lt_of_le_of_lt (show _≤729 by rw[zcT];omega) (by decide)
    ·have bO:=zxc W [] (by simp) (λq hq=>(P1 q hq).1);have aN:∀ g:IT→Nat,zaE g (zbA [] W)=zaE g L:=λg=>by rw[zpq,zrD,Nat.zero_add];exact lG g
     have bP:=zpo W [];refine zJK hk t (by omega) hf _ _ _ _ (zbA [] W) L hS0.next (λp hp=>?_) (zpp _ _ (by simp)) ?_ (by simp at bP;omega) hLa (by omega) (λp hp=>(R1 p hp).1) aN _ (λbA=>?_) (λ_=>?_)
     ·obtain⟨h1,h2⟩:=bO p hp;rcases h2 with ⟨q,hq,_⟩ | ⟨q,hq,he⟩
      ·simp at hq
      ·obtain⟨p1,p2,p3,p4,p5,p6,p7⟩:=P1 q hq;have hm:=zfv (λ_=>1) hp;rw[aN,Nat.mul_one]at hm;have cw:zaE (λ_=>1) L≤729:=R2;rw[←he];exact⟨by omega,h1,Nat.lt_of_le_of_lt (Nat.le_trans hm cw) (by decide),p3,by omega⟩
     ·have h1:=aN (λ_=>1);have h2:zaE (λ_=>1) W=zaE (λ_=>1) L:=lG (λ_=>1);cases hc:zbA [] W with
      | nil=>rw[hc,zrD]at h1;omega
      | cons p s=>simp
     ·simp at bP;omega
     ·simp;obtain⟨J,hJ⟩:∃ J,sw H1 (H.length+5) (H.length+4) (H.length+6) (.sl (aa.map Dat.cs) .none::t.cs) (zbA [] W)=H++J:=⟨_,by
       rw[←di];simp only[sw];rw[List.set_append_right _ _ (by omega),List.set_append_right _ _ (by omega),List.set_append_right _ _ (by omega)]⟩
      rw[hJ];exact⟨⟨rfl,rfl⟩,Out.tup (bs:=[.sl (zaL (zbC aa t L 7)) .none,.int .i64 0]) hs hK ⟨zaY rfl rfl,zaY rfl rfl,trivial⟩⟩
section
variable (t0 t1 t12 t13:AV) (H:zaa) (K:Kt) (Kb4:Lt)
def zTg (_:Nat):List Bool:=[]
noncomputable def zTh:Code:=Tryz.f29.body.getD .skip
def zDw:Prop:=zat t0 H λt2 H=>zat t1 H λt3 H=>zaf 0 t2 λt5=>zae false 1 t5 H λt6=>zaf 0 t3 λt7=>zae false 1 t7 H λt8=>zac .eql false t6 t8 λt9=>zad t9 true H (λK'=>zaf 1 t2 (K' · H)) λt11 H=>zad t9 true H (λK'=>zae false 1 t11 H (K' · H)) λt12 H=>zad t9 true H (λK'=>zaf 1 t3 (K' · H)) λt13 H=>zad t9 true H (λK'=>zae false 1 t13 H (K' · H)) λt14 H=>zad t9 true H (λK'=>ACalls tP zqW [t12,t14] H K') λt15 H=>zam t9 t15 (.bool false) λt16=>K t16 H
def zn5:Nat→List Bool | 4=>rl false [0,2,10,2,13] | _=>[]
noncomputable def zvd:Code:=Tryz.f64.body.getD .skip
noncomputable def zVI:List ResultVar:=Tryz.f64.results.toList
def zn6:List AV:=t0::t1::ux 10 (t12::t13::ux 13 [])
def zVG:List Bool:=zn5 4
noncomputable def zVE:Code:=zar [1,1,0,1,0,0] zvd
def zVD:AExit→List AV→zaa→Prop:=zas tP zn5 [1,1,0,1,0] zvd (zaz tP zVI K)
def zEl:Prop:=ALoop tP zVE (zVD K) (zn6 t0 t1 t12 t13) H
def zvc:Prop:=zac .lss false t13 t12 λt14=>zag t14 (zab H (λK'=>K' t0 H) λt16=>zab H (λK'=>K' t13 H) λt17=>zab H (λK'=>zak 2 t16 t17 (K' · H)) λt18=>zab H (λK'=>zaj true 2 t18 H (K' · H)) λt19=>zab H (λK'=>K' t1 H) λt20=>zab H (λK'=>K' t13 H) λt21=>zab H (λK'=>zak 2 t20 t21 (K' · H)) λt22=>zab H (λK'=>zaj true 2 t22 H (K' · H)) λt23=>zaA H (λH K'=>ACalls tP zhW [t19,t23] H K') λt24=>zab H (λK'=>aUn .not t24 (K' · H)) λt25=>zag t25 (K (.bool false) H) (zac .add false t13 (.int .i64 1) λt26=>Kb4 (zn6 t0 t1 t12 t26) H)) (K (.bool true) H)
def zEk:Prop:=zah 1 t0 λt7=>zah 1 t1 λt9=>zac .neq false t7 t9 λt10=>zag t10 (K (.bool false) H) (zah 1 t0 λt12=>zEl t0 t1 t12 (.int .i64 0) H K)
variable {t0 t1 t12 t13} {H} {K} {Kb4}
theorem zTi (h:HSc H→zDw t0 t1 H K):ACalls tP zhW [t0,t1] H K:=
 acb zTg Tryz.func29 zTh (by kernel_rfl) (by kernel_rfl) h
theorem zVF (Inv:Nat→AV→zaa→Prop) (n:Nat) (h0:HSc H→Inv n t13 H)
  (ac:Rd1 (λt13=>zn6 t0 t1 t12 t13) (λt13=>λH Kb4=>zvc t0 t1 t12 t13 H K Kb4) H Inv):zEl t0 t1 t12 t13 H K:=
 lp1 (M:=zn5) zVG t13 (by kernel_rfl) Inv n h0 ac
theorem zVH (h:HSc H→zEk t0 t1 H K):ACalls tP zqW [t0,t1] H K:=
 acb zn5 Tryz.func64 zvd (by kernel_rfl) (by kernel_rfl) h
end
theorem zVJ (vs:List IT) (hl:vs.length≤1000000) (dy:∀ v∈vs,∀ (H:zaa) (K:Kt),K (.bool true) H→ACalls tP zhW [.agg v.cs,.agg v.cs] H K) (H:zaa) (K:Kt) (hK:K (.bool true) H):ACalls tP zqW [.sl (IT.css vs) .none,.sl (IT.css vs) .none] H K:=by
 refine ACalls.out (zVH λbr=>?_);simp[zEk];refine zVF (Inv:=λq t13 H'=>∃ i:Nat,i≤vs.length∧q=vs.length-i∧t13=.int .i64 i∧H'=H) vs.length ?_ ?_
 ·intro _;exact⟨0,by omega,by omega,rfl,rfl⟩
 ·rintro q t13 H' ⟨i,hi,rfl,rfl,rfl⟩ aJ am aM Kb au;by_cases ak:i<vs.length
  ·simp[zvc,ak];refine zaB (.bool true) (λJ=>dy _ (List.getElem_mem ak) _ _ ⟨rfl,rfl⟩) ?_;simp;rw[zaw (by omega) (by omega)];refine au _ _ ⟨vs.length-(i+1),by omega,Back.here (by simp) aJ ?_ ⟨_,rfl,i+1,by omega,rfl,by simp,rfl⟩⟩;simp[zn6,AV.sc,AV.scV,AV.scA,AV.scB]
  ·simp[zvc,ak];exact Out.bool (J:=[]) (by simp) (Nat.le_refl _) br hK
theorem zTj:∀ (m:Nat) (v:IT),v.nodes≤m→v.nodes≤1000000→∀ (H:zaa) (K:Kt),K (.bool true) H→ACalls tP zhW [.agg v.cs,.agg v.cs] H K:=by
 intro m;induction m with
 | zero=>intro v h;have:=v.nodes_pos;omega
 | succ m ih=>
  intro v hv hb H K hK;obtain⟨n,ks⟩:=v;have cc:IT.nodesL ks+1≤1000000:=by simpa[IT.nodes]using hb
  have bm:=IT.len_le ks;refine ACalls.out (zTi λbr=>?_);simp[zDw,IT.cs,Nat.add_assoc];refine zVJ ks (by omega) (λv ib=>by
   obtain⟨i,hi,rfl⟩:=List.getElem_of_mem ib;have:=IT.kid_lt (n:=n) hi;exact ih _ (by omega) (by omega)) _ _ ?_
  try simp
  exact Out.bool rfl (Nat.le_refl _) br hK
theorem zXF (aa:List Dat) (am:aa.length≤9223372036854775807) (t:VT) (H:zaa) (K:Kt) (hK:∀ b,(b=true→zbv aa∧t.nodes≤250)→K (.bool b) H):ACalls tP zq0 [.sl (aa.map Dat.cs) .none,.agg t.cs] H K:=by
 refine ACalls.out (zXE λhs=>?_);have hO:∀ b,(b=true→zbv aa∧t.nodes≤250)→∀ J,Out H.length K (.bool b) (H++J):=λb h J=>Out.bool rfl (Nat.le_refl _) hs (hK b h);obtain⟨x,y,z,aC,hx,hy,hz⟩:=zbs t;simp[zq8,aC,Nat.add_assoc];refine zTw aa _ _ am λb1 bI=>?_;cases b1 with
 | false=>simp;exact hO _ (λh=>by cases h) _
 | true=>
  simp[Nat.add_assoc];rw[←aC];refine zTA t _ _ λb2 bq=>?_;try simp
  exact hO _ (λh=>⟨bI rfl,bq h⟩) _
theorem zBc (s:List (IT × Nat)) (iM:∀ p∈s,p.1.nodes≤1000000∧Sm (p.2:Int)) (hl:s.length≤1000000) (H:zaa) (K:Kt) (hK:K (.bool true) H):ACalls tP zp9 [.sl (zaL s) .none,.sl (zaL s) .none] H K:=by
 refine ACalls.out (zMt λhs=>?_);simp[zA0];refine zMr (Inv:=λq t13 H'=>∃ i:Nat,i≤s.length∧s.length-i=q∧t13=.int .i64 i∧H'=H) s.length ?_ ?_
 ·intro _;exact⟨0,by omega,rfl,rfl,rfl⟩
 ·rintro q t13 H' ⟨i,hi,rfl,rfl,rfl⟩ aJ am aM Kb au;by_cases ak:i<s.length
  ·obtain⟨h1,h2⟩:=iM _ (List.getElem_mem ak);simp[zsA,ak,zcB,zcJ,zc8,Nat.add_assoc];refine zaB (.bool true) (λJ=>zTj _ _ (Nat.le_refl _) h1 _ _ ⟨rfl,rfl⟩) ?_;simp[ak,zcB,zcJ,zc8];refine zaB (.bool true) (λJ=>zCY _ h2 _ _ ⟨rfl,rfl⟩) ?_;simp[wi i (by omega)];exact au _ _ ⟨s.length-(i+1),by omega,Back.here (by simp) hs (by simp[zlz,ux,AV.sc,AV.scA,AV.scB,AV.scV]) ⟨_,rfl,i+1,by omega,rfl,rfl,rfl⟩⟩
  ·simp[zsA,ak];exact Out.bool (J:=[]) (by simp) (Nat.le_refl _) hs hK
def t17:VT:=.mk 7 0 [.mk 1 0 []]
def i17:IT:=.mk 1 []
theorem zHo:zdx [] t17 i17 i17=.tup [.sl (zaL [(.mk 1 [],1),(.mk 2 [],2)]) .none,.int .i64 0]:=by kernel_rfl
theorem zwO (H:zaa) (K:Kt) (hK:K (.bool true) H):ACalls tP zqg [] H K:=by
 refine ACalls.out (zNb λhs=>?_);simp[zBd,zaq,zaI,zau,zaQ,plain,AV.pd,AV.known,Nat.add_assoc];refine ACalls.wk (args':=[.sl [] .none,.agg t17.cs,.agg i17.cs,.agg i17.cs]) (zAP (aa:=[]) ⟨by simp,by simp⟩ t17 (by decide) i17 i17 (by decide) (by decide) _ _ ?_) ⟨.atom .snil,.agg ⟨.refl _,.refl _,.sl _ _,trivial⟩,.agg ⟨.refl _,.snil,trivial⟩,.agg ⟨.refl _,.snil,trivial⟩,trivial⟩;rw[zHo];have h0:(tmC (IT.mk 2 [],2))[0]?=some (.int .i64 2):=rfl;simp[zcB,zcJ,zc8,Nat.add_assoc,zdn _ h0];refine zaB (.agg (zai 2)) (λJ=>zfa 2 (by omega) _ _ ⟨rfl,rfl⟩) ?_;try simp[zcB,zcJ,zc8]
 refine zaB (.bool true) (λJ=>zCY 2 (zcb (n:=2) (by decide)) _ _ ⟨rfl,rfl⟩) ?_;exact Out.bool rfl (Nat.le_refl _) hs hK
theorem zHs (aa:List Dat) (hk:zbv aa) (t:VT) (i j:IT):(∃ e:Int,e≠0∧zdx aa t i j=.tup [.sl [] .none,.int .i64 e]) ∨
  (zbY aa t=true∧0≤rdV aa i t∧0≤rdV aa j t∧rdV aa i t+rdV aa j t≤6∧zdx aa t i j=.tup [.sl (zaL (zbC aa t (za8 aa (i.nodes+j.nodes) t i j) 7)) .none,.int .i64 0]):=by
 by_cases h1:zbc aa t i<0∨zbc aa t j<0
 ·exact .inl ⟨1,by omega,zhG h1⟩
 ·have hf:zbY aa t=true:=by
   by_cases h:zbY aa t=true
   ·exact h
   ·exact absurd (by unfold zbc;rw[if_neg h];omega:zbc aa t i<0) (λh=>h1 (.inl h))
  rw[zeQ hf,zeQ hf]at h1;by_cases h6:rdV aa i t+rdV aa j t>6
  ·exact .inl ⟨13,by omega,zp4 hf (by omega) (by omega) h6⟩
  ·exact .inr ⟨hf,by omega,by omega,by omega,zp3 hf (by omega) (by omega) (by omega)⟩
theorem zHV {aa:List Dat} {t:VT} {i j:IT} (hf:zbY aa t=true) (hi:0≤rdV aa i t) (hj:0≤rdV aa j t) (h6:rdV aa i t+rdV aa j t≤6) :
  (∀ p∈zbC aa t (za8 aa (i.nodes+j.nodes) t i j) 7,0<p.2∧p.2≤729∧rdV aa p.1 t≤rdV aa i t+rdV aa j t∧rdV aa i t≤rdV aa p.1 t∧rdV aa j t≤rdV aa p.1 t∧p.1.nodes≤i.nodes+j.nodes)∧(zbC aa t (za8 aa (i.nodes+j.nodes) t i j) 7).length≤7*729:=by
 have h8:=zhp hf;obtain⟨R1,R2⟩:=(zcq h8 (i.nodes+j.nodes)).1 t i j (by omega) hi hj h6
 replace R2:=Nat.le_trans R2 (zcw h6)
 have Rl:=zep λp hp=>(R1 p hp).1;refine⟨λp hp=>?_,?_⟩
 ·have hm:=zHT p hp;have h1:=R1 p hm;have h2:=zd3 hm;omega
 ·have:=zkk (aa:=aa) (t:=t) (s:=za8 aa (i.nodes+j.nodes) t i j) 7;omega
theorem zFt (aa:List Dat) (am:aa.length≤9223372036854775807) (t:VT) (i j:IT) (H:zaa) (K:Kt) (hK:K (.bool true) H) :
  ACalls tP zp5 [.sl (aa.map Dat.cs) .none,.agg t.cs,.agg i.cs,.agg j.cs] H K:=by
 refine ACalls.out (zRs λhs=>?_);have hO:∀ J,Out H.length K (.bool true) (H++J):=λJ=>Out.bool rfl (Nat.le_refl _) hs hK;obtain⟨x,y,z,aC,hx,hy,hz⟩:=zbs t;obtain⟨x2,y2,aP,bg,fB⟩:=zck i;obtain⟨x3,y3,bh,bz,mt⟩:=zck j;simp[zq1,aC,aP,bh,Nat.add_assoc];rw[←aC];refine zXF aa am t _ _ λb0 bE=>?_;cases b0 with
 | false=>simp;exact hO _
 | true=>
 obtain⟨hk,ht⟩:=bE rfl;simp[Nat.add_assoc];rw[←aP];refine zFj i _ _ λb1 bI=>?_;cases b1 with
 | false=>simp;exact hO _
 | true=>
 have hi:=bI rfl;simp[Nat.add_assoc];rw[←bh];refine zFj j _ _ λb2 bq=>?_;cases b2 with
 | false=>simp;exact hO _
 | true=>
 have hj:=bq rfl;simp[aC,aP,bh,Nat.add_assoc];rw[←aC,←aP,←bh];refine zAP hk t ht i j (by omega) (by omega) _ _ ?_;rcases zHs aa hk t i j with ⟨e,he,hr⟩ | ⟨hf,d1,d2,d6,hr⟩
 ·rw[hr];simp[aC,aP,bh,Nat.add_assoc];rw[←aC,←aP,←bh];refine zAZ hk t ht i j (by omega) (by omega) _ _ ?_;rw[hr];simp;refine zBc [] (by simp) (by simp) _ _ ?_;simp;refine zwO _ _ ?_;exact hO _
 ·obtain⟨L1,L2⟩:=zHV hf d1 d2 d6;rw[hr];simp[aC,aP,bh,Nat.add_assoc];rw[←aC,←aP,←bh];refine zAZ hk t ht i j (by omega) (by omega) _ _ ?_;rw[hr];simp;refine zBc _ (λp hp=>?_) (by omega) _ _ ?_
  ·have h:=L1 p hp;exact⟨by omega,zcb (Nat.lt_of_le_of_lt h.2.1 (by decide))⟩
  ·simp;refine zwO _ _ ?_;exact hO _
section
open Go.RowKit

def zbM (P:Program):Nat→TypeId→List AV→Prop
 | 0,_,_=>False
 | n+1,t,asx=>match P.underlying t with
  | some .bool=>∃ b,asx=[.bool b]
  | some (.int k)=>∃ m,asx=[.int k m]∧(Lit.int k m).wf=true
  | some .string=>∃ s,asx=[.str s]∧s.length≤maxLen
  | some (.slice e)=>∃ es,asx=[.sl es .none]∧es.length≤maxLen∧∀ c∈es,zbM P n e c
  | some (.struct fs)=>asx.length=P.cellsOf t∧∀ f∈fs.toList,zbM P n f.type ((asx.drop f.offset).take (P.cellsOf f.type))
  | _=>False

def ze4 (P:Program):List Field→Nat→Nat→Bool
 | [],at_,n=>at_ == n
 | f::fs,at_,n=>f.offset == at_ && ze4 P fs (at_+P.cellsOf f.type) n
def zia (P:Program) (S:List TypeId):Bool:=
 S.all λt=>match P.underlying t with
  | some .bool | some (.int _) | some .string=>P.cellsOf t == 1
  | some (.slice e)=>S.contains e && decide (0<P.cellsOf e) && P.cellsOf t == 1
  | some (.struct fs)=>fs.toList.all (λf=>S.contains f.type) && ze4 P fs.toList 0 (P.cellsOf t)
  | _=>false

section
variable {Hh:Type} {enc:TypeId × Value→Hh} {P:Program} {w:World} {base:Nat} {spare:Nat→Bool} {gB:Bool}

theorem zzT {R:Value→AV→Prop} {cs:List Value}:∀ (fs:List Field) (at_ n:Nat) (T:Field→List AV→Prop),ze4 P fs at_ n=true→cs.length=n →
  (∀ f∈fs,∃ asx,All2 R ((cs.drop f.offset).take (P.cellsOf f.type)) asx∧T f asx)→at_≤n →
  ∃ asx,All2 R (cs.drop at_) asx∧∀ f∈fs,T f ((asx.drop (f.offset-at_)).take (P.cellsOf f.type))∧at_≤f.offset
 | [],at_,n,T,ht,hl,hf,aS=>by simp[ze4]at ht;subst ht;refine⟨[],?_,by simp⟩;rw[List.drop_eq_nil_of_le (by omega)];trivial
 | f::fs,at_,n,T,ht,hl,hf,aS=>by
  simp only[ze4,Bool.and_eq_true,beq_iff_eq]at ht;obtain⟨h1,h2⟩:=ht;have hbound:∀ (fs:List Field) (k n:Nat),ze4 P fs k n=true→k≤n:=by
   intro fs;induction fs with
   | nil=>intro k n h;simp[ze4]at h;omega
   | cons g gs ih=>intro k n h;simp only[ze4,Bool.and_eq_true]at h;have:=ih _ _ h.2;omega
  have hb:=hbound fs _ _ h2;obtain⟨as0,iH,hT0⟩:=hf f (by simp);obtain⟨as1,ha1,hT1⟩:=zzT fs (at_+P.cellsOf f.type) n T h2 hl (λg hg=>hf g (by simp[hg])) hb;have dc:as0.length=P.cellsOf f.type:=by have:=iH.length;rw[List.length_take,List.length_drop]at this;omega
  refine⟨as0++as1,?_,?_⟩
  ·have:cs.drop at_=(cs.drop f.offset).take (P.cellsOf f.type)++cs.drop (at_+P.cellsOf f.type):=by rw[h1,←List.drop_drop,List.take_append_drop]
   rw[this];exact iH.append ha1
  ·intro g hg;rcases List.mem_cons.1 hg with rfl | hg
   ·rw[h1,Nat.sub_self,List.drop_zero,←dc,List.take_left];exact⟨hT0,Nat.le_refl _⟩
   ·obtain⟨k1,k2⟩:=hT1 g hg;refine⟨?_,by omega⟩;have:(as0++as1).drop (g.offset-at_)=as1.drop (g.offset-(at_+P.cellsOf f.type)):=by rw[List.drop_append,List.drop_eq_nil_of_le (by omega),List.nil_append];congr 1;omega
    rw[this];exact k1

theorem zjc {a:Addr} {n:Nat} {cs:List Value} (h:w.cells? base a n=some cs):cs.length=n∧∀ j v,cs[j]?=some v→w.cell? (a.add j)=some v:=by
 unfold World.cells? at h;split at h
 ·have h1:=mapM_some_length h;refine⟨by simpa using h1,λj v hj=>?_⟩;have hjn:j<n:=by have:=(List.getElem?_eq_some_iff.1 hj).1;simp at h1;omega
  have:=mapM_some_get h j j (by simp[hjn]);rw[this];exact hj
 ·cases h

theorem zHh {b o:Nat} {v:Value} (h:w.cell? ⟨b,o,none⟩=some v):o<zct w b:=by
 unfold World.cell? at h;unfold zct;split at h
 ·rename_i c t fr hb;simp only[hb];simp at h;exact (Array.getElem?_eq_some_iff.1 h).1
 ·cases h

theorem zz2 {S:List TypeId} (hS:zia P S=true):∀ (n:Nat) (t:TypeId) (cs:List Value) (x:DataW Hh × List MemPlace),t∈S→DataW.trod enc P w base spare gB n t cs=some x →
  ∃ asx,All2 (DRel w (zct w)) cs asx∧zbM P n t asx:=by
 intro n;induction n with
 | zero=>intro t cs x _ h;simp[DataW.trod]at h
 | succ n ih=>
  intro t cs x ht h;have hp:=List.all_eq_true.1 hS t ht;unfold zbM;cases hu:P.underlying t with
  | none=>simp[hu]at hp
  | some d=>
   rw[hu]at hp;cases d <;> simp only[]at hp <;> try (cases hp;done)
   case bool=>obtain⟨b,rfl,_⟩:=DataW.trod_bool hu h;exact⟨[.bool b],⟨.bool b,trivial⟩,b,rfl⟩
   case int k=>obtain⟨m,rfl,_,hw⟩:=DataW.trod_int hu h;exact⟨[.int k m],⟨.int k m,trivial⟩,m,rfl,hw⟩
   case string=>
    obtain⟨s,rfl,_,hw⟩:=DataW.trod_string hu h;have hs:(⟨s.data.toList.toArray⟩:ByteArray)=s:=by simp
    refine⟨[.str s.data.toList],⟨?_,trivial⟩,s.data.toList,rfl,by rw[Array.length_toList];exact hw⟩;have:=DRel.str (w:=w) (L:=zct w) s.data.toList;rwa [hs]at this
   case slice e=>
    simp only[Bool.and_eq_true,decide_eq_true_eq]at hp;obtain⟨⟨he,bU⟩,_⟩:=hp;have he:e∈S:=by simpa using he
    rcases DataW.trod_slice hu h with ⟨rfl,_⟩ | ⟨a,len,cap,elems,rest,n',hn,rfl,_,hb,hl,hm,am,dy,_⟩
    ·exact⟨[.sl [] .none],⟨.slE _ _,trivial⟩,[],rfl,by simp,by simp⟩
    ·obtain rfl:n=n':=by omega
     have ba:∀ i,i<len→∃ cs asx,w.cells? base (a.add (i*P.cellsOf e)) (P.cellsOf e)=some cs∧All2 (DRel w (zct w)) cs asx∧zbM P n e asx:=by
      intro i hi;have h1:=dy i hi;rw[List.getElem?_eq_getElem (by omega)]at h1;cases hc:w.cells? base (a.add (i*P.cellsOf e)) (P.cellsOf e) with
      | none=>rw[hc]at h1;cases h1
      | some cs=>rw[hc]at h1;obtain⟨asx,h2,h3⟩:=ih e cs _ he h1;exact⟨cs,asx,rfl,h2,h3⟩
     by_cases h0:len=0
     ·subst h0;exact⟨[.sl [] .none],⟨.slE _ _,trivial⟩,[],rfl,by simp,by simp⟩
     ·-- the address is a plain one
      have hspot:a.spot=none:=by obtain⟨cs,asx,h1,h2,_⟩:=ba 0 (by omega);obtain⟨h3,h4⟩:=zjc h1;have h5:=h4 0 cs[0] (by simp);have:=World.cell?_spot h5;simpa[Addr.add]using this
      obtain⟨b,off,sp⟩:=a;simp only at hspot;subst hspot;obtain⟨f,hf⟩:∃ f:Nat→List Value × List AV,∀ i,i<len→w.cells? base ((⟨b,off,none⟩:Addr).add (i*P.cellsOf e)) (P.cellsOf e)=some (f i).1∧All2 (DRel w (zct w)) (f i).1 (f i).2∧zbM P n e (f i).2:=
       Deep.choose_lt (p:=λi (y:List Value × List AV)=>w.cells? base ((⟨b,off,none⟩:Addr).add (i*P.cellsOf e)) (P.cellsOf e)=some y.1∧All2 (DRel w (zct w)) y.1 y.2∧zbM P n e y.2)
        (λi hi=>by obtain⟨cs,asx,h1,h2,h3⟩:=ba i hi;exact⟨(cs,asx),h1,h2,h3⟩)
      have aH:∀ i,i<len→∀ j v,(f i).1[j]?=some v→w.cell? ⟨b,off+i*P.cellsOf e+j,none⟩=some v:=by intro i hi j v hj;have:=(zjc (hf i hi).1).2 j v hj;rw[add_lit,add_lit]at this;exact this
      have dY:∀ i,i<len→(f i).2.length=P.cellsOf e:=λi hi=>by rw[←(hf i hi).2.1.length];exact (zjc (hf i hi).1).1
      refine⟨[.sl ((List.range len).map λi=>(f i).2) .none],⟨?_,trivial⟩,_,rfl,by simp;omega,?_⟩
      ·have:=DRel.sl (w:=w) (L:=zct w) b off cap (P.cellsOf e) ((List.range len).map λi=>(f i).2) (λi j=>(f i).1.getD j undef) (by simp;exact h0) (by simpa using hl) ?_ ?_ ?_ ?_
       ·simpa using this
       ·-- the last cell is there
        have hi:len-1<len:=by omega
        have hj:P.cellsOf e-1<(f (len-1)).1.length:=by rw[(zjc (hf _ hi).1).1];omega
        have:=zHh (aH (len-1) hi (P.cellsOf e-1) _ (List.getElem?_eq_getElem hj));have fd:(len-1)*P.cellsOf e+P.cellsOf e=len*P.cellsOf e:=by rw[←Nat.succ_mul];congr 1;omega
        simp;omega
       ·intro i hi;simp at hi;simpa using dY i hi
       ·intro i j hi hj;simp at hi hj;have aQ:j<(f i).1.length:=by rw[(hf i hi).2.1.length];exact hj
        simp only[List.getD_eq_getElem?_getD,List.getElem?_eq_getElem aQ,Option.getD_some];exact aH i hi j _ (List.getElem?_eq_getElem aQ)
       ·intro i j hi hj;simp at hi hj;have aQ:j<(f i).1.length:=by rw[(hf i hi).2.1.length];exact hj
        obtain⟨c,h1,h2⟩:=(hf i hi).2.1.get' (List.getElem?_eq_getElem aQ);simp only[List.getD_eq_getElem?_getD,List.getElem?_eq_getElem aQ,Option.getD_some,List.getElem_map,List.getElem_range];have:(f i).2[j]=c:=by rw[List.getElem?_eq_getElem hj]at h1;exact Option.some.inj h1
        rw[this];exact h2
      ·intro c hc;obtain⟨i,hi,rfl⟩:=List.mem_map.1 hc;exact (hf i (by simpa using hi)).2.2
   case struct fs=>
    simp only[Bool.and_eq_true]at hp;obtain⟨fQ,htile⟩:=hp;obtain⟨xs,n',hn,_,bP,bZ,ba⟩:=DataW.trod_struct hu h;obtain rfl:n=n':=by omega
    obtain⟨asx,h1,h2⟩:=zzT (P:=P) (R:=DRel w (zct w)) (cs:=cs) fs.toList 0 (P.cellsOf t) (λf asx=>zbM P n f.type asx) htile bP (λf hf=>by
     obtain⟨i,hi⟩:=List.mem_iff_getElem?.1 hf;have da:fs[i]?=some f:=by simpa using hi
     have h3:=ba i f da;have ak:i<xs.length:=by rw[bZ];exact (Array.getElem?_eq_some_iff.1 da).1
     rw[List.getElem?_eq_getElem ak]at h3;exact ih f.type _ _ (by simpa using List.all_eq_true.1 fQ f hf) h3) (Nat.zero_le _)
    rw[List.drop_zero]at h1;refine⟨asx,h1,by rw[←h1.length];exact bP,λf hf=>?_⟩;simpa using (h2 f hf).1
end

theorem zrb {Hh:Type} {enc:TypeId × Value→Hh} {P:Program} {w:World} {base:Nat} {spare:Nat→Bool} {gB:Bool} {S:List TypeId} (hS:zia P S=true) {t:TypeId} (ht:t∈S) {cs:Array Value} {d:DataW Hh} {p:List MemPlace}
  (h:DataW.Trod enc P w base spare gB t (.agg cs) d p):∃ n asx,zbM P n t asx∧TRel w (G0 w) (.agg cs) (.agg asx):=by
 obtain⟨n,hn⟩:=h;obtain⟨asx,h1,h2⟩:=zz2 hS n t _ _ ht hn;exact⟨n,asx,h2,cs,rfl,h1.mono λ_ _ hd=>ARel.of_b (DRel.toB (G:=G0 w) hd)⟩
theorem zH2 {Hh:Type} {enc:TypeId × Value→Hh} {P:Program} {w:World} {base:Nat} {spare:Nat→Bool} {gB:Bool} {S:List TypeId} (hS:zia P S=true) {t:TypeId} (ht:t∈S) {v:Value} {d:DataW Hh} {p:List MemPlace} (hv:v.cells=#[v])
  (h:DataW.Trod enc P w base spare gB t v d p):∃ n a,zbM P n t [a]∧TRel w (G0 w) v a:=by
 obtain⟨n,hn⟩:=h;obtain⟨asx,h1,h2⟩:=zz2 hS n t _ _ ht hn;rw[hv]at h1
 match asx,h1,h2 with
 | [a],h1,h2=>exact⟨n,a,h2,TRel.of_v (VRel.of_a (ARel.of_b (DRel.toB (G:=G0 w) h1.1)))⟩
section
variable {P:Program} {n:Nat} {t:TypeId} {l:List AV}
theorem zkM {k:IntKind} (hu:P.underlying t=some (.int k)) (h:zbM P n t l):∃ m,l=[.int k m]∧(Lit.int k m).wf=true:=by
 cases n with
 | zero=>exact h.elim
 | succ n=>unfold zbM at h;rw[hu]at h;exact h
theorem zAd (hu:P.underlying t=some .string) (h:zbM P n t l):∃ s,l=[.str s]∧s.length≤maxLen:=by
 cases n with
 | zero=>exact h.elim
 | succ n=>unfold zbM at h;rw[hu]at h;exact h
theorem ziq {e:TypeId} (hu:P.underlying t=some (.slice e)) (h:zbM P n t l):∃ es n',n'<n∧l=[.sl es .none]∧es.length≤maxLen∧∀ c∈es,zbM P n' e c:=by
 cases n with
 | zero=>exact h.elim
 | succ n=>unfold zbM at h;rw[hu]at h;obtain⟨es,h1,h2,h3⟩:=h;exact⟨es,n,by omega,h1,h2,h3⟩
theorem zkN {fs:Array Field} (hu:P.underlying t=some (.struct fs)) (h:zbM P n t l):∃ n',n'<n∧l.length=P.cellsOf t∧∀ f∈fs.toList,zbM P n' f.type ((l.drop f.offset).take (P.cellsOf f.type)):=by
 cases n with
 | zero=>exact h.elim
 | succ n=>unfold zbM at h;rw[hu]at h;exact⟨n,by omega,h⟩
theorem zgl {α:Type} {cs:α→List AV}:∀ {es:List (List AV)},(∀ c∈es,∃ x,c=cs x)→∃ xs:List α,es=xs.map cs
 | [],_=>⟨[],rfl⟩
 | e::es,h=>by obtain⟨x,hx⟩:=h e (by simp);obtain⟨xs,fO⟩:=zgl (es:=es) (λc hc=>h c (by simp[hc]));exact⟨x::xs,by simp[hx,fO]⟩
end
end
end Go.Proofs.YtdmamdnkcefmmaaGreatDoor
