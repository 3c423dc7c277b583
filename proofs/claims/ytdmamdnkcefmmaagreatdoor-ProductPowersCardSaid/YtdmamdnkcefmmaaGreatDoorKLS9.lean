import Derived.Test.YtdmamdnkcefmmaaGreatDoorKBk
import Derived.Test.YtdmamdnkcefmmaaGreatDoorKOL
import Derived.Test.YtdmamdnkcefmmaaGreatDoorVO
import Derived.Test.YtdmamdnkcefmmaaGreatDoorKN4
import Derived.Test.YtdmamdnkcefmmaaGreatDoorAbsU
import Derived.Test.YtdmamdnkcefmmaaGreatDoorKOH
import Derived.Test.YtdmamdnkcefmmaaGreatDoorKMI
import Derived.Test.YtdmamdnkcefmmaaGreatDoorAbsQ1
import Derived.Test.YtdmamdnkcefmmaaGreatDoorKPW
import Derived.Shelf.SlSortCmp.NoneTotal
import Derived.Test.YtdmamdnkcefmmaaGreatDoorProg
import Derived.Test.YtdmamdnkcefmmaaGreatDoorKNum
import Derived.KernelRfl
set_option linter.unusedSimpArgs false
set_option linter.unusedVariables false
set_option maxRecDepth 8000
namespace Go.Proofs.YtdmamdnkcefmmaaGreatDoor
theorem zBv{n:Nat}{H2 J H':zaa}{K:Kt}(he:H'=H2++J)(hn:n≤H2.length)(hs:HSc H2)(h:K (.tup []) H2):Out n K (.tup []) H':=by subst he;exact⟨.tup [],H2,J,rfl,hn,hs,.tup trivial,h⟩
theorem zBS:∀ (ks:List IT) (k:IT),zbv (ks++[k])=zbv ks++wrI k++[44]
 |[],k=>by simp[zbv]
 |x::ks,k=>by have:=zBS ks k;simp[zbv,this]
theorem zzJ:∀ (ks:List IT) (k:IT),IT.nodesL (ks++[k])=IT.nodesL ks+k.nodes
 |[],k=>by simp[IT.nodesL]
 |x::ks,k=>by have:=zzJ ks k;simp only[List.cons_append,IT.nodesL,this];omega
theorem zKO(n:Nat)(h:n≤9):small n=[UInt8.ofNat (48+n)]:=by
 have:∀n≤9,small n=[UInt8.ofNat (48+n)]:=by decide
 exact this n h
theorem zYI:∀(m:Nat) (i:IT),i.nodes≤m→i.nodes≤1000→Dig i→∀(H:zaa) (id id2:Nat) (l:List UInt8),Wb H id id2 l→l.length+4*i.nodes≤1000000→∀K:Kt,K (.tup []) (wb H id id2 (l++wrI i))→ACalls tP zkJ [.ptr id 0,.agg i.cs] H K:=by
 intro m;induction m with
 |zero=>intro i h;have:=i.nodes_pos;omega
 |succ m ih=>
  intro i hm hn hd H id id2 l hB hl K hK;obtain⟨n,ks⟩:=i;rw[Dig]at hd;obtain⟨gA,hd9,hdk⟩:=hd;obtain⟨a,rfl⟩:∃a:Nat,n=a:=⟨n.toNat,by omega⟩;have gd:IT.nodesL ks+1≤m+1:=by simpa[IT.nodes]using hm
  have iK:IT.nodesL ks+1≤1000:=by simpa[IT.nodes]using hn
  have kx:l.length+4*(IT.nodesL ks+1)≤1000000:=by simpa[IT.nodes]using hl
  have iX:=IT.len_le ks;refine ACalls.out (zYG λhs=>?_);have jb:(IT.mk (a:Int) ks).cs=[.int .i64 a,.sl (IT.css ks) .none]:=rfl;rw[wrI,Int.toNat_natCast]at hK;obtain⟨dg,hdg⟩:∃dg,dg=UInt8.ofNat (48+a):=⟨_,rfl⟩;have jD:=zKO a (by omega);rw[←hdg]at hK jD;have hO:∀r J,r=l++(dg::if ks.length=0 then [] else 40::(zbv ks++[41]))→Out H.length K (.tup []) (wb H id id2 r++J):=λr J h=>zBv rfl (by simp) (hB.hsc hs) (by rw[h];exact hK);simp[zF7,jb,aa];refine zG3 a (by omega) _ _ ?_;rw[jD];refine Ws hB.app (by simp;omega) ?_;rw[hB.wb_app];by_cases ey:ks.length=0
  ·obtain rfl:=aB ey;simp[IT.css];exact hO _ _ (by simp)
  ·have f7:0<ks.length:=by omega
   simp[f7];have pJ:Wb (wb H id id2 (l++[dg])) id id2 (l++[dg]):=hB.next;refine Wy (c:=40) pJ.app (by simp;omega) ?_;rw[pJ.wb_app,zlz hB.ne];simp;obtain⟨p,hp⟩:∃p,p=l++[dg,40]:=⟨_,rfl⟩;have fe:p.length=l.length+2:=by rw[hp];simp
   rw[←hp];have pQ:∀q,Wb (wb H id id2 (p++q)) id id2 (p++q):=λq=>hB.next;refine zYE (Inv:=λq t20 H'=>∃j:Nat,j≤ks.length∧ks.length-j=q∧t20=.int .i64 j∧H'=wb H id id2 (p++zbv (ks.take j))++[.cells [.int .i64 a,.sl (IT.css ks) .none]]) ks.length ?_ ?_
   ·intro _;exact⟨0,by omega,rfl,rfl,by simp[zbv]⟩
   ·rintro q t20 H' ⟨j,hj,rfl,rfl,rfl⟩ eE ek eK Kb eq;have pp:=zlA (ks.take j);have qO:=IT.nodesL_take_le ks j;by_cases eI:j<ks.length
    ·have l8:=zc3 eI;have m7:=zxj hdk _ (af eI);have hts:=IT.nodesL_take_le ks (j+1);have eL:zbv (ks.take (j+1))=zbv (ks.take j)++wrI ks[j]++[44]:=by rw[ae eI,zBS]
     have hwl1:=zlA (ks.take (j+1));have py:IT.nodesL (ks.take (j+1))=IT.nodesL (ks.take j)+ks[j].nodes:=by rw[ae eI,zzJ]
     obtain⟨x2,y2,eF,fc,jm⟩:=zci ks[j];have oH:=zsZ ks[j];simp[zwA,eI,eF,fc,jm];rw[←eF];refine ih ks[j] (by omega) (by omega) m7 _ id id2 _ ((pQ (zbv (ks.take j))).app) (by simp;omega) _ ?_;rw[(pQ (zbv (ks.take j))).wb_app,zlz hB.ne];have o9:Wb (wb H id id2 (p++zbv (ks.take j)++wrI ks[j])) id id2 (p++zbv (ks.take j)++wrI ks[j]):=hB.next;refine Wy (c:=44) o9.app (by simp;omega) ?_;rw[o9.wb_app,zlz hB.ne];have mR:p++zbv (ks.take j)++wrI ks[j]++[44]=p++zbv (ks.take (j+1)):=by rw[eL];simp
     rw[mR,wi j (by omega)];exact eq _ _ ⟨ks.length-(j+1),by omega,Back.at (J:=[.cells ks[j].cs]) (H2:=wb H id id2 (p++zbv (ks.take (j+1)))++[.cells [.int .i64 a,.sl (IT.css ks) .none]]) (by simp) (by simp) ((hB.hsc hs).append (by simp[AB.sc,AV.scA,AV.scB])) (by
      have:=hB.lt1;simp[zpe,ux,AV.sc,AV.scA,AV.scB,AV.scV];omega) ⟨_,rfl,j+1,by omega,rfl,rfl,rfl⟩⟩
    ·obtain rfl:j=ks.length:=by omega
     rw[ak]at *;simp[zwA];refine Wy (c:=41) (pQ _).app (by simp;omega) ?_;rw[(pQ _).wb_app,zlz hB.ne];simp;exact hO _ _ (by rw[hp,au ey];simp)
def sw(H:zaa)(is im iv:Nat)(c:List AV)(s:List (IT×Nat)):zaa:=
 ((H.set iv (.vec zau 5 s.length (tms s))).set im (.map (kvS s 0))).set is (.cells (c++[.map im,.ov iv s.length]))
structure Sw (H:zaa) (is im iv:Nat) (c:List AV) (s:List (IT × Nat)):Prop where
 c4:c.length=4
 n1:is≠im
 n2:is≠iv
 n3:im≠iv
 h1:H[is]?=some (.cells (c++[.map im,.ov iv s.length]))
 h2:H[im]?=some (.map (kvS s 0))
 h3:H[iv]?=some (.vec zau 5 s.length (tms s))
section
variable {H J:zaa} {is im iv:Nat} {c:List AV} {s s':List (IT×Nat)}
@[simp] theorem zLC:(sw H is im iv c s).length=H.length:=by simp[sw]
theorem Sw.app(h:Sw H is im iv c s):Sw (H++J) is im iv c s:=⟨h.c4,h.n1,h.n2,h.n3,zbK h.h1,zbK h.h2,zbK h.h3⟩
theorem Sw.sw_app(h:Sw H is im iv c s):sw (H++J) is im iv c s'=sw H is im iv c s'++J:=by unfold sw;rw[aM _ _ (zbm h.h3),aM _ _ (by simpa using zbm h.h2),aM _ _ (by simpa using zbm h.h1)]
theorem zLE(h1:is≠im)(h2:is≠iv)(h3:im≠iv):sw (sw H is im iv c s) is im iv c s'=sw H is im iv c s':=by
 refine aL λi=>?_;unfold sw;simp only[List.getElem?_set,bE]
 repeat' split
 all_goals first|rfl|omega|simp_all
theorem Sw.next(h:Sw H is im iv c s):Sw (sw H is im iv c s') is im iv c s':=by
 have l1:=zbm h.h1;have l2:=zbm h.h2;have l3:=zbm h.h3;refine⟨h.c4,h.n1,h.n2,h.n3,?_,?_,?_⟩
 ·unfold sw;rw[List.getElem?_set_self (by simpa using l1)]
 ·unfold sw;rw[List.getElem?_set_ne h.n1,List.getElem?_set_self (by simpa using l2)]
 ·unfold sw;rw[List.getElem?_set_ne h.n2,List.getElem?_set_ne h.n3,List.getElem?_set_self l3]
theorem Sw.self(h:Sw H is im iv c s):sw H is im iv c s=H:=by
 unfold sw;have e:∀(H:zaa) (i:Nat) (b:AB),H[i]?=some b→H.set i b=H:=λH i b hb=>by
  refine aL λj=>?_;by_cases hj:i=j
  ·subst hj;rw[List.getElem?_set_self (zbm hb),hb]
  ·rw[List.getElem?_set_ne hj]
 rw[e H iv _ h.h3,e H im _ h.h2,e H is _ h.h1]
theorem Sw.hsc(h:Sw H is im iv c s)(hs:HSc H):HSc (sw H is im iv c s'):=by
 have l2:=zbm h.h2;have l3:=zbm h.h3;have hc:(c.all (AV.scA H.length))=true:=by have:=hs _ (df h.h1);simp only[AB.sc,bb,aj]at this;exact this.1
 unfold sw;refine HSc.set (HSc.set (HSc.set hs (by simp only[AB.sc];exact zfr _ _)) (by simp only[AB.sc];exact zy7 _ _)) ?_;simp only[AB.sc,bb,bE,hc,bk];simp[AV.scA,AV.scB];omega
end
theorem zLB{H:zaa}{is im iv:Nat}{c:List AV}{s s':List (IT × Nat)}(h1:is≠im)(h2:is≠iv)(h3:im≠iv)(hl:s.length=s'.length)(hk:kvS s 0=kvS s' 0):
  (sw H is im iv c s).set iv (.vec zau 5 s.length (tms s'))=sw H is im iv c s':=by
 refine aL λi=>?_;unfold sw;rw[hk,hl];simp only[List.getElem?_set,bE]
 repeat' split
 all_goals first|rfl|omega|simp_all
theorem zLD{H:zaa}{is im iv:Nat}{c:List AV}{s s':List (IT × Nat)}(h1:is≠im)(h2:is≠iv)(h3:im≠iv){a b d:AB}(ha:a=.map (kvS s' 0))(hb:b=.vec zau 5 s'.length (tms s'))(hd:d=.cells (c++[.map im,.ov iv s'.length])):
  (((sw H is im iv c s).set im a).set iv b).set is d=sw H is im iv c s':=by
 subst ha hb hd;refine aL λi=>?_;unfold sw;simp only[List.getElem?_set,bE]
 repeat' split
 all_goals first|rfl|omega|simp_all
theorem zxS(i:IT)(c:Nat):∀ s:List (IT × Nat),(zbg s i c).length≤s.length+1
 |[]=>by simp[zbg]
 |p::s=>by have:=zxS i c s;unfold zbg;split <;> simp <;> omega
theorem zjM:∀ (l s:List (IT × Nat)),(zaZ s l).length≤s.length+l.length
 |[],s=>by simp[zaZ]
 |p::l,s=>by have h1:=zjM l (zbg s p.1 p.2);have h2:=zxS p.1 p.2 s;have e:zaZ s (p::l)=zaZ (zbg s p.1 p.2) l:=rfl;rw[e,List.length_cons];omega
theorem zqn:∀ (l s:List (IT × Nat)),∀ p∈zaZ s l,(∃ q∈s,q.1=p.1)∨∃ q∈l,q.1=p.1
 |[],s,p,hp=>.inl ⟨p,hp,rfl⟩
 |x::l,s,p,hp=>by
  have e:zaZ s (x::l)=zaZ (zbg s x.1 x.2) l:=rfl;rw[e]at hp;rcases zqn l _ p hp with ⟨q,hq,h⟩|⟨q,hq,h⟩
  ·rcases zhz hq with ⟨h1,_⟩ | h1
   ·exact .inr ⟨x,by simp,by rw[←h,h1]⟩
   ·exact .inl ⟨q,h1,h⟩
  ·exact .inr ⟨q,by simp[hq],h⟩
theorem zsz(l:List (IT × Nat))(hl:∀ p∈l,p.1.nodes≤1000∧Dig p.1)(H:zaa)(is im iv:Nat)(c:List AV)(s:List (IT × Nat))(hS:Sw H is im iv c s)(qL:(s.map Prod.fst).Nodup)(kG:∀ p∈s,Dig p.1)(hb:zaH (λ_=>1) s+zaH (λ_=>1) l<1000000000 ^ 20)(eP:s.length+l.length≤100000)(K:Kt)(hK:K (.tup []) (sw H is im iv c (zaZ s l))):
  ACalls tP zin [.ptr is 0,.sl (zaG l) .none] H K:=by
 refine ACalls.out (zV9 λhs=>?_);simp[zFk,aa];have fV:∀j,((zaZ s (l.take j)).map Prod.fst).Nodup:=λj=>zhH _ _ qL;have hcd:∀j,∀p∈zaZ s (l.take j),Dig p.1:=λj p hp=>by
  rcases zqn _ _ p hp with ⟨q,hq,he⟩|⟨q,hq,he⟩
  ·rw[←he];exact kG q hq
  ·rw[←he];exact(hl q (bu hq)).2
 have gu:∀j,(zaZ s (l.take j)).length≤s.length+l.length:=λj=>ap (zjM _ _) (by simp[aT];omega);refine zV7 (Inv:=λq t11 H'=>∃j:Nat,j≤l.length∧l.length-j=q∧t11=.int .i64 j∧H'=sw H is im iv c (zaZ s (l.take j))) l.length ?_ ?_
 ·intro _;exact⟨0,by omega,rfl,rfl,by rw[List.take_zero,zyq,hS.self]⟩
 ·rintro q t11 H' ⟨j,hj,rfl,rfl,rfl⟩ eE ek eK Kb eq;by_cases eI:j<l.length
  ·have eL:zaZ s (l.take (j+1))=zbg (zaZ s (l.take j)) l[j].1 l[j].2:=by rw[ae eI,zH7]
   have oE:=fV j;have m7:=hcd j;have qB:=gu j;have fH:zaH (λ_=>1) (zaZ s (l.take j))+l[j].2≤zaH (λ_=>1) s+zaH (λ_=>1) l:=by have h1:=zgE (λ_=>1) (l.take (j+1)) s;rw[eL,zp7]at h1;have h2:=zg9 (λ_=>1) l (j+1);rw[zc6]at h2 ⊢;simp only[zc6,bl]at h1 h2 ⊢;omega
   obtain⟨hn,hd⟩:=hl _ (af eI);generalize hu:zaZ s (l.take j)=u at *;have kN:Sw (sw H is im iv c u) is im iv c u:=hS.next;obtain⟨x2,y2,eF,fc,jm⟩:=zci l[j].1;simp[zvO,eI,zcK,zcU,zcm,aa];refine⟨zcK _,?_⟩;have hlen0:(sw H is im iv c u).length=H.length:=zLC;simp only[zp3];have iT:∀J,(sw H is im iv c u++(AB.cells (tmC l[j])::J))[H.length]?=some (.cells (tmC l[j])):=λJ=>by simp[List.getElem?_append]
   simp[iT,zcm,aa];obtain⟨txt,mS⟩:∃txt,txt=wrI l[j].1:=⟨_,rfl⟩;have qO:=zsZ l[j].1;have htne:txt≠[]:=by rw[mS];obtain⟨r,hr⟩:=zsY l[j].1 [];rw[aG]at hr;rw[hr];simp
   have htp:0<txt.length:=List.length_pos_iff.2 htne;refine ACalls.ownB (id:=H.length+1) (t:=112) (p:=.nilp) 5 1 (by simp[List.getElem?_append]) ?_;have hX1:(sw H is im iv c u++[AB.cells (tmC l[j]),.bld 112 [.nilp,.snil]]).set (H.length+1) (.bld 112 [.nilp,.sl [] (.own (sw H is im iv c u++[AB.cells (tmC l[j]),.bld 112 [.nilp,.snil]]).length)])++[.perm 5 1 0] =
     sw H is im iv c u++[AB.cells (tmC l[j]),.bld 112 [.nilp,.sl (bcs []) (.own (H.length+2))],.perm 5 1 0]:=by simp[ah,bcs]
   rw[hX1];have hWb:Wb (sw H is im iv c u++[AB.cells (tmC l[j]),.bld 112 [.nilp,.sl (bcs []) (.own (H.length+2))],.perm 5 1 0]) (H.length+1) (H.length+2) []:=⟨by omega,⟨.nilp,.inl rfl,by simp[List.getElem?_append]⟩,by simp[List.getElem?_append]⟩;refine ACalls.toFrz (zYI _ l[j].1 (ac _) hn hd _ _ _ [] hWb (by simp;omega) _ ?_);rw[List.nil_append,←mS];refine⟨H.length+2,5,txt.length,htp,hWb.next.h2,?_⟩;have qX:(wb (sw H is im iv c u++[AB.cells (tmC l[j]),.bld 112 [.nilp,.sl (bcs []) (.own (H.length+2))],.perm 5 1 0]) (H.length+1) (H.length+2) txt).set (H.length+2) (.frz 5 1 txt.length) =
     sw H is im iv c u++[AB.cells (tmC l[j]),.bld 112 [.ptr (H.length+1) 0,.sl (bcs txt) (.own (H.length+2))],.frz 5 1 txt.length]:=by simp[wb,ah]
   rw[qX];obtain⟨E,hE⟩:∃E,E=[AB.cells (tmC l[j]),.bld 112 [.ptr (H.length+1) 0,.sl (bcs txt) (.own (H.length+2))],.frz 5 1 txt.length]:=⟨_,rfl⟩;rw[←hE];have hSE:∀J,Sw (sw H is im iv c u++(E++J)) is im iv c u:=λJ=>kN.app;have e1:∀J,(sw H is im iv c u++(E++J))[H.length]?=some (.cells (tmC l[j])):=λJ=>by rw[hE];simp[List.getElem?_append]
   have e2:∀J,(sw H is im iv c u++(E++J))[H.length+1]?=some (.bld 112 [.ptr (H.length+1) 0,.sl (bcs txt) (.own (H.length+2))]):=λJ=>by rw[hE];simp[List.getElem?_append]
   have e3:∀J,(sw H is im iv c u++(E++J))[H.length+2]?=some (.frz 5 1 txt.length):=λJ=>by rw[hE];simp[List.getElem?_append]
   have jP:(c++[.map im,.ov iv u.length])[4]?=some (.map im):=by rw[List.getElem?_append_right (by rw[hS.c4];omega),hS.c4];rfl
   have nd:(c++[.map im,.ov iv u.length])[5]?=some (.ov iv u.length):=by rw[List.getElem?_append_right (by rw[hS.c4];omega),hS.c4];rfl
   have gY:=hSE [];rw[aG]at gY;have e10:=e1 [];rw[aG]at e10;have hstr:∀(J:zaa) (r:AV→zaa→Prop),r (.str txt) (sw H is im iv c u++(E++J))→ACalls tP zis [.ptr (H.length+1) 0] (sw H is im iv c u++(E++J)) r:=λJ r h=>zG9 htne (e2 J) (e3 J) h;simp[gY.h1,zdn _ jP];refine zaD (.str txt) (λJ=>by rw[aq];exact hstr J _ ⟨rfl,rfl⟩) ?_;simp[gY.h2];have hdone:∀E:zaa,Kb (zjc (.ptr is 0) (.sl (zaG l) .none) (.int .i64 l.length) (.int .i64 (j+1))) (sw H is im iv c (zbg u l[j].1 l[j].2)++E):=λE=>
    eq _ _ ⟨l.length-(j+1),by omega,Back.at (J:=E) (H2:=sw H is im iv c (zbg u l[j].1 l[j].2)) rfl (by simp) (hS.hsc hs) (by
     have:=zbm hS.h1;simp[zjc,ux,AV.sc,AV.scA,AV.scB,AV.scV];omega) ⟨_,rfl,j+1,by omega,rfl,rfl,by rw[eL]⟩⟩
   by_cases qY:∃k,∃h:k<u.length,u[k].1=l[j].1
   ·obtain⟨k,od,hke⟩:=qY;have oC:=zy8 hd u 0 k od m7 oE hke;rw[aC,←mS]at oC;simp[oC,gY.h1,zdn _ nd,od];have hku2:=zeg (af od);have kI:zaH (λ_=>1) s+zaH (λ_=>1) l<1000000000 ^ 30:=aV hb (by decide);have fz:u[k].2<1000000000 ^ 30:=by omega
    have fD:l[j].2<1000000000 ^ 30:=by omega
    have pq:zbg u l[j].1 l[j].2=u.set k (u[k].1,u[k].2+l[j].2):=zxR od hke oE;have mi:∀x∈zai ((u[k].2+l[j].2:Nat):Int),x.known=true:=am.1 (zei _);simp[gY.h3,zsI od,e10,zcn];refine⟨by omega,?_⟩;refine zaD (.agg (zai ((u[k].2+l[j].2:Nat):Int))) (λJ=>zYM _ _ fz fD _ _ ⟨rfl,rfl⟩) ?_;have oe:=zBo od (u[k].2+l[j].2);rw[aq]at oe;simp[gY.h3,zon,zvQ,wi j (by omega)];refine⟨by omega,?_⟩;rw[Int.natCast_add]at oe;rw[oe,←pq];have fp:u.length=(zbg u l[j].1 l[j].2).length:=by rw[pq];simp
    have hkk:kvS u 0=kvS (zbg u l[j].1 l[j].2) 0:=by rw[pq,zIW u od]
    have eQ:=zLB (H:=H) (c:=c) hS.n1 hS.n2 hS.n3 fp hkk;have lU:(sw H is im iv c u++E).set iv (.vec zau 5 u.length (tms (zbg u l[j].1 l[j].2)))=sw H is im iv c (zbg u l[j].1 l[j].2)++E:=by rw[aM _ _ (by simpa using zbm hS.h3),eQ]
    rw[lU];exact hdone E
   ·have hnone:=zy6 hd u 0 m7 (λp hp he=>by
     obtain⟨k,hk,rfl⟩:=be hp;exact qY ⟨k,hk,he⟩)
    rw[←mS]at hnone;obtain⟨l8,l9⟩:=hnone;simp[l8,gY.h1,zdn _ jP];refine zaD (.str txt) (λJ=>by rw[aq];exact hstr J _ ⟨rfl,rfl⟩) ?_;simp[gY.h1,zdn _ nd,gY.h2];have pq:zbg u l[j].1 l[j].2=u++[l[j]]:=zxU (λp hp he=>by
     obtain⟨k,hk,rfl⟩:=be hp;exact qY ⟨k,hk,he⟩)
    have hmp:=l9 l[j].2;rw[aC]at hmp;have mY:=zbm hS.h2;have pR:=zbm hS.h3;have qZ:=zbm hS.h1;obtain⟨M,hM⟩:∃M,M=AB.map (zcQ (kvS u 0) txt (.int .i64 u.length)):=⟨_,rfl⟩;rw[←hM];have g1:((sw H is im iv c u++E).set im M)[is]?=some (.cells (c++[.map im,.ov iv u.length])):=by rw[List.getElem?_set_ne hS.n1.symm];exact gY.h1
    have g2:((sw H is im iv c u++E).set im M)[iv]?=some (.vec zau 5 u.length (tms u)):=by rw[List.getElem?_set_ne hS.n3];exact gY.h3
    have g3:((sw H is im iv c u++E).set im M)[H.length]?=some (.cells (tmC l[j])):=by rw[List.getElem?_set_ne (by omega)];exact e10
    have gy:plain ([.int .i64 0,.snil,.bool false,.snil,.snil]:List AV)=some [.int .i64 0,.sl [] .none,.bool false,.sl [] .none,.sl [] .none]:=rfl;simp[g1,zdn _ nd,g3,zcU,zaw,zaR,zgZ,gy];simp only[zax,zaM,zaK,g2];simp[g1];refine⟨by omega,?_⟩;have g4:(((sw H is im iv c u++E).set im M).set iv (.vec zau 5 (u.length+1) (tms u++tmC l[j])))[is]?=some (.cells (c++[.map im,.ov iv u.length])):=by rw[List.getElem?_set_ne hS.n2.symm];exact g1
    have nU:List.take 5 (c++[.map im,.ov iv u.length])=c++[.map im]:=by
     have:c++[.map im,.ov iv u.length]=(c++[.map im])++[.ov iv u.length]:=by simp
     rw[this,ci (by simp[hS.c4]),ai (by simp[hS.c4])]
    have mM:List.drop (5+1) (c++[.map im,.ov iv u.length])=[]:=aW (by simp[hS.c4]);rw[g4];simp only[zHp,nU,mM];simp[AV.known,hS.c4,zon,zvQ,wi j (by omega)];have hlu:u.length+1=(u++[l[j]]).length:=by simp
    have eQ:=zLD (H:=H) (c:=c) (s:=u) (s':=u++[l[j]]) hS.n1 hS.n2 hS.n3 (a:=M) (b:=.vec zau 5 (u.length+1) (tms u++tmC l[j])) (d:=.cells (c++[.map im,.ov iv (u.length+1)]))
     (by rw[hM,hmp]) (by rw[hlu,zhd];simp[tms]) (by rw[hlu])
    have lU:(((sw H is im iv c u++E).set im M).set iv (.vec zau 5 (u.length+1) (tms u++tmC l[j]))).set is (.cells (c++[.map im,.ov iv (u.length+1)]))=sw H is im iv c (zbg u l[j].1 l[j].2)++E:=by rw[aM _ _ (by simpa using mY),aM _ _ (by simpa using pR),aM _ _ (by simpa using qZ),eQ,pq]
    rw[lU];exact hdone E
  ·obtain rfl:j=l.length:=by omega
   rw[ak]at *;simp[zvO];exact zBv (J:=[]) (by simp) (by simp) (hS.hsc hs) hK
section
open Go.RowKit
variable {P:Program} {B:Nat} {w:World} {G:Gh} {H:zaa}
inductive OutX (H:zaa) (n:Nat):AV→AV→Prop
 |two {a b:AV} (h:OutW H n a b):OutX H n a b
 | msr (id len:Nat) (cs:List AV) (rs:List (List (List AV))) (en:n≤id) (hH:H[id]?=some (.cells cs)) (hm:rs.length=len)
   (eO:All2 (OutV H n) cs (rs.map λr=>.sl r .none)):OutX H n (.ms id 0 len len) (.sl (rs.map λr=>[.sl r .none]) .none)
theorem OutX.vrel(hH:HRel B w G H){n:Nat}{v:Value}{a b:AV}(h:OutX H n a b)(hr:TRel w G v a):VRel w (G.cut w n) v b:=by
 cases h with
 |two h=>exact h.vrel hH hr
 |msr id len cs rs en gL hm eO=>
  obtain⟨b,hμ,rfl⟩:=hr;obtain⟨hB,hL,vs,e,hw,eN⟩:=hH.ok id _ _ gL hμ;subst hm;show DRel w (G.cut w n).L _ _;by_cases ey:rs=[]
  ·subst ey;exact .slE _ _
  ·have hd:All2 (DRel w (G.cut w n).L) vs.toList (rs.map λr=>AV.sl r .none):=All2.of_get (eN.length.trans eO.length) λi x y hx hy=>by
    obtain⟨a,ha,jV⟩:=All2.get' eN hx;obtain⟨y',iW,mC⟩:=All2.get' eO ha;rw[hy]at iW;cases iW;obtain⟨r,hr,rfl⟩:∃r,rs[i]?=some r∧AV.sl r .none=y:=by simpa using hy
    exact mC.vrel hH (TRel.of_v (VRel.of_a jV))
   have fp:∀l:List (List (List AV)),(l.map λr=>[AV.sl r .none]).flatten=l.map λr=>AV.sl r .none:=by
    intro l;induction l with
    |nil=>rfl
    |cons r l ih=>simp[ih]
   have ox:=eN.length;have iq:=eO.length;have:=DRel.of_flat_at (w:=w) (L:=(G.cut w n).L) (g:=b) (off:=0) (size:=1) (cap:=rs.length) (es:=rs.map λr=>[AV.sl r .none]) (zs:=vs.toList) (by simp) (by simpa using ey) (by simp) ?_ (by rw[fp rs];exact hd) ?_
   ·simpa using this
   ·have:(G.cut w n).L b=vs.size:=by simp only[Gh.cut];rw[az (cut_dropped.2 ⟨id,_,en,hμ,rfl⟩),hw]
    rw[this];simp at ox iq ⊢;omega
   ·intro j u hj;rw[aC];simp only[World.cell?,hw];simpa using hj
inductive OutT3 (H:zaa) (n:Nat):AV→AV→Prop
 |one {a b:AV} (h:OutX H n a b):OutT3 H n a b
 |tup {asx bs:List AV} (h:All2 (OutX H n) asx bs):OutT3 H n (.tup asx) (.tup bs)
/- Slots that are appended to: a block of their own for each. -/
theorem ALoop.ovC{c:Code}{Q:AExit→List AV→zaa→Prop}{F:List AV}{id j:Nat}{cs:List AV}(e size:Nat)(en:H[id]?=some (.cells cs))(hj:cs[j]?=some .snil)(h:ALoop P c Q F (H.set id (.cells (cs.set j (.ov H.length 0)))++[.vec e size 0 []])):ALoop P c Q F H:=by
 intro B w G a hH hF hd;obtain⟨G',hE,eU⟩:=hH.ovCell e size en hj;refine wp_mono (h B w G' a eU (hF.ext hE) hd) λe a' w' hp=>?_;obtain⟨F'',H'',G'',e'',rfl,k1,k2,k3,k4,k5⟩:=hp;exact⟨F'',H'',G'',e'',rfl,hE.trans k1,k2,k3,k4,k5⟩
section
variable {α:Type}
def vcs:Nat→List (List α)→List AV
 |_,[]=>[]
 |b,l::ls=>.ov b l.length::vcs (b+1) ls
def vbs(f:α→List AV)(e size:Nat)(ls:List (List α)):List AB:=ls.map λl=>.vec e size l.length (l.flatMap f)
@[simp] theorem zBL:∀ (b:Nat) (ls:List (List α)),(vcs b ls).length=ls.length
 |_,[]=>rfl
 |b,l::ls=>by simp[vcs,zBL (b+1) ls]
@[simp] theorem yeT(f:α→List AV)(e size:Nat)(ls:List (List α)):(vbs f e size ls).length=ls.length:=by simp[vbs]
theorem zly:∀ (b:Nat) (ls:List (List α)) (k:Nat),(vcs b ls)[k]?=ls[k]?.map λl=>.ov (b+k) l.length
 |_,[],k=>by simp[vcs]
 |b,l::ls,0=>by simp[vcs]
 |b,l::ls,k+1=>by simp[vcs,zly (b+1) ls k];cases ls[k]? <;> simp;omega
theorem zLX(f:α→List AV)(e size:Nat)(ls:List (List α))(k:Nat):(vbs f e size ls)[k]?=ls[k]?.map λl=>.vec e size l.length (l.flatMap f):=by simp[vbs]
theorem zsU:∀ (b:Nat) (ls:List (List α)) (k:Nat) (l:List α),(vcs b ls).set k (.ov (b+k) l.length)=vcs b (ls.set k l)
 |_,[],k,l=>by simp[vcs]
 |b,x::ls,0,l=>by simp[vcs]
 |b,x::ls,k+1,l=>by have:=zsU (b+1) ls k l;rw[show b+1+k=b+(k+1) by omega]at this;simp[vcs,this]
theorem zLY(f:α→List AV)(e size:Nat)(ls:List (List α))(k:Nat)(l:List α):(vbs f e size ls).set k (.vec e size l.length (l.flatMap f))=vbs f e size (ls.set k l):=by simp[vbs,List.map_set]
theorem zLZ:∀ (b n:Nat),vcs b (List.replicate (n+1) ([]:List α))=.ov b 0::vcs (b+1) (List.replicate n ([]:List α))
 |b,n=>rfl
theorem ALoop.ovCs{c:Code}{Q:AExit→List AV→zaa→Prop}{F:List AV}(α:Type)(f:α→List AV){id:Nat}(e size:Nat):∀ (n:Nat) (pre:List AV) (H:zaa),H[id]?=some (.cells (pre++List.replicate n .snil)) →
  ALoop P c Q F (H.set id (.cells (pre++vcs H.length (List.replicate n ([]:List α))))++vbs f e size (List.replicate n ([]:List α)))→ALoop P c Q F H
 |0,pre,H,en,h=>by
  have hs:H.set id (.cells (pre++vcs H.length (List.replicate 0 ([]:List α))))=H:=by
   refine aL λi=>?_;rw[List.getElem?_set];split
   ·rename_i hi;subst hi;rw[az (List.getElem?_eq_some_iff.1 en).1,en];simp[vcs]
   ·rfl
  rw[hs]at h;simpa[vbs]using h
 |n+1,pre,H,en,h=>by
  refine ALoop.ovC e size en (j:=pre.length) (by simp) ?_;have ei:=(List.getElem?_eq_some_iff.1 en).1;have h1:(pre++List.replicate (n+1) AV.snil).set pre.length (.ov H.length 0)=(pre++[.ov H.length 0])++List.replicate n .snil:=by rw[ah _ _ (ac _)];simp[List.replicate_succ]
  rw[h1];refine ALoop.ovCs α f e size n (pre++[.ov H.length 0]) _ (by rw[List.getElem?_append_left (by simpa using ei),List.getElem?_set_self ei]) ?_;have h2:(H.set id (.cells (pre++[AV.ov H.length 0]++List.replicate n AV.snil))++[AB.vec e size 0 []]).set id (.cells (pre++[AV.ov H.length 0]++vcs (H.set id (.cells (pre++[AV.ov H.length 0]++List.replicate n AV.snil))++[AB.vec e size 0 []]).length (List.replicate n ([]:List α))))++vbs f e size (List.replicate n ([]:List α))
    = H.set id (.cells (pre++vcs H.length (List.replicate (n+1) ([]:List α))))++vbs f e size (List.replicate (n+1) ([]:List α)):=by
   rw[aM _ _ (by simpa using ei),bD,aq];simp[zLZ,vbs,List.replicate_succ,vcs]
  rw[h2];exact h
def RdC(H:zaa)(lo:Nat)(f:α→List AV)(e size:Nat)(c:AV)(l:List α):Prop:=
 (l=[]∧c=.snil)∨∃b,lo≤b∧c=.ov b l.length∧H[b]?=some (.vec e size l.length (l.flatMap f))
def RdL(H:zaa)(lo:Nat)(f:α→List AV)(e size:Nat)(a:AV)(ls:List (List α)):Prop:=
 ∃id cs,lo≤id∧a=.ms id 0 ls.length ls.length∧H[id]?=some (.cells cs)∧All2 (RdC H lo f e size) cs ls
theorem RdC.pre{H H':zaa}{lo lo':Nat}{f:α→List AV}{e size:Nat}{c:AV}{l:List α}(h:RdC H lo f e size c l)(hp:H <+: H')(hl:lo'≤lo):RdC H' lo' f e size c l:=by
 rcases h with h|⟨b,h1,h2,h3⟩
 ·exact .inl h
 ·obtain⟨J,rfl⟩:=hp;exact .inr ⟨b,by omega,h2,by rw[List.getElem?_append_left (List.getElem?_eq_some_iff.1 h3).1];exact h3⟩
theorem RdL.pre{H H':zaa}{lo lo':Nat}{f:α→List AV}{e size:Nat}{a:AV}{ls:List (List α)}(h:RdL H lo f e size a ls)(hp:H <+: H')(hl:lo'≤lo):RdL H' lo' f e size a ls:=by obtain⟨id,cs,h1,h2,h3,h4⟩:=h;refine⟨id,cs,by omega,h2,?_,h4.mono λ_ _ hc=>hc.pre hp hl⟩;obtain⟨J,rfl⟩:=hp;rw[List.getElem?_append_left (List.getElem?_eq_some_iff.1 h3).1];exact h3
theorem RdL.get{H:zaa}{lo:Nat}{f:α→List AV}{e size:Nat}{a:AV}{ls:List (List α)}(h:RdL H lo f e size a ls):∃id cs,a=.ms id 0 ls.length ls.length∧H[id]?=some (.cells cs)∧cs.length=ls.length∧∀k (hk:k<ls.length),∃c,cs[k]?=some c∧RdC H lo f e size c ls[k]:=by obtain⟨id,cs,h1,h2,h3,h4⟩:=h;refine⟨id,cs,h2,h3,h4.length,λk hk=>?_⟩;exact All2.get h4 (List.getElem?_eq_getElem hk)
theorem zk4q:∀ {a b a' b':List AV},plain a=some a'→plain b=some b'→plain (a++b)=some (a'++b')
 |[],b,a',b',h1,h2=>by simp[plain]at h1;subst h1;simpa using h2
 |x::a,b,a',b',h1,h2=>by
  simp only[plain]at h1;cases hx:x.pd with
  |none=>rw[hx]at h1;simp at h1
  |some d=>
   cases ha:plain a with
   |none=>rw[hx,ha]at h1;simp at h1
   |some ds=>rw[hx,ha]at h1;simp at h1;subst h1;simp[plain,hx,zk4q ha h2]
theorem RdC.out{H:zaa}{lo:Nat}{f g:α→List AV}{e size:Nat}{c:AV}{l:List α}(h:RdC H lo f e size c l)(hp:∀x∈l,plain (f x)=some (g x))(hs:∀x,(g x).length=size):OutV H lo c (.sl (l.map g) .none):=by
 rcases h with ⟨rfl,rfl⟩|⟨b,h1,rfl,h3⟩
 ·exact .wk (.atom .snil) rfl rfl
 ·refine .vfz b e size l.length _ _ h1 h3 ?_ (by simp) λc hc=>by obtain⟨x,_,rfl⟩:=aA.1 hc;exact hs x
  clear h3;induction l with
  |nil=>rfl
  |cons x l ih=>rw[aZ,aF,List.flatten_cons];exact zk4q (hp x (by simp)) (ih λy hy=>hp y (by simp[hy]))
theorem RdL.out{H:zaa}{lo:Nat}{f g:α→List AV}{e size:Nat}{a:AV}{ls:List (List α)}(h:RdL H lo f e size a ls)(hp:∀l∈ls,∀x∈l,plain (f x)=some (g x))(hs:∀x,(g x).length=size):OutX H lo a (.sl (ls.map λl=>[.sl (l.map g) .none]) .none):=by
 obtain⟨id,cs,h1,rfl,h3,h4⟩:=h;have:=OutX.msr (H:=H) (n:=lo) id ls.length cs (ls.map λl=>l.map g) h1 h3 (by simp) (All2.of_get (by simpa using h4.length) λi x y hx hy=>by
  obtain⟨l,hl,hc⟩:=All2.get' h4 hx;simp only[dv,List.getElem?_map,hl,Option.map_some,Function.comp_apply,bK]at hy;subst hy;exact hc.out (hp l (df hl)) hs)
 rw[dv]at this;exact this
def NX(f:α→List AV)(e size:Nat)(H1:zaa)(st:List (List α)):zaa:=H1++(.cells (vcs (H1.length+1) st)::vbs f e size st)
theorem ze1(f:α→List AV)(e size:Nat)(H1:zaa)(st:List (List α)):(NX f e size H1 st).length=H1.length+1+st.length:=by simp[NX];omega
theorem zxt(f:α→List AV)(e size:Nat)(H1:zaa)(st:List (List α)):H1 <+: NX f e size H1 st:=⟨_,rfl⟩
theorem zxq(f:α→List AV)(e size:Nat)(H1 J:zaa)(st:List (List α)):(NX f e size H1 st++J)[H1.length]?=some (.cells (vcs (H1.length+1) st)):=by simp[NX]
theorem zxr(f:α→List AV)(e size:Nat)(H1:zaa)(st:List (List α)):(NX f e size H1 st)[H1.length]?=some (.cells (vcs (H1.length+1) st)):=by simp[NX]
theorem zxo(f:α→List AV)(e size:Nat)(H1 J:zaa)(st:List (List α)){k:Nat}(hk:k<st.length):(NX f e size H1 st++J)[H1.length+1+k]?=some (.vec e size st[k].length (st[k].flatMap f)):=by rw[List.getElem?_append_left (by rw[ze1];omega),NX,List.getElem?_append_right (by omega),show H1.length+1+k-H1.length=k+1 by omega,List.getElem?_cons_succ,zLX,List.getElem?_eq_getElem hk];rfl
theorem zxp(f:α→List AV)(e size:Nat)(H1 J:zaa){st:List (List α)}{k:Nat}{l:List α}(h:st[k]?=some l):(NX f e size H1 st++J)[H1.length+1+k]?=some (.vec e size l.length (l.flatMap f)):=by obtain⟨hk,rfl⟩:=List.getElem?_eq_some_iff.1 h;exact zxo f e size H1 J st hk
theorem zsT(b:Nat){st:List (List α)}{k:Nat}{l:List α}(h:st[k]?=some l):(vcs b st)[k]?=some (.ov (b+k) l.length):=by rw[zly,h];rfl
theorem zxu(f:α→List AV)(e size:Nat)(H1 J:zaa)(st:List (List α)){k:Nat}(hk:k<st.length)(l:List α):((NX f e size H1 st++J).set (H1.length+1+k) (.vec e size l.length (l.flatMap f))).set H1.length (.cells (vcs (H1.length+1) (st.set k l)))=NX f e size H1 (st.set k l)++J:=by rw[aM _ _ (by rw[ze1];omega),aM _ _ (by simp[ze1];omega)];congr 1;unfold NX;rw[ah _ _ (by omega),ah _ _ (by omega),show H1.length+1+k-H1.length=k+1 by omega,List.set_cons_succ,c7,List.set_cons_zero,zLY]
theorem zL0(b:Nat)(ls:List (List α)){k:Nat}(hk:k<ls.length)(l:List α):(vcs b ls).take k++.ov (b+k) l.length::(vcs b ls).drop (k+1)=vcs b (ls.set k l):=by rw[←zsU,bh,az (by simpa using hk)]
theorem zBM{n:Nat}:∀ (b:Nat) (ls:List (List α)),b+ls.length≤n→(vcs b ls).all (AV.scA n)=true
 |_,[],_=>rfl
 |b,l::ls,h=>by
  simp only[List.length_cons]at h;have ih:=zBM (n:=n) (b+1) ls (by omega);have hb:b<n:=by omega
  rw[vcs,List.all_cons,ih,ch];simpa[AV.scA,AV.scB]using hb
theorem zG6{f:α→List AV}{e size:Nat}{H1:zaa}{st:List (List α)}(hs:HSc H1)(hf:∀x n,(f x).all (AV.scA n)=true):HSc (NX f e size H1 st):=by
 refine hs.append ?_;rw[am];intro b hb;rcases aP.1 hb with rfl|hb
 ·simp only[AB.sc];exact zBM _ _ (by simp;omega)
 ·obtain⟨l,_,rfl⟩:=aA.1 hb;simp only[AB.sc,List.all_flatMap,hf];simp
theorem ALoop.nx{c:Code}{Q:AExit→List AV→zaa→Prop}{F:List AV}(f:α→List AV)(e size n:Nat)(h:ALoop P c Q F (NX f e size H (List.replicate n []))):ALoop P c Q F (H++[.cells (List.replicate n .snil)]):=by
 refine ALoop.ovCs α f (id:=H.length) e size n [] _ (by simp) ?_;have:(H++[AB.cells (List.replicate n AV.snil)]).set H.length (.cells ([]++vcs (H++[AB.cells (List.replicate n AV.snil)]).length (List.replicate n ([]:List α))))++vbs f e size (List.replicate n ([]:List α))=NX f e size H (List.replicate n []):=by simp[NX,ah]
 rw[this];exact h
theorem HRel.reVec(h:HRel B w G H){id e size n:Nat}{cs cs':List AV}(en:H[id]?=some (.vec e size n cs))(hc:All2 WkA cs cs'):HRel B w G (H.set id (.vec e size n cs')):=by
 refine⟨by simp[h.len],?_,h.dist,h.fresh,h.lt,h.base⟩;intro i ab gi h1 h2;by_cases hi:i=id
 ·subst hi;rw[List.getElem?_set_self (List.getElem?_eq_some_iff.1 en).1]at h1;cases h1;have eu:=h.ok i _ _ en h2;cases gi with
  |blk b=>exact eu.elim
  |own v s n=>obtain⟨k1,k2,⟨xs,k3,k4⟩,k5⟩:=eu;exact⟨k1,k2,⟨xs,k3,zsW (vs:=[]) hc k4⟩,k5⟩
  |gap=>exact eu.elim
 ·rw[List.getElem?_set_ne (λh=>hi h.symm)]at h1;exact h.ok i ab gi h1 h2
theorem ALoop.reVec{c:Code}{Q:AExit→List AV→zaa→Prop}{F:List AV}{id e size n:Nat}{cs cs':List AV}(en:H[id]?=some (.vec e size n cs))(hw:All2 WkA cs cs')(h:ALoop P c Q F (H.set id (.vec e size n cs'))):ALoop P c Q F H:=by intro B w G a hH hF hd;exact h B w G a (hH.reVec en hw) hF hd
theorem ACalls.reVec{f:FuncId}{args:List AV}{K:Kt}(h:ACalls P f args H λr H'=>K r H'∨∃id e size n cs cs',H'[id]?=some (.vec e size n cs)∧All2 WkA cs cs'∧K r (H'.set id (.vec e size n cs'))):ACalls P f args H K:=by
 intro B w G vs hH hv;refine(h B w G vs hH hv).mono λex w' ⟨v,r,H',G',h1,h2,h3,h4,h5⟩=>?_;rcases h5 with hk|⟨id,e,size,n,cs,cs',en,hw,hk⟩
 ·exact⟨v,r,H',G',h1,h2,h3,h4,hk⟩
 ·exact⟨v,r,_,G',h1,h2,h3.reVec en hw,h4,hk⟩
end
end
section
open Go.RowKit
variable {P:Program} {B:Nat} {w:World} {G:Gh} {H:zaa}
theorem HRel.newRowV(h:HRel B w G H)(e size cap:Nat)(cur:Array Value)(hc:cap≤maxLen)(hs:cur.size=cap*size):
  Ext B w G (w.alloc (.cells cur e)) ⟨G.L,G.μ++[.own (.slice (some ⟨w.heap.size,0,none⟩) 0 cap) size 0]⟩∧HRel B (w.alloc (.cells cur e)) ⟨G.L,G.μ++[.own (.slice (some ⟨w.heap.size,0,none⟩) 0 cap) size 0]⟩ (H++[.vec e size 0 []]):=by
 have he:=Ext.alloc h (.cells cur e) G.L (λ_ _=>rfl) [.own (.slice (some ⟨w.heap.size,0,none⟩) 0 cap) size 0];have split:∀(id:Nat) gi,(G.μ++[GI.own (.slice (some ⟨w.heap.size,0,none⟩) 0 cap) size 0])[id]?=some gi→G.μ[id]?=some gi∨(id=G.μ.length∧gi=.own (.slice (some ⟨w.heap.size,0,none⟩) 0 cap) size 0):=by
  intro id gi hg;by_cases ei:id<G.μ.length
  ·rw[List.getElem?_append_left ei]at hg;exact .inl hg
  ·have eW:=(List.getElem?_eq_some_iff.1 hg).1;simp at eW;have:id=G.μ.length:=by omega
   subst this;simp at hg;exact .inr ⟨rfl,hg.symm⟩
 refine⟨he,by simp[h.len],?_,?_,λb hb=>?_,?_,?_⟩
 ·intro id ab gi h1 h2;rcases split id gi h2 with h2 | ⟨rfl,rfl⟩
  ·have ei:id<H.length:=by rw[←h.len];exact (List.getElem?_eq_some_iff.1 h2).1
   rw[List.getElem?_append_left ei]at h1;exact(h.ok id ab gi h1 h2).keep he (λb hb=>⟨zcX (h.lt id gi b h2 hb),rfl⟩)
  ·rw[h.len]at h1;simp at h1;subst h1;refine⟨rfl,rfl,⟨[],⟨by simp,.inr ⟨w.heap.size,cap,cur,rfl,h.base,zdE _,bv _,hc,hs,by simp⟩⟩,trivial⟩,λb hb=>?_⟩;simp[Value.ownBlock]at hb;subst hb;exact h.fresh _ (ac _)
 ·intro id id' gi gi' b h1 h2 h3 h4;rcases split id gi h1 with k1 | ⟨e1,e2⟩ <;> rcases split id' gi' h2 with k2 | ⟨e3,e4⟩
  ·exact h.dist id id' gi gi' b k1 k2 h3 h4
  ·rw[e4]at h4;simp[GI.block,Value.ownBlock]at h4;have:=h.lt id gi b k1 h3;omega
  ·rw[e2]at h3;simp[GI.block,Value.ownBlock]at h3;have:=h.lt id' gi' b k2 h4;omega
  ·rw[e1,e3]
 ·rw[zcg]at hb;exact h.fresh b (by omega)
 ·intro id gi b h1 h2;rw[zcg];rcases split id gi h1 with k1 | ⟨e1,e2⟩
  ·have:=h.lt id gi b k1 h2;omega
  ·rw[e2]at h2;simp[GI.block,Value.ownBlock]at h2;omega
 ·rw[zcg];have:=h.base;omega
end
theorem zKI(n:Nat)(hn:0<n)(l6:n≤1000000)(H:zaa)(K:Kt)(hK:K (.ov H.length 0) (H++[.vec zau 5 0 []])):
  ACalls tP zzw [.snil,.int .i64 n] H K:=by
 rintro B w G ⟨vs⟩ hR hv
 match vs,hv with
 |[v1,v2],⟨h1,h2,_⟩=>
 have h1:v1=.slice none 0 0:=h1;have h2:v2=.int .i64 n:=h2;subst h1 h2;obtain⟨i0,jl,pM,kO,fL⟩:∃i0,tP.info? 55=some i0∧i0.zero=some (.agg #[.int .i64 0,.slice none 0 0,.bool false,.slice none 0 0,.slice none 0 0])∧i0.size=5∧i0.bytes=88:=⟨_,rfl,rfl,rfl,rfl⟩;refine(Go.Proofs.Any8.slices_Grow_grow zMd i0 _ jl pM (by omega) none 0 0 n [] w (ac _) (by omega) (by rw[fL];omega) (by omega) (by simp) (λ_=>rfl) (λ_ h=>by cases h)).mono ?_;rintro e w' ⟨rfl,rfl⟩;have gK:=grownCap_ge w (0+n) 0 55;have fO:=grownCap_le_maxLen w (0+n) 0 55 (by simp only[maxLen];omega);obtain⟨z,hz⟩:∃z:Value,z=.agg #[.int .i64 0,.slice none 0 0,.bool false,.slice none 0 0,.slice none 0 0]:=⟨_,rfl⟩;rw[←hz];obtain⟨hE,hH⟩:=hR.drew (w.drawn+1) (bL _) |>.newRowV 55 5 (grownCap w (0+n) 0 55) (([]:List Value).toArray++Builtin.zeroCells z.cells (0+n-0)++Builtin.zeroCells z.cells (grownCap w (0+n) 0 55-(0+n))) fO (by
  simp only[cy,size_zeroCells,bQ,List.length_nil];have:z.cells.size=5:=by rw[hz];rfl
  rw[this];omega)
 refine⟨_,_,_,_,rfl,(Ext.drew B w G (w.drawn+1) (bL _)).trans hE,hH,?_,hK⟩;refine⟨⟨_,_,rfl,λh=>by omega,bv _⟩,_,5,0,?_,ac _,λ_=>rfl⟩;rw[←hR.len];simp;rfl
theorem zKG(ls:List (List (IT × Nat)))(hp:0<ls.flatten.length)(hb:ls.flatten.length≤1000000)(hn:ls.length≤1000)(H0:zaa)(K:Kt)(hK:K (.sl (zaG ls.flatten) .none) (NX tmC zau 5 H0 ls)):
  ACalls tP zr2 [.ms H0.length 0 ls.length ls.length] (NX tmC zau 5 H0 ls) K:=by
 refine ACalls.out (zZx λhs=>?_);obtain⟨H,hH⟩:∃H,H=NX tmC zau 5 H0 ls:=⟨_,rfl⟩;have fV:(vcs (H0.length+1) ls).length=ls.length:=zBL _ _;have hC:∀J,(H++J)[H0.length]?=some (.cells (vcs (H0.length+1) ls)):=λJ=>by rw[hH];exact zxq _ _ _ _ _ _
 have hC0:H[H0.length]?=some (.cells (vcs (H0.length+1) ls)):=by have:=hC [];simpa using this
 have hV:∀J k (hk:k<ls.length),(H++J)[H0.length+1+k]?=some (.vec zau 5 ls[k].length (tms ls[k])):=λJ k hk=>by rw[hH,zxo tmC zau 5 H0 J ls hk,tms,List.flatMap_def]
 have hl:H0.length<H.length:=zbm hC0;have fp:∀i,(ls.take i).flatten.length≤ls.flatten.length:=λi=>by
  conv=>rhs;rw[←aJ i ls]
  rw[cg,aw];omega
 have hsu:∀i (hi:i<ls.length),(ls.take (i+1)).flatten=(ls.take i).flatten++ls[i]:=λi hi=>by rw[ae hi,cg];simp
 rw[←hH]at hs hK ⊢;simp[zGp];refine zZu (Inv:=λq t3 t11 H'=>∃i:Nat,i≤ls.length∧q=ls.length-i∧t11=.int .i64 i∧t3=.int .i64 ((ls.take i).flatten.length:Nat)∧H'=H) ls.length ?_ ?_
 ·intro _;exact⟨0,by omega,by omega,rfl,rfl,rfl⟩
 ·rintro q t3 t11 H' ⟨i,hi,rfl,rfl,rfl,rfl⟩ hsc ek eK Kb eq;by_cases ei:i<ls.length
  ·have h1:=fp i;have h2:=fp (i+1);have h3:=hsu i ei;have h4:=zly (H0.length+1) ls i;rw[List.getElem?_eq_getElem ei]at h4;have h5:(ls.take (i+1)).flatten.length=(ls.take i).flatten.length+ls[i].length:=by rw[h3,aw]
   obtain⟨m,hm⟩:∃m,m=(ls.take i).flatten.length:=⟨_,rfl⟩;rw[←hm]at h1 h5 eK ⊢;have iK:¬((m:Int)+(ls[i].length:Int)<0):=by omega
   have w1:IntKind.i64.wrap ((m:Int)+(ls[i].length:Int))=(m:Int)+(ls[i].length:Int):=zay (by omega) (by omega);simp[zwN,ei,hC0,zdn _ h4,w1,iK,wi i (by omega)];simp[zGq,zGr,wi i (by omega)];refine eq _ _ ⟨ls.length-(i+1),by omega,Back.at (J:=[]) (H2:=H') (by simp) (by omega) hsc ?_ ⟨_,_,rfl,i+1,by omega,rfl,rfl,by rw[h5];simp,rfl⟩⟩;simpa[zpp,AV.sc,AV.scV,AV.scA,AV.scB]using hl
  ·obtain rfl:i=ls.length:=by omega
   rw[ak];simp[zwN];have hg:=zKI ls.flatten.length hp hb;simp at hg;refine hg _ _ ?_;refine zZt (Inv:=λq t6 t27 H2=>∃i:Nat,i≤ls.length∧q=ls.length-i∧t27=.int .i64 i∧t6=.ov H'.length (ls.take i).flatten.length∧H2=H'++[.vec zau 5 (ls.take i).flatten.length (tms (ls.take i).flatten)]) ls.length ?_ ?_
   ·intro _;exact⟨0,by omega,by omega,rfl,rfl,rfl⟩
   ·rintro q t6 t27 H2 ⟨i,hi,rfl,rfl,rfl,rfl⟩ gm i8 mG Kb2 fF;by_cases ei:i<ls.length
    ·have h1:=fp i;have h2:=fp (i+1);have h3:=hsu i ei;have h4:=zly (H0.length+1) ls i;rw[List.getElem?_eq_getElem ei]at h4;obtain⟨u,hu⟩:∃ u,u=(ls.take i).flatten:=⟨_,rfl⟩;rw[←hu]at h1 h3 mG gm ⊢;have hVi:=hV [.vec zau 5 u.length (tms u)] i ei;have hCi:=hC [.vec zau 5 u.length (tms u)];have eY:H0.length+1+i≠H'.length:=by have h9:=hV [] i ei;rw[aG]at h9;have:=zbm h9;omega
     simp[zwM,ei,hCi,zdn _ h4,wi i (by omega)];simp only[zax,hVi,zd9];simp[zBn,ah];have hl3:u.length+ls[i].length=((ls.take (i+1)).flatten).length:=by rw[h3,aw]
     refine⟨⟨by omega,by omega⟩,?_⟩;have mT:tms u++tms ls[i]=tms ((ls.take (i+1)).flatten):=by rw[h3,zhd]
     rw[hl3,mT];refine fF _ _ ⟨ls.length-(i+1),by omega,Back.at (J:=[]) (H2:=H'++[.vec zau 5 (ls.take (i+1)).flatten.length (tms (ls.take (i+1)).flatten)]) (by simp) (by simp) (hs.append (by simp only[AB.sc,List.all_cons,List.all_nil,zfr];rfl)) ?_ ⟨_,_,rfl,i+1,by omega,rfl,rfl,rfl,rfl⟩⟩;simp[zpo,AV.sc,AV.scV,AV.scA,AV.scB];omega
    ·obtain rfl:i=ls.length:=by omega
     rw[ak]at *;simp[zwM];have gB:=zkZ (J:=[.vec zau 5 ls.flatten.length (tms ls.flatten)]) ls.flatten H'.length (ac _) (by simp) hs hK;simpa using gB
section
open Go.RowKit
variable {P:Program} {B:Nat} {w:World} {G:Gh} {H:zaa}
theorem zyE{v:Value}{a:AV}(h:DRel w G.L v a):ARel w G v a:=by
 cases h with
 |bool b=>rfl
 |int k n=>rfl
 |str s=>rfl
 |slE a cap=>exact .slE a cap
 |sl b off cap ed es vs ey eM hL eB hc hd=>exact .sl b off cap ed es vs ey eM hL eB hc hd
end
section
open Go.Proofs (sortWorld sortWorldK ltOf CmpLays)
open Go.RowKit
open Go.Sort (grow putRow putCells mapBlock onCells ahead SWO PermIn SortedIn Holds HoldsK flatK size_flatK get_flatK)
variable {P:Program} {B:Nat} {w:World} {G:Gh} {H:zaa}
theorem zqC{α:Type}{k:Nat}:∀ {l:List (List α)} (hk:∀ r∈l,r.length=k) {i j:Nat} (hj:j<k),l.flatten[i*k+j]?=(l[i]?).bind λr=>r[j]?
 |[],_,i,j,_=>by simp
 |r::l,hk,0,j,hj=>by have:=hk r (by simp);simp[List.getElem?_append_left (show j<r.length by omega)]
 |r::l,hk,i+1,j,hj=>by
  have h1:=hk r (by simp);have h2:r.length≤(i+1)*k+j:=by rw[a8];omega
  rw[List.flatten_cons,List.getElem?_append_right h2,show (i+1)*k+j-r.length=i*k+j by rw[a8];omega,zqC (λx hx=>hk x (by simp[hx])) hj];rfl
theorem zyM{α:Type}{k:Nat}:∀ {l:List (List α)} (hk:∀ r∈l,r.length=k),l.flatten.length=l.length*k
 |[],_=>by simp
 |r::l,hk=>by rw[List.flatten_cons,aw,zyM (λx hx=>hk x (by simp[hx])),hk r (by simp),List.length_cons,a8];omega
theorem zIw{α:Type}[Inhabited α](enc:α→List Value)(k:Nat)(gG:0<k)(hk:∀x,(enc x).length=k)(d:Array α):(flatK enc k d).toList=(d.toList.map enc).flatten:=by
 have hl:∀r∈d.toList.map enc,r.length=k:=λr hr=>by obtain⟨x,_,rfl⟩:=aA.1 hr;exact hk x
 refine aL λt=>?_;have ht:t=t / k*k+t % k:=by rw[bi];exact(di t k).symm
 have hm:t % k<k:=ck _ gG;by_cases h:t<d.size*k
 ·have h1:t / k<d.size:=(cu gG).2 h;rw[Array.getElem?_toList,Array.getElem?_eq_getElem (by simpa using h),←getElem!_pos (flatK enc k d) t (by simpa using h),get_flatK _ _ _ _ h]
  conv=>rhs;rw[ht,zqC hl hm]
  rw[List.getElem?_map,Array.getElem?_toList,Array.getElem?_eq_getElem h1];simp only[Option.map_some,Option.bind_some];rw[getElem!_pos d _ h1,List.getElem?_eq_getElem (by rw[hk];exact hm),getElem!_pos (enc d[t / k]) _ (by rw[hk];exact hm)]
 ·rw[List.getElem?_eq_none (by simpa using h),List.getElem?_eq_none (by rw[zyM hl];simpa using h)]
theorem zxY{α β:Type}{R:α→β→Prop}:∀ {l:List (List α)} {m:List (List β)},All2 (λa b=>All2 R a b) l m→All2 R l.flatten m.flatten
 |[],[],_=>trivial
 |a::l,b::m,⟨h1,h2⟩=>by rw[List.flatten_cons,List.flatten_cons];exact All2.append h1 (zxY h2)
theorem HRel.sortedK(h:HRel B w G H){id e k n g cap:Nat}{cs cs':List AV}(hH:H[id]?=some (.vec e k n cs))(hμ:G.μ[id]?=some (.own (.slice (some ⟨g,0,none⟩) n cap) k n))(d:Array Value)(hd:d.size=n*k)(hc:All2 (ARel w G) d.toList cs')(m:Nat)(os:Array Obj):
  Ext B w G (sortWorld _root_.id w g 0 m d os) G∧HRel B (sortWorld _root_.id w g 0 m d os) G (H.set id (.vec e k n cs')):=by
 obtain⟨_,_,⟨xs,⟨gc,ho⟩,px⟩,iR⟩:=h.ok id _ _ hH hμ;rcases ho with ⟨h1,_⟩|⟨g',cap',cur,h1,hB,hw,eM,fO,eB,ff⟩
 ·cases h1
 cases h1;have eP:d.size≤cur.size:=by rw[hd,eB];exact ar _ eM
 have fu:=zJ0 _root_.id d cur eP;rw[hd]at fu;simp only[List.map_id]at fu;have h1:=h.storeV (cur':=putCells _root_.id 0 d cur) (xs':=d.toList) hH hμ hw hB eM fO (by simp[putCells,eB]) fu (by simp[hd]) hc;obtain⟨kZ,hR1⟩:=h1;have kA:=Ext.drew B (w.setRow g (putCells _root_.id 0 d cur)) G ((w.setRow g (putCells _root_.id 0 d cur)).drawn+m) (Nat.le_add_right _ _);have gx:=hR1.drew ((w.setRow g (putCells _root_.id 0 d cur)).drawn+m) (Nat.le_add_right _ _);obtain⟨pn,hR3⟩:=HRel.grown os.toList gx;have heq:sortWorld _root_.id w g 0 m d os=grow { w.setRow g (putCells _root_.id 0 d cur) with drawn:=(w.setRow g (putCells _root_.id 0 d cur)).drawn+m } os.toList.toArray:=by
  have hh:w.heap.modify g (onCells (putCells _root_.id 0 d))=(w.setRow g (putCells _root_.id 0 d cur)).heap:=by
   unfold World.setRow;refine Array.ext_getElem? λi=>?_;simp only[Array.getElem?_modify];by_cases hi:g=i
   ·subst hi;simp[hw,onCells]
   ·simp[hi]
  have e:sortWorld _root_.id w g 0 m d os=grow { w with heap:=w.heap.modify g (onCells (putCells _root_.id 0 d)),drawn:=w.drawn+m } os:=rfl;rw[e,hh,Array.toArray_toList];rfl
 rw[heq];exact⟨(kZ.trans kA).trans pn,hR3⟩
theorem zKS(h:HRel B w G H){n k g f:Nat}(ku:G.L g=0){enc:Fin n→List Value}[Inhabited (Fin n)]{rows:Nat→List AV}{cf:Nat→Nat→Int}(hd:∀i:Fin n,All2 (DRel w G.L) (enc i) (rows i))(jN:∀i j,i<n→j<n→ACalls P f [.agg (rows i),.agg (rows j)] [] λr _=>r=.int .i64 (cf i j)):CmpLays P f #[] enc k (λi j=>cf i j) g 0 n w:=by
 intro m os dk hdk x y;show Calls P f _ (sortWorld _root_.id w g 0 m (flatK enc k dk) os) λe w'=>e=.returned (.int .i64 (cf x y))∧∃q os',w'=grow ((sortWorld _root_.id w g 0 m (flatK enc k dk) os).drewN q) os';generalize hW:sortWorld _root_.id w g 0 m (flatK enc k dk) os=W;have eB:w.heap.size≤W.heap.size:=by rw[←hW];exact zKR _ _ _ _ _ _
 have eG:∀a:Addr,a.block≠g→a.block<w.heap.size→W.cell? a=w.cell? a:=λa h1 h2=>by rw[←hW];exact zKQ _ _ _ _ _ _ a h1 h2
 have hL:∀b,W.heap.size≤b→G.L b=0:=λb hb=>h.fresh b (by omega);have gb:∀{v:Value} {a:AV},DRel w G.L v a→DRel W G.L v a:=λhx=>hx.mono (λ_=>ac _) λb off ho=>by
  refine eG ⟨b,off,none⟩ ?_ ?_
  ·intro hb;have hb:b=g:=hb;rw[hb,ku]at ho;omega
  ·show b<w.heap.size;refine bW λhb=>?_;rw[h.fresh b hb]at ho;omega
 have harg:∀i:Fin n,VRel W ⟨G.L,[]⟩ (.agg (enc i).toArray) (.agg (rows i)):=λi=>⟨_,rfl,by
  rw[List.toList_toArray];exact(hd i).mono λ_ _ hx=>zyE (G:=⟨G.L,[]⟩) (gb hx)⟩
 refine (jN x y x.2 y.2 W.heap.size W ⟨G.L,[]⟩ #[.agg (enc x).toArray,.agg (enc y).toArray]
  ⟨rfl,λ_ _ _ h=>by simp at h,λ_ _ _ _ _ h=>by simp at h,hL,λ_ _ _ h=>by simp at h,ac _⟩ ⟨harg x,harg y,trivial⟩).mono ?_
 rintro e w' ⟨v,r,H',G',rfl,h2,_,h4,rfl⟩;have h4:v=.int .i64 (cf x y):=h4;subst h4;exact⟨rfl,zIE h2.dr h2.below⟩
theorem ACalls.sortFuncK{ρ:Go.Shelf.Ren}(L:Go.Proofs.SlLaysF0.n6 P ρ){id e k n f:Nat}(gG:0<k)(aE:∀ w,(isAgg (ρ.t 24)).run P w=.ok true w)(zE:∀ w,(Go.sizeOf (ρ.t 24)).run P w=.ok k w){cs:List AV}(hH:H[id]?=some (.vec e k n cs))(hn:n<4611686018427387904)(rows:List (List AV))(cf:Nat→Nat→Int)(hp:plain cs=some rows.flatten)(jT:rows.length=n)(mi:∀ r∈rows,r.length=k)(eg:∀ args w,(callFunc f args).run P w=.ok (.enter f args) w)(jN:∀ i j,i<n→j<n→ACalls P f [.agg (rows.getD i []),.agg (rows.getD j [])] [] λr _=>r=.int .i64 (cf i j))(pS:∀ i,i<n→¬ cf i i<0)(pT:∀ i j k,i<n→j<n→k<n→cf i j<0→cf j k<0→cf i k<0)(pU:∀ i j k,i<n→j<n→k<n→¬ cf i j<0→¬ cf j k<0→¬ cf i k<0){K:Kt}(hK:∀ p:List Nat,p.Perm (List.range n)→(∀ a b (ha:a<p.length) (hb:b<p.length),a<b→¬ cf p[b] p[a]<0)→K (.tup []) (H.set id (.vec e k n (p.map λi=>rows.getD i []).flatten))):
  ACalls P (ρ.f 6) [.ov id n,.fn f []] H K:=by
 rintro B w G ⟨vs⟩ hR hv
 match vs,hv with
 |[v1,v2],⟨h1,h2,_⟩=>
 obtain⟨⟨a0,cap0,rfl,_⟩,v',s0,n',hμ,eP,heq⟩:=h1;obtain⟨ws,rfl,ki⟩:=h2;have ki:ws=#[]:=by
  cases pp:ws.toList with
  |nil=>exact Array.toList_inj.1 pp
  |cons x l=>rw[pp]at ki;exact ki.elim
 subst ki;obtain⟨rfl,rfl,⟨xs,er,eN⟩,iR⟩:=hR.ok id _ _ hH hμ;obtain rfl:=heq rfl;have gc:=er.1;have fM:=zdM eN hp
 match n,gc,hH,hn,jN,pS,pT,pU,hK,hμ,er,jT with
 |0,gc,hH,hn,jN,pS,pT,pU,hK,hμ,er,jT=>
  refine(Go.Proofs.AnyF.slices_SortFunc_none (P:=P) (ρ:=ρ) L a0 cap0 _ w).mono ?_;rintro e' w' ⟨rfl,rfl⟩;have hc:cs=[]:=by
   have fV:=eN.length;cases cs with
   |nil=>rfl
   |cons x l=>simp at fV;omega
  subst hc;have:=hK [] (by simp) (by simp);refine⟨_,.tup [],_,G,rfl,Ext.refl _ _ _,?_,⟨#[],rfl,trivial⟩,this⟩;have hs:H.set id (.vec e k 0 [])=H:=by
   refine aL λi=>?_;rw[List.getElem?_set];split
   ·rename_i hi;subst hi;rw[az (List.getElem?_eq_some_iff.1 hH).1,hH]
   ·rfl
  simpa[hs]using hR
 |n+1,gc,hH,hn,jN,pS,pT,pU,hK,hμ,er,jT=>
  obtain⟨_,ho⟩:=er;rcases ho with ⟨h1,h0⟩|⟨g,cap,cur,h1,hB,hw,eM,fO,eB,ff⟩
  ·omega
  cases h1;have ku:G.L g=0:=iR g rfl;have pp:g<w.heap.size:=(Array.getElem?_eq_some_iff.1 hw).1;have jx:∀i,i<n+1→i*k+k≤(n+1)*k:=λi hi=>by have:=ar k (show i+1≤n+1 from hi);rwa [a8,cw]at this
  let enc:Fin (n+1)→List Value:=λi=>(xs.drop (i.1*k)).take k
  have lV:∀i,(enc i).length=k:=λi=>by have:=jx i.1 i.2;simp only[enc,aT,de];omega
  have eA:∀(i:Fin (n+1)) (j:Nat),j<k→(enc i)[j]?=xs[i.1*k+j]?:=λi j hj=>by simp only[enc,List.getElem?_take,List.getElem?_drop,az hj]
  have km:∀i:Fin (n+1),All2 (DRel w G.L) (enc i) (rows.getD i.1 []):=λi=>by
   have hi:i.1<rows.length:=by rw[jT];exact i.2
   have hri:rows.getD i.1 []=rows[i.1]:=by rw[List.getD_eq_getElem?_getD,List.getElem?_eq_getElem hi];rfl
   rw[hri];refine All2.of_get (by rw[lV,mi _ (af hi)]) λj x y hx hy=>?_;have hj:j<k:=by rw[←mi _ (af hi)];exact(List.getElem?_eq_some_iff.1 hy).1
   rw[eA i j hj]at hx;have fp:rows.flatten[i.1*k+j]?=some y:=by rw[zqC mi hj,List.getElem?_eq_getElem hi];exact hy
   obtain⟨x',kK,hr⟩:=All2.get fM fp;rw[hx]at kK;cases kK;exact hr
  have fC:∀i,∀v∈enc i,v.oneCell'=true:=λi v hv=>by
   obtain⟨j,hj,rfl⟩:=dh.1 hv;have hjr:j<(rows.getD i.1 []).length:=by rw[←(km i).length];exact hj
   obtain⟨x,hx,hr⟩:=All2.get (km i) (List.getElem?_eq_getElem hjr);rw[List.getElem?_eq_getElem hj]at hx;cases hx;generalize (rows.getD i.1 [])[j]=a at hr;generalize (enc i)[j]=v at hr;cases hr <;> rfl
  have hlays:=zKS (P:=P) (f:=f) (n:=n+1) (k:=k) (rows:=λi=>rows.getD i []) hR ku km jN;let d:Array (Fin (n+1)):=Array.ofFn λi=>i
  have jQ:d.size=n+1:=by simp[d]
  have m7:∀j (hj:j<n+1),d[j]! = ⟨j,hj⟩:=λj hj=>by rw[getElem!_pos d j (by rw[jQ];exact hj)];simp[d]
  have hholds:HoldsK enc k w g 0 d:=by
   intro t ht;rw[size_flatK,jQ]at ht;have mv:t / k<n+1:=(cu gG).2 ht;have hm:t % k<k:=ck _ gG;have htk2:t=t / k*k+t % k:=by rw[bi];exact(di t k).symm
   have htx:t<xs.length:=by rw[gc];exact ht
   have hc:cur[t]?=some xs[t]:=by have:xs[t]?=some xs[t]:=List.getElem?_eq_getElem _;rw[←this,←ff,List.getElem?_take,az ht,Array.getElem?_toList]
   have hv:(flatK enc k d)[t]! = xs[t]:=by rw[get_flatK _ _ _ _ (by rw[jQ];exact ht),m7 _ mv];have h3:=eA ⟨t / k,mv⟩ (t % k) hm;simp only at h3;rw[←htk2,List.getElem?_eq_getElem htx,List.getElem?_eq_getElem (by rw[lV];exact hm)]at h3;rw[getElem!_pos (enc _) _ (by rw[lV];exact hm)];exact cT h3
   refine⟨?_,?_⟩
   ·rw[aC,hv];simp[World.cell?,hw,hc]
   ·simp[World.frozen?,hw]
  have hO:SWO (ltOf λi j:Fin (n+1)=>cf i j):=⟨λx=>by simp only[ltOf,bF];exact pS x x.2,
   λx y z h1 h2=>by simp only[ltOf,aS]at *;exact pT x y z x.2 y.2 z.2 h1 h2,
   λx y z h1 h2=>by simp only[ltOf,bF]at *;exact pU x y z x.2 y.2 z.2 h1 h2⟩
  have gT:=Go.Proofs.AnyQ.slices_SortFunc (P:=P) (ρ:=ρ) L k aE zE enc lV fC (λi j=>cf i j) hO f #[] g 0 cap0 d w eg (by rw[jQ];exact hlays) hholds pp (by rw[jQ];exact hn);rw[jQ]at gT;refine gT.mono ?_;rintro e' w' ⟨rfl,d',m,os,pr,hsrt,rfl⟩;obtain⟨iC,_,n8⟩:=pr;have hds':d'.size=n+1:=iC.trans jQ;have q7:(d'.toList.map Fin.val).Perm (List.range (n+1)):=by
   have h1:d'.toList.Perm d.toList:=by have e1:(d'.extract 0 (n+1))=d':=zyH d' hds';have e2:(d.extract 0 (n+1))=d:=zyH d jQ;rwa [e1,e2]at n8
   exact(h1.map Fin.val).trans (List.Perm.of_eq (zJr _))
  have hS:=hR.sortedK hH hμ (flatK enc k d') (by rw[size_flatK,hds']) (cs':=((d'.toList.map Fin.val).map λi=>rows.getD i []).flatten) (by
   rw[zIw enc k gG lV,dv];refine zxY (All2.of_get (by simp) λi x y hx hy=>?_);simp only[List.getElem?_map,Option.map_eq_some_iff]at hx hy;obtain⟨a,ha,rfl⟩:=hx;obtain⟨b,hb,rfl⟩:=hy;rw[ha]at hb;cases hb;exact(km a).mono λ_ _ h=>zyE h) m os
  refine⟨_,.tup [],_,G,rfl,hS.1,hS.2,⟨#[],rfl,trivial⟩,hK _ q7 λa b ha hb eY=>?_⟩;simp only[bR,Array.length_toList]at ha hb;have:=hsrt a b (bv _) eY (by omega);rw[getElem!_pos d' a ha,getElem!_pos d' b hb]at this;simp only[ltOf,bF]at this;simpa using this
end
section
open Go.Shelf
def zMc:Go.Shelf.Ren:=⟨λ| 6=>84|15=>137|14=>136|28=>185|29=>186|20=>177|21=>178|22=>179|23=>180|24=>181|25=>182|26=>183|27=>184|46=>217|47=>218|48=>219|49=>220|50=>221|57=>244|n=>n,λ| 22=>31|24=>55|25=>127|3=>3|39=>184|0=>0|53=>88|55=>100|4=>4|46=>224|45=>223|50=>107|5=>5|9=>9|66=>260|70=>72|76=>288|77=>289|n=>n,λ| n=>n⟩
theorem zMb:Go.Proofs.SlLaysF0.n6 tP zMc:={
 mixed:=by kernel_rfl
 f6:=⟨Tryz.f84.name,by decide,Tryz.func84.trans (congrArg some (by kernel_rfl))⟩
 f14:=⟨Tryz.f136.name,by decide,Tryz.func136.trans (congrArg some (by kernel_rfl))⟩
 f15:=Tryz.func137.trans (congrArg some (by kernel_rfl))
 f20:=⟨Tryz.f177.name,by decide,Tryz.func177.trans (congrArg some (by kernel_rfl))⟩
 f21:=⟨Tryz.f178.name,by decide,Tryz.func178.trans (congrArg some (by kernel_rfl))⟩
 f22:=⟨Tryz.f179.name,by decide,Tryz.func179.trans (congrArg some (by kernel_rfl))⟩
 f23:=⟨Tryz.f180.name,by decide,Tryz.func180.trans (congrArg some (by kernel_rfl))⟩
 f24:=⟨Tryz.f181.name,by decide,Tryz.func181.trans (congrArg some (by kernel_rfl))⟩
 f25:=⟨Tryz.f182.name,by decide,Tryz.func182.trans (congrArg some (by kernel_rfl))⟩
 f26:=⟨Tryz.f183.name,by decide,Tryz.func183.trans (congrArg some (by kernel_rfl))⟩
 f27:=⟨Tryz.f184.name,by decide,Tryz.func184.trans (congrArg some (by kernel_rfl))⟩
 f28:=Tryz.func185.trans (congrArg some (by kernel_rfl))
 f29:=Tryz.func186.trans (congrArg some (by kernel_rfl))
 f46:=⟨Tryz.f217.name,by decide,Tryz.func217.trans (congrArg some (by kernel_rfl))⟩
 f47:=Tryz.func218.trans (congrArg some (by kernel_rfl))
 f48:=Tryz.func219.trans (congrArg some (by kernel_rfl))
 f49:=⟨Tryz.f220.name,by decide,Tryz.func220.trans (congrArg some (by kernel_rfl))⟩
 f50:=⟨Tryz.f221.name,by decide,Tryz.func221.trans (congrArg some (by kernel_rfl))⟩
 f57:=⟨Tryz.f244.name,by decide,Tryz.func244.trans (congrArg some (by kernel_rfl))⟩
 t0:=Tryz.underlying0
 a0:=Tryz.isAgg0
 z0:=Tryz.sizeOf0
 v0:=Tryz.zeroValue0
 t3:=Tryz.underlying3
 a3:=Tryz.isAgg3
 z3:=Tryz.sizeOf3
 v3:=Tryz.zeroValue3
 t4:=Tryz.underlying4
 a4:=Tryz.isAgg4
 z4:=Tryz.sizeOf4
 v4:=Tryz.zeroValue4
 t5:=Tryz.underlying5
 a5:=Tryz.isAgg5
 z5:=Tryz.sizeOf5
 v5:=Tryz.zeroValue5
 t9:=Tryz.underlying9
 a9:=Tryz.isAgg9
 z9:=Tryz.sizeOf9
 v9:=Tryz.zeroValue9
 t22:=Tryz.underlying31
 a22:=Tryz.isAgg31
 z22:=Tryz.sizeOf31
 v22:=Tryz.zeroValue31
 t25:=Tryz.underlying127
 a25:=Tryz.isAgg127
 z25:=Tryz.sizeOf127
 v25:=Tryz.zeroValue127
 t39:=Tryz.underlying184
 a39:=Tryz.isAgg184
 z39:=Tryz.sizeOf184
 v39:=Tryz.zeroValue184
 t45:=Tryz.underlying223
 a45:=Tryz.isAgg223
 z45:=Tryz.sizeOf223
 v45:=Tryz.zeroValue223
 t46:=Tryz.underlying224
 a46:=Tryz.isAgg224
 z46:=Tryz.sizeOf224
 v46:=Tryz.zeroValue224
 t50:=Tryz.underlying107
 a50:=Tryz.isAgg107
 z50:=Tryz.sizeOf107
 v50:=Tryz.zeroValue107
 t53:=Tryz.underlying88
 a53:=Tryz.isAgg88
 z53:=Tryz.sizeOf88
 v53:=Tryz.zeroValue88
 t55:=Tryz.underlying100
 a55:=Tryz.isAgg100
 z55:=Tryz.sizeOf100
 v55:=Tryz.zeroValue100
 t66:=Tryz.underlying260
 a66:=Tryz.isAgg260
 z66:=Tryz.sizeOf260
 v66:=Tryz.zeroValue260
 t70:=Tryz.underlying72
 a70:=Tryz.isAgg72
 z70:=Tryz.sizeOf72
 v70:=Tryz.zeroValue72
 t76:=Tryz.underlying288
 a76:=Tryz.isAgg288
 z76:=Tryz.sizeOf288
 v76:=Tryz.zeroValue288
 t77:=Tryz.underlying289
 a77:=Tryz.isAgg289
 z77:=Tryz.sizeOf289
 v77:=Tryz.zeroValue289 }
end
end Go.Proofs.YtdmamdnkcefmmaaGreatDoor
