import Derived.Test.YtaifokkaaahdoaaGreatDoorLA3
import Derived.Test.YtaifokkaaahdoaaGreatDoorKNum
import Derived.Test.YtaifokkaaahdoaaGreatDoorProg
import Derived.KernelRfl
import Derived.Test.YtaifokkaaahdoaaGreatDoorKGY2
import Derived.Test.YtaifokkaaahdoaaGreatDoorKP1
import Derived.Test.YtaifokkaaahdoaaGreatDoorAbsU
set_option linter.unusedSimpArgs false
set_option linter.unusedVariables false
set_option linter.unusedSectionVars false
set_option maxRecDepth 8000
namespace Go.Proofs.YtaifokkaaahdoaaGreatDoor
open Go Go.Abs
def foL(g:VT→List Bool→Bool × List Bool):List VT→List Bool→Bool × List Bool
 |[],s=>(true,s)
 |v::vs,s=>if (g v s).1=true then foL g vs (g v s).2 else (false,(g v s).2)
def foC(g:VT→List Bool→Bool × List Bool):List Con→List Bool→Bool × List Bool
 |[],s=>(true,s)
 |c::cs,s=>if (foL g c.args s).1=true then foC g cs (foL g c.args s).2 else (false,(foL g c.args s).2)
def zbq(data:List Dat)(n:Int):List Con:=(data.getD n.toNat ⟨[],0,[]⟩).cons
def foD(g:VT→List Bool→Bool×List Bool)(data:List Dat)(k n:Int)(s:List Bool):Bool×List Bool:=
 if k=5∧s.getD n.toNat false=false then foC g (zbq data n) (s.set n.toNat true) else (true,s)
def fo(data:List Dat):Nat→VT→List Bool→Bool × List Bool
 |0,_,s=>(false,s)
 | f+1,.mk k n ks,s=>if k=9 then (false,s) else
  if (foD (fo data f) data k n s).1=true then foL (fo data f) ks (foD (fo data f) data k n s).2 else (false,(foD (fo data f) data k n s).2)
def uns(s:List Bool):Nat:=s.countP (· == false)
def zit(g:VT→List Bool→Bool×List Bool):Prop:=∀v s,(g v s).2.length=s.length∧uns (g v s).2≤uns s
theorem znu{g:VT→List Bool→Bool × List Bool}(hg:zit g):∀ vs s,(foL g vs s).2.length=s.length∧uns (foL g vs s).2≤uns s
 |[],s=>⟨rfl,Nat.le_refl _⟩
 |v::vs,s=>by
  obtain⟨h1,h2⟩:=hg v s;obtain⟨h3,h4⟩:=znu hg vs (g v s).2;rw[foL];split
  ·exact⟨by omega,by omega⟩
  ·exact⟨h1,h2⟩
theorem ztZ{g:VT→List Bool→Bool × List Bool}(hg:zit g):∀ cs s,(foC g cs s).2.length=s.length∧uns (foC g cs s).2≤uns s
 |[],s=>⟨rfl,Nat.le_refl _⟩
 |c::cs,s=>by
  obtain⟨h1,h2⟩:=znu hg c.args s;obtain⟨h3,h4⟩:=ztZ hg cs (foL g c.args s).2;rw[foC];split
  ·exact⟨by omega,by omega⟩
  ·exact⟨h1,h2⟩
theorem zwQ:∀ (s:List Bool) (i:Nat),i<s.length→s.getD i false=false→uns (s.set i true)+1=uns s
 |[],i,h,_=>by simp at h
 |b::s,0,_,h=>by simp at h;subst h;simp[uns]
 |b::s,i+1,h,h0=>by have:=zwQ s i (by simpa using h) (by simpa using h0);simp only[uns,List.set_cons_succ,List.countP_cons]at this ⊢;omega
theorem zFJ(s:List Bool)(i:Nat):uns (s.set i true)≤uns s:=by
 induction s generalizing i with
 |nil=>simp
 |cons b s ih=>
  cases i with
  |zero=>cases b <;> simp[uns]
  |succ i=>have:=ih i;simp only[uns,List.set_cons_succ,List.countP_cons]at this ⊢;omega
theorem zCo{g:VT→List Bool→Bool×List Bool}(hg:zit g)(data:List Dat)(k n:Int)(s:List Bool):(foD g data k n s).2.length=s.length∧uns (foD g data k n s).2≤uns s:=by
 unfold foD;split
 ·obtain⟨h1,h2⟩:=ztZ hg (zbq data n) (s.set n.toNat true);have:=zFJ s n.toNat;exact⟨by simpa using h1,by omega⟩
 ·exact⟨rfl,Nat.le_refl _⟩
theorem zt1(data:List Dat):∀ f,zit (fo data f)
 |0,_,s=>⟨rfl,Nat.le_refl _⟩
 |f+1,.mk k n ks,s=>by
  have hg:=zt1 data f;obtain⟨h1,h2⟩:=zCo hg data k n s;obtain⟨h3,h4⟩:=znu hg ks (foD (fo data f) data k n s).2;rw[fo];split
  ·exact⟨rfl,Nat.le_refl _⟩
  ·split
   ·exact⟨by omega,by omega⟩
   ·exact⟨h1,h2⟩
def TyIn(data:List Dat)(t:VT):Prop:=t.nodes≤200∧∃vars,zaC data vars t=true
theorem zj4{data:List Dat}{vars:Int}:∀ {ts:List VT},zaQ data vars ts=true→∀ x∈ts,zaC data vars x=true
 |[],_,x,hx=>by simp at hx
 |t::ts,h,x,hx=>by
  simp[zaQ]at h;rcases List.mem_cons.1 hx with rfl|hx
  ·exact h.1
  ·exact zj4 h.2 x hx
theorem TyIn.kid{data:List Dat}{k n:Int}{ks:List VT}(h:TyIn data (.mk k n ks)):∀x∈ks,TyIn data x∧x.nodes<(VT.mk k n ks).nodes:=λx hx=>by
 obtain⟨h1,vars,h2⟩:=h;have hlt:x.nodes<(VT.mk k n ks).nodes:=by obtain⟨i,hi,rfl⟩:=List.mem_iff_getElem.1 hx;exact VT.kid_lt hi
 simp[zaC]at h2;exact⟨⟨by omega,vars,zj4 h2.2 x hx⟩,hlt⟩
theorem TyIn.num{data:List Dat}{n:Int}{ks:List VT}(h:TyIn data (.mk 5 n ks)):0≤n∧n.toNat<data.length:=by
 obtain⟨h1,vars,h2⟩:=h;simp[zaC,zaE]at h2;obtain⟨⟨h3,h4⟩,_⟩:=h2;refine⟨h3,?_⟩;cases hd:data[n.toNat]? with
 |none=>rw[hd]at h4;simp at h4
 |some d=>exact(List.getElem?_eq_some_iff.1 hd).1
theorem zEo{data:List Dat}{vars k n:Int}{m len:Nat}(h:zaE (data.take m) vars k n len=true):zaE data vars k n len=true:=by
 by_cases h5:k=5
 ·subst h5;have e:∀ D:List Dat,zaE D vars 5 n len=(decide (0≤n) && (match D[n.toNat]? with | some d=>(len:Int) == d.vars | none=>false)):=λ_=>rfl;rw[e]at h ⊢;cases hd:(data.take m)[n.toNat]? with
  |none=>rw[hd]at h;simp at h
  |some d=>
   rw[hd]at h;have hd2:data[n.toNat]?=some d:=by
    rw[List.getElem?_take]at hd;split at hd
    ·exact hd
    ·cases hd
   rw[hd2];exact h
 ·have b5:(k == 5)=false:=by simpa using h5
  have e:∀D D':List Dat,zaE D vars k n len=zaE D' vars k n len:=λD D'=>by unfold zaE;rw[b5];rfl
  rw[e data (data.take m)];exact h
theorem zwJ{data:List Dat}{vars:Int}{m:Nat}:∀ (f:Nat) (t:VT),t.nodes≤f→zaC (data.take m) vars t=true→zaC data vars t=true
 |0,t,h,_=>by have:=t.nodes_pos;omega
 |f+1,.mk k n ks,h,ho=>by
  simp only[zaC,Bool.and_eq_true]at ho ⊢;refine⟨zEo ho.1,?_⟩;have hL:∀l:List VT,VT.nodesL l≤f→zaQ (data.take m) vars l=true→zaQ data vars l=true:=by
   intro l;induction l with
   |nil=>intro _ _;rfl
   |cons a l ih=>intro hn hl;simp only[VT.nodesL]at hn;simp only[zaQ,Bool.and_eq_true]at hl ⊢;exact⟨zwJ f a (by omega) hl.1,ih (by omega) hl.2⟩
  exact hL ks (by simp only[VT.nodes]at h;omega) ho.2
theorem ziL{data:List Dat}:∀ (l:List Dat) (d i:Nat) (h:i<l.length),zb8 data l d=true→zb7 data (d+i) l[i]=true
 |[],_,i,h,_=>by simp at h
 |D::l,d,0,_,ho=>by simp[zb8]at ho;exact ho.1
 |D::l,d,i+1,h,ho=>by simp[zb8]at ho;have:=ziL l (d+1) i (by simpa using h) ho.2;rw[show d+(i+1)=d+1+i by omega];exact this
theorem zg4{data:List Dat}(hD:zaB data=true){i:Nat}(hi:i<data.length):∀c∈(data[i]).cons,c.args.length≤6∧∀x∈c.args,TyIn data x:=λc hc=>by
 have h1:zb8 data data 0=true:=by simp[zaB]at hD;exact hD.1.1.2
 have h2:=ziL data 0 i hi h1;rw[Nat.zero_add]at h2;simp only[zb7,Bool.and_eq_true]at h2;have h3:=List.all_eq_true.1 h2.2 c hc;simp only[zcO,Bool.and_eq_true,decide_eq_true_eq]at h3;refine⟨h3.2.1,λx hx=>?_⟩;have h4:=List.all_eq_true.1 h3.2.2 x hx;simp only[zdq,Bool.and_eq_true]at h4;have h5:=h4.1;have hn:=zfF h5;simp[zaz]at h5;exact⟨hn,_,zwJ _ x (Nat.le_refl _) h5.2⟩
end Go.Proofs.YtaifokkaaahdoaaGreatDoor
namespace Go.Proofs.YtaifokkaaahdoaaGreatDoor
open Go Go.Abs
set_option maxRecDepth 100000
def zOB(_:Nat):List Bool:=[]
noncomputable def zOC:Code:=Tryz.f78.body.getD .skip
def zz3(t0 t1:AV)(H:zaa)(K:Kt):Prop:=
 zav t1 H λt3 H=>
 zae true 3 t3 H λt6=>
 ACalls tP zfA [t0,t6,(.int .i64 101)] H λt7 H=>
 aUn .not t7 λt8=>
 zag t8
 (K (.str []) H)
 (zae true 3 t3 H λt10=>
 ACalls tP zi5 [t0,t10] H λt11 H=>
 K t11 H)
theorem zOD{t0 t1:AV}{H:zaa}{K:Kt}(h:HSc H→zz3 t0 t1 H K):ACalls tP zoD [t0,t1] H K:=
 zan (M:=zOB) Tryz.func78 (c:=zOC) (by kernel_rfl) (λhs=>Eq.mpr (by kernel_rfl) (h hs))
def zkr:Nat→List Bool
 |3=>rl false [0,1,2,1,1,1,5,3,72]
 |_=>[]
noncomputable def zpX:Code:=Tryz.f111.body.getD .skip
noncomputable def zG4:List ResultVar:=Tryz.f111.results.toList
def zks(t0 t3 t5 t11 t12 t13:AV):List AV:=t0::ux 2 (t3::ux 1 (t5::ux 5 (t11::t12::t13::ux 72 [])))
def zG2:List Bool:=zkr 3
noncomputable def zG0:Code:=zaq [1,1,0,1,0,0] zpX
def zGZ(K:Kt):AExit→List AV→zaa→Prop:=zar tP zkr [1,1,0,1,0] zpX (zaA tP zG4 K)
def zkt(t0 t3 t5 t11 t12 t13:AV)(H:zaa)(K:Kt):Prop:=ALoop tP zG0 (zGZ K) (zks t0 t3 t5 t11 t12 t13) H
def zpW(t0 t3 t5 t11 t12 t13:AV)(H:zaa)(K:Kt)(Kb3:Lt):Prop:=
 zac .lss false t13 t12 λt14=>
 zag t14
 (zaj 3 t11 t13 λt15=>
 zae true 3 t15 H λt16=>
 zaw [(.int .i64 0),(.int .i64 0),.snil] H λt7 H=>
 zak 3 t7 t16 H λH=>
 zae true 3 t7 H λt19=>
 ACalls tP zi5 [t0,t19] H λt20 H=>
 zas 1 [(.str [])] 1 [(0,t20)] λt21=>
 zay zbr 1 16 t5 t21 H λt22 H=>
 zac .add false t13 (.int .i64 1) λt23=>
 Kb3 (zks t0 t3 t22 t11 t12 t23) H)
 (ACalls tP zoi [t5,(.str [44,32])] H λt25 H=>
 zac .add false (.str [40]) t25 λt26=>
 zac .add false t26 (.str [41]) λt27=>
 zaf 0 t3 λt28=>
 zae false 1 t28 H λt29=>
 zac .eql false t29 (.int .i64 1) λt31=>
 zag t31
 (K (.str [105,110,116]) H)
 (zac .eql false t29 (.int .i64 2) λt33=>
 zag t33
 (K (.str [98,111,111,108]) H)
 (zac .eql false t29 (.int .i64 3) λt35=>
 zag t35
 (K (.str [117,110,105,116]) H)
 (zac .eql false t29 (.int .i64 4) λt37=>
 zag t37
 (zaf 1 t3 λt38=>
 zae false 1 t38 H λt39=>
 ACalls tP zDm [t39] H λt40 H=>
 zac .add false (.str [97]) t40 λt41=>
 K t41 H)
 (zac .eql false t29 (.int .i64 7) λt43=>
 zag t43
 (zac .add false (.str [97,114,114,97,121]) t27 λt45=>
 K t45 H)
 (zac .eql false t29 (.int .i64 8) λt47=>
 zag t47
 (zac .add false (.str [114,101,102]) t27 λt49=>
 K t49 H)
 (zac .eql false t29 (.int .i64 9) λt51=>
 zag t51
 (zah 1 t5 λt53=>
 zac .sub false t53 (.int .i64 1) λt54=>
 zad H (λK'=>K' t5 H) λt55=>
 zad H (λK'=>K' t54 H) λt56=>
 zad H (λK'=>za3 1 1 t55 none (some t56) (K' · H)) λt57=>
 zaM H (λH K'=>ACalls tP zoi [t57,(.str [44,32])] H K') λt58=>
 zad H (λK'=>zac .add false (.str [102,110,40]) t58 (K' · H)) λt59=>
 zad H (λK'=>zac .add false t59 (.str [41,32,45,62,32]) (K' · H)) λt60=>
 zad H (λK'=>K' t5 H) λt61=>
 zad H (λK'=>K' t54 H) λt62=>
 zad H (λK'=>zaj 1 t61 t62 (K' · H)) λt63=>
 zad H (λK'=>zam false 1 t63 H (K' · H)) λt64=>
 zad H (λK'=>zac .add false t60 t64 (K' · H)) λt65=>
 zad H (λK'=>K' t65 H) λt4=>
 K t4 H)
 (zac .eql false t29 (.int .i64 5) λt67=>
 zag t67
 (zah 1 t5 λt69=>
 zac .eql false t69 (.int .i64 0) λt70=>
 zag t70
 (zaf 1 t3 λt72=>
 zae false 1 t72 H λt73=>
 zaj 3 t0 t73 λt74=>
 zaf 0 t74 λt75=>
 zae false 1 t75 H λt76=>
 K t76 H)
 (zaf 1 t3 λt78=>
 zae false 1 t78 H λt79=>
 zaj 3 t0 t79 λt80=>
 zaf 0 t80 λt81=>
 zae false 1 t81 H λt82=>
 zac .add false t82 t27 λt84=>
 K t84 H))
 (K t27 H)))))))))
def zxd(t0 t1:AV)(H:zaa)(K:Kt):Prop:=
 zav t1 H λt3 H=>
 zaf 2 t3 λt10=>
 zae false 1 t10 H λt11=>
 zah 1 t11 λt12=>
 zkt t0 t3 .snil t11 t12 (.int .i64 0) H K
theorem zG1{t0 t3 t5 t11 t12 t13:AV}{H:zaa}{K:Kt}(Inv:Nat→AV→AV→zaa→Prop)(n:Nat)(h0:HSc H→Inv n t5 t13 H)(round:Rd2 (λt5=>λt13=>zks t0 t3 t5 t11 t12 t13) (λt5=>λt13=>λH Kb3=>zpW t0 t3 t5 t11 t12 t13 H K Kb3) H Inv):zkt t0 t3 t5 t11 t12 t13 H K:=
 lp2 (M:=zkr) zG2 t5 t13 (by kernel_rfl) Inv n h0 round
theorem zG3{t0 t1:AV}{H:zaa}{K:Kt}(h:HSc H→zxd t0 t1 H K):ACalls tP zi5 [t0,t1] H K:=
 zan (M:=zkr) Tryz.func111 (c:=zpX) (by kernel_rfl) (λhs=>Eq.mpr (by kernel_rfl) (h hs))
end Go.Proofs.YtaifokkaaahdoaaGreatDoor
namespace Go.Proofs.YtaifokkaaahdoaaGreatDoor
open Go Go.Abs
def zcy(data:List Dat)(n:Int):List UInt8:=(data.getD n.toNat ⟨[],0,[]⟩).name
def zca(l:List (List UInt8)):List UInt8:=Lib.join l [44,32]
def zbX(l:List (List UInt8)):List UInt8:=40::(zca l++[41])
def zbA(data:List Dat)(k n:Int)(l:List (List UInt8)):List UInt8:=
 if k=1 then [105,110,116] else if k=2 then [98,111,111,108] else if k=3 then [117,110,105,116]
 else if k=7 then [97,114,114,97,121]++zbX l else if k=8 then [114,101,102]++zbX l
 else if k=9 then [102,110,40]++zca (l.take (l.length-1))++[41,32,45,62,32]++l.getD (l.length-1) []
 else if k=5 then (if l=[] then zcy data n else zcy data n++zbX l) else zbX l
mutual
def txt(data:List Dat):VT→List UInt8
 |.mk k n ks=>zbA data k n (zaP data ks)
def zaP(data:List Dat):List VT→List (List UInt8)
 |[]=>[]
 |v::vs=>txt data v::zaP data vs
end
theorem zeA(data:List Dat):∀ ks,zaP data ks=ks.map (txt data)
 |[]=>rfl
 |v::vs=>by rw[zaP,zeA data vs];rfl
theorem zuA(sep:List UInt8):∀ r:List (List UInt8),(Lib.joinTail sep r).length=(r.map List.length).sum+sep.length*r.length
 |[]=>by simp[Lib.joinTail]
 |x::r=>by have:=zuA sep r;unfold Lib.joinTail at this ⊢;simp only[List.map_cons,List.flatten_cons,List.length_append,List.sum_cons,List.length_cons,Nat.mul_add,Nat.mul_one];omega
theorem znJ(l:List (List UInt8)):(zca l).length≤(l.map List.length).sum+2*l.length:=by
 cases l with
 |nil=>simp[zca,Lib.join_nil]
 |cons x r=>unfold zca;rw[Lib.join_cons,List.length_append,zuA];simp;omega
theorem zCG(l:List (List UInt8)):(zbX l).length≤(l.map List.length).sum+2*l.length+2:=by have:=znJ l;simp[zbX];omega
theorem zFm(l:List (List UInt8))(k:Nat):((l.take k).map List.length).sum≤(l.map List.length).sum:=by
 induction l generalizing k with
 |nil=>simp
 |cons a l ih=>
  cases k with
  |zero=>simp
  |succ k=>have:=ih k;simp only[List.take_succ_cons,List.map_cons,List.sum_cons];omega
theorem zCu(l:List (List UInt8))(k:Nat):(l.getD k []).length≤(l.map List.length).sum:=by
 induction l generalizing k with
 |nil=>simp
 |cons a l ih=>
  cases k with
  |zero=>simp
  |succ k=>have:=ih k;simp at this ⊢;omega
theorem zFp(l:List (List UInt8)):((l.take (l.length-1)).map List.length).sum+(l.getD (l.length-1) []).length≤(l.map List.length).sum:=by
 cases h:l.length with
 |zero=>have:=List.eq_nil_of_length_eq_zero h;subst this;simp
 |succ m=>
  have e:l=l.take m++[l.getD m []]:=by
   have hm:m<l.length:=by omega
   conv=>lhs;rw[←List.take_append_drop m l]
   rw[List.drop_eq_getElem_cons hm,List.drop_eq_nil_of_le (by omega)];simp[List.getD_eq_getElem?_getD,hm]
  conv=>rhs;rw[e]
  simp
theorem zFz{data:List Dat}{B:Nat}(hB:∀D∈data,D.name.length≤B)(k n:Int)(l:List (List UInt8)):(zbA data k n l).length≤(l.map List.length).sum+2*l.length+B+20:=by
 have h1:=zCG l;have h2:=znJ (l.take (l.length-1));have h3:=zFp l;have h4:(zcy data n).length≤B:=by
  unfold zcy;rw[List.getD_eq_getElem?_getD];cases hd:data[n.toNat]? with
  |none=>simp
  |some D=>exact hB D (List.mem_of_getElem? hd)
 unfold zbA
 repeat' split
 all_goals simp at *
 all_goals omega
mutual
theorem zFB{data:List Dat}{B:Nat}(hB:∀ D∈data,D.name.length≤B):∀ v:VT,(txt data v).length+2≤v.nodes*(B+24)
 |.mk k n ks=>by
  have h1:=zj2 hB ks;have h2:=zFz hB k n (zaP data ks);rw[txt];have h3:(zaP data ks).length=ks.length:=by rw[zeA];simp
  have e:(VT.mk k n ks).nodes*(B+24)=VT.nodesL ks*(B+24)+(B+24):=by rw[VT.nodes,Nat.add_mul,Nat.one_mul]
  rw[e];omega
theorem zj2{data:List Dat}{B:Nat}(hB:∀ D∈data,D.name.length≤B):∀ ks:List VT,((zaP data ks).map List.length).sum+2*ks.length≤VT.nodesL ks*(B+24)
 |[]=>by simp[zaP]
 |v::vs=>by have h1:=zFB hB v;have h2:=zj2 hB vs;simp only[zaP,List.map_cons,List.sum_cons,VT.nodesL,Nat.add_mul,List.length_cons]at *;omega
end
theorem zFC{data:List Dat}{B:Nat}(hB:∀D∈data,D.name.length≤B)(ks:List VT)(k:Nat):(zca ((zaP data ks).take k)).length≤VT.nodesL ks*(B+24):=by
 have h1:=zj2 hB ks;have h2:=znJ ((zaP data ks).take k);have h3:=zFm (zaP data ks) k;have h4:(zaP data ks).length=ks.length:=by rw[zeA];simp
 have h5:((zaP data ks).take k).length≤ks.length:=by rw[List.length_take];omega
 omega
theorem zFK(n k:Nat)(hn:n≤200)(hk:k≤1024):n*k≤204800:=Nat.mul_le_mul hn hk
theorem zG5{data:List Dat}(hD:zaB data=true)(hB:∀ D∈data,D.name.length≤1000):∀ (m:Nat) (v:VT),v.nodes≤m→v.nodes≤200→zaC data 0 v=true→∀ (H:zaa),H[0]?=some .nodr→∀ K:Kt,K (.str (txt data v)) H →
  ACalls tP zi5 [.sl (data.map Dat.cs) .none,.agg v.cs] H K:=by
 intro m;induction m with
 |zero=>intro v h;have:=v.nodes_pos;omega
 |succ m ih=>
  intro v hm hn hok H h0 K hK;obtain⟨k,n,ks⟩:=v;have hnn:(VT.mk k n ks).nodes=VT.nodesL ks+1:=by simp[VT.nodes]
  have hll:=VT.len_le ks;have hlt0:0<H.length:=(List.getElem?_eq_some_iff.1 h0).1;refine ACalls.out (zG3 λhs=>?_);simp only[zaC,Bool.and_eq_true]at hok;have hkid:=zj4 hok.2;simp[zxd,VT.cs,Nat.add_assoc];unfold zkt;refine ALoop.own 5 zbr 1 rfl ?_;have hH1:(H++[AB.cells [.int .i64 k,.int .i64 n,.sl (VT.css ks) .none]]).length=H.length+1:=by simp
  rw[hH1,List.append_assoc];show zkt _ _ (.sl (zbz ((zaP data ks).take 0)) (.own (H.length+1))) _ _ _ (H++[.cells [.int .i64 k,.int .i64 n,.sl (VT.css ks) .none],.perm zbr 1 0]) _;have hp3:∀n',HSc (H++[.cells [.int .i64 k,.int .i64 n,.sl (VT.css ks) .none],.perm zbr 1 n']):=λn'=>hs.append (by simp[AB.sc,AV.scA,AV.scB]);have htl:(zaP data ks).length=ks.length:=by rw[zeA];simp
  refine zG1 (Inv:=λq t5 t13 H'=>∃j:Nat,j≤ks.length∧ks.length-j=q∧t13=.int .i64 j∧t5=.sl (zbz ((zaP data ks).take j)) (.own (H.length+1))∧H'=H++[.cells [.int .i64 k,.int .i64 n,.sl (VT.css ks) .none],.perm zbr 1 j]) ks.length ?_ ?_
  ·intro _;exact⟨0,by omega,rfl,rfl,rfl,rfl⟩
  ·rintro q t5 t13 H' ⟨j,hj,rfl,rfl,rfl,rfl⟩ hsc' hlen hsF Kb hKb;by_cases hlt:j<ks.length
   ·have hki:=VT.kid_lt (k:=k) (n:=n) hlt;obtain⟨x1,x2,x3,hvx,hxa,hxb,hxc⟩:=zaU ks[j];simp[zpW,hlt,hvx,Nat.add_assoc];refine⟨⟨hxa,hxb,hxc⟩,?_⟩;rw[←hvx];refine ih ks[j] (by omega) (by omega) (hkid _ (List.getElem_mem hlt)) _ (by rw[List.getElem?_append_left hlt0];exact h0) _ ?_;simp[zas,zba,plain,AV.pd];simp only[zay,zbb,za2];have hsl:(zbz ((zaP data ks).take j)).length=j:=by simp;omega
    simp[List.set_append_right,hsl];refine⟨⟨by omega,by omega⟩,?_⟩;have hst:zbz ((zaP data ks).take j)++[[AV.str (txt data ks[j])]]=zbz ((zaP data ks).take (j+1)):=by rw[zeA,←List.map_take,←List.map_take,List.take_succ_eq_append_getElem hlt];simp only[zbz,List.map_append,List.map_cons,List.map_nil]
    rw[hst,zax (by omega) (by omega)];exact hKb _ _ ⟨ks.length-(j+1),by omega,Back.at (J:=[.cells (ks[j]).cs]) (H2:=H++[.cells [.int .i64 k,.int .i64 n,.sl (VT.css ks) .none],.perm zbr 1 (j+1)]) (by simp) (by simp) (hp3 _) (by simp[zks,ux,AV.sc,AV.scA,AV.scB,AV.scV]) ⟨_,_,rfl,j+1,by omega,rfl,rfl,rfl,rfl⟩⟩
   ·obtain rfl:j=ks.length:=by omega
    rw[List.take_of_length_le (by omega)];simp[zpW];have hb1:=zFK (VT.nodesL ks) 1024 (by omega) (by omega);have hJl:∀k',(zca ((zaP data ks).take k')).length≤204800:=λk'=>Nat.le_trans (zFC hB ks k') hb1;have hS0:((zaP data ks).map List.length).sum≤204800:=by have h1:=zj2 hB ks;omega
    have hJ0:=hJl ks.length;rw[List.take_of_length_le (by omega)]at hJ0;obtain⟨J,hJ⟩:∃J:zaa,J=[.cells [.int .i64 k,.int .i64 n,.sl (VT.css ks) .none],.perm zbr 1 ks.length]:=⟨_,rfl⟩;rw[←hJ];have h0J:(H++J)[0]?=some .nodr:=by rw[List.getElem?_append_left hlt0];exact h0
    have hO:∀s,txt data (.mk k n ks)=s→Out H.length K (.str s) (H++J):=λs he=>by subst he;exact Out.at rfl (Nat.le_refl _) hs .rfl' rfl rfl hK
    have hg:(H++J)[H.length]?=some (.cells [.int .i64 k,.int .i64 n,.sl (VT.css ks) .none]):=by rw[hJ];simp
    rw[txt]at hO;generalize zaP data ks=L at *;have e40:(40:UInt8)::(zca L++[41])=zbX L:=rfl;refine ACalls.wk (args':=[.sl (zbz L) .none,.str [44,32]]) (zyj L [44,32] (by omega) (by have:(Lib.join L [44,32]).length≤204800:=hJ0;omega) _ h0J _ ?_) ⟨.atom (.sl _ _),.rfl',trivial⟩;change (λt25 H_1=>_) (AV.str (zca L)) (H++J);have hJ1:(Lib.join L [44,32]).length≤204800:=hJ0;simp[hg];refine⟨by omega,by omega,?_⟩;by_cases k1:k=1
    ·simp[k1];exact hO _ (by simp[zbA,k1])
    by_cases k2:k=2
    ·simp[k2];exact hO _ (by simp[zbA,k2])
    by_cases k3:k=3
    ·simp[k3];exact hO _ (by simp[zbA,k3])
    have b1:(k == 1)=false:=by simpa using k1
    have b2:(k == 2)=false:=by simpa using k2
    have b3:(k == 3)=false:=by simpa using k3
    have k4:k≠4:=by rintro rfl;have:=hok.1;simp[zaE]at this;omega
    have b4:(k == 4)=false:=by simpa using k4
    by_cases k7:k=7
    ·simp[k7];refine⟨by omega,?_⟩;exact hO _ (by simp[zbA,k7,zbX,zca])
    by_cases k8:k=8
    ·simp[k8];refine⟨by omega,?_⟩;exact hO _ (by simp[zbA,k8,zbX,zca])
    have b7:(k == 7)=false:=by simpa using k7
    have b8:(k == 8)=false:=by simpa using k8
    simp[b1,b2,b3,b4,b7,b8];by_cases k9:k=9
    ·have hpos:1≤ks.length:=by have:=hok.1;rw[k9]at this;simp[zaE]at this;omega
     obtain⟨q,hq⟩:∃q,L.length=q+1:=⟨L.length-1,by omega⟩;have w1:IntKind.i64.wrap (q:Int)=q:=zax (by omega) (by omega);have hsl:∀(c:List AV),c∈zbz L→c.length=1:=λc hc=>by obtain⟨s,_,rfl⟩:=List.mem_map.1 hc;rfl
     have hq2:q<L.length:=by omega
     have hgq:(zbz L)[q]'(by simpa using hq2)=[.str L[q]]:=by simp[zbz]
     have htk:(zbz L).take q=zbz (L.take q):=by simp[zbz]
     have hJq:=hJl q;have hLq:=hq2;simp[k9,hq,w1];refine⟨⟨by omega,hsl⟩,?_⟩;rw[htk];refine za0 (.str (zca (L.take q))) (λJ'=>zyj (L.take q) [44,32] (by simp;omega) (by have:(Lib.join (L.take q) [44,32]).length≤204800:=hJq;omega) _ (by rw[List.getElem?_append_left (by simp;omega)];exact h0J) _ ⟨rfl,rfl⟩) ?_;have hLl:L[q].length≤204800:=by
      have h1:=zCu L q;have h2:L.getD q []=L[q]:=by simp[List.getD_eq_getElem?_getD,hq2]
      rw[h2]at h1;omega
     simp[hgq];refine⟨by omega,by omega,by omega,by omega,?_⟩;exact hO _ (by simp[zbA,k9,hq,List.getD_eq_getElem?_getD,hq2])
    have b9:(k == 9)=false:=by simpa using k9
    simp[b9];by_cases k5:k=5
    ·have hnum:0≤n∧n.toNat<data.length:=by
      have:=hok.1;rw[k5]at this;simp[zaE]at this;refine⟨this.1,?_⟩;cases hd:data[n.toNat]? with
      |none=>rw[hd]at this;simp at this
      |some d=>exact(List.getElem?_eq_some_iff.1 hd).1
     obtain⟨p,rfl⟩:∃p:Nat,n=p:=⟨n.toNat,by omega⟩;have hp:p<data.length:=by have:=hnum.2;simpa using this
     have e1:(data.map Dat.cs)[p]?=some (data[p]).cs:=by simp[hp]
     have hna:zcy data p=(data[p]).name:=by simp[zcy,List.getD_eq_getElem?_getD,hp]
     simp[k5,hg,hp,e1,Dat.cs];by_cases hL0:L=[]
     ·subst hL0;simp;exact hO _ (by simp[zbA,k5,hna])
     ·have hne:((L.length:Int) == 0)=false:=by have:L.length≠0:=λh=>hL0 (List.eq_nil_of_length_eq_zero h);simp;omega
      have hnl:=hB _ (List.getElem_mem hp);simp[hne];refine⟨by omega,?_⟩;exact hO _ (by simp[zbA,k5,hL0,hna,zbX,zca])
    have b5:(k == 5)=false:=by simpa using k5
    simp[b5];exact hO _ (by simp[zbA,k1,k2,k3,k5,k7,k8,k9,zbX,zca])
theorem zj1(kw:List UInt8→Bool):∀(m:Nat) (r:List UInt8) (p:Nat) (l:List Tk),r.length≤m→zbf kw r p=.ok l→∀t∈l,t.text.length≤r.length:=by
 intro m;induction m with
 |zero=>intro r p l hm h t ht;have:r=[]:=List.eq_nil_of_length_eq_zero (by omega);subst this;unfold zbf at h;cases h;simp at ht;subst ht;simp
 |succ m ih=>
  intro r p l hm h t ht;unfold zbf at h;split at h
  ·cases h;simp at ht;subst ht;simp
  ·rename_i b r';simp at hm;split at h
   ·have:=ih r' _ l (by omega) h t ht;simp;omega
   ·split at h
    ·have h1:=(List.dropWhile_sublist (p:=(· != 10)) (l:=r')).length_le;have:=ih _ _ l (by omega) h t ht;simp;omega
    ·split at h
     ·cases h
     ·rename_i k n hk;split at h
      ·cases h
      ·rename_i l2 hl2;cases h;rcases List.mem_cons.1 ht with rfl | ht
       ·simp[List.length_take];omega
       ·have:=ih _ _ l2 (by simp;omega) hl2 t ht;simp at this ⊢;omega
theorem zFr{kw:List UInt8→Bool}{s:List UInt8}{a e:Tk}(h:zbf kw s 0=.ok [a,e])(hk:a.kind=2)(ht:a.text=s):s≠[]∧∀b∈s,bIn b=true:=by
 unfold zbf at h;split at h
 ·cases h
 ·rename_i b r;refine⟨by simp,?_⟩;split at h
  ·have:=zj1 kw _ r _ _ (Nat.le_refl _) h a (by simp);rw[ht]at this;simp only[List.length_cons]at this;omega
  ·split at h
   ·have h1:=(List.dropWhile_sublist (p:=(· != 10)) (l:=r)).length_le;have:=zj1 kw _ _ _ _ (Nat.le_refl _) h a (by simp);rw[ht]at this;simp at this;omega
   ·split at h
    ·cases h
    ·rename_i k n hkn;split at h
     ·cases h
     ·rename_i l2 hl2;injection h with h
      injection h with h1 h2
      subst h1;simp only at hk ht;subst hk;unfold tok at hkn;split at hkn
      ·rename_i hb;simp only at hkn;split at hkn
       ·cases hkn
       ·simp only[Except.ok.injEq,Prod.mk.injEq]at hkn;obtain⟨hk2,rfl⟩:=hkn;have hall:r.takeWhile bIn=r:=by
         have:((b::r).take ((r.takeWhile bIn).length+1)).length=(b::r).length:=by rw[ht]
         simp only[List.length_take,List.length_cons]at this;have hle:=(List.takeWhile_prefix (p:=bIn) (l:=r)).length_le;exact(List.takeWhile_prefix (p:=bIn) (l:=r)).eq_of_length (by omega)
        have hbi:bIn b=true:=by unfold bIn;simp only[Bool.or_eq_true]at hb ⊢;rcases hb with hb|hb <;> simp[hb]
        intro x hx;rcases List.mem_cons.1 hx with rfl|hx
        ·exact hbi
        ·rw[←hall]at hx;exact List.all_eq_true.1 List.all_takeWhile x hx
      ·split at hkn
       ·simp only at hkn;split at hkn
        ·cases hkn
        ·split at hkn <;> simp at hkn
       ·simp only at hkn;split at hkn <;> simp at hkn
theorem zwR{s:List UInt8}(h:zb3 s=true):s≠[]∧∀b∈s,bIn b=true:=by
 unfold zb3 zbK zew at h;split at h
 ·simp at h
 ·split at h
  ·simp at h
  ·rename_i l hl;simp only[Bool.and_eq_true]at h;obtain⟨_,h⟩:=h
   match l,hl,h with
   |[a,e],hl,h=>simp only[Bool.and_eq_true,beq_iff_eq]at h;exact zFr hl h.1 h.2
   |[],_,h=>cases h
   |[_],_,h=>cases h
   |_::_::_::_,_,h=>cases h
theorem zFs{kw:List UInt8→Bool}{s:List UInt8}{a e:Tk}(h:zbf kw s 0=.ok [a,e])(hk:a.kind=2)(ht:a.text=s):s.length≤24∧∃b r,s=b::r∧bUp b=true:=by
 unfold zbf at h;split at h
 ·cases h
 ·rename_i b r;split at h
  ·have:=zj1 kw _ r _ _ (Nat.le_refl _) h a (by simp);rw[ht]at this;simp only[List.length_cons]at this;omega
  ·split at h
   ·have h1:=(List.dropWhile_sublist (p:=(· != 10)) (l:=r)).length_le;have:=zj1 kw _ _ _ _ (Nat.le_refl _) h a (by simp);rw[ht]at this;simp at this;omega
   ·split at h
    ·cases h
    ·rename_i k n hkn;split at h
     ·cases h
     ·rename_i l2 hl2;injection h with h
      injection h with h1 h2
      subst h1;simp only at hk ht;subst hk;unfold tok at hkn;split at hkn
      ·rename_i hb;simp only at hkn;split at hkn
       ·cases hkn
       ·rename_i h24;simp only[Except.ok.injEq,Prod.mk.injEq]at hkn;obtain⟨hk2,rfl⟩:=hkn;have hle:(b::r).length≤(r.takeWhile bIn).length+1:=by
         have:((b::r).take ((r.takeWhile bIn).length+1)).length=(b::r).length:=by rw[ht]
         rw[List.length_take]at this;omega
        refine⟨by omega,b,r,rfl,?_⟩;by_cases hu:bUp b=true
        ·exact hu
        ·rw[if_neg hu]at hk2;split at hk2 <;> simp at hk2
      ·split at hkn
       ·simp only at hkn;split at hkn
        ·cases hkn
        ·split at hkn <;> simp at hkn
       ·simp only at hkn;split at hkn <;> simp at hkn
theorem zpw{s:List UInt8}(h:zb3 s=true):s.length≤24∧∃b r,s=b::r∧bUp b=true:=by
 unfold zb3 zbK zew at h;split at h
 ·simp at h
 ·split at h
  ·simp at h
  ·rename_i l hl;simp only[Bool.and_eq_true]at h;obtain⟨_,h⟩:=h
   match l,hl,h with
   |[a,e],hl,h=>simp only[Bool.and_eq_true,beq_iff_eq]at h;exact zFs hl h.1 h.2
   |[],_,h=>cases h
   |[_],_,h=>cases h
   |_::_::_::_,_,h=>cases h
theorem zha{data:List Dat}(hD:zaB data=true){i:Nat}(hi:i<data.length):zb3 (data[i]).name=true:=by
 have h1:zb8 data data 0=true:=by simp[zaB]at hD;exact hD.1.1.2
 have h2:=ziL data 0 i hi h1;simp only[zb7,Bool.and_eq_true]at h2;exact h2.1.1.1.1.1
theorem zB9{data:List Dat}(hD:zaB data=true){i j:Nat}(hi:i<data.length)(hj:j<data.length)(h:(data[i]).name=(data[j]).name):i=j:=by
 have hr:zb2 (zbh data)=false:=by simp[zaB]at hD;exact hD.1.2
 have key:∀a b:Nat,∀(ha:a<data.length) (hb:b<a),(data[a]).name≠(data[b]'(by omega)).name:=λa b ha hb e=>by have:=zvL (l:=zbh data) (i:=a) (j:=b) (by simpa[zbh]using ha) hb (by simpa[zbh]using e);rw[hr]at this;cases this
 rcases Nat.lt_trichotomy i j with h1|h1|h1
 ·exact absurd h.symm (key j i hj h1)
 ·exact h1
 ·exact absurd h (key i j hi h1)
def Dlm(r:List UInt8):Prop:=r=[]∨∃b r',r=b::r'∧(b=41∨b=44)
def okT(data:List Dat)(t:VT):Prop:=zaC data 0 t=true
theorem ztl{b:UInt8}(h:b=41∨b=44∨b=40):bIn b=false:=by rcases h with rfl|rfl|rfl <;> decide
theorem zDu{s t r1 r2:List UInt8}(hs:∀b∈s,bIn b=true)(ht:∀b∈t,bIn b=true)(h1:∀b r',r1=b::r'→bIn b=false)(h2:∀b r',r2=b::r'→bIn b=false)(h:s++r1=t++r2):s=t∧r1=r2:=by
 induction s generalizing t with
 |nil=>
  cases t with
  |nil=>exact⟨rfl,h⟩
  |cons b t=>have:=h1 b (t++r2) (by simpa using h);rw[ht b (by simp)]at this;cases this
 |cons a s ih=>
  cases t with
  |nil=>have:=h2 a (s++r1) (by simpa using h.symm);rw[hs a (by simp)]at this;cases this
  |cons b t=>simp only[List.cons_append,List.cons.injEq]at h;obtain⟨h3,h4⟩:=ih (t:=t) (λx hx=>hs x (by simp[hx])) (λx hx=>ht x (by simp[hx])) h.2;exact⟨by rw[h.1,h3],h4⟩
def znz(b:UInt8):Int:=if b=105 then 1 else if b=98 then 2 else if b=117 then 3 else if b=97 then 7 else if b=114 then 8 else if b=102 then 9 else if b=40 then 6 else 5
theorem zug{b:UInt8}(h:bUp b=true):znz b=5:=by
 have h1:65≤b.toNat∧b.toNat≤90:=by unfold bUp at h;simp at h;omega
 unfold znz;have:∀n:UInt8,(n.toNat<65∨90<n.toNat)→b≠n:=λn hn e=>by subst e;omega
 rw[if_neg (this _ (by decide)),if_neg (this _ (by decide)),if_neg (this _ (by decide)),if_neg (this _ (by decide)),if_neg (this _ (by decide)),if_neg (this _ (by decide)),if_neg (this _ (by decide))]
theorem zen{data:List Dat}{k n:Int}{ks:List VT}(h:okT data (.mk k n ks)):(k=1∨k=2∨k=3)∧n=0∧ks=[]∨k=5∧0≤n∧(∃hn:n.toNat<data.length,(ks.length:Int)=(data[n.toNat]).vars)∨(k=6∨k=7∨k=8)∧n=0∨k=9∧n=0∧1≤ks.length:=by
 unfold okT at h;simp only[zaC,Bool.and_eq_true]at h;have hs:=h.1;unfold zaE at hs;by_cases h123:(k == 1 || k == 2 || k == 3)=true
 ·rw[if_pos h123]at hs;simp at hs h123;exact .inl ⟨by omega,hs.1,hs.2⟩
 rw[if_neg h123]at hs;by_cases h4:(k == 4)=true
 ·rw[if_pos h4]at hs;simp at hs;omega
 rw[if_neg h4]at hs;by_cases h5:(k == 5)=true
 ·rw[if_pos h5]at hs;simp at h5 hs;refine .inr (.inl ⟨h5,hs.1,?_⟩);cases hd:data[n.toNat]? with
  |none=>rw[hd]at hs;simp at hs
  |some d=>rw[hd]at hs;obtain⟨hn,hd2⟩:=List.getElem?_eq_some_iff.1 hd;exact⟨hn,by rw[hd2];simpa using hs.2⟩
 rw[if_neg h5]at hs;by_cases h6:(k == 6)=true
 ·rw[if_pos h6]at hs;simp at h6 hs;exact .inr (.inr (.inl ⟨.inl h6,hs.1.1⟩))
 rw[if_neg h6]at hs;by_cases h78:(k == 7 || k == 8)=true
 ·rw[if_pos h78]at hs;simp at h78 hs;exact .inr (.inr (.inl ⟨by omega,hs.1⟩))
 rw[if_neg h78]at hs;by_cases h9:(k == 9)=true
 ·rw[if_pos h9]at hs;simp at h9 hs;exact .inr (.inr (.inr ⟨h9,hs.1.1,hs.1.2⟩))
 ·rw[if_neg h9]at hs;cases hs
theorem zoK{data:List Dat}{k n:Int}{ks:List VT}(h:okT data (.mk k n ks)):∀x∈ks,okT data x:=by unfold okT at h;simp only[zaC,Bool.and_eq_true]at h;exact zj4 h.2
theorem zpr{data:List Dat}(hD:zaB data=true){k n:Int}{ks:List VT}(h:okT data (.mk k n ks)):∃b r,txt data (.mk k n ks)=b::r∧znz b=k:=by
 rw[txt];rcases zen h with ⟨hk,_⟩|⟨rfl,h0,hn,_⟩|⟨hk,_⟩|⟨rfl,_⟩
 ·rcases hk with rfl | rfl | rfl
  ·exact⟨105,_,rfl,rfl⟩
  ·exact⟨98,_,rfl,rfl⟩
  ·exact⟨117,_,rfl,rfl⟩
 ·obtain⟨_,b,r,hb,hu⟩:=zpw (zha hD hn);have e:zcy data n=b::r:=by simp[zcy,List.getD_eq_getElem?_getD,hn,hb]
  by_cases hl:zaP data ks=[]
  ·exact⟨b,r,by simp[zbA,hl,e],zug hu⟩
  ·exact⟨b,r++zbX (zaP data ks),by simp[zbA,hl,e],zug hu⟩
 ·rcases hk with rfl | rfl | rfl
  ·exact⟨40,_,rfl,rfl⟩
  ·exact⟨97,_,rfl,rfl⟩
  ·exact⟨114,_,rfl,rfl⟩
 ·exact⟨102,_,by simp only[zbA];rfl,rfl⟩
theorem zuh{data:List Dat}(hD:zaB data=true){t:VT}(h:okT data t):∀r1 r2:List UInt8,txt data t++r1≠41::r2:=λr1 r2 e=>by
 obtain⟨k,n,ks⟩:=t;obtain⟨b,r,hb,hk⟩:=zpr hD h;rw[hb]at e;simp only[List.cons_append,List.cons.injEq]at e;rw[e.1]at hk;have hk5:k=5:=by rw[←hk];rfl
 subst hk5;rcases zen h with ⟨h1,_⟩|⟨_,h0,hn,_⟩|⟨h1,_⟩|⟨h1,_⟩
 ·omega
 ·obtain⟨_,b',r',hb',hu⟩:=zpw (zha hD hn);have e2:zcy data n=b'::r':=by simp[zcy,List.getD_eq_getElem?_getD,hn,hb']
  have:b=b':=by
   rw[txt]at hb;by_cases hl:zaP data ks=[]
   ·simp[zbA,hl,e2]at hb;exact hb.1.symm
   ·simp[zbA,hl,e2]at hb;exact hb.1.symm
  rw[←this,e.1]at hu;exact absurd hu (by decide)
 ·omega
 ·omega
theorem zCd{r:List UInt8}(h:Dlm r):∀b r',r=b::r'→bIn b=false:=λb r' e=>by
 rcases h with h|⟨b',r'',h,hb⟩
 ·rw[h]at e;cases e
 ·rw[h]at e;cases e;exact ztl (by rcases hb with hb|hb <;> simp[hb])
def zgT(data:List Dat)(t:VT):Prop:=∀(u:VT) (r1 r2:List UInt8),okT data u→Dlm r1→Dlm r2→txt data t++r1=txt data u++r2→t=u∧r1=r2
theorem znK(sep:List UInt8):Lib.joinTail sep []=[]:=rfl
theorem ziY(sep x:List UInt8)(r:List (List UInt8)):Lib.joinTail sep (x::r)=sep++x++Lib.joinTail sep r:=by simp[Lib.joinTail]
theorem zjX(l:List (List UInt8))(r:List UInt8):Dlm (Lib.joinTail [44,32] l++41::r):=by
 cases l with
 |nil=>exact .inr ⟨41,r,rfl,.inl rfl⟩
 |cons x l=>exact .inr ⟨44,_,by rw[ziY];rfl,.inr rfl⟩
theorem zuu{data:List Dat}:∀ (ks ls:List VT) (r1 r2:List UInt8),(∀ x∈ks,zgT data x)→(∀ x∈ls,okT data x)→Lib.joinTail [44,32] (zaP data ks)++41::r1=Lib.joinTail [44,32] (zaP data ls)++41::r2→ks=ls∧r1=r2
 |[],[],r1,r2,_,_,h=>by simp[zaP,znK]at h;exact⟨rfl,h⟩
 |[],b::ls,r1,r2,_,_,h=>by simp[zaP,znK,ziY]at h
 |a::ks,[],r1,r2,_,_,h=>by simp[zaP,znK,ziY]at h
 |a::ks,b::ls,r1,r2,hk,hl,h=>by simp only[zaP,ziY,List.append_assoc,List.cons_append,List.nil_append,List.cons.injEq,true_and]at h;obtain⟨h1,h2⟩:=hk a (by simp) b _ _ (hl b (by simp)) (zjX _ _) (zjX _ _) h;obtain⟨h3,h4⟩:=zuu ks ls r1 r2 (λx hx=>hk x (by simp[hx])) (λx hx=>hl x (by simp[hx])) h2;exact⟨by rw[h1,h3],h4⟩
theorem zut{data:List Dat}(hD:zaB data=true)(ks ls:List VT)(r1 r2:List UInt8)(hi:∀x∈ks,zgT data x)(hk:∀x∈ks,okT data x)(hl:∀x∈ls,okT data x)(h:zca (zaP data ks)++41::r1=zca (zaP data ls)++41::r2):ks=ls∧r1=r2:=by
 unfold zca at h;cases ks with
 |nil=>
  cases ls with
  |nil=>simp[zaP,Lib.join_nil]at h;exact⟨rfl,h⟩
  |cons b ls=>simp only[zaP,Lib.join_nil,Lib.join_cons,List.nil_append,List.append_assoc]at h;exact absurd h.symm (zuh hD (hl b (by simp)) _ _)
 |cons a ks=>
  cases ls with
  |nil=>simp only[zaP,Lib.join_nil,Lib.join_cons,List.nil_append,List.append_assoc]at h;exact absurd h (zuh hD (hk a (by simp)) _ _)
  |cons b ls=>simp only[zaP,Lib.join_cons,List.append_assoc]at h;obtain⟨h1,h2⟩:=hi a (by simp) b _ _ (hl b (by simp)) (zjX _ _) (zjX _ _) h;obtain⟨h3,h4⟩:=zuu ks ls r1 r2 (λx hx=>hi x (by simp[hx])) (λx hx=>hl x (by simp[hx])) h2;exact⟨by rw[h1,h3],h4⟩
theorem zus{data:List Dat}(hD:zaB data=true)(ks ls:List VT)(r1 r2:List UInt8)(hi:∀x∈ks,zgT data x)(hk:∀x∈ks,okT data x)(hl:∀x∈ls,okT data x)(h:zbX (zaP data ks)++r1=zbX (zaP data ls)++r2):ks=ls∧r1=r2:=by unfold zbX at h;simp only[List.cons_append,List.append_assoc,List.cons.injEq,true_and,List.nil_append]at h;exact zut hD ks ls r1 r2 hi hk hl h
theorem zwA(data:List Dat)(ks:List VT)(k:Nat):(zaP data ks).take k=zaP data (ks.take k):=by rw[zeA,zeA,List.map_take]
theorem zps(data:List Dat)(ks:List VT):(zaP data ks).length=ks.length:=by rw[zeA];simp
theorem zwf{ks:List VT}(h:1≤ks.length):∃x,ks=ks.take (ks.length-1)++[x]∧x∈ks∧∀data:List Dat,(zaP data ks).getD ((zaP data ks).length-1) []=txt data x:=by
 have hm:ks.length-1<ks.length:=by omega
 refine⟨ks[ks.length-1],?_,List.getElem_mem hm,λdata=>?_⟩
 ·conv=>lhs;rw[←List.take_append_drop (ks.length-1) ks]
  rw[List.drop_eq_getElem_cons hm,List.drop_eq_nil_of_le (by omega)]
 ·rw[zps,zeA];simp[List.getD_eq_getElem?_getD,hm]
theorem zwz{data:List Dat}(hD:zaB data=true):∀ (m:Nat) (t:VT),t.nodes≤m→okT data t→zgT data t
 |0,t,h,_=>by have:=t.nodes_pos;omega
 |m+1,.mk k n ks,hm,ht=>by
  rintro⟨k',n',ls⟩ r1 r2 hu d1 d2 h;obtain⟨b,r,hb,hbk⟩:=zpr hD ht;obtain⟨b',r',hb',hbk'⟩:=zpr hD hu;have hkk:k=k':=by rw[hb,hb']at h;simp only[List.cons_append,List.cons.injEq]at h;rw[←hbk,←hbk',h.1]
  subst hkk;have kids:=zoK ht;have kidsU:=zoK hu;have ih:∀x∈ks,zgT data x:=λx hx=>zwz hD m x (by
   obtain⟨i,hi,rfl⟩:=List.mem_iff_getElem.1 hx;have:=VT.kid_lt (k:=k) (n:=n) hi;omega) (kids x hx)
  rw[txt,txt]at h;rcases zen ht with ⟨hk,hn,he⟩|⟨rfl,h0,hn,hv⟩|⟨hk,hn⟩|⟨rfl,hn,hl⟩
  ·rcases zen hu with ⟨_,hn',he'⟩ | ⟨h1,_⟩ | ⟨h1,_⟩ | ⟨h1,_⟩
   ·subst hn hn' he he';refine⟨rfl,?_⟩;rcases hk with rfl|rfl|rfl <;> simpa[zbA]using h
   all_goals omega
  ·rcases zen hu with ⟨h1,_⟩ | ⟨_,h0',hn',hv'⟩ | ⟨h1,_⟩ | ⟨h1,_⟩
   ·omega
   ·have e1:zcy data n=(data[n.toNat]).name:=by simp[zcy,List.getD_eq_getElem?_getD,hn]
    have e2:zcy data n'=(data[n'.toNat]).name:=by simp[zcy,List.getD_eq_getElem?_getD,hn']
    have s1:=(zwR (zha hD hn)).2;have s2:=(zwR (zha hD hn')).2;have f:∀(ls:List VT) (n:Int),zbA data 5 n (zaP data ls)=zcy data n++(if ls=[] then [] else zbX (zaP data ls)):=λls n=>by
     cases ls with
     |nil=>simp[zbA,zaP]
     |cons a l=>simp[zbA,zaP]
    rw[f,f,e1,e2,List.append_assoc,List.append_assoc]at h;have g:∀(ls:List VT) (r:List UInt8),Dlm r→∀b r',(if ls=[] then ([]:List UInt8) else zbX (zaP data ls))++r=b::r'→bIn b=false:=λls r hd b r' e=>by
     by_cases hl:ls=[]
     ·rw[if_pos hl,List.nil_append]at e;exact zCd hd b r' e
     ·rw[if_neg hl]at e;unfold zbX at e;simp only[List.cons_append,List.cons.injEq]at e;rw[←e.1];exact ztl (.inr (.inr rfl))
    obtain⟨g1,g2⟩:=zDu s1 s2 (g ks r1 d1) (g ls r2 d2) h;have hij:=zB9 hD hn hn' g1;have hnn:n=n':=by omega
    subst hnn;have hlen:ks.length=ls.length:=by omega
    by_cases hks:ks=[]
    ·have hls:ls=[]:=by subst hks;exact List.eq_nil_of_length_eq_zero (by simpa using hlen.symm)
     subst hks hls;exact⟨rfl,by simpa using g2⟩
    ·have hls:ls≠[]:=λe=>hks (by subst e;exact List.eq_nil_of_length_eq_zero (by simpa using hlen));rw[if_neg hks,if_neg hls]at g2;obtain⟨q1,q2⟩:=zus hD ks ls r1 r2 ih kids kidsU g2;exact⟨by rw[q1],q2⟩
   all_goals omega
  ·rcases zen hu with ⟨h1,_⟩ | ⟨h1,_⟩ | ⟨_,hn'⟩ | ⟨h1,_⟩
   ·omega
   ·omega
   ·subst hn hn';have hq:zbX (zaP data ks)++r1=zbX (zaP data ls)++r2:=by rcases hk with rfl | rfl | rfl <;> simpa[zbA]using h
    obtain⟨q1,q2⟩:=zus hD ks ls r1 r2 ih kids kidsU hq;exact⟨by rw[q1],q2⟩
   ·omega
  ·rcases zen hu with ⟨h1,_⟩ | ⟨h1,_⟩ | ⟨h1,_⟩ | ⟨_,hn',hl'⟩
   ·omega
   ·omega
   ·omega
   ·subst hn hn';obtain⟨x,ex,hx,gx⟩:=zwf hl;obtain⟨y,ey,hy,gy⟩:=zwf hl';have f:∀ l:List (List UInt8),zbA data 9 0 l=[102,110,40]++zca (l.take (l.length-1))++[41,32,45,62,32]++l.getD (l.length-1) []:=λl=>by simp[zbA]
    rw[f,f,gx,gy,zps,zps,zwA,zwA]at h;simp only[List.append_assoc,List.cons_append,List.nil_append,List.cons.injEq,true_and]at h;obtain⟨q1,q2⟩:=zut hD _ _ _ _ (λz hz=>ih z (List.mem_of_mem_take hz)) (λz hz=>kids z (List.mem_of_mem_take hz)) (λz hz=>kidsU z (List.mem_of_mem_take hz)) h;simp only[List.cons.injEq,true_and]at q2;obtain⟨q3,q4⟩:=ih x hx y r1 r2 (kidsU y hy) d1 d2 q2;exact⟨by rw[ex,ey,q1,q3],q4⟩
theorem zFA{data:List Dat}(hD:zaB data=true){t u:VT}(ht:okT data t)(hu:okT data u)(h:txt data t=txt data u):t=u:=
 (zwz hD _ t (Nat.le_refl _) ht u [] [] hu (.inl rfl) (.inl rfl) (by simpa using h)).1
theorem zvh{data:List Dat}:∀ (m:Nat) (t:VT),t.nodes≤m→okT data t→∀ vars:Int,zaC data vars t=true
 |0,t,h,_,_=>by have:=t.nodes_pos;omega
 |m+1,.mk k n ks,hm,ht,vars=>by
  have kids:=zoK ht;have k4:(k == 4)=false:=by rcases zen ht with ⟨h,_⟩|⟨h,_⟩|⟨h,_⟩|⟨h,_⟩ <;> simp <;> omega
  unfold okT at ht;simp only[zaC,Bool.and_eq_true]at ht ⊢;refine⟨?_,?_⟩
  ·have:=ht.1;unfold zaE at this ⊢;rw[k4]at this ⊢;exact this
  ·have hL:∀l:List VT,(∀x∈l,x.nodes≤m∧okT data x)→zaQ data vars l=true:=by
    intro l;induction l with
    |nil=>intro _;rfl
    |cons a l ih=>intro h;simp only[zaQ,Bool.and_eq_true];exact⟨zvh m a (h a (by simp)).1 (h a (by simp)).2 vars,ih λx hx=>h x (by simp[hx])⟩
   exact hL ks λx hx=>⟨by
    obtain⟨i,hi,rfl⟩:=List.mem_iff_getElem.1 hx;have:=VT.kid_lt (k:=k) (n:=n) hi;omega,kids x hx⟩
theorem zdB{data:List Dat}{t:VT}(h:zaz data 0 t=true):okT data t:=by simp[zaz]at h;exact h.2
theorem zDv{data:List Dat}(hD:zaB data=true):∀D∈data,D.name.length≤1000:=λD hd=>by obtain⟨i,hi,rfl⟩:=List.mem_iff_getElem.1 hd;have:=(zpw (zha hD hi)).1;omega
theorem zOE{data:List Dat}(hD:zaB data=true)(t:VT)(ht:zaz data 0 t=true)(H:zaa)(h0:H[0]?=some .nodr)(K:Kt)(hK:K (.str (txt data t)) H):
  ACalls tP zoD [.sl (data.map Dat.cs) .none,.agg t.cs] H K:=by
 refine ACalls.out (zOD λhs=>?_);have hn:=zfF ht;have hlt0:0<H.length:=(List.getElem?_eq_some_iff.1 h0).1;obtain⟨x,y,z,hvx,hx,hy,hz⟩:=zaU t;simp[zz3,hvx];rw[←hvx];refine zPJ data 101 t (by omega) _ _ ?_;have hv:zaz data 101 t=true:=by have:=zvh t.nodes t (Nat.le_refl _) (zdB ht) 101;simp[zaz,this];omega
 rw[hv];simp[hvx];rw[←hvx];refine zG5 hD (zDv hD) t.nodes t (Nat.le_refl _) hn (zdB ht) _ (by rw[List.getElem?_append_left hlt0];exact h0) _ ?_;exact Out.at rfl (Nat.le_refl _) hs .rfl' rfl rfl hK
end Go.Proofs.YtaifokkaaahdoaaGreatDoor
namespace Go.Proofs.YtaifokkaaahdoaaGreatDoor
open Go Go.Abs
set_option maxRecDepth 100000
def zMe(_:Nat):List Bool:=[]
noncomputable def zMf:Code:=Tryz.f35.body.getD .skip
def zy8(t0 t1:AV)(H:zaa)(K:Kt):Prop:=
 zdH H λt7 H=>
 zef H λt8 H=>
 zao [.snil,(.int .i64 0),.unk,.snil,.snil,.snil,.unk] [(0,1),(1,1),(2,1),(3,1),(4,1),(5,1),(6,1)] [(0,t0),(1,t1),(2,t7),(6,t8)] λt9=>
 zav t9 H λt10 H=>
 K t10 H
theorem zMg{t0 t1:AV}{H:zaa}{K:Kt}(h:HSc H→zy8 t0 t1 H K):ACalls tP zou [t0,t1] H K:=
 zan (M:=zMe) Tryz.func35 (c:=zMf) (by kernel_rfl) (λhs=>Eq.mpr (by kernel_rfl) (h hs))
def zMm:Nat→List Bool
 |200007=>rl false [0,9]
 |_=>[]
noncomputable def zMn:Code:=Tryz.f38.body.getD .skip
def zdn(t0 t8:AV)(H:zaa)(K:Kt):Prop:=
 zaF t0 λt50=>
 zaf 4 t50 λt51=>
 zae false 1 t51 H λt52=>
 zas 1 [(.bool false)] 1 [(0,(.bool false))] λt53=>
 zay zfp 1 1 t52 t53 H λt54 H=>
 zaF t0 λt55=>
 zaf 4 t55 λt56=>
 zak 1 t56 t54 H λH=>
 zaF t0 λt59=>
 zaf 5 t59 λt60=>
 zae false 1 t60 H λt61=>
 zas 1 [.snil] 1 [(0,.snil)] λt62=>
 zay zfo 1 24 t61 t62 H λt63 H=>
 zaF t0 λt64=>
 zaf 5 t64 λt65=>
 zak 1 t65 t63 H λH=>
 K t8 H
def zzb(t0 t1:AV)(H:zaa)(K:Kt):Prop:=
 zav t1 H λt3 H=>
 zad H (λK'=>K' t0 H) λt9=>
 zad H (λK'=>zaF t9 (K' · H)) λt10=>
 zad H (λK'=>zaf 0 t10 (K' · H)) λt11=>
 zad H (λK'=>zam false 1 t11 H (K' · H)) λt12=>
 zad H (λK'=>zam true 3 t3 H (K' · H)) λt13=>
 zaM H (λH K'=>ACalls tP zoD [t12,t13] H K') λt14=>
 zad H (λK'=>K' t14 H) λt5=>
 zaF t0 λt17=>
 zaf 2 t17 λt18=>
 zae false 1 t18 H λt19=>
 zdp (.int .i64 0) true t19 t5 H λt21=>
 zaI t21 0 λt22=>
 zaI t21 1 λt23=>
 zag t23
 (K t22 H)
 (zaF t0 λt27=>
 zaf 3 t27 λt28=>
 zae false 1 t28 H λt29=>
 zah 1 t29 λt30=>
 zaF t0 λt32=>
 zaf 2 t32 λt33=>
 zae false 1 t33 H λt34=>
 zcC t34 t5 t30 H λH=>
 zad H (λK'=>K' t0 H) λt37=>
 zad H (λK'=>zaF t37 (K' · H)) λt38=>
 zad H (λK'=>zaf 3 t38 (K' · H)) λt39=>
 zad H (λK'=>zam false 1 t39 H (K' · H)) λt40=>
 zad H (λK'=>zam true 3 t3 H (K' · H)) λt41=>
 zad H (λK'=>zah 1 t40 (K' · H)) λt42=>
 zad H (λK'=>zas 3 [(.int .i64 0),(.int .i64 0),.snil] 1 [(0,(.agg [(.int .i64 0),(.int .i64 0),.snil]))] (K' · H)) λt43=>
 zay zbe 3 40 t40 t43 H λt44 H=>
 (zaj 3 t44 t42 λt45=>
 (zak 3 t45 t41 H λH=>
 zaF t37 λt46=>
 zaf 3 t46 λt47=>
 zak 1 t47 t44 H λH=>
 zdn t0 t30 H K)∧(zaF t37 λt46=>
 (zak 3 t45 t41 H λH=>
 zaf 3 t46 λt47=>
 zak 1 t47 t44 H λH=>
 zdn t0 t30 H K)∧(zaf 3 t46 λt47=>
 (zak 3 t45 t41 H λH=>
 zak 1 t47 t44 H λH=>
 zdn t0 t30 H K)∧(zak 1 t47 t44 H λH=>
 zak 3 t45 t41 H λH=>
 zdn t0 t30 H K))))∧(zaF t37 λt46=>
 (zaj 3 t44 t42 λt45=>
 (zak 3 t45 t41 H λH=>
 zaf 3 t46 λt47=>
 zak 1 t47 t44 H λH=>
 zdn t0 t30 H K)∧(zaf 3 t46 λt47=>
 (zak 3 t45 t41 H λH=>
 zak 1 t47 t44 H λH=>
 zdn t0 t30 H K)∧(zak 1 t47 t44 H λH=>
 zak 3 t45 t41 H λH=>
 zdn t0 t30 H K)))∧(zaf 3 t46 λt47=>
 (zaj 3 t44 t42 λt45=>
 (zak 3 t45 t41 H λH=>
 zak 1 t47 t44 H λH=>
 zdn t0 t30 H K)∧(zak 1 t47 t44 H λH=>
 zak 3 t45 t41 H λH=>
 zdn t0 t30 H K))∧(zak 1 t47 t44 H λH=>
 zaj 3 t44 t42 λt45=>
 zak 3 t45 t41 H λH=>
 zdn t0 t30 H K))))
theorem zMo{t0 t1:AV}{H:zaa}{K:Kt}(h:HSc H→zzb t0 t1 H K):ACalls tP zgm [t0,t1] H K:=
 zan (M:=zMm) Tryz.func38 (c:=zMn) (by kernel_rfl) (λhs=>Eq.mpr (by kernel_rfl) (h hs))
def zkp:Nat→List Bool
 |3=>rl false [0,1,4,1,2,3,11]
 |_=>[]
noncomputable def zpU:Code:=Tryz.f109.body.getD .skip
noncomputable def zGV:List ResultVar:=Tryz.f109.results.toList
def zkq(t0 t5 t8 t9 t10:AV):List AV:=t0::ux 4 (t5::ux 2 (t8::t9::t10::ux 11 []))
def zGT:List Bool:=zkp 3
noncomputable def zGR:Code:=zaq [1,1,0,1,0,0] zpU
def zGQ(K:Kt):AExit→List AV→zaa→Prop:=zar tP zkp [1,1,0,1,0] zpU (zaA tP zGV K)
def zpV(t0 t5 t8 t9 t10:AV)(H:zaa)(K:Kt):Prop:=ALoop tP zGR (zGQ K) (zkq t0 t5 t8 t9 t10) H
def zpT(t0 t5 t8 t9 t10:AV)(H:zaa)(K:Kt)(Kb3:Lt):Prop:=
 zac .lss false t10 t9 λt11=>
 zag t11
 (zaj 3 t8 t10 λt12=>
 zae true 3 t12 H λt13=>
 zaw [(.int .i64 0),(.int .i64 0),.snil] H λt7 H=>
 zak 3 t7 t13 H λH=>
 zae true 3 t7 H λt16=>
 ACalls tP zgm [t0,t16] H λt17 H=>
 zas 1 [(.int .i64 0)] 1 [(0,t17)] λt18=>
 zay zcQ 1 8 t5 t18 H λt19 H=>
 zac .add false t10 (.int .i64 1) λt20=>
 Kb3 (zkq t0 t19 t8 t9 t20) H)
 (K t5 H)
def zxb(t0 t1:AV)(H:zaa)(K:Kt):Prop:=
 zah 1 t1 λt9=>
 zpV t0 .snil t1 t9 (.int .i64 0) H K
theorem zGS{t0 t5 t8 t9 t10:AV}{H:zaa}{K:Kt}(Inv:Nat→AV→AV→zaa→Prop)(n:Nat)(h0:HSc H→Inv n t5 t10 H)(round:Rd2 (λt5=>λt10=>zkq t0 t5 t8 t9 t10) (λt5=>λt10=>λH Kb3=>zpT t0 t5 t8 t9 t10 H K Kb3) H Inv):zpV t0 t5 t8 t9 t10 H K:=
 lp2 (M:=zkp) zGT t5 t10 (by kernel_rfl) Inv n h0 round
theorem zGU{t0 t1:AV}{H:zaa}{K:Kt}(h:HSc H→zxb t0 t1 H K):ACalls tP zi4 [t0,t1] H K:=
 zan (M:=zkp) Tryz.func109 (c:=zpU) (by kernel_rfl) (λhs=>Eq.mpr (by kernel_rfl) (h hs))
def zmq:Nat→List Bool
 |12=>rl false [0,2,3,2,52,2,30]
 |_=>[]
noncomputable def zsf:Code:=Tryz.f76.body.getD .skip
noncomputable def zOx:List ResultVar:=Tryz.f76.results.toList
def zsg(t0 t1 t6:AV)(H:zaa)(K:Kt):Prop:=
 zaF t0 λt84=>
 zaf 5 t84 λt85=>
 zae false 1 t85 H λt86=>
 zaj 1 t86 t1 λt89=>
 zak 1 t89 t6 H λH=>
 K t6 H
def zgR(t0 t1 t6:AV)(H:zaa)(K:Kt):Prop:=
 zsg t0 t1 t6 H K
def zij(t0 t1 t5 t6 t59 t60:AV):List AV:=t0::t1::ux 3 (t5::t6::ux 52 (t59::t60::ux 30 []))
def zOv:List Bool:=zmq 12
noncomputable def zOt:Code:=zaq [1,1,1,1,1,0,1,0,1,1,1,0,1,0,0] zsf
def zOs(K:Kt):AExit→List AV→zaa→Prop:=zar tP zmq [1,1,1,1,1,0,1,0,1,1,1,0,1,0] zsf (zaA tP zOx K)
def zsi(t0 t1 t5 t6 t59 t60:AV)(H:zaa)(K:Kt):Prop:=ALoop tP zOt (zOs K) (zij t0 t1 t5 t6 t59 t60) H
def zsh(t0 t1 t5 t6 t59 t60:AV)(H:zaa)(K:Kt)(Kb12:Lt):Prop:=
 zac .add false t60 (.int .i64 1) λt82=>
 Kb12 (zij t0 t1 t5 t6 t59 t82) H
def zmr(t0 t1 t5 t6 t59 t60:AV)(H:zaa)(K:Kt)(Kb12:Lt):Prop:=
 zsh t0 t1 t5 t6 t59 t60 H K Kb12
def zse(t0 t1 t5 t6 t59 t60:AV)(H:zaa)(K:Kt)(Kb12:Lt):Prop:=
 zac .lss false t60 t59 λt61=>
 zag t61
 (zad H (λK'=>K' t0 H) λt64=>
 zad H (λK'=>zaF t64 (K' · H)) λt65=>
 zad H (λK'=>zaf 0 t65 (K' · H)) λt66=>
 zad H (λK'=>zam false 1 t66 H (K' · H)) λt67=>
 zad H (λK'=>zam true 3 t5 H (K' · H)) λt68=>
 zad H (λK'=>K' t60 H) λt69=>
 zaM H (λH K'=>ACalls tP zjB [t67,t68,t69] H K') λt70=>
 zad H (λK'=>K' t70 H) λt63=>
 zad H (λK'=>zaI t63 0 (K' · H)) λt71=>
 zad H (λK'=>zaI t63 1 (K' · H)) λt72=>
 zad H (λK'=>K' t71 H) λt8=>
 zad H (λK'=>K' t72 H) λt9=>
 zag t9
 (ACalls tP zi4 [t0,t8] H λt78 H=>
 zao [(.int .i64 0),.snil] [(0,1),(1,1)] [(0,t60),(1,t78)] λt79=>
 zas 2 [(.int .i64 0),.snil] 1 [(0,t79)] λt80=>
 zay ziM 2 32 t6 t80 H λt81 H=>
 zmr t0 t1 t5 t81 t59 t60 H K Kb12)
 (zmr t0 t1 t5 t6 t59 t60 H K Kb12))
 (zgR t0 t1 t6 H K)
def zfT(t0 t1 t5 t6 t38 t39:AV)(H:zaa)(K:Kt):Prop:=
 zag t39
 (zaf 2 t5 λt43=>
 zae false 1 t43 H λt44=>
 ACalls tP zi4 [t0,t44] H λt45 H=>
 zao [(.int .i64 0),.snil] [(0,1),(1,1)] [(1,t45)] λt46=>
 zas 2 [(.int .i64 0),.snil] 1 [(0,t46)] λt47=>
 zgR t0 t1 t47 H K)
 (zac .eql false t38 (.int .i64 5) λt49=>
 zag t49
 (zad H (λK'=>K' t0 H) λt50=>
 zad H (λK'=>zaF t50 (K' · H)) λt51=>
 zad H (λK'=>zaf 0 t51 (K' · H)) λt52=>
 zad H (λK'=>zam false 1 t52 H (K' · H)) λt53=>
 zad H (λK'=>zaf 1 t5 (K' · H)) λt54=>
 zad H (λK'=>zam false 1 t54 H (K' · H)) λt55=>
 zad H (λK'=>zaj 3 t53 t55 (K' · H)) λt56=>
 zad H (λK'=>zaf 2 t56 (K' · H)) λt57=>
 zad H (λK'=>zam false 1 t57 H (K' · H)) λt58=>
 zad H (λK'=>zah 1 t58 (K' · H)) λt59=>
 zad H (λK'=>K' (.int .i64 0) H) λt60=>
 zsi t0 t1 t5 t6 t59 t60 H K)
 (zgR t0 t1 t6 H K))
def zz1(t0 t1:AV)(H:zaa)(K:Kt):Prop:=
 zaF t0 λt11=>
 zaf 4 t11 λt12=>
 zae false 1 t12 H λt13=>
 zaj 1 t13 t1 λt15=>
 zae false 1 t15 H λt16=>
 zag t16
 (zaF t0 λt18=>
 zaf 5 t18 λt19=>
 zae false 1 t19 H λt20=>
 zaj 1 t20 t1 λt22=>
 zae false 1 t22 H λt23=>
 K t23 H)
 (zaF t0 λt25=>
 zaf 4 t25 λt26=>
 zae false 1 t26 H λt27=>
 zaj 1 t27 t1 λt29=>
 zak 1 t29 (.bool true) H λH=>
 zaF t0 λt31=>
 zaf 3 t31 λt32=>
 zae false 1 t32 H λt33=>
 zaj 3 t33 t1 λt35=>
 zae true 3 t35 H λt36=>
 zaw [(.int .i64 0),(.int .i64 0),.snil] H λt5 H=>
 zak 3 t5 t36 H λH=>
 zaf 0 t5 λt37=>
 zae false 1 t37 H λt38=>
 zac .eql false t38 (.int .i64 6) λt40=>
 zag t40
 (zfT t0 t1 t5 .snil t38 t40 H K)
 (zac .eql false t38 (.int .i64 8) λt41=>
 zfT t0 t1 t5 .snil t38 t41 H K))
theorem zOu{t0 t1 t5 t6 t59 t60:AV}{H:zaa}{K:Kt}(Inv:Nat→AV→AV→zaa→Prop)(n:Nat)(h0:HSc H→Inv n t6 t60 H)(round:Rd2 (λt6=>λt60=>zij t0 t1 t5 t6 t59 t60) (λt6=>λt60=>λH Kb12=>zse t0 t1 t5 t6 t59 t60 H K Kb12) H Inv):zsi t0 t1 t5 t6 t59 t60 H K:=
 lp2 (M:=zmq) zOv t6 t60 (by kernel_rfl) Inv n h0 round
theorem zOw{t0 t1:AV}{H:zaa}{K:Kt}(h:HSc H→zz1 t0 t1 H K):ACalls tP zhG [t0,t1] H K:=
 zan (M:=zmq) Tryz.func76 (c:=zsf) (by kernel_rfl) (λhs=>Eq.mpr (by kernel_rfl) (h hs))
def zOh(_:Nat):List Bool:=[]
noncomputable def zOi:Code:=Tryz.f74.body.getD .skip
def zmm(t0 t4:AV)(H:zaa)(K:Kt):Prop:=
 ACalls tP zeY [t0] H λt8 H=>
 zak 3 t4 t8 H λH=>
 zae true 3 t4 H λr0=>
 K r0 H
def zzU(t0 t1:AV)(H:zaa)(K:Kt):Prop:=
 zaw [(.bool false),.snil,.snil] H λt4 H=>
 zac .neq false t1 (.int .i64 1) λt6=>
 zag t6
 (zmm (.int .i64 0) t4 H K)
 (zmm t0 t4 H K)
theorem zOj{t0 t1:AV}{H:zaa}{K:Kt}(h:HSc H→zzU t0 t1 H K):ACalls tP zgp [t0,t1] H K:=
 zan (M:=zOh) Tryz.func74 (c:=zOi) (by kernel_rfl) (λhs=>Eq.mpr (by kernel_rfl) (h hs))
end Go.Proofs.YtaifokkaaahdoaaGreatDoor
namespace Go.Abs
open Go Go.RowKit
variable {P:Program} {B:Nat} {w:World} {G:Gh} {H:zaa}
theorem WkA.vrel{v:Value}{a b:AV}(h:WkA a b)(hr:VRel w G v a):VRel w G v b:=by
 cases h with
 |refl=>exact hr
 |sl es t=>exact VRel.of_a (WkA.arel (.sl es t) hr)
 |snil=>exact VRel.of_a (WkA.arel .snil hr)
theorem zBf{kvs kvs':List ((Int×Int)×AV)}(h:All2 (λp q=>p.1=q.1∧WkA p.2 q.2) kvs kvs'):∀{es:List MapEntry},All2 (ERelP w G) es kvs→All2 (ERelP w G) es kvs':=by
 induction kvs generalizing kvs' with
 |nil=>
  intro es hr;cases kvs' with
  |nil=>exact hr
  |cons b bs=>exact h.elim
 |cons a asx ih=>
  intro es hr;cases kvs' with
  |nil=>exact h.elim
  |cons b bs=>
   cases es with
   |nil=>exact hr.elim
   |cons e es=>exact⟨⟨by rw[hr.1.1,h.1.1],h.1.2.vrel hr.1.2⟩,ih h.2 hr.2⟩
inductive BWk:AB→AB→Prop
 |refl (b:AB):BWk b b
 |cells {cs ds:List AV} (h:All2 WkA cs ds):BWk (.cells cs) (.cells ds)
 |vec {e s n:Nat} {cs ds:List AV} (h:All2 WkA cs ds):BWk (.vec e s n cs) (.vec e s n ds)
 |mapP {kvs kvs':List ((Int×Int)×AV)} (h:All2 (λp q=>p.1=q.1∧WkA p.2 q.2) kvs kvs'):BWk (.mapP kvs) (.mapP kvs')
theorem BWk.ok{a b:AB}{gi:GI}(h:BWk a b)(hk:BlkOK B w G a gi):BlkOK B w G b gi:=by
 cases h with
 |refl=>exact hk
 |cells h=>
  cases gi with
  |blk b=>obtain⟨h1,h2,vs,e,h3,h4⟩:=hk;exact⟨h1,h2,vs,e,h3,h.wk h4⟩
  |own v s n=>exact hk.elim
  |gap=>exact hk.elim
 |mapP h=>
  cases gi with
  |blk b=>obtain⟨h1,h2,es,clk,h3,h4⟩:=hk;exact⟨h1,h2,es,clk,h3,zBf h h4⟩
  |own v s n=>exact hk.elim
  |gap=>exact hk.elim
 |vec h=>
  cases gi with
  |blk b=>exact hk.elim
  |own v s n=>obtain⟨h1,h2,⟨xs,h3,h4⟩,h5⟩:=hk;exact⟨h1,h2,⟨xs,h3,h.wk h4⟩,h5⟩
  |gap=>exact hk.elim
theorem HRel.weak{H':zaa}(h:HRel B w G H)(hl:H'.length=H.length)(hw:∀(i:Nat) (a b:AB),H[i]?=some a→H'[i]?=some b→BWk a b):HRel B w G H':=by
 refine⟨by rw[hl];exact h.len,λid ab gi h1 h2=>?_,h.dist,h.fresh,h.lt,h.base⟩;have hlt:id<H.length:=by rw[←hl];exact(List.getElem?_eq_some_iff.1 h1).1
 exact(hw id _ _ (List.getElem?_eq_getElem hlt) h1).ok (h.ok id _ gi (List.getElem?_eq_getElem hlt) h2)
def zeI(n:Nat)(K:AV→zaa→Prop)(r:AV)(H':zaa):Prop:=∃r2 H1 H2 J,H'=H1++J∧H2.length=H1.length∧(∀(i:Nat) (a b:AB),H1[i]?=some a→H2[i]?=some b→BWk a b)∧n≤H2.length∧HSc H2∧OutT H' H2.length r r2∧K r2 H2
theorem ACalls.outH{f:FuncId}{args:List AV}{K:AV→zaa→Prop}(h:ACalls P f args H (zeI H.length K)):ACalls P f args H K:=by
 intro B w G vs hH hv;refine(h B w G vs hH hv).mono λe w' ⟨v,r,H',G',h1,h2,h3,h4,h5⟩=>?_;obtain⟨r2,H1,H2,J,hJ,hl,hw,hn,hsc,ho,hk⟩:=h5;subst hJ;have h3':HRel B w' G' (H2++J):=h3.weak (by simp[hl]) λi a b ha hb=>by
  by_cases hi:i<H1.length
  ·rw[List.getElem?_append_left hi]at ha;rw[List.getElem?_append_left (by omega)]at hb;exact hw i a b ha hb
  ·rw[List.getElem?_append_right (by omega)]at ha;rw[List.getElem?_append_right (by omega),hl]at hb;rw[ha]at hb;cases hb;exact .refl _
 refine⟨v,r2,H2,G'.cut w' H2.length,h1,znl h3' h2 (by rw[hH.len];exact hn),h3'.cut hsc,?_,hk⟩;cases ho with
 |one ho=>exact TRel.of_v (ho.vrel h3 h4)
 |tup ho=>obtain⟨us,hu,hr⟩:=h4;exact⟨us,hu,zvq h3 ho hr⟩
theorem Out.toH{n:Nat}{K:AV→zaa→Prop}{r:AV}(h:Out n K r H):zeI n K r H:=by obtain⟨r2,H2,J,hJ,hn,hsc,ho,hk⟩:=h;exact⟨r2,H2,H2,J,hJ,rfl,λi a b ha hb=>by rw[ha]at hb;cases hb;exact .refl _,hn,hsc,ho,hk⟩
end Go.Abs
