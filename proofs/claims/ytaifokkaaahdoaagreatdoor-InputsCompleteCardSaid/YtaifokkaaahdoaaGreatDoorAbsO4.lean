import Derived.Test.YtaifokkaaahdoaaGreatDoorLA3
import Derived.Test.YtaifokkaaahdoaaGreatDoorKNum
import Derived.Test.YtaifokkaaahdoaaGreatDoorProg
import Derived.KernelRfl
import Derived.Test.YtaifokkaaahdoaaGreatDoorKGY2
import Derived.Test.YtaifokkaaahdoaaGreatDoorKP1
import Derived.Test.YtaifokkaaahdoaaGreatDoorAbsU
set_option linter.unusedSimpArgs false
set_option linter.unusedVariables false
set_option linter.unusedSectionVars false
set_option maxRecDepth 8000
namespace Go.Proofs.YtaifokkaaahdoaaGreatDoor
open Go Go.Abs
def foL(g:VT→List Bool→Bool × List Bool):List VT→List Bool→Bool × List Bool
 |[],s=>(true,s)
 |v::vs,s=>if (g v s).1=true then foL g vs (g v s).2 else (false,(g v s).2)
def foC(g:VT→List Bool→Bool × List Bool):List Con→List Bool→Bool × List Bool
 |[],s=>(true,s)
 |c::cs,s=>if (foL g c.args s).1=true then foC g cs (foL g c.args s).2 else (false,(foL g c.args s).2)
def zbv(data:List Dat)(n:Int):List Con:=(data.getD n.toNat ⟨[],0,[]⟩).cons
def foD(g:VT→List Bool→Bool×List Bool)(data:List Dat)(k n:Int)(s:List Bool):Bool×List Bool:=
 if k=5∧s.getD n.toNat false=false then foC g (zbv data n) (s.set n.toNat true) else (true,s)
def fo(data:List Dat):Nat→VT→List Bool→Bool × List Bool
 |0,_,s=>(false,s)
 | f+1,.mk k n ks,s=>if k=9 then (false,s) else
  if (foD (fo data f) data k n s).1=true then foL (fo data f) ks (foD (fo data f) data k n s).2 else (false,(foD (fo data f) data k n s).2)
def uns(s:List Bool):Nat:=s.countP (· == false)
def zjc(g:VT→List Bool→Bool×List Bool):Prop:=∀v s,(g v s).2.length=s.length∧uns (g v s).2≤uns s
theorem zoc{g:VT→List Bool→Bool × List Bool}(hg:zjc g):∀ vs s,(foL g vs s).2.length=s.length∧uns (foL g vs s).2≤uns s
 |[],s=>⟨rfl,Nat.le_refl _⟩
 |v::vs,s=>by
  obtain⟨h1,h2⟩:=hg v s;obtain⟨h3,h4⟩:=zoc hg vs (g v s).2;rw[foL];split
  ·exact⟨by omega,by omega⟩
  ·exact⟨h1,h2⟩
theorem zuy{g:VT→List Bool→Bool × List Bool}(hg:zjc g):∀ cs s,(foC g cs s).2.length=s.length∧uns (foC g cs s).2≤uns s
 |[],s=>⟨rfl,Nat.le_refl _⟩
 |c::cs,s=>by
  obtain⟨h1,h2⟩:=zoc hg c.args s;obtain⟨h3,h4⟩:=zuy hg cs (foL g c.args s).2;rw[foC];split
  ·exact⟨by omega,by omega⟩
  ·exact⟨h1,h2⟩
theorem zxh:∀ (s:List Bool) (i:Nat),i<s.length→s.getD i false=false→uns (s.set i true)+1=uns s
 |[],i,h,_=>by simp at h
 |b::s,0,_,h=>by simp at h;subst h;simp[uns]
 |b::s,i+1,h,h0=>by have:=zxh s i (by simpa using h) (by simpa using h0);simp only[uns,List.set_cons_succ,List.countP_cons]at this ⊢;omega
theorem zGw(s:List Bool)(i:Nat):uns (s.set i true)≤uns s:=by
 induction s generalizing i with
 |nil=>simp
 |cons b s ih=>
  cases i with
  |zero=>cases b <;> simp[uns]
  |succ i=>have:=ih i;simp only[uns,List.set_cons_succ,List.countP_cons]at this ⊢;omega
theorem zDa{g:VT→List Bool→Bool×List Bool}(hg:zjc g)(data:List Dat)(k n:Int)(s:List Bool):(foD g data k n s).2.length=s.length∧uns (foD g data k n s).2≤uns s:=by
 unfold foD;split
 ·obtain⟨h1,h2⟩:=zuy hg (zbv data n) (s.set n.toNat true);have:=zGw s n.toNat;exact⟨by simpa using h1,by omega⟩
 ·exact⟨rfl,Nat.le_refl _⟩
theorem zuA(data:List Dat):∀ f,zjc (fo data f)
 |0,_,s=>⟨rfl,Nat.le_refl _⟩
 |f+1,.mk k n ks,s=>by
  have hg:=zuA data f;obtain⟨h1,h2⟩:=zDa hg data k n s;obtain⟨h3,h4⟩:=zoc hg ks (foD (fo data f) data k n s).2;rw[fo];split
  ·exact⟨rfl,Nat.le_refl _⟩
  ·split
   ·exact⟨by omega,by omega⟩
   ·exact⟨h1,h2⟩
def TyIn(data:List Dat)(t:VT):Prop:=t.nodes≤200∧∃vars,zaz data vars t=true
theorem zkS{data:List Dat}{vars:Int}:∀ {ts:List VT},zaI data vars ts=true→∀ x∈ts,zaz data vars x=true
 |[],_,x,hx=>by simp at hx
 |t::ts,h,x,hx=>by
  simp[zaI]at h;rcases List.mem_cons.1 hx with rfl|hx
  ·exact h.1
  ·exact zkS h.2 x hx
theorem TyIn.kid{data:List Dat}{k n:Int}{ks:List VT}(h:TyIn data (.mk k n ks)):∀x∈ks,TyIn data x∧x.nodes<(VT.mk k n ks).nodes:=λx hx=>by
 obtain⟨h1,vars,h2⟩:=h;have hlt:x.nodes<(VT.mk k n ks).nodes:=by obtain⟨i,hi,rfl⟩:=List.mem_iff_getElem.1 hx;exact VT.kid_lt hi
 simp[zaz]at h2;exact⟨⟨by omega,vars,zkS h2.2 x hx⟩,hlt⟩
theorem TyIn.num{data:List Dat}{n:Int}{ks:List VT}(h:TyIn data (.mk 5 n ks)):0≤n∧n.toNat<data.length:=by
 obtain⟨h1,vars,h2⟩:=h;simp[zaz,zaC]at h2;obtain⟨⟨h3,h4⟩,_⟩:=h2;refine⟨h3,?_⟩;cases hd:data[n.toNat]? with
 |none=>rw[hd]at h4;simp at h4
 |some d=>exact(List.getElem?_eq_some_iff.1 hd).1
theorem zFe{data:List Dat}{vars k n:Int}{m len:Nat}(h:zaC (data.take m) vars k n len=true):zaC data vars k n len=true:=by
 by_cases h5:k=5
 ·subst h5;have e:∀ D:List Dat,zaC D vars 5 n len=(decide (0≤n) && (match D[n.toNat]? with | some d=>(len:Int) == d.vars | none=>false)):=λ_=>rfl;rw[e]at h ⊢;cases hd:(data.take m)[n.toNat]? with
  |none=>rw[hd]at h;simp at h
  |some d=>
   rw[hd]at h;have hd2:data[n.toNat]?=some d:=by
    rw[List.getElem?_take]at hd;split at hd
    ·exact hd
    ·cases hd
   rw[hd2];exact h
 ·have b5:(k == 5)=false:=by simpa using h5
  have e:∀D D':List Dat,zaC D vars k n len=zaC D' vars k n len:=λD D'=>by unfold zaC;rw[b5];rfl
  rw[e data (data.take m)];exact h
theorem zw9{data:List Dat}{vars:Int}{m:Nat}:∀ (f:Nat) (t:VT),t.nodes≤f→zaz (data.take m) vars t=true→zaz data vars t=true
 |0,t,h,_=>by have:=t.nodes_pos;omega
 |f+1,.mk k n ks,h,ho=>by
  simp only[zaz,Bool.and_eq_true]at ho ⊢;refine⟨zFe ho.1,?_⟩;have hL:∀l:List VT,VT.nodesL l≤f→zaI (data.take m) vars l=true→zaI data vars l=true:=by
   intro l;induction l with
   |nil=>intro _ _;rfl
   |cons a l ih=>intro hn hl;simp only[VT.nodesL]at hn;simp only[zaI,Bool.and_eq_true]at hl ⊢;exact⟨zw9 f a (by omega) hl.1,ih (by omega) hl.2⟩
  exact hL ks (by simp only[VT.nodes]at h;omega) ho.2
theorem zjx{data:List Dat}:∀ (l:List Dat) (d i:Nat) (h:i<l.length),zcd data l d=true→zb8 data (d+i) l[i]=true
 |[],_,i,h,_=>by simp at h
 |D::l,d,0,_,ho=>by simp[zcd]at ho;exact ho.1
 |D::l,d,i+1,h,ho=>by simp[zcd]at ho;have:=zjx l (d+1) i (by simpa using h) ho.2;rw[show d+(i+1)=d+1+i by omega];exact this
theorem zhq{data:List Dat}(hD:zaD data=true){i:Nat}(hi:i<data.length):∀c∈(data[i]).cons,c.args.length≤6∧∀x∈c.args,TyIn data x:=λc hc=>by
 have h1:zcd data data 0=true:=by simp[zaD]at hD;exact hD.1.1.2
 have h2:=zjx data 0 i hi h1;rw[Nat.zero_add]at h2;simp only[zb8,Bool.and_eq_true]at h2;have h3:=List.all_eq_true.1 h2.2 c hc;simp only[zcN,Bool.and_eq_true,decide_eq_true_eq]at h3;refine⟨h3.2.1,λx hx=>?_⟩;have h4:=List.all_eq_true.1 h3.2.2 x hx;simp only[zdj,Bool.and_eq_true]at h4;have h5:=h4.1;have hn:=zfU h5;simp[zaA]at h5;exact⟨hn,_,zw9 _ x (Nat.le_refl _) h5.2⟩
end Go.Proofs.YtaifokkaaahdoaaGreatDoor
namespace Go.Proofs.YtaifokkaaahdoaaGreatDoor
open Go Go.Abs
set_option maxRecDepth 100000
def zO6(_:Nat):List Bool:=[]
noncomputable def zO7:Code:=Tryz.f78.body.getD .skip
def zAM(t0 t1:AV)(H:zaa)(K:Kt):Prop:=
 zaw t1 H λt3 H=>
 zae true 3 t3 H λt6=>
 ACalls tP zfP [t0,t6,(.int .i64 101)] H λt7 H=>
 aUn .not t7 λt8=>
 zag t8
 (K (.str []) H)
 (zae true 3 t3 H λt10=>
 ACalls tP zjP [t0,t10] H λt11 H=>
 K t11 H)
theorem zO8{t0 t1:AV}{H:zaa}{K:Kt}(h:HSc H→zAM t0 t1 H K):ACalls tP zpm [t0,t1] H K:=
 zan (M:=zO6) Tryz.func78 (c:=zO7) (by kernel_rfl) (λhs=>Eq.mpr (by kernel_rfl) (h hs))
def zli:Nat→List Bool
 |3=>rl false [0,1,2,1,1,1,5,3,72]
 |_=>[]
noncomputable def zqC:Code:=Tryz.f111.body.getD .skip
noncomputable def zHP:List ResultVar:=Tryz.f111.results.toList
def zlj(t0 t3 t5 t11 t12 t13:AV):List AV:=t0::ux 2 (t3::ux 1 (t5::ux 5 (t11::t12::t13::ux 72 [])))
def zHN:List Bool:=zli 3
noncomputable def zHL:Code:=zaq [1,1,0,1,0,0] zqC
def zHK(K:Kt):AExit→List AV→zaa→Prop:=zar tP zli [1,1,0,1,0] zqC (zaB tP zHP K)
def zlk(t0 t3 t5 t11 t12 t13:AV)(H:zaa)(K:Kt):Prop:=ALoop tP zHL (zHK K) (zlj t0 t3 t5 t11 t12 t13) H
def zqB(t0 t3 t5 t11 t12 t13:AV)(H:zaa)(K:Kt)(Kb3:Lt):Prop:=
 zac .lss false t13 t12 λt14=>
 zag t14
 (zaj 3 t11 t13 λt15=>
 zae true 3 t15 H λt16=>
 zay [(.int .i64 0),(.int .i64 0),.snil] H λt7 H=>
 zak 3 t7 t16 H λH=>
 zae true 3 t7 H λt19=>
 ACalls tP zjP [t0,t19] H λt20 H=>
 zas 1 [(.str [])] 1 [(0,t20)] λt21=>
 zax za0 1 16 t5 t21 H λt22 H=>
 zac .add false t13 (.int .i64 1) λt23=>
 Kb3 (zlj t0 t3 t22 t11 t12 t23) H)
 (ACalls tP zo4 [t5,(.str [44,32])] H λt25 H=>
 zac .add false (.str [40]) t25 λt26=>
 zac .add false t26 (.str [41]) λt27=>
 zaf 0 t3 λt28=>
 zae false 1 t28 H λt29=>
 zac .eql false t29 (.int .i64 1) λt31=>
 zag t31
 (K (.str [105,110,116]) H)
 (zac .eql false t29 (.int .i64 2) λt33=>
 zag t33
 (K (.str [98,111,111,108]) H)
 (zac .eql false t29 (.int .i64 3) λt35=>
 zag t35
 (K (.str [117,110,105,116]) H)
 (zac .eql false t29 (.int .i64 4) λt37=>
 zag t37
 (zaf 1 t3 λt38=>
 zae false 1 t38 H λt39=>
 ACalls tP zEe [t39] H λt40 H=>
 zac .add false (.str [97]) t40 λt41=>
 K t41 H)
 (zac .eql false t29 (.int .i64 7) λt43=>
 zag t43
 (zac .add false (.str [97,114,114,97,121]) t27 λt45=>
 K t45 H)
 (zac .eql false t29 (.int .i64 8) λt47=>
 zag t47
 (zac .add false (.str [114,101,102]) t27 λt49=>
 K t49 H)
 (zac .eql false t29 (.int .i64 9) λt51=>
 zag t51
 (zah 1 t5 λt53=>
 zac .sub false t53 (.int .i64 1) λt54=>
 zad H (λK'=>K' t5 H) λt55=>
 zad H (λK'=>K' t54 H) λt56=>
 zad H (λK'=>za7 1 1 t55 none (some t56) (K' · H)) λt57=>
 zaQ H (λH K'=>ACalls tP zo4 [t57,(.str [44,32])] H K') λt58=>
 zad H (λK'=>zac .add false (.str [102,110,40]) t58 (K' · H)) λt59=>
 zad H (λK'=>zac .add false t59 (.str [41,32,45,62,32]) (K' · H)) λt60=>
 zad H (λK'=>K' t5 H) λt61=>
 zad H (λK'=>K' t54 H) λt62=>
 zad H (λK'=>zaj 1 t61 t62 (K' · H)) λt63=>
 zad H (λK'=>zam false 1 t63 H (K' · H)) λt64=>
 zad H (λK'=>zac .add false t60 t64 (K' · H)) λt65=>
 zad H (λK'=>K' t65 H) λt4=>
 K t4 H)
 (zac .eql false t29 (.int .i64 5) λt67=>
 zag t67
 (zah 1 t5 λt69=>
 zac .eql false t69 (.int .i64 0) λt70=>
 zag t70
 (zaf 1 t3 λt72=>
 zae false 1 t72 H λt73=>
 zaj 3 t0 t73 λt74=>
 zaf 0 t74 λt75=>
 zae false 1 t75 H λt76=>
 K t76 H)
 (zaf 1 t3 λt78=>
 zae false 1 t78 H λt79=>
 zaj 3 t0 t79 λt80=>
 zaf 0 t80 λt81=>
 zae false 1 t81 H λt82=>
 zac .add false t82 t27 λt84=>
 K t84 H))
 (K t27 H)))))))))
def zxH(t0 t1:AV)(H:zaa)(K:Kt):Prop:=
 zaw t1 H λt3 H=>
 zaf 2 t3 λt10=>
 zae false 1 t10 H λt11=>
 zah 1 t11 λt12=>
 zlk t0 t3 .snil t11 t12 (.int .i64 0) H K
theorem zHM{t0 t3 t5 t11 t12 t13:AV}{H:zaa}{K:Kt}(Inv:Nat→AV→AV→zaa→Prop)(n:Nat)(h0:HSc H→Inv n t5 t13 H)(round:Rd2 (λt5=>λt13=>zlj t0 t3 t5 t11 t12 t13) (λt5=>λt13=>λH Kb3=>zqB t0 t3 t5 t11 t12 t13 H K Kb3) H Inv):zlk t0 t3 t5 t11 t12 t13 H K:=
 lp2 (M:=zli) zHN t5 t13 (by kernel_rfl) Inv n h0 round
theorem zHO{t0 t1:AV}{H:zaa}{K:Kt}(h:HSc H→zxH t0 t1 H K):ACalls tP zjP [t0,t1] H K:=
 zan (M:=zli) Tryz.func111 (c:=zqC) (by kernel_rfl) (λhs=>Eq.mpr (by kernel_rfl) (h hs))
end Go.Proofs.YtaifokkaaahdoaaGreatDoor
namespace Go.Proofs.YtaifokkaaahdoaaGreatDoor
open Go Go.Abs
def zcH(data:List Dat)(n:Int):List UInt8:=(data.getD n.toNat ⟨[],0,[]⟩).name
def zcg(l:List (List UInt8)):List UInt8:=Lib.join l [44,32]
def zb3(l:List (List UInt8)):List UInt8:=40::(zcg l++[41])
def zbI(data:List Dat)(k n:Int)(l:List (List UInt8)):List UInt8:=
 if k=1 then [105,110,116] else if k=2 then [98,111,111,108] else if k=3 then [117,110,105,116]
 else if k=7 then [97,114,114,97,121]++zb3 l else if k=8 then [114,101,102]++zb3 l
 else if k=9 then [102,110,40]++zcg (l.take (l.length-1))++[41,32,45,62,32]++l.getD (l.length-1) []
 else if k=5 then (if l=[] then zcH data n else zcH data n++zb3 l) else zb3 l
mutual
def txt(data:List Dat):VT→List UInt8
 |.mk k n ks=>zbI data k n (zaT data ks)
def zaT(data:List Dat):List VT→List (List UInt8)
 |[]=>[]
 |v::vs=>txt data v::zaT data vs
end
theorem zeJ(data:List Dat):∀ ks,zaT data ks=ks.map (txt data)
 |[]=>rfl
 |v::vs=>by rw[zaT,zeJ data vs];rfl
theorem zu7(sep:List UInt8):∀ r:List (List UInt8),(Lib.joinTail sep r).length=(r.map List.length).sum+sep.length*r.length
 |[]=>by simp[Lib.joinTail]
 |x::r=>by have:=zu7 sep r;unfold Lib.joinTail at this ⊢;simp only[List.map_cons,List.flatten_cons,List.length_append,List.sum_cons,List.length_cons,Nat.mul_add,Nat.mul_one];omega
theorem zou(l:List (List UInt8)):(zcg l).length≤(l.map List.length).sum+2*l.length:=by
 cases l with
 |nil=>simp[zcg,Lib.join_nil]
 |cons x r=>unfold zcg;rw[Lib.join_cons,List.length_append,zu7];simp;omega
theorem zDw(l:List (List UInt8)):(zb3 l).length≤(l.map List.length).sum+2*l.length+2:=by have:=zou l;simp[zb3];omega
theorem zGc(l:List (List UInt8))(k:Nat):((l.take k).map List.length).sum≤(l.map List.length).sum:=by
 induction l generalizing k with
 |nil=>simp
 |cons a l ih=>
  cases k with
  |zero=>simp
  |succ k=>have:=ih k;simp only[List.take_succ_cons,List.map_cons,List.sum_cons];omega
theorem zDg(l:List (List UInt8))(k:Nat):(l.getD k []).length≤(l.map List.length).sum:=by
 induction l generalizing k with
 |nil=>simp
 |cons a l ih=>
  cases k with
  |zero=>simp
  |succ k=>have:=ih k;simp at this ⊢;omega
theorem zGf(l:List (List UInt8)):((l.take (l.length-1)).map List.length).sum+(l.getD (l.length-1) []).length≤(l.map List.length).sum:=by
 cases h:l.length with
 |zero=>have:=List.eq_nil_of_length_eq_zero h;subst this;simp
 |succ m=>
  have e:l=l.take m++[l.getD m []]:=by
   have hm:m<l.length:=by omega
   conv=>lhs;rw[←List.take_append_drop m l]
   rw[List.drop_eq_getElem_cons hm,List.drop_eq_nil_of_le (by omega)];simp[List.getD_eq_getElem?_getD,hm]
  conv=>rhs;rw[e]
  simp
theorem zGo{data:List Dat}{B:Nat}(hB:∀D∈data,D.name.length≤B)(k n:Int)(l:List (List UInt8)):(zbI data k n l).length≤(l.map List.length).sum+2*l.length+B+20:=by
 have h1:=zDw l;have h2:=zou (l.take (l.length-1));have h3:=zGf l;have h4:(zcH data n).length≤B:=by
  unfold zcH;rw[List.getD_eq_getElem?_getD];cases hd:data[n.toNat]? with
  |none=>simp
  |some D=>exact hB D (List.mem_of_getElem? hd)
 unfold zbI
 repeat' split
 all_goals simp at *
 all_goals omega
mutual
theorem zGq{data:List Dat}{B:Nat}(hB:∀ D∈data,D.name.length≤B):∀ v:VT,(txt data v).length+2≤v.nodes*(B+24)
 |.mk k n ks=>by
  have h1:=zkR hB ks;have h2:=zGo hB k n (zaT data ks);rw[txt];have h3:(zaT data ks).length=ks.length:=by rw[zeJ];simp
  have e:(VT.mk k n ks).nodes*(B+24)=VT.nodesL ks*(B+24)+(B+24):=by rw[VT.nodes,Nat.add_mul,Nat.one_mul]
  rw[e];omega
theorem zkR{data:List Dat}{B:Nat}(hB:∀ D∈data,D.name.length≤B):∀ ks:List VT,((zaT data ks).map List.length).sum+2*ks.length≤VT.nodesL ks*(B+24)
 |[]=>by simp[zaT]
 |v::vs=>by have h1:=zGq hB v;have h2:=zkR hB vs;simp only[zaT,List.map_cons,List.sum_cons,VT.nodesL,Nat.add_mul,List.length_cons]at *;omega
end
theorem zGr{data:List Dat}{B:Nat}(hB:∀D∈data,D.name.length≤B)(ks:List VT)(k:Nat):(zcg ((zaT data ks).take k)).length≤VT.nodesL ks*(B+24):=by
 have h1:=zkR hB ks;have h2:=zou ((zaT data ks).take k);have h3:=zGc (zaT data ks) k;have h4:(zaT data ks).length=ks.length:=by rw[zeJ];simp
 have h5:((zaT data ks).take k).length≤ks.length:=by rw[List.length_take];omega
 omega
theorem zGx(n k:Nat)(hn:n≤200)(hk:k≤1024):n*k≤204800:=Nat.mul_le_mul hn hk
theorem zHQ{data:List Dat}(hD:zaD data=true)(hB:∀ D∈data,D.name.length≤1000):∀ (m:Nat) (v:VT),v.nodes≤m→v.nodes≤200→zaz data 0 v=true→∀ (H:zaa),H[0]?=some .nodr→∀ K:Kt,K (.str (txt data v)) H →
  ACalls tP zjP [.sl (data.map Dat.cs) .none,.agg v.cs] H K:=by
 intro m;induction m with
 |zero=>intro v h;have:=v.nodes_pos;omega
 |succ m ih=>
  intro v hm hn hok H h0 K hK;obtain⟨k,n,ks⟩:=v;have hnn:(VT.mk k n ks).nodes=VT.nodesL ks+1:=by simp[VT.nodes]
  have hll:=VT.len_le ks;have hlt0:0<H.length:=(List.getElem?_eq_some_iff.1 h0).1;refine ACalls.out (zHO λhs=>?_);simp only[zaz,Bool.and_eq_true]at hok;have hkid:=zkS hok.2;simp[zxH,VT.cs,Nat.add_assoc];unfold zlk;refine ALoop.own 5 za0 1 rfl ?_;have hH1:(H++[AB.cells [.int .i64 k,.int .i64 n,.sl (VT.css ks) .none]]).length=H.length+1:=by simp
  rw[hH1,List.append_assoc];show zlk _ _ (.sl (zbF ((zaT data ks).take 0)) (.own (H.length+1))) _ _ _ (H++[.cells [.int .i64 k,.int .i64 n,.sl (VT.css ks) .none],.perm za0 1 0]) _;have hp3:∀n',HSc (H++[.cells [.int .i64 k,.int .i64 n,.sl (VT.css ks) .none],.perm za0 1 n']):=λn'=>hs.append (by simp[AB.sc,AV.scA,AV.scB]);have htl:(zaT data ks).length=ks.length:=by rw[zeJ];simp
  refine zHM (Inv:=λq t5 t13 H'=>∃j:Nat,j≤ks.length∧ks.length-j=q∧t13=.int .i64 j∧t5=.sl (zbF ((zaT data ks).take j)) (.own (H.length+1))∧H'=H++[.cells [.int .i64 k,.int .i64 n,.sl (VT.css ks) .none],.perm za0 1 j]) ks.length ?_ ?_
  ·intro _;exact⟨0,by omega,rfl,rfl,rfl,rfl⟩
  ·rintro q t5 t13 H' ⟨j,hj,rfl,rfl,rfl,rfl⟩ hsc' hlen hsF Kb hKb;by_cases hlt:j<ks.length
   ·have hki:=VT.kid_lt (k:=k) (n:=n) hlt;obtain⟨x1,x2,x3,hvx,hxa,hxb,hxc⟩:=zaL ks[j];simp[zqB,hlt,hvx,Nat.add_assoc];refine⟨⟨hxa,hxb,hxc⟩,?_⟩;rw[←hvx];refine ih ks[j] (by omega) (by omega) (hkid _ (List.getElem_mem hlt)) _ (by rw[List.getElem?_append_left hlt0];exact h0) _ ?_;simp[zas,zbh,plain,AV.pd];simp only[zax,zbc,za2];have hsl:(zbF ((zaT data ks).take j)).length=j:=by simp;omega
    simp[List.set_append_right,hsl];refine⟨⟨by omega,by omega⟩,?_⟩;have hst:zbF ((zaT data ks).take j)++[[AV.str (txt data ks[j])]]=zbF ((zaT data ks).take (j+1)):=by rw[zeJ,←List.map_take,←List.map_take,List.take_succ_eq_append_getElem hlt];simp only[zbF,List.map_append,List.map_cons,List.map_nil]
    rw[hst,zav (by omega) (by omega)];exact hKb _ _ ⟨ks.length-(j+1),by omega,Back.at (J:=[.cells (ks[j]).cs]) (H2:=H++[.cells [.int .i64 k,.int .i64 n,.sl (VT.css ks) .none],.perm za0 1 (j+1)]) (by simp) (by simp) (hp3 _) (by simp[zlj,ux,AV.sc,AV.scA,AV.scB,AV.scV]) ⟨_,_,rfl,j+1,by omega,rfl,rfl,rfl,rfl⟩⟩
   ·obtain rfl:j=ks.length:=by omega
    rw[List.take_of_length_le (by omega)];simp[zqB];have hb1:=zGx (VT.nodesL ks) 1024 (by omega) (by omega);have hJl:∀k',(zcg ((zaT data ks).take k')).length≤204800:=λk'=>Nat.le_trans (zGr hB ks k') hb1;have hS0:((zaT data ks).map List.length).sum≤204800:=by have h1:=zkR hB ks;omega
    have hJ0:=hJl ks.length;rw[List.take_of_length_le (by omega)]at hJ0;obtain⟨J,hJ⟩:∃J:zaa,J=[.cells [.int .i64 k,.int .i64 n,.sl (VT.css ks) .none],.perm za0 1 ks.length]:=⟨_,rfl⟩;rw[←hJ];have h0J:(H++J)[0]?=some .nodr:=by rw[List.getElem?_append_left hlt0];exact h0
    have hO:∀s,txt data (.mk k n ks)=s→Out H.length K (.str s) (H++J):=λs he=>by subst he;exact Out.at rfl (Nat.le_refl _) hs .rfl' rfl rfl hK
    have hg:(H++J)[H.length]?=some (.cells [.int .i64 k,.int .i64 n,.sl (VT.css ks) .none]):=by rw[hJ];simp
    rw[txt]at hO;generalize zaT data ks=L at *;have e40:(40:UInt8)::(zcg L++[41])=zb3 L:=rfl;refine ACalls.wk (args':=[.sl (zbF L) .none,.str [44,32]]) (zyN L [44,32] (by omega) (by have:(Lib.join L [44,32]).length≤204800:=hJ0;omega) _ h0J _ ?_) ⟨.atom (.sl _ _),.rfl',trivial⟩;change (λt25 H_1=>_) (AV.str (zcg L)) (H++J);have hJ1:(Lib.join L [44,32]).length≤204800:=hJ0;simp[hg];refine⟨by omega,by omega,?_⟩;by_cases k1:k=1
    ·simp[k1];exact hO _ (by simp[zbI,k1])
    by_cases k2:k=2
    ·simp[k2];exact hO _ (by simp[zbI,k2])
    by_cases k3:k=3
    ·simp[k3];exact hO _ (by simp[zbI,k3])
    have b1:(k == 1)=false:=by simpa using k1
    have b2:(k == 2)=false:=by simpa using k2
    have b3:(k == 3)=false:=by simpa using k3
    have k4:k≠4:=by rintro rfl;have:=hok.1;simp[zaC]at this;omega
    have b4:(k == 4)=false:=by simpa using k4
    by_cases k7:k=7
    ·simp[k7];refine⟨by omega,?_⟩;exact hO _ (by simp[zbI,k7,zb3,zcg])
    by_cases k8:k=8
    ·simp[k8];refine⟨by omega,?_⟩;exact hO _ (by simp[zbI,k8,zb3,zcg])
    have b7:(k == 7)=false:=by simpa using k7
    have b8:(k == 8)=false:=by simpa using k8
    simp[b1,b2,b3,b4,b7,b8];by_cases k9:k=9
    ·have hpos:1≤ks.length:=by have:=hok.1;rw[k9]at this;simp[zaC]at this;omega
     obtain⟨q,hq⟩:∃q,L.length=q+1:=⟨L.length-1,by omega⟩;have w1:IntKind.i64.wrap (q:Int)=q:=zav (by omega) (by omega);have hsl:∀(c:List AV),c∈zbF L→c.length=1:=λc hc=>by obtain⟨s,_,rfl⟩:=List.mem_map.1 hc;rfl
     have hq2:q<L.length:=by omega
     have hgq:(zbF L)[q]'(by simpa using hq2)=[.str L[q]]:=by simp[zbF]
     have htk:(zbF L).take q=zbF (L.take q):=by simp[zbF]
     have hJq:=hJl q;have hLq:=hq2;simp[k9,hq,w1];refine⟨⟨by omega,hsl⟩,?_⟩;rw[htk];refine zaV (.str (zcg (L.take q))) (λJ'=>zyN (L.take q) [44,32] (by simp;omega) (by have:(Lib.join (L.take q) [44,32]).length≤204800:=hJq;omega) _ (by rw[List.getElem?_append_left (by simp;omega)];exact h0J) _ ⟨rfl,rfl⟩) ?_;have hLl:L[q].length≤204800:=by
      have h1:=zDg L q;have h2:L.getD q []=L[q]:=by simp[List.getD_eq_getElem?_getD,hq2]
      rw[h2]at h1;omega
     simp[hgq];refine⟨by omega,by omega,by omega,by omega,?_⟩;exact hO _ (by simp[zbI,k9,hq,List.getD_eq_getElem?_getD,hq2])
    have b9:(k == 9)=false:=by simpa using k9
    simp[b9];by_cases k5:k=5
    ·have hnum:0≤n∧n.toNat<data.length:=by
      have:=hok.1;rw[k5]at this;simp[zaC]at this;refine⟨this.1,?_⟩;cases hd:data[n.toNat]? with
      |none=>rw[hd]at this;simp at this
      |some d=>exact(List.getElem?_eq_some_iff.1 hd).1
     obtain⟨p,rfl⟩:∃p:Nat,n=p:=⟨n.toNat,by omega⟩;have hp:p<data.length:=by have:=hnum.2;simpa using this
     have e1:(data.map Dat.cs)[p]?=some (data[p]).cs:=by simp[hp]
     have hna:zcH data p=(data[p]).name:=by simp[zcH,List.getD_eq_getElem?_getD,hp]
     simp[k5,hg,hp,e1,Dat.cs];by_cases hL0:L=[]
     ·subst hL0;simp;exact hO _ (by simp[zbI,k5,hna])
     ·have hne:((L.length:Int) == 0)=false:=by have:L.length≠0:=λh=>hL0 (List.eq_nil_of_length_eq_zero h);simp;omega
      have hnl:=hB _ (List.getElem_mem hp);simp[hne];refine⟨by omega,?_⟩;exact hO _ (by simp[zbI,k5,hL0,hna,zb3,zcg])
    have b5:(k == 5)=false:=by simpa using k5
    simp[b5];exact hO _ (by simp[zbI,k1,k2,k3,k5,k7,k8,k9,zb3,zcg])
theorem zkQ(kw:List UInt8→Bool):∀(m:Nat) (r:List UInt8) (p:Nat) (l:List Tk),r.length≤m→zbk kw r p=.ok l→∀t∈l,t.text.length≤r.length:=by
 intro m;induction m with
 |zero=>intro r p l hm h t ht;have:r=[]:=List.eq_nil_of_length_eq_zero (by omega);subst this;unfold zbk at h;cases h;simp at ht;subst ht;simp
 |succ m ih=>
  intro r p l hm h t ht;unfold zbk at h;split at h
  ·cases h;simp at ht;subst ht;simp
  ·rename_i b r';simp at hm;split at h
   ·have:=ih r' _ l (by omega) h t ht;simp;omega
   ·split at h
    ·have h1:=(List.dropWhile_sublist (p:=(· != 10)) (l:=r')).length_le;have:=ih _ _ l (by omega) h t ht;simp;omega
    ·split at h
     ·cases h
     ·rename_i k n hk;split at h
      ·cases h
      ·rename_i l2 hl2;cases h;rcases List.mem_cons.1 ht with rfl | ht
       ·simp[List.length_take];omega
       ·have:=ih _ _ l2 (by simp;omega) hl2 t ht;simp at this ⊢;omega
theorem zGh{kw:List UInt8→Bool}{s:List UInt8}{a e:Tk}(h:zbk kw s 0=.ok [a,e])(hk:a.kind=2)(ht:a.text=s):s≠[]∧∀b∈s,bIn b=true:=by
 unfold zbk at h;split at h
 ·cases h
 ·rename_i b r;refine⟨by simp,?_⟩;split at h
  ·have:=zkQ kw _ r _ _ (Nat.le_refl _) h a (by simp);rw[ht]at this;simp only[List.length_cons]at this;omega
  ·split at h
   ·have h1:=(List.dropWhile_sublist (p:=(· != 10)) (l:=r)).length_le;have:=zkQ kw _ _ _ _ (Nat.le_refl _) h a (by simp);rw[ht]at this;simp at this;omega
   ·split at h
    ·cases h
    ·rename_i k n hkn;split at h
     ·cases h
     ·rename_i l2 hl2;injection h with h
      injection h with h1 h2
      subst h1;simp only at hk ht;subst hk;unfold tok at hkn;split at hkn
      ·rename_i hb;simp only at hkn;split at hkn
       ·cases hkn
       ·simp only[Except.ok.injEq,Prod.mk.injEq]at hkn;obtain⟨hk2,rfl⟩:=hkn;have hall:r.takeWhile bIn=r:=by
         have:((b::r).take ((r.takeWhile bIn).length+1)).length=(b::r).length:=by rw[ht]
         simp only[List.length_take,List.length_cons]at this;have hle:=(List.takeWhile_prefix (p:=bIn) (l:=r)).length_le;exact(List.takeWhile_prefix (p:=bIn) (l:=r)).eq_of_length (by omega)
        have hbi:bIn b=true:=by unfold bIn;simp only[Bool.or_eq_true]at hb ⊢;rcases hb with hb|hb <;> simp[hb]
        intro x hx;rcases List.mem_cons.1 hx with rfl|hx
        ·exact hbi
        ·rw[←hall]at hx;exact List.all_eq_true.1 List.all_takeWhile x hx
      ·split at hkn
       ·simp only at hkn;split at hkn
        ·cases hkn
        ·split at hkn <;> simp at hkn
       ·simp only at hkn;split at hkn <;> simp at hkn
theorem zxi{s:List UInt8}(h:zbO s=true):s≠[]∧∀b∈s,bIn b=true:=by
 unfold zbO zbP zeG at h;split at h
 ·simp at h
 ·split at h
  ·simp at h
  ·rename_i l hl;simp only[Bool.and_eq_true]at h;obtain⟨_,h⟩:=h
   match l,hl,h with
   |[a,e],hl,h=>simp only[Bool.and_eq_true,beq_iff_eq]at h;exact zGh hl h.1 h.2
   |[],_,h=>cases h
   |[_],_,h=>cases h
   |_::_::_::_,_,h=>cases h
theorem zGi{kw:List UInt8→Bool}{s:List UInt8}{a e:Tk}(h:zbk kw s 0=.ok [a,e])(hk:a.kind=2)(ht:a.text=s):s.length≤24∧∃b r,s=b::r∧bUp b=true:=by
 unfold zbk at h;split at h
 ·cases h
 ·rename_i b r;split at h
  ·have:=zkQ kw _ r _ _ (Nat.le_refl _) h a (by simp);rw[ht]at this;simp only[List.length_cons]at this;omega
  ·split at h
   ·have h1:=(List.dropWhile_sublist (p:=(· != 10)) (l:=r)).length_le;have:=zkQ kw _ _ _ _ (Nat.le_refl _) h a (by simp);rw[ht]at this;simp at this;omega
   ·split at h
    ·cases h
    ·rename_i k n hkn;split at h
     ·cases h
     ·rename_i l2 hl2;injection h with h
      injection h with h1 h2
      subst h1;simp only at hk ht;subst hk;unfold tok at hkn;split at hkn
      ·rename_i hb;simp only at hkn;split at hkn
       ·cases hkn
       ·rename_i h24;simp only[Except.ok.injEq,Prod.mk.injEq]at hkn;obtain⟨hk2,rfl⟩:=hkn;have hle:(b::r).length≤(r.takeWhile bIn).length+1:=by
         have:((b::r).take ((r.takeWhile bIn).length+1)).length=(b::r).length:=by rw[ht]
         rw[List.length_take]at this;omega
        refine⟨by omega,b,r,rfl,?_⟩;by_cases hu:bUp b=true
        ·exact hu
        ·rw[if_neg hu]at hk2;split at hk2 <;> simp at hk2
      ·split at hkn
       ·simp only at hkn;split at hkn
        ·cases hkn
        ·split at hkn <;> simp at hkn
       ·simp only at hkn;split at hkn <;> simp at hkn
theorem zqe{s:List UInt8}(h:zbO s=true):s.length≤24∧∃b r,s=b::r∧bUp b=true:=by
 unfold zbO zbP zeG at h;split at h
 ·simp at h
 ·split at h
  ·simp at h
  ·rename_i l hl;simp only[Bool.and_eq_true]at h;obtain⟨_,h⟩:=h
   match l,hl,h with
   |[a,e],hl,h=>simp only[Bool.and_eq_true,beq_iff_eq]at h;exact zGi hl h.1 h.2
   |[],_,h=>cases h
   |[_],_,h=>cases h
   |_::_::_::_,_,h=>cases h
theorem zhv{data:List Dat}(hD:zaD data=true){i:Nat}(hi:i<data.length):zbO (data[i]).name=true:=by
 have h1:zcd data data 0=true:=by simp[zaD]at hD;exact hD.1.1.2
 have h2:=zjx data 0 i hi h1;simp only[zb8,Bool.and_eq_true]at h2;exact h2.1.1.1.1.1
theorem zCS{data:List Dat}(hD:zaD data=true){i j:Nat}(hi:i<data.length)(hj:j<data.length)(h:(data[i]).name=(data[j]).name):i=j:=by
 have hr:zb0 (za8 data)=false:=by simp[zaD]at hD;exact hD.1.2
 have key:∀a b:Nat,∀(ha:a<data.length) (hb:b<a),(data[a]).name≠(data[b]'(by omega)).name:=λa b ha hb e=>by have:=zwg (l:=za8 data) (i:=a) (j:=b) (by simpa[za8]using ha) hb (by simpa[za8]using e);rw[hr]at this;cases this
 rcases Nat.lt_trichotomy i j with h1|h1|h1
 ·exact absurd h.symm (key j i hj h1)
 ·exact h1
 ·exact absurd h (key i j hi h1)
def Dlm(r:List UInt8):Prop:=r=[]∨∃b r',r=b::r'∧(b=41∨b=44)
def okT(data:List Dat)(t:VT):Prop:=zaz data 0 t=true
theorem ztT{b:UInt8}(h:b=41∨b=44∨b=40):bIn b=false:=by rcases h with rfl|rfl|rfl <;> decide
theorem zEm{s t r1 r2:List UInt8}(hs:∀b∈s,bIn b=true)(ht:∀b∈t,bIn b=true)(h1:∀b r',r1=b::r'→bIn b=false)(h2:∀b r',r2=b::r'→bIn b=false)(h:s++r1=t++r2):s=t∧r1=r2:=by
 induction s generalizing t with
 |nil=>
  cases t with
  |nil=>exact⟨rfl,h⟩
  |cons b t=>have:=h1 b (t++r2) (by simpa using h);rw[ht b (by simp)]at this;cases this
 |cons a s ih=>
  cases t with
  |nil=>have:=h2 a (s++r1) (by simpa using h.symm);rw[hs a (by simp)]at this;cases this
  |cons b t=>simp only[List.cons_append,List.cons.injEq]at h;obtain⟨h3,h4⟩:=ih (t:=t) (λx hx=>hs x (by simp[hx])) (λx hx=>ht x (by simp[hx])) h.2;exact⟨by rw[h.1,h3],h4⟩
def zok(b:UInt8):Int:=if b=105 then 1 else if b=98 then 2 else if b=117 then 3 else if b=97 then 7 else if b=114 then 8 else if b=102 then 9 else if b=40 then 6 else 5
theorem zuN{b:UInt8}(h:bUp b=true):zok b=5:=by
 have h1:65≤b.toNat∧b.toNat≤90:=by unfold bUp at h;simp at h;omega
 unfold zok;have:∀n:UInt8,(n.toNat<65∨90<n.toNat)→b≠n:=λn hn e=>by subst e;omega
 rw[if_neg (this _ (by decide)),if_neg (this _ (by decide)),if_neg (this _ (by decide)),if_neg (this _ (by decide)),if_neg (this _ (by decide)),if_neg (this _ (by decide)),if_neg (this _ (by decide))]
theorem zex{data:List Dat}{k n:Int}{ks:List VT}(h:okT data (.mk k n ks)):(k=1∨k=2∨k=3)∧n=0∧ks=[]∨k=5∧0≤n∧(∃hn:n.toNat<data.length,(ks.length:Int)=(data[n.toNat]).vars)∨(k=6∨k=7∨k=8)∧n=0∨k=9∧n=0∧1≤ks.length:=by
 unfold okT at h;simp only[zaz,Bool.and_eq_true]at h;have hs:=h.1;unfold zaC at hs;by_cases h123:(k == 1 || k == 2 || k == 3)=true
 ·rw[if_pos h123]at hs;simp at hs h123;exact .inl ⟨by omega,hs.1,hs.2⟩
 rw[if_neg h123]at hs;by_cases h4:(k == 4)=true
 ·rw[if_pos h4]at hs;simp at hs;omega
 rw[if_neg h4]at hs;by_cases h5:(k == 5)=true
 ·rw[if_pos h5]at hs;simp at h5 hs;refine .inr (.inl ⟨h5,hs.1,?_⟩);cases hd:data[n.toNat]? with
  |none=>rw[hd]at hs;simp at hs
  |some d=>rw[hd]at hs;obtain⟨hn,hd2⟩:=List.getElem?_eq_some_iff.1 hd;exact⟨hn,by rw[hd2];simpa using hs.2⟩
 rw[if_neg h5]at hs;by_cases h6:(k == 6)=true
 ·rw[if_pos h6]at hs;simp at h6 hs;exact .inr (.inr (.inl ⟨.inl h6,hs.1.1⟩))
 rw[if_neg h6]at hs;by_cases h78:(k == 7 || k == 8)=true
 ·rw[if_pos h78]at hs;simp at h78 hs;exact .inr (.inr (.inl ⟨by omega,hs.1⟩))
 rw[if_neg h78]at hs;by_cases h9:(k == 9)=true
 ·rw[if_pos h9]at hs;simp at h9 hs;exact .inr (.inr (.inr ⟨h9,hs.1.1,hs.1.2⟩))
 ·rw[if_neg h9]at hs;cases hs
theorem zpr{data:List Dat}{k n:Int}{ks:List VT}(h:okT data (.mk k n ks)):∀x∈ks,okT data x:=by unfold okT at h;simp only[zaz,Bool.and_eq_true]at h;exact zkS h.2
theorem zp7{data:List Dat}(hD:zaD data=true){k n:Int}{ks:List VT}(h:okT data (.mk k n ks)):∃b r,txt data (.mk k n ks)=b::r∧zok b=k:=by
 rw[txt];rcases zex h with ⟨hk,_⟩|⟨rfl,h0,hn,_⟩|⟨hk,_⟩|⟨rfl,_⟩
 ·rcases hk with rfl | rfl | rfl
  ·exact⟨105,_,rfl,rfl⟩
  ·exact⟨98,_,rfl,rfl⟩
  ·exact⟨117,_,rfl,rfl⟩
 ·obtain⟨_,b,r,hb,hu⟩:=zqe (zhv hD hn);have e:zcH data n=b::r:=by simp[zcH,List.getD_eq_getElem?_getD,hn,hb]
  by_cases hl:zaT data ks=[]
  ·exact⟨b,r,by simp[zbI,hl,e],zuN hu⟩
  ·exact⟨b,r++zb3 (zaT data ks),by simp[zbI,hl,e],zuN hu⟩
 ·rcases hk with rfl | rfl | rfl
  ·exact⟨40,_,rfl,rfl⟩
  ·exact⟨97,_,rfl,rfl⟩
  ·exact⟨114,_,rfl,rfl⟩
 ·exact⟨102,_,by simp only[zbI];rfl,rfl⟩
theorem zuO{data:List Dat}(hD:zaD data=true){t:VT}(h:okT data t):∀r1 r2:List UInt8,txt data t++r1≠41::r2:=λr1 r2 e=>by
 obtain⟨k,n,ks⟩:=t;obtain⟨b,r,hb,hk⟩:=zp7 hD h;rw[hb]at e;simp only[List.cons_append,List.cons.injEq]at e;rw[e.1]at hk;have hk5:k=5:=by rw[←hk];rfl
 subst hk5;rcases zex h with ⟨h1,_⟩|⟨_,h0,hn,_⟩|⟨h1,_⟩|⟨h1,_⟩
 ·omega
 ·obtain⟨_,b',r',hb',hu⟩:=zqe (zhv hD hn);have e2:zcH data n=b'::r':=by simp[zcH,List.getD_eq_getElem?_getD,hn,hb']
  have:b=b':=by
   rw[txt]at hb;by_cases hl:zaT data ks=[]
   ·simp[zbI,hl,e2]at hb;exact hb.1.symm
   ·simp[zbI,hl,e2]at hb;exact hb.1.symm
  rw[←this,e.1]at hu;exact absurd hu (by decide)
 ·omega
 ·omega
theorem zCX{r:List UInt8}(h:Dlm r):∀b r',r=b::r'→bIn b=false:=λb r' e=>by
 rcases h with h|⟨b',r'',h,hb⟩
 ·rw[h]at e;cases e
 ·rw[h]at e;cases e;exact ztT (by rcases hb with hb|hb <;> simp[hb])
def zhf(data:List Dat)(t:VT):Prop:=∀(u:VT) (r1 r2:List UInt8),okT data u→Dlm r1→Dlm r2→txt data t++r1=txt data u++r2→t=u∧r1=r2
theorem zov(sep:List UInt8):Lib.joinTail sep []=[]:=rfl
theorem zjH(sep x:List UInt8)(r:List (List UInt8)):Lib.joinTail sep (x::r)=sep++x++Lib.joinTail sep r:=by simp[Lib.joinTail]
theorem zkM(l:List (List UInt8))(r:List UInt8):Dlm (Lib.joinTail [44,32] l++41::r):=by
 cases l with
 |nil=>exact .inr ⟨41,r,rfl,.inl rfl⟩
 |cons x l=>exact .inr ⟨44,_,by rw[zjH];rfl,.inr rfl⟩
theorem zu1{data:List Dat}:∀ (ks ls:List VT) (r1 r2:List UInt8),(∀ x∈ks,zhf data x)→(∀ x∈ls,okT data x)→Lib.joinTail [44,32] (zaT data ks)++41::r1=Lib.joinTail [44,32] (zaT data ls)++41::r2→ks=ls∧r1=r2
 |[],[],r1,r2,_,_,h=>by simp[zaT,zov]at h;exact⟨rfl,h⟩
 |[],b::ls,r1,r2,_,_,h=>by simp[zaT,zov,zjH]at h
 |a::ks,[],r1,r2,_,_,h=>by simp[zaT,zov,zjH]at h
 |a::ks,b::ls,r1,r2,hk,hl,h=>by simp only[zaT,zjH,List.append_assoc,List.cons_append,List.nil_append,List.cons.injEq,true_and]at h;obtain⟨h1,h2⟩:=hk a (by simp) b _ _ (hl b (by simp)) (zkM _ _) (zkM _ _) h;obtain⟨h3,h4⟩:=zu1 ks ls r1 r2 (λx hx=>hk x (by simp[hx])) (λx hx=>hl x (by simp[hx])) h2;exact⟨by rw[h1,h3],h4⟩
theorem zu0{data:List Dat}(hD:zaD data=true)(ks ls:List VT)(r1 r2:List UInt8)(hi:∀x∈ks,zhf data x)(hk:∀x∈ks,okT data x)(hl:∀x∈ls,okT data x)(h:zcg (zaT data ks)++41::r1=zcg (zaT data ls)++41::r2):ks=ls∧r1=r2:=by
 unfold zcg at h;cases ks with
 |nil=>
  cases ls with
  |nil=>simp[zaT,Lib.join_nil]at h;exact⟨rfl,h⟩
  |cons b ls=>simp only[zaT,Lib.join_nil,Lib.join_cons,List.nil_append,List.append_assoc]at h;exact absurd h.symm (zuO hD (hl b (by simp)) _ _)
 |cons a ks=>
  cases ls with
  |nil=>simp only[zaT,Lib.join_nil,Lib.join_cons,List.nil_append,List.append_assoc]at h;exact absurd h (zuO hD (hk a (by simp)) _ _)
  |cons b ls=>simp only[zaT,Lib.join_cons,List.append_assoc]at h;obtain⟨h1,h2⟩:=hi a (by simp) b _ _ (hl b (by simp)) (zkM _ _) (zkM _ _) h;obtain⟨h3,h4⟩:=zu1 ks ls r1 r2 (λx hx=>hi x (by simp[hx])) (λx hx=>hl x (by simp[hx])) h2;exact⟨by rw[h1,h3],h4⟩
theorem zuZ{data:List Dat}(hD:zaD data=true)(ks ls:List VT)(r1 r2:List UInt8)(hi:∀x∈ks,zhf data x)(hk:∀x∈ks,okT data x)(hl:∀x∈ls,okT data x)(h:zb3 (zaT data ks)++r1=zb3 (zaT data ls)++r2):ks=ls∧r1=r2:=by unfold zb3 at h;simp only[List.cons_append,List.append_assoc,List.cons.injEq,true_and,List.nil_append]at h;exact zu0 hD ks ls r1 r2 hi hk hl h
theorem zw3(data:List Dat)(ks:List VT)(k:Nat):(zaT data ks).take k=zaT data (ks.take k):=by rw[zeJ,zeJ,List.map_take]
theorem zp8(data:List Dat)(ks:List VT):(zaT data ks).length=ks.length:=by rw[zeJ];simp
theorem zwJ{ks:List VT}(h:1≤ks.length):∃x,ks=ks.take (ks.length-1)++[x]∧x∈ks∧∀data:List Dat,(zaT data ks).getD ((zaT data ks).length-1) []=txt data x:=by
 have hm:ks.length-1<ks.length:=by omega
 refine⟨ks[ks.length-1],?_,List.getElem_mem hm,λdata=>?_⟩
 ·conv=>lhs;rw[←List.take_append_drop (ks.length-1) ks]
  rw[List.drop_eq_getElem_cons hm,List.drop_eq_nil_of_le (by omega)]
 ·rw[zp8,zeJ];simp[List.getD_eq_getElem?_getD,hm]
theorem zw2{data:List Dat}(hD:zaD data=true):∀ (m:Nat) (t:VT),t.nodes≤m→okT data t→zhf data t
 |0,t,h,_=>by have:=t.nodes_pos;omega
 |m+1,.mk k n ks,hm,ht=>by
  rintro⟨k',n',ls⟩ r1 r2 hu d1 d2 h;obtain⟨b,r,hb,hbk⟩:=zp7 hD ht;obtain⟨b',r',hb',hbk'⟩:=zp7 hD hu;have hkk:k=k':=by rw[hb,hb']at h;simp only[List.cons_append,List.cons.injEq]at h;rw[←hbk,←hbk',h.1]
  subst hkk;have kids:=zpr ht;have kidsU:=zpr hu;have ih:∀x∈ks,zhf data x:=λx hx=>zw2 hD m x (by
   obtain⟨i,hi,rfl⟩:=List.mem_iff_getElem.1 hx;have:=VT.kid_lt (k:=k) (n:=n) hi;omega) (kids x hx)
  rw[txt,txt]at h;rcases zex ht with ⟨hk,hn,he⟩|⟨rfl,h0,hn,hv⟩|⟨hk,hn⟩|⟨rfl,hn,hl⟩
  ·rcases zex hu with ⟨_,hn',he'⟩ | ⟨h1,_⟩ | ⟨h1,_⟩ | ⟨h1,_⟩
   ·subst hn hn' he he';refine⟨rfl,?_⟩;rcases hk with rfl|rfl|rfl <;> simpa[zbI]using h
   all_goals omega
  ·rcases zex hu with ⟨h1,_⟩ | ⟨_,h0',hn',hv'⟩ | ⟨h1,_⟩ | ⟨h1,_⟩
   ·omega
   ·have e1:zcH data n=(data[n.toNat]).name:=by simp[zcH,List.getD_eq_getElem?_getD,hn]
    have e2:zcH data n'=(data[n'.toNat]).name:=by simp[zcH,List.getD_eq_getElem?_getD,hn']
    have s1:=(zxi (zhv hD hn)).2;have s2:=(zxi (zhv hD hn')).2;have f:∀(ls:List VT) (n:Int),zbI data 5 n (zaT data ls)=zcH data n++(if ls=[] then [] else zb3 (zaT data ls)):=λls n=>by
     cases ls with
     |nil=>simp[zbI,zaT]
     |cons a l=>simp[zbI,zaT]
    rw[f,f,e1,e2,List.append_assoc,List.append_assoc]at h;have g:∀(ls:List VT) (r:List UInt8),Dlm r→∀b r',(if ls=[] then ([]:List UInt8) else zb3 (zaT data ls))++r=b::r'→bIn b=false:=λls r hd b r' e=>by
     by_cases hl:ls=[]
     ·rw[if_pos hl,List.nil_append]at e;exact zCX hd b r' e
     ·rw[if_neg hl]at e;unfold zb3 at e;simp only[List.cons_append,List.cons.injEq]at e;rw[←e.1];exact ztT (.inr (.inr rfl))
    obtain⟨g1,g2⟩:=zEm s1 s2 (g ks r1 d1) (g ls r2 d2) h;have hij:=zCS hD hn hn' g1;have hnn:n=n':=by omega
    subst hnn;have hlen:ks.length=ls.length:=by omega
    by_cases hks:ks=[]
    ·have hls:ls=[]:=by subst hks;exact List.eq_nil_of_length_eq_zero (by simpa using hlen.symm)
     subst hks hls;exact⟨rfl,by simpa using g2⟩
    ·have hls:ls≠[]:=λe=>hks (by subst e;exact List.eq_nil_of_length_eq_zero (by simpa using hlen));rw[if_neg hks,if_neg hls]at g2;obtain⟨q1,q2⟩:=zuZ hD ks ls r1 r2 ih kids kidsU g2;exact⟨by rw[q1],q2⟩
   all_goals omega
  ·rcases zex hu with ⟨h1,_⟩ | ⟨h1,_⟩ | ⟨_,hn'⟩ | ⟨h1,_⟩
   ·omega
   ·omega
   ·subst hn hn';have hq:zb3 (zaT data ks)++r1=zb3 (zaT data ls)++r2:=by rcases hk with rfl | rfl | rfl <;> simpa[zbI]using h
    obtain⟨q1,q2⟩:=zuZ hD ks ls r1 r2 ih kids kidsU hq;exact⟨by rw[q1],q2⟩
   ·omega
  ·rcases zex hu with ⟨h1,_⟩ | ⟨h1,_⟩ | ⟨h1,_⟩ | ⟨_,hn',hl'⟩
   ·omega
   ·omega
   ·omega
   ·subst hn hn';obtain⟨x,ex,hx,gx⟩:=zwJ hl;obtain⟨y,ey,hy,gy⟩:=zwJ hl';have f:∀ l:List (List UInt8),zbI data 9 0 l=[102,110,40]++zcg (l.take (l.length-1))++[41,32,45,62,32]++l.getD (l.length-1) []:=λl=>by simp[zbI]
    rw[f,f,gx,gy,zp8,zp8,zw3,zw3]at h;simp only[List.append_assoc,List.cons_append,List.nil_append,List.cons.injEq,true_and]at h;obtain⟨q1,q2⟩:=zu0 hD _ _ _ _ (λz hz=>ih z (List.mem_of_mem_take hz)) (λz hz=>kids z (List.mem_of_mem_take hz)) (λz hz=>kidsU z (List.mem_of_mem_take hz)) h;simp only[List.cons.injEq,true_and]at q2;obtain⟨q3,q4⟩:=ih x hx y r1 r2 (kidsU y hy) d1 d2 q2;exact⟨by rw[ex,ey,q1,q3],q4⟩
theorem zGp{data:List Dat}(hD:zaD data=true){t u:VT}(ht:okT data t)(hu:okT data u)(h:txt data t=txt data u):t=u:=
 (zw2 hD _ t (Nat.le_refl _) ht u [] [] hu (.inl rfl) (.inl rfl) (by simpa using h)).1
theorem zvN{data:List Dat}:∀ (m:Nat) (t:VT),t.nodes≤m→okT data t→∀ vars:Int,zaz data vars t=true
 |0,t,h,_,_=>by have:=t.nodes_pos;omega
 |m+1,.mk k n ks,hm,ht,vars=>by
  have kids:=zpr ht;have k4:(k == 4)=false:=by rcases zex ht with ⟨h,_⟩|⟨h,_⟩|⟨h,_⟩|⟨h,_⟩ <;> simp <;> omega
  unfold okT at ht;simp only[zaz,Bool.and_eq_true]at ht ⊢;refine⟨?_,?_⟩
  ·have:=ht.1;unfold zaC at this ⊢;rw[k4]at this ⊢;exact this
  ·have hL:∀l:List VT,(∀x∈l,x.nodes≤m∧okT data x)→zaI data vars l=true:=by
    intro l;induction l with
    |nil=>intro _;rfl
    |cons a l ih=>intro h;simp only[zaI,Bool.and_eq_true];exact⟨zvN m a (h a (by simp)).1 (h a (by simp)).2 vars,ih λx hx=>h x (by simp[hx])⟩
   exact hL ks λx hx=>⟨by
    obtain⟨i,hi,rfl⟩:=List.mem_iff_getElem.1 hx;have:=VT.kid_lt (k:=k) (n:=n) hi;omega,kids x hx⟩
theorem zdN{data:List Dat}{t:VT}(h:zaA data 0 t=true):okT data t:=by simp[zaA]at h;exact h.2
theorem zEn{data:List Dat}(hD:zaD data=true):∀D∈data,D.name.length≤1000:=λD hd=>by obtain⟨i,hi,rfl⟩:=List.mem_iff_getElem.1 hd;have:=(zqe (zhv hD hi)).1;omega
theorem zO9{data:List Dat}(hD:zaD data=true)(t:VT)(ht:zaA data 0 t=true)(H:zaa)(h0:H[0]?=some .nodr)(K:Kt)(hK:K (.str (txt data t)) H):
  ACalls tP zpm [.sl (data.map Dat.cs) .none,.agg t.cs] H K:=by
 refine ACalls.out (zO8 λhs=>?_);have hn:=zfU ht;have hlt0:0<H.length:=(List.getElem?_eq_some_iff.1 h0).1;obtain⟨x,y,z,hvx,hx,hy,hz⟩:=zaL t;simp[zAM,hvx];rw[←hvx];refine zQe data 101 t (by omega) _ _ ?_;have hv:zaA data 101 t=true:=by have:=zvN t.nodes t (Nat.le_refl _) (zdN ht) 101;simp[zaA,this];omega
 rw[hv];simp[hvx];rw[←hvx];refine zHQ hD (zEn hD) t.nodes t (Nat.le_refl _) hn (zdN ht) _ (by rw[List.getElem?_append_left hlt0];exact h0) _ ?_;exact Out.at rfl (Nat.le_refl _) hs .rfl' rfl rfl hK
end Go.Proofs.YtaifokkaaahdoaaGreatDoor
namespace Go.Proofs.YtaifokkaaahdoaaGreatDoor
open Go Go.Abs
set_option maxRecDepth 100000
def zMR(_:Nat):List Bool:=[]
noncomputable def zMS:Code:=Tryz.f35.body.getD .skip
def zzJ(t0 t1:AV)(H:zaa)(K:Kt):Prop:=
 zdU H λt7 H=>
 zeq H λt8 H=>
 zao [.snil,(.int .i64 0),.unk,.snil,.snil,.snil,.unk] [(0,1),(1,1),(2,1),(3,1),(4,1),(5,1),(6,1)] [(0,t0),(1,t1),(2,t7),(6,t8)] λt9=>
 zaw t9 H λt10 H=>
 K t10 H
theorem zMT{t0 t1:AV}{H:zaa}{K:Kt}(h:HSc H→zzJ t0 t1 H K):ACalls tP zpf [t0,t1] H K:=
 zan (M:=zMR) Tryz.func35 (c:=zMS) (by kernel_rfl) (λhs=>Eq.mpr (by kernel_rfl) (h hs))
def zMZ:Nat→List Bool
 |200007=>rl false [0,9]
 |_=>[]
noncomputable def zM0:Code:=Tryz.f38.body.getD .skip
def zdz(t0 t8:AV)(H:zaa)(K:Kt):Prop:=
 zaG t0 λt50=>
 zaf 4 t50 λt51=>
 zae false 1 t51 H λt52=>
 zas 1 [(.bool false)] 1 [(0,(.bool false))] λt53=>
 zax zfA 1 1 t52 t53 H λt54 H=>
 zaG t0 λt55=>
 zaf 4 t55 λt56=>
 zak 1 t56 t54 H λH=>
 zaG t0 λt59=>
 zaf 5 t59 λt60=>
 zae false 1 t60 H λt61=>
 zas 1 [.snil] 1 [(0,.snil)] λt62=>
 zax zfz 1 24 t61 t62 H λt63 H=>
 zaG t0 λt64=>
 zaf 5 t64 λt65=>
 zak 1 t65 t63 H λH=>
 K t8 H
def zzM(t0 t1:AV)(H:zaa)(K:Kt):Prop:=
 zaw t1 H λt3 H=>
 zad H (λK'=>K' t0 H) λt9=>
 zad H (λK'=>zaG t9 (K' · H)) λt10=>
 zad H (λK'=>zaf 0 t10 (K' · H)) λt11=>
 zad H (λK'=>zam false 1 t11 H (K' · H)) λt12=>
 zad H (λK'=>zam true 3 t3 H (K' · H)) λt13=>
 zaQ H (λH K'=>ACalls tP zpm [t12,t13] H K') λt14=>
 zad H (λK'=>K' t14 H) λt5=>
 zaG t0 λt17=>
 zaf 2 t17 λt18=>
 zae false 1 t18 H λt19=>
 zdC (.int .i64 0) true t19 t5 H λt21=>
 zaN t21 0 λt22=>
 zaN t21 1 λt23=>
 zag t23
 (K t22 H)
 (zaG t0 λt27=>
 zaf 3 t27 λt28=>
 zae false 1 t28 H λt29=>
 zah 1 t29 λt30=>
 zaG t0 λt32=>
 zaf 2 t32 λt33=>
 zae false 1 t33 H λt34=>
 zcL t34 t5 t30 H λH=>
 zad H (λK'=>K' t0 H) λt37=>
 zad H (λK'=>zaG t37 (K' · H)) λt38=>
 zad H (λK'=>zaf 3 t38 (K' · H)) λt39=>
 zad H (λK'=>zam false 1 t39 H (K' · H)) λt40=>
 zad H (λK'=>zam true 3 t3 H (K' · H)) λt41=>
 zad H (λK'=>zah 1 t40 (K' · H)) λt42=>
 zad H (λK'=>zas 3 [(.int .i64 0),(.int .i64 0),.snil] 1 [(0,(.agg [(.int .i64 0),(.int .i64 0),.snil]))] (K' · H)) λt43=>
 zax za9 3 40 t40 t43 H λt44 H=>
 (zaj 3 t44 t42 λt45=>
 (zak 3 t45 t41 H λH=>
 zaG t37 λt46=>
 zaf 3 t46 λt47=>
 zak 1 t47 t44 H λH=>
 zdz t0 t30 H K)∧(zaG t37 λt46=>
 (zak 3 t45 t41 H λH=>
 zaf 3 t46 λt47=>
 zak 1 t47 t44 H λH=>
 zdz t0 t30 H K)∧(zaf 3 t46 λt47=>
 (zak 3 t45 t41 H λH=>
 zak 1 t47 t44 H λH=>
 zdz t0 t30 H K)∧(zak 1 t47 t44 H λH=>
 zak 3 t45 t41 H λH=>
 zdz t0 t30 H K))))∧(zaG t37 λt46=>
 (zaj 3 t44 t42 λt45=>
 (zak 3 t45 t41 H λH=>
 zaf 3 t46 λt47=>
 zak 1 t47 t44 H λH=>
 zdz t0 t30 H K)∧(zaf 3 t46 λt47=>
 (zak 3 t45 t41 H λH=>
 zak 1 t47 t44 H λH=>
 zdz t0 t30 H K)∧(zak 1 t47 t44 H λH=>
 zak 3 t45 t41 H λH=>
 zdz t0 t30 H K)))∧(zaf 3 t46 λt47=>
 (zaj 3 t44 t42 λt45=>
 (zak 3 t45 t41 H λH=>
 zak 1 t47 t44 H λH=>
 zdz t0 t30 H K)∧(zak 1 t47 t44 H λH=>
 zak 3 t45 t41 H λH=>
 zdz t0 t30 H K))∧(zak 1 t47 t44 H λH=>
 zaj 3 t44 t42 λt45=>
 zak 3 t45 t41 H λH=>
 zdz t0 t30 H K))))
theorem zM1{t0 t1:AV}{H:zaa}{K:Kt}(h:HSc H→zzM t0 t1 H K):ACalls tP zgC [t0,t1] H K:=
 zan (M:=zMZ) Tryz.func38 (c:=zM0) (by kernel_rfl) (λhs=>Eq.mpr (by kernel_rfl) (h hs))
def zlg:Nat→List Bool
 |3=>rl false [0,1,4,1,2,3,11]
 |_=>[]
noncomputable def zqz:Code:=Tryz.f109.body.getD .skip
noncomputable def zHG:List ResultVar:=Tryz.f109.results.toList
def zlh(t0 t5 t8 t9 t10:AV):List AV:=t0::ux 4 (t5::ux 2 (t8::t9::t10::ux 11 []))
def zHE:List Bool:=zlg 3
noncomputable def zHC:Code:=zaq [1,1,0,1,0,0] zqz
def zHB(K:Kt):AExit→List AV→zaa→Prop:=zar tP zlg [1,1,0,1,0] zqz (zaB tP zHG K)
def zqA(t0 t5 t8 t9 t10:AV)(H:zaa)(K:Kt):Prop:=ALoop tP zHC (zHB K) (zlh t0 t5 t8 t9 t10) H
def zqy(t0 t5 t8 t9 t10:AV)(H:zaa)(K:Kt)(Kb3:Lt):Prop:=
 zac .lss false t10 t9 λt11=>
 zag t11
 (zaj 3 t8 t10 λt12=>
 zae true 3 t12 H λt13=>
 zay [(.int .i64 0),(.int .i64 0),.snil] H λt7 H=>
 zak 3 t7 t13 H λH=>
 zae true 3 t7 H λt16=>
 ACalls tP zgC [t0,t16] H λt17 H=>
 zas 1 [(.int .i64 0)] 1 [(0,t17)] λt18=>
 zax zcZ 1 8 t5 t18 H λt19 H=>
 zac .add false t10 (.int .i64 1) λt20=>
 Kb3 (zlh t0 t19 t8 t9 t20) H)
 (K t5 H)
def zxF(t0 t1:AV)(H:zaa)(K:Kt):Prop:=
 zah 1 t1 λt9=>
 zqA t0 .snil t1 t9 (.int .i64 0) H K
theorem zHD{t0 t5 t8 t9 t10:AV}{H:zaa}{K:Kt}(Inv:Nat→AV→AV→zaa→Prop)(n:Nat)(h0:HSc H→Inv n t5 t10 H)(round:Rd2 (λt5=>λt10=>zlh t0 t5 t8 t9 t10) (λt5=>λt10=>λH Kb3=>zqy t0 t5 t8 t9 t10 H K Kb3) H Inv):zqA t0 t5 t8 t9 t10 H K:=
 lp2 (M:=zlg) zHE t5 t10 (by kernel_rfl) Inv n h0 round
theorem zHF{t0 t1:AV}{H:zaa}{K:Kt}(h:HSc H→zxF t0 t1 H K):ACalls tP zjO [t0,t1] H K:=
 zan (M:=zlg) Tryz.func109 (c:=zqz) (by kernel_rfl) (λhs=>Eq.mpr (by kernel_rfl) (h hs))
def zm7:Nat→List Bool
 |12=>rl false [0,2,3,2,52,2,30]
 |_=>[]
noncomputable def zsP:Code:=Tryz.f76.body.getD .skip
noncomputable def zO2:List ResultVar:=Tryz.f76.results.toList
def zsQ(t0 t1 t6:AV)(H:zaa)(K:Kt):Prop:=
 zaG t0 λt84=>
 zaf 5 t84 λt85=>
 zae false 1 t85 H λt86=>
 zaj 1 t86 t1 λt89=>
 zak 1 t89 t6 H λH=>
 K t6 H
def zhd(t0 t1 t6:AV)(H:zaa)(K:Kt):Prop:=
 zsQ t0 t1 t6 H K
def zi2(t0 t1 t5 t6 t59 t60:AV):List AV:=t0::t1::ux 3 (t5::t6::ux 52 (t59::t60::ux 30 []))
def zO0:List Bool:=zm7 12
noncomputable def zOY:Code:=zaq [1,1,1,1,1,0,1,0,1,1,1,0,1,0,0] zsP
def zOX(K:Kt):AExit→List AV→zaa→Prop:=zar tP zm7 [1,1,1,1,1,0,1,0,1,1,1,0,1,0] zsP (zaB tP zO2 K)
def zsS(t0 t1 t5 t6 t59 t60:AV)(H:zaa)(K:Kt):Prop:=ALoop tP zOY (zOX K) (zi2 t0 t1 t5 t6 t59 t60) H
def zsR(t0 t1 t5 t6 t59 t60:AV)(H:zaa)(K:Kt)(Kb12:Lt):Prop:=
 zac .add false t60 (.int .i64 1) λt82=>
 Kb12 (zi2 t0 t1 t5 t6 t59 t82) H
def zm8(t0 t1 t5 t6 t59 t60:AV)(H:zaa)(K:Kt)(Kb12:Lt):Prop:=
 zsR t0 t1 t5 t6 t59 t60 H K Kb12
def zsO(t0 t1 t5 t6 t59 t60:AV)(H:zaa)(K:Kt)(Kb12:Lt):Prop:=
 zac .lss false t60 t59 λt61=>
 zag t61
 (zad H (λK'=>K' t0 H) λt64=>
 zad H (λK'=>zaG t64 (K' · H)) λt65=>
 zad H (λK'=>zaf 0 t65 (K' · H)) λt66=>
 zad H (λK'=>zam false 1 t66 H (K' · H)) λt67=>
 zad H (λK'=>zam true 3 t5 H (K' · H)) λt68=>
 zad H (λK'=>K' t60 H) λt69=>
 zaQ H (λH K'=>ACalls tP zkl [t67,t68,t69] H K') λt70=>
 zad H (λK'=>K' t70 H) λt63=>
 zad H (λK'=>zaN t63 0 (K' · H)) λt71=>
 zad H (λK'=>zaN t63 1 (K' · H)) λt72=>
 zad H (λK'=>K' t71 H) λt8=>
 zad H (λK'=>K' t72 H) λt9=>
 zag t9
 (ACalls tP zjO [t0,t8] H λt78 H=>
 zao [(.int .i64 0),.snil] [(0,1),(1,1)] [(0,t60),(1,t78)] λt79=>
 zas 2 [(.int .i64 0),.snil] 1 [(0,t79)] λt80=>
 zax zjz 2 32 t6 t80 H λt81 H=>
 zm8 t0 t1 t5 t81 t59 t60 H K Kb12)
 (zm8 t0 t1 t5 t6 t59 t60 H K Kb12))
 (zhd t0 t1 t6 H K)
def zf7(t0 t1 t5 t6 t38 t39:AV)(H:zaa)(K:Kt):Prop:=
 zag t39
 (zaf 2 t5 λt43=>
 zae false 1 t43 H λt44=>
 ACalls tP zjO [t0,t44] H λt45 H=>
 zao [(.int .i64 0),.snil] [(0,1),(1,1)] [(1,t45)] λt46=>
 zas 2 [(.int .i64 0),.snil] 1 [(0,t46)] λt47=>
 zhd t0 t1 t47 H K)
 (zac .eql false t38 (.int .i64 5) λt49=>
 zag t49
 (zad H (λK'=>K' t0 H) λt50=>
 zad H (λK'=>zaG t50 (K' · H)) λt51=>
 zad H (λK'=>zaf 0 t51 (K' · H)) λt52=>
 zad H (λK'=>zam false 1 t52 H (K' · H)) λt53=>
 zad H (λK'=>zaf 1 t5 (K' · H)) λt54=>
 zad H (λK'=>zam false 1 t54 H (K' · H)) λt55=>
 zad H (λK'=>zaj 3 t53 t55 (K' · H)) λt56=>
 zad H (λK'=>zaf 2 t56 (K' · H)) λt57=>
 zad H (λK'=>zam false 1 t57 H (K' · H)) λt58=>
 zad H (λK'=>zah 1 t58 (K' · H)) λt59=>
 zad H (λK'=>K' (.int .i64 0) H) λt60=>
 zsS t0 t1 t5 t6 t59 t60 H K)
 (zhd t0 t1 t6 H K))
def zAK(t0 t1:AV)(H:zaa)(K:Kt):Prop:=
 zaG t0 λt11=>
 zaf 4 t11 λt12=>
 zae false 1 t12 H λt13=>
 zaj 1 t13 t1 λt15=>
 zae false 1 t15 H λt16=>
 zag t16
 (zaG t0 λt18=>
 zaf 5 t18 λt19=>
 zae false 1 t19 H λt20=>
 zaj 1 t20 t1 λt22=>
 zae false 1 t22 H λt23=>
 K t23 H)
 (zaG t0 λt25=>
 zaf 4 t25 λt26=>
 zae false 1 t26 H λt27=>
 zaj 1 t27 t1 λt29=>
 zak 1 t29 (.bool true) H λH=>
 zaG t0 λt31=>
 zaf 3 t31 λt32=>
 zae false 1 t32 H λt33=>
 zaj 3 t33 t1 λt35=>
 zae true 3 t35 H λt36=>
 zay [(.int .i64 0),(.int .i64 0),.snil] H λt5 H=>
 zak 3 t5 t36 H λH=>
 zaf 0 t5 λt37=>
 zae false 1 t37 H λt38=>
 zac .eql false t38 (.int .i64 6) λt40=>
 zag t40
 (zf7 t0 t1 t5 .snil t38 t40 H K)
 (zac .eql false t38 (.int .i64 8) λt41=>
 zf7 t0 t1 t5 .snil t38 t41 H K))
theorem zOZ{t0 t1 t5 t6 t59 t60:AV}{H:zaa}{K:Kt}(Inv:Nat→AV→AV→zaa→Prop)(n:Nat)(h0:HSc H→Inv n t6 t60 H)(round:Rd2 (λt6=>λt60=>zi2 t0 t1 t5 t6 t59 t60) (λt6=>λt60=>λH Kb12=>zsO t0 t1 t5 t6 t59 t60 H K Kb12) H Inv):zsS t0 t1 t5 t6 t59 t60 H K:=
 lp2 (M:=zm7) zO0 t6 t60 (by kernel_rfl) Inv n h0 round
theorem zO1{t0 t1:AV}{H:zaa}{K:Kt}(h:HSc H→zAK t0 t1 H K):ACalls tP zh6 [t0,t1] H K:=
 zan (M:=zm7) Tryz.func76 (c:=zsP) (by kernel_rfl) (λhs=>Eq.mpr (by kernel_rfl) (h hs))
def zOM(_:Nat):List Bool:=[]
noncomputable def zON:Code:=Tryz.f74.body.getD .skip
def zm3(t0 t4:AV)(H:zaa)(K:Kt):Prop:=
 ACalls tP ze8 [t0] H λt8 H=>
 zak 3 t4 t8 H λH=>
 zae true 3 t4 H λr0=>
 K r0 H
def zAD(t0 t1:AV)(H:zaa)(K:Kt):Prop:=
 zay [(.bool false),.snil,.snil] H λt4 H=>
 zac .neq false t1 (.int .i64 1) λt6=>
 zag t6
 (zm3 (.int .i64 0) t4 H K)
 (zm3 t0 t4 H K)
theorem zOO{t0 t1:AV}{H:zaa}{K:Kt}(h:HSc H→zAD t0 t1 H K):ACalls tP zgG [t0,t1] H K:=
 zan (M:=zOM) Tryz.func74 (c:=zON) (by kernel_rfl) (λhs=>Eq.mpr (by kernel_rfl) (h hs))
end Go.Proofs.YtaifokkaaahdoaaGreatDoor
namespace Go.Abs
open Go Go.RowKit
variable {P:Program} {B:Nat} {w:World} {G:Gh} {H:zaa}
theorem WkA.vrel{v:Value}{a b:AV}(h:WkA a b)(hr:VRel w G v a):VRel w G v b:=by
 cases h with
 |refl=>exact hr
 |sl es t=>exact VRel.of_a (WkA.arel (.sl es t) hr)
 |snil=>exact VRel.of_a (WkA.arel .snil hr)
theorem zBZ{kvs kvs':List ((Int×Int)×AV)}(h:All2 (λp q=>p.1=q.1∧WkA p.2 q.2) kvs kvs'):∀{es:List MapEntry},All2 (ERelP w G) es kvs→All2 (ERelP w G) es kvs':=by
 induction kvs generalizing kvs' with
 |nil=>
  intro es hr;cases kvs' with
  |nil=>exact hr
  |cons b bs=>exact h.elim
 |cons a asx ih=>
  intro es hr;cases kvs' with
  |nil=>exact h.elim
  |cons b bs=>
   cases es with
   |nil=>exact hr.elim
   |cons e es=>exact⟨⟨by rw[hr.1.1,h.1.1],h.1.2.vrel hr.1.2⟩,ih h.2 hr.2⟩
inductive BWk:AB→AB→Prop
 |refl (b:AB):BWk b b
 |cells {cs ds:List AV} (h:All2 WkA cs ds):BWk (.cells cs) (.cells ds)
 |vec {e s n:Nat} {cs ds:List AV} (h:All2 WkA cs ds):BWk (.vec e s n cs) (.vec e s n ds)
 |mapP {kvs kvs':List ((Int×Int)×AV)} (h:All2 (λp q=>p.1=q.1∧WkA p.2 q.2) kvs kvs'):BWk (.mapP kvs) (.mapP kvs')
theorem BWk.ok{a b:AB}{gi:GI}(h:BWk a b)(hk:BlkOK B w G a gi):BlkOK B w G b gi:=by
 cases h with
 |refl=>exact hk
 |cells h=>
  cases gi with
  |blk b=>obtain⟨h1,h2,vs,e,h3,h4⟩:=hk;exact⟨h1,h2,vs,e,h3,h.wk h4⟩
  |own v s n=>exact hk.elim
  |gap=>exact hk.elim
 |mapP h=>
  cases gi with
  |blk b=>obtain⟨h1,h2,es,clk,h3,h4⟩:=hk;exact⟨h1,h2,es,clk,h3,zBZ h h4⟩
  |own v s n=>exact hk.elim
  |gap=>exact hk.elim
 |vec h=>
  cases gi with
  |blk b=>exact hk.elim
  |own v s n=>obtain⟨h1,h2,⟨xs,h3,h4⟩,h5⟩:=hk;exact⟨h1,h2,⟨xs,h3,h.wk h4⟩,h5⟩
  |gap=>exact hk.elim
theorem HRel.weak{H':zaa}(h:HRel B w G H)(hl:H'.length=H.length)(hw:∀(i:Nat) (a b:AB),H[i]?=some a→H'[i]?=some b→BWk a b):HRel B w G H':=by
 refine⟨by rw[hl];exact h.len,λid ab gi h1 h2=>?_,h.dist,h.fresh,h.lt,h.base⟩;have hlt:id<H.length:=by rw[←hl];exact(List.getElem?_eq_some_iff.1 h1).1
 exact(hw id _ _ (List.getElem?_eq_getElem hlt) h1).ok (h.ok id _ gi (List.getElem?_eq_getElem hlt) h2)
def zeS(n:Nat)(K:AV→zaa→Prop)(r:AV)(H':zaa):Prop:=∃r2 H1 H2 J,H'=H1++J∧H2.length=H1.length∧(∀(i:Nat) (a b:AB),H1[i]?=some a→H2[i]?=some b→BWk a b)∧n≤H2.length∧HSc H2∧OutT H' H2.length r r2∧K r2 H2
theorem ACalls.outH{f:FuncId}{args:List AV}{K:AV→zaa→Prop}(h:ACalls P f args H (zeS H.length K)):ACalls P f args H K:=by
 intro B w G vs hH hv;refine(h B w G vs hH hv).mono λe w' ⟨v,r,H',G',h1,h2,h3,h4,h5⟩=>?_;obtain⟨r2,H1,H2,J,hJ,hl,hw,hn,hsc,ho,hk⟩:=h5;subst hJ;have h3':HRel B w' G' (H2++J):=h3.weak (by simp[hl]) λi a b ha hb=>by
  by_cases hi:i<H1.length
  ·rw[List.getElem?_append_left hi]at ha;rw[List.getElem?_append_left (by omega)]at hb;exact hw i a b ha hb
  ·rw[List.getElem?_append_right (by omega)]at ha;rw[List.getElem?_append_right (by omega),hl]at hb;rw[ha]at hb;cases hb;exact .refl _
 refine⟨v,r2,H2,G'.cut w' H2.length,h1,zn2 h3' h2 (by rw[hH.len];exact hn),h3'.cut hsc,?_,hk⟩;cases ho with
 |one ho=>exact TRel.of_v (ho.vrel h3 h4)
 |tup ho=>obtain⟨us,hu,hr⟩:=h4;exact⟨us,hu,zvW h3 ho hr⟩
theorem Out.toH{n:Nat}{K:AV→zaa→Prop}{r:AV}(h:Out n K r H):zeS n K r H:=by obtain⟨r2,H2,J,hJ,hn,hsc,ho,hk⟩:=h;exact⟨r2,H2,H2,J,hJ,rfl,λi a b ha hb=>by rw[ha]at hb;cases hb;exact .refl _,hn,hsc,ho,hk⟩
end Go.Abs
