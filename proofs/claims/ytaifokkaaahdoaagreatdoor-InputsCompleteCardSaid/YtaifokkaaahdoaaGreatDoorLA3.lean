import Derived.Test.YtaifokkaaahdoaaGreatDoorKP1
import Derived.Test.YtaifokkaaahdoaaGreatDoorKNum
import Derived.Test.YtaifokkaaahdoaaGreatDoorProg
import Derived.KernelRfl
set_option linter.unusedSimpArgs false
set_option linter.unusedVariables false
set_option linter.unusedSectionVars false
set_option maxRecDepth 8000
namespace Go.Proofs.YtaifokkaaahdoaaGreatDoor
open Go Go.Abs
mutual
def zat(data:List Dat):VT→VT→Bool
 |.mk vk vn vks,.mk k n al=>
  if k=1 then vk == 3 && decide (-1099511627776≤vn) && decide (vn≤1099511627776) && vks.length == 0
  else if k=2 then vk == 2 && (vn == 0 || vn == 1) && vks.length == 0
  else if k=3 then vk == 1 && vn == 0 && vks.length == 0
  else if k=6 then vk == 4 && vn == 0 && zbD data vks al
  else if k=5 then vk == 5 && decide (0≤vn) && decide (vn<8) && ze2 data vks (zbq data (.mk k n al) vn)
  else if k=7 then vk == 6 && vn == 0 && decide (vks.length≤4096) && zcq data vks (al.getD 0 (.mk 0 0 []))
  else if k=8 then vk == 7 && vn == 0 && zbD data vks al
  else vk == 8 && decide (0≤vn) && decide (vn<64) && vks.length == 0
def ze2(data:List Dat):List VT→Option (List VT)→Bool
 |_,none=>false
 |[],some ts=>ts.isEmpty
 | v::vs,some ts=>match ts with
  |[]=>false
  |t::ts=>zat data v t && zbD data vs ts
def zbD(data:List Dat):List VT→List VT→Bool
 |[],ts=>ts.isEmpty
 | v::vs,ts=>match ts with
  |[]=>false
  |t::ts=>zat data v t && zbD data vs ts
def zcq(data:List Dat):List VT→VT→Bool
 |[],_=>true
 |v::vs,t=>zat data v t && zcq data vs t
end
theorem zoi(data:List Dat)(vs ts:List VT):ze2 data vs (some ts)=zbD data vs ts:=by
 cases vs with
 |nil=>cases ts <;> rw[ze2,zbD]
 |cons v vs=>cases ts <;> simp only[ze2,zbD]
theorem zoh(data:List Dat)(vs:List VT):ze2 data vs none=false:=by cases vs <;> rw[ze2]
theorem zuM{data:List Dat}:∀ {vs ts:List VT},zbD data vs ts=true→∀ (i:Nat) (h1:i<vs.length) (h2:i<ts.length),zat data vs[i] ts[i]=true
 |[],ts,h=>by intro i h1;simp at h1
 |v::vs,[],h=>by simp[zbD]at h
 |v::vs,t::ts,h=>by
  simp only[zbD,Bool.and_eq_true]at h;intro i h1 h2;cases i with
  |zero=>exact h.1
  |succ i=>exact zuM h.2 i (by simpa using h1) (by simpa using h2)
theorem zuK{data:List Dat}{t:VT}:∀ {vs:List VT},zcq data vs t=true→∀ v∈vs,zat data v t=true
 |[],h=>by simp
 |v::vs,h=>by
  simp only[zcq,Bool.and_eq_true]at h;intro x hx;rcases List.mem_cons.1 hx with rfl|hx
  ·exact h.1
  ·exact zuK h.2 x hx
theorem zFg{data:List Dat}{m:Nat}{vars k n:Int}{len:Nat}(h:zaC (data.take m) vars k n len=true)(h4:k≠4):zaC data 0 k n len=true:=by
 unfold zaC at h ⊢;have h4':(k == 4)=false:=by simpa using h4
 rw[h4']at h ⊢;by_cases h5:k=5
 ·subst h5;simp only[zil]at h;by_cases hm:n.toNat<m
  ·simpa[hm]using h
  ·simp[hm]at h
 ·have:(k == 5)=false:=by simpa using h5
  simpa[this]using h
theorem zpX(ks:List VT):∀ l:List VT,(zaH ks l).length=l.length
 |[]=>rfl
 |t::ts=>by simp[zaH,zpX ks ts]
mutual
theorem zqb{data:List Dat}{m:Nat}{vars:Int}{ks:List VT}(hk:∀ x∈ks,zaz data 0 x=true)(hl:(ks.length:Int)=vars):∀ a:VT,zaz (data.take m) vars a=true→zaz data 0 (subst ks a)=true
 |.mk k n al=>by
  intro h;rw[zaz,Bool.and_eq_true]at h;unfold subst;by_cases h4:k=4
  ·have h1:=h.1;subst h4;simp[zaC]at h1;rw[if_pos ⟨rfl,by omega,by omega⟩];have hn:n.toNat<ks.length:=by omega
   rw[List.getElem?_eq_getElem hn];exact hk _ (List.getElem_mem hn)
  ·rw[if_neg (λh=>h4 h.1),zaz,Bool.and_eq_true,zpX];exact⟨zFg h.1 h4,zw8 hk hl al h.2⟩
theorem zw8{data:List Dat}{m:Nat}{vars:Int}{ks:List VT}(hk:∀ x∈ks,zaz data 0 x=true)(hl:(ks.length:Int)=vars):∀ l:List VT,zaI (data.take m) vars l=true→zaI data 0 (zaH ks l)=true
 |[]=>by intro _;simp[zaH,zaI]
 |t::ts=>by intro h;rw[zaI,Bool.and_eq_true]at h;rw[zaH,zaI,Bool.and_eq_true];exact⟨zqb hk hl t h.1,zw8 hk hl ts h.2⟩
end
theorem zw5{data:List Dat}{vars:Int}:∀ {l:List VT},zaI data vars l=true→∀ x∈l,zaz data vars x=true
 |[],_=>by simp
 |t::ts,h=>by
  rw[zaI,Bool.and_eq_true]at h;intro x hx;rcases List.mem_cons.1 hx with rfl|hx
  ·exact h.1
  ·exact zw5 h.2 x hx
theorem zkT{data:List Dat}{vars:Int}{k n:Int}{ks:List VT}(h:zaz data vars (.mk k n ks)=true):∀x∈ks,zaz data vars x=true:=by rw[zaz,Bool.and_eq_true]at h;exact zw5 h.2
theorem zed{data:List Dat}{vars:Int}{k n:Int}{ks:List VT}(h:zaA data vars (.mk k n ks)=true):∀x∈ks,zaA data vars x=true:=by rw[zaA,Bool.and_eq_true,decide_eq_true_eq]at h;intro x hx;rw[zaA,Bool.and_eq_true,decide_eq_true_eq];exact⟨Nat.le_trans (zfI x hx) h.1,zkT h.2 x hx⟩
theorem zCD{data:List Dat}(hD:zaD data=true){d c:Nat}(hd:d<data.length)(hc:c<data[d].cons.length):∀x∈(data[d].cons[c]).args,zaz (data.take (d+1)) data[d].vars x=true:=by simp only[zaD,Bool.and_eq_true,zjy,Nat.zero_add]at hD;have h1:=hD.1.1.2 d hd;simp only[zb8,Bool.and_eq_true]at h1;have h2:=List.all_eq_true.1 h1.2 _ (List.getElem_mem hc);simp only[zcN,Bool.and_eq_true]at h2;intro x hx;have h3:=List.all_eq_true.1 h2.2.2 x hx;simp only[zdj,zaA,Bool.and_eq_true]at h3;exact h3.1.2
theorem zjA{data:List Dat}{k n:Int}{ks:List VT}{c:Int}{l:List VT}(h:zbq data (.mk k n ks) c=some l):
  k=5∧0≤n∧0≤c∧∃(hn:n.toNat<data.length) (hc:c.toNat<(data[n.toNat]).cons.length),(ks.length:Int)=(data[n.toNat]).vars∧l=((data[n.toNat]).cons[c.toNat]).args.map (subst ks)∧∀x∈l,x.nodes≤200:=by
 rw[zc0]at h;split at h
 ·rename_i h5;split at h
  ·rename_i D hD;obtain⟨hn,rfl⟩:=List.getElem?_eq_some_iff.1 hD;split at h
   ·rename_i hv;split at h
    ·rename_i C hC;obtain⟨hc,rfl⟩:=List.getElem?_eq_some_iff.1 hC;split at h
     ·rename_i ha;simp only[Option.some.injEq]at h;subst h;exact⟨h5.1,h5.2.1,h5.2.2,hn,hc,hv,rfl,λx hx=>of_decide_eq_true (List.all_eq_true.1 ha x hx)⟩
     ·cases h
    ·cases h
   ·cases h
  ·cases h
 ·cases h
theorem zjB{data:List Dat}(hD:zaD data=true){t:VT}(ht:zaz data 0 t=true){c:Int}{l:List VT}(h:zbq data t c=some l):∀x∈l,zaA data 0 x=true:=by obtain⟨k,n,ks⟩:=t;obtain⟨rfl,h0,hc0,hn,hc,hv,rfl,hsz⟩:=zjA h;intro x hx;rw[zaA,Bool.and_eq_true,decide_eq_true_eq];refine⟨hsz x hx,?_⟩;obtain⟨a,ha,rfl⟩:=List.mem_map.1 hx;exact zqb (zkT ht) hv a (zCD hD hn hc a ha)
mutual
def zpA(rs:List (List Bool)):VT→List VT
 |.mk k n ks=>.mk k n ks::zgL rs ks (rs.getD n.toNat [])
def zgL(rs:List (List Bool)):List VT→List Bool→List VT
 |[],_=>[]
 | v::vs,bs=>match bs with
  |[]=>[]
  |b::bs=>(if b=true then zpA rs v else [])++zgL rs vs bs
end
mutual
theorem zES(rs:List (List Bool)):∀ v:VT,(zpA rs v).length≤v.nodes
 |.mk k n ks=>by have:=zv6 rs ks (rs.getD n.toNat []);simp only[zpA,VT.nodes,List.length_cons];omega
theorem zv6(rs:List (List Bool)):∀ (vs:List VT) (bs:List Bool),(zgL rs vs bs).length≤VT.nodesL vs
 |[],_=>by simp[zgL,VT.nodesL]
 |v::vs,[]=>by simp[zgL]
 |v::vs,b::bs=>by
  have h1:=zES rs v;have h2:=zv6 rs vs bs;simp only[zgL,VT.nodesL,List.length_append];split
  ·omega
  ·simp;omega
end
end Go.Proofs.YtaifokkaaahdoaaGreatDoor
namespace Go.Proofs.YtaifokkaaahdoaaGreatDoor
open Go Go.Abs
set_option maxRecDepth 100000
def zP8(_:Nat):List Bool:=[]
noncomputable def zQa:Code:=Tryz.f96.body.getD .skip
def zBc(t0:AV)(H:zaa)(K:Kt):Prop:=
 zaw t0 H λt1 H=>
 zaf 0 t1 λt3=>
 zae false 1 t3 H λt4=>
 ACalls tP zoR [t4] H λt5 H=>
 zab t5 true H (λK'=>zae true 4 t1 H (K' · H)) λt7 H=>
 zab t5 true H (λK'=>ACalls tP zoS [t7] H K') λt8 H=>
 zai t5 t8 (.bool false) λt9=>
 zab t9 true H (λK'=>zae true 4 t1 H (K' · H)) λt11 H=>
 zab t9 true H (λK'=>ACalls tP zoT [t11] H K') λt12 H=>
 zai t9 t12 (.bool false) λt13=>
 zab t13 true H (λK'=>zae true 4 t1 H (K' · H)) λt15 H=>
 zab t13 true H (λK'=>ACalls tP zoU [t15] H K') λt16 H=>
 zai t13 t16 (.bool false) λt17=>
 zab t17 true H (λK'=>zae true 4 t1 H (K' · H)) λt19 H=>
 zab t17 true H (λK'=>ACalls tP zoV [t19] H K') λt20 H=>
 zai t17 t20 (.bool false) λt21=>
 zab t21 true H (λK'=>zae true 4 t1 H (K' · H)) λt23 H=>
 zab t21 true H (λK'=>ACalls tP zoW [t23] H K') λt24 H=>
 zai t21 t24 (.bool false) λt25=>
 zab t25 true H (λK'=>zae true 4 t1 H (K' · H)) λt27 H=>
 zab t25 true H (λK'=>ACalls tP zoX [t27] H K') λt28 H=>
 zai t25 t28 (.bool false) λt29=>
 K t29 H
theorem zQb{t0:AV}{H:zaa}{K:Kt}(h:HSc H→zBc t0 H K):ACalls tP zpo [t0] H K:=
 zan (M:=zP8) Tryz.func96 (c:=zQa) (by kernel_rfl) (λhs=>Eq.mpr (by kernel_rfl) (h hs))
def zIq(_:Nat):List Bool:=[]
noncomputable def zIr:Code:=Tryz.f132.body.getD .skip
def zxT(t0:AV)(H:zaa)(K:Kt):Prop:=
 zaw t0 H λt1 H=>
 zaf 2 t1 λt3=>
 zae false 1 t3 H λt4=>
 zah 1 t4 λt5=>
 zac .leq false t5 (.int .i64 3000) λt6=>
 zab t6 true H (λK'=>zaf 2 t1 (K' · H)) λt8 H=>
 zab t6 true H (λK'=>zae false 1 t8 H (K' · H)) λt9 H=>
 zab t6 true H (λK'=>zcb zvw [t1] (K' · H)) λt10 H=>
 zab t6 true H (λK'=>ACalls tP zd5 [t9,t10] H K') λt11 H=>
 zab t6 true H (λK'=>aUn .not t11 (K' · H)) λt12 H=>
 zai t6 t12 (.bool false) λt13=>
 K t13 H
theorem zIs{t0:AV}{H:zaa}{K:Kt}(h:HSc H→zxT t0 H K):ACalls tP zoS [t0] H K:=
 zan (M:=zIq) Tryz.func132 (c:=zIr) (by kernel_rfl) (λhs=>Eq.mpr (by kernel_rfl) (h hs))
def zly:Nat→List Bool
 |6=>rl false [1,1,1,2,14,3,59]
 |_=>[]
noncomputable def zqT:Code:=Tryz.f133.body.getD .skip
noncomputable def zIy:List ResultVar:=Tryz.f133.results.toList
def zqU(t1 t3 t4 t19 t20 t21:AV):List AV:=ux 1 (t1::ux 1 (t3::t4::ux 14 (t19::t20::t21::ux 59 [])))
def zIw:List Bool:=zly 6
noncomputable def zIu:Code:=zaq [1,1,1,1,0,1,0,0] zqT
def zIt(K:Kt):AExit→List AV→zaa→Prop:=zar tP zly [1,1,1,1,0,1,0] zqT (zaB tP zIy K)
def zxX(t1 t3 t4 t19 t20 t21:AV)(H:zaa)(K:Kt):Prop:=ALoop tP zIu (zIt K) (zqU t1 t3 t4 t19 t20 t21) H
def zxW(t1 t3 t4 t6 t19 t20 t21:AV)(H:zaa)(K:Kt)(Kb6:Lt):Prop:=
 zaf 0 t6 λt42=>
 zae false 1 t42 H λt43=>
 zcL t3 t43 (.bool true) H λH=>
 zaf 1 t6 λt44=>
 zae false 1 t44 H λt45=>
 zah 1 t45 λt46=>
 zac .gtr false t46 (.int .i64 6) λt47=>
 zab t47 false H (λK'=>zaf 0 t1 (K' · H)) λt49 H=>
 zab t47 false H (λK'=>zae false 1 t49 H (K' · H)) λt50 H=>
 zab t47 false H (λK'=>zaf 3 t6 (K' · H)) λt51 H=>
 zab t47 false H (λK'=>zae true 3 t51 H (K' · H)) λt52 H=>
 zab t47 false H (λK'=>ACalls tP zfP [t50,t52,(.int .i64 0)] H K') λt53 H=>
 zab t47 false H (λK'=>aUn .not t53 (K' · H)) λt54 H=>
 zai t47 (.bool true) t54 λt55=>
 zag t55
 (K (.bool false) H)
 (zad H (λK'=>zaf 6 t6 (K' · H)) λt56=>
 zad H (λK'=>zam false 1 t56 H (K' · H)) λt57=>
 zad H (λK'=>zac .lss false t57 (.int .i64 0) (K' · H)) λt58=>
 zad H (λK'=>K' t58 H) λt59=>
 zab t59 false H (λK'=>zad H (λK''=>zaf 6 t6 (K'' · H)) (K' · H)) λt60 H=>
 zab t59 false H (λK'=>zad H (λK''=>zam false 1 t60 H (K'' · H)) (K' · H)) λt61 H=>
 zab t59 false H (λK'=>zad H (λK''=>zaf 3 t1 (K'' · H)) (K' · H)) λt62 H=>
 zab t59 false H (λK'=>zad H (λK''=>zam false 1 t62 H (K'' · H)) (K' · H)) λt63 H=>
 zab t59 false H (λK'=>zad H (λK''=>zah 1 t63 (K'' · H)) (K' · H)) λt64 H=>
 zab t59 false H (λK'=>zad H (λK''=>zac .geq false t61 t64 (K'' · H)) (K' · H)) λt65 H=>
 zad H (λK'=>zai t59 (.bool true) t65 (K' · H)) λt66=>
 zad H (λK'=>K' t66 H) λt67=>
 zab t67 false H (λK'=>zad H (λK''=>zaf 3 t1 (K'' · H)) (K' · H)) λt68 H=>
 zab t67 false H (λK'=>zad H (λK''=>zam false 1 t68 H (K'' · H)) (K' · H)) λt69 H=>
 zab t67 false H (λK'=>zad H (λK''=>zaf 6 t6 (K'' · H)) (K' · H)) λt70 H=>
 zab t67 false H (λK'=>zad H (λK''=>zam false 1 t70 H (K'' · H)) (K' · H)) λt71 H=>
 zab t67 false H (λK'=>zad H (λK''=>zaj 8 t69 t71 (K'' · H)) (K' · H)) λt72 H=>
 zab t67 false H (λK'=>zad H (λK''=>zaf 5 t72 (K'' · H)) (K' · H)) λt73 H=>
 zab t67 false H (λK'=>zad H (λK''=>zam true 3 t73 H (K'' · H)) (K' · H)) λt74 H=>
 zab t67 false H (λK'=>zad H (λK''=>zaf 3 t6 (K'' · H)) (K' · H)) λt75 H=>
 zab t67 false H (λK'=>zad H (λK''=>zam true 3 t75 H (K'' · H)) (K' · H)) λt76 H=>
 zab t67 false H (λK'=>zaQ H (λH K''=>ACalls tP zEf [t74,t76] H K'') (K' · H)) λt77 H=>
 zab t67 false H (λK'=>zad H (λK''=>aUn .not t77 (K'' · H)) (K' · H)) λt78 H=>
 zad H (λK'=>zai t67 (.bool true) t78 (K' · H)) λt79=>
 zag t79
 (K (.bool false) H)
 (zac .add false t21 (.int .i64 1) λt80=>
 Kb6 (zqU t1 t3 t4 t19 t20 t80) H))
def zxV(t1 t3 t4 t19 t20 t21:AV)(H:zaa)(K:Kt)(Kb6:Lt):Prop:=
 zac .lss false t21 t20 λt22=>
 zag t22
 (zaj 7 t19 t21 λt23=>
 zae true 7 t23 H λt24=>
 zay [(.str []),.snil,.snil,(.int .i64 0),(.int .i64 0),.snil,(.int .i64 0)] H λt6 H=>
 zak 7 t6 t24 H λH=>
 zaf 0 t6 λt25=>
 zae false 1 t25 H λt26=>
 zac .eql false t26 (.str []) λt27=>
 zag t27
 (zxW t1 t3 (.bool true) t6 t19 t20 t21 H K Kb6)
 (zab t4 false H (λK'=>K' t3 H) λt30 H=>
 zab t4 false H (λK'=>zaf 0 t6 (K' · H)) λt31 H=>
 zab t4 false H (λK'=>zae false 1 t31 H (K' · H)) λt32 H=>
 zab t4 false H (λK'=>zdC (.bool false) false t30 t32 H (K' · H)) λt33 H=>
 zai t4 (.bool true) t33 λt34=>
 zab t34 false H (λK'=>zaf 2 t6 (K' · H)) λt36 H=>
 zab t34 false H (λK'=>zae false 1 t36 H (K' · H)) λt37 H=>
 zab t34 false H (λK'=>zah 1 t37 (K' · H)) λt38 H=>
 zab t34 false H (λK'=>zac .gtr false t38 (.int .i64 0) (K' · H)) λt39 H=>
 zai t34 (.bool true) t39 λt40=>
 zag t40
 (K (.bool false) H)
 (zxW t1 t3 t4 t6 t19 t20 t21 H K Kb6)))
 (K (.bool true) H)
def zxU(t0:AV)(H:zaa)(K:Kt):Prop:=
 zaw t0 H λt1 H=>
 zaf 1 t1 λt7=>
 zae false 1 t7 H λt8=>
 zah 1 t8 λt9=>
 zac .gtr false t9 (.int .i64 64) λt10=>
 zab t10 false H (λK'=>zaf 3 t1 (K' · H)) λt12 H=>
 zab t10 false H (λK'=>zae false 1 t12 H (K' · H)) λt13 H=>
 zab t10 false H (λK'=>zah 1 t13 (K' · H)) λt14 H=>
 zab t10 false H (λK'=>zac .gtr false t14 (.int .i64 3000) (K' · H)) λt15 H=>
 zai t10 (.bool true) t15 λt16=>
 zag t16
 (K (.bool false) H)
 (zdU H λt17 H=>
 zaf 1 t1 λt18=>
 zae false 1 t18 H λt19=>
 zah 1 t19 λt20=>
 zxX t1 t17 (.bool false) t19 t20 (.int .i64 0) H K)
theorem zIv{t1 t3 t4 t19 t20 t21:AV}{H:zaa}{K:Kt}(Inv:Nat→AV→AV→zaa→Prop)(n:Nat)(h0:HSc H→Inv n t4 t21 H)(round:Rd2 (λt4=>λt21=>zqU t1 t3 t4 t19 t20 t21) (λt4=>λt21=>λH Kb6=>zxV t1 t3 t4 t19 t20 t21 H K Kb6) H Inv):zxX t1 t3 t4 t19 t20 t21 H K:=
 lp2 (M:=zly) zIw t4 t21 (by kernel_rfl) Inv n h0 round
theorem zIx{t0:AV}{H:zaa}{K:Kt}(h:HSc H→zxU t0 H K):ACalls tP zoT [t0] H K:=
 zan (M:=zly) Tryz.func133 (c:=zqT) (by kernel_rfl) (λhs=>Eq.mpr (by kernel_rfl) (h hs))
def zfl:Nat→List Bool
 |5=>rl false [1,1,2,2,12,3,54]
 |11=>rl false [1,1,2,2,25,3,41]
 |16=>rl false [1,1,2,2,2,1,22,3,12,3,26]
 |_=>[]
noncomputable def zit:Code:=Tryz.f134.body.getD .skip
noncomputable def zx6:List ResultVar:=Tryz.f134.results.toList
def zqW(t1 t4 t5 t18 t19 t20:AV):List AV:=ux 1 (t1::ux 2 (t4::t5::ux 12 (t18::t19::t20::ux 54 [])))
def zIH:List Bool:=zfl 5
noncomputable def zIC:Code:=zaq [1,1,1,1,0,1,0,0] zit
def zIA(K:Kt):AExit→List AV→zaa→Prop:=zar tP zfl [1,1,1,1,0,1,0] zit (zaB tP zx6 K)
def zx4(t1 t4 t5 t18 t19 t20:AV)(H:zaa)(K:Kt):Prop:=ALoop tP zIC (zIA K) (zqW t1 t4 t5 t18 t19 t20) H
def zx2(t1 t4 t5 t31 t32 t33:AV):List AV:=ux 1 (t1::ux 2 (t4::t5::ux 25 (t31::t32::t33::ux 41 [])))
def zx5:List Bool:=zfl 11
noncomputable def zqV:Code:=zaq [1,1,1,1,1,0,1,0,0] zit
def zxZ(K:Kt):AExit→List AV→zaa→Prop:=zar tP zfl [1,1,1,1,1,0,1,0] zit (zaB tP zx6 K)
def zx3(t1 t4 t5 t31 t32 t33:AV)(H:zaa)(K:Kt):Prop:=ALoop tP zqV (zxZ K) (zx2 t1 t4 t5 t31 t32 t33) H
def zID(t1 t4 t5 t8 t31 t32 t33 t46 t47 t48:AV):List AV:=ux 1 (t1::ux 2 (t4::t5::ux 2 (t8::ux 22 (t31::t32::t33::ux 12 (t46::t47::t48::ux 26 [])))))
noncomputable def zIB:Code:=zaq [1,1,0,0,1,1,1,0,0] zqV
def zIz(K:Kt)(Kb11:Lt):AExit→List AV→zaa→Prop:=zar tP zfl [1,1,0,0,1,1,1,0] zqV (zbK zx5 Kb11 (zxZ K))
def zIE(t1 t4 t5 t8 t31 t32 t33 t46 t47 t48:AV)(H:zaa)(K:Kt)(Kb11:Lt):Prop:=ALoop tP zIB (zIz K Kb11) (zID t1 t4 t5 t8 t31 t32 t33 t46 t47 t48) H
def zx0(t1 t4 t5 t31 t32 t33:AV)(H:zaa)(K:Kt)(Kb11:Lt):Prop:=
 zac .lss false t33 t32 λt34=>
 zag t34
 (zaj 8 t31 t33 λt36=>
 zae true 8 t36 H λt37=>
 zay [(.int .i64 0),(.int .i64 0),.snil,.snil,.snil,(.int .i64 0),(.int .i64 0),.snil] H λt9 H=>
 zak 8 t9 t37 H λH=>
 zaf 3 t9 λt38=>
 zae false 1 t38 H λt39=>
 zah 1 t39 λt40=>
 zaf 4 t9 λt41=>
 zae false 1 t41 H λt42=>
 zah 1 t42 λt43=>
 zac .neq false t40 t43 λt44=>
 zag t44
 (K (.bool false) H)
 (zaf 4 t9 λt45=>
 zae false 1 t45 H λt46=>
 zah 1 t46 λt47=>
 zIE t1 t4 t5 t33 t31 t32 t33 t46 t47 (.int .i64 0) H K Kb11))
 (zae false 1 t4 H λt70=>
 zaf 3 t1 λt71=>
 zae false 1 t71 H λt72=>
 zah 1 t72 λt73=>
 zac .eql false t70 t73 λt74=>
 K t74 H)
def zx1(t1 t4 t5 t18 t19 t20:AV)(H:zaa)(K:Kt)(Kb5:Lt):Prop:=
 zac .lss false t20 t19 λt21=>
 zag t21
 (zaj 7 t18 t20 λt22=>
 zae true 7 t22 H λt23=>
 zay [(.str []),.snil,.snil,(.int .i64 0),(.int .i64 0),.snil,(.int .i64 0)] H λt7 H=>
 zak 7 t7 t23 H λH=>
 zaf 6 t7 λt25=>
 zae false 1 t25 H λt26=>
 aCallV tP t5 [t26] H λt27 H=>
 aUn .not t27 λt28=>
 zag t28
 (K (.bool false) H)
 (zac .add false t20 (.int .i64 1) λt29=>
 Kb5 (zqW t1 t4 t5 t18 t19 t29) H))
 (zaf 3 t1 λt30=>
 zae false 1 t30 H λt31=>
 zah 1 t31 λt32=>
 zx3 t1 t4 t5 t31 t32 (.int .i64 0) H K)
def zxY(t0:AV)(H:zaa)(K:Kt):Prop:=
 zaw t0 H λt1 H=>
 zaf 3 t1 λt12=>
 zae false 1 t12 H λt13=>
 zah 1 t13 λt14=>
 zbu 1 [(.bool false)] t14 t14 H λt15 H=>
 zay [.snil] H λt3 H=>
 zak 1 t3 t15 H λH=>
 zay [(.int .i64 0)] H λt4 H=>
 zak 1 t4 (.int .i64 0) H λH=>
 zcb zEg [t3,t4] λt16=>
 zaf 1 t1 λt17=>
 zae false 1 t17 H λt18=>
 zah 1 t18 λt19=>
 zx4 t1 t4 t16 t18 t19 (.int .i64 0) H K
theorem zIF{t1 t4 t5 t31 t32 t33:AV}{H:zaa}{K:Kt}(Inv:Nat→AV→zaa→Prop)(n:Nat)(h0:HSc H→Inv n t33 H)(round:Rd1 (λt33=>zx2 t1 t4 t5 t31 t32 t33) (λt33=>λH Kb11=>zx0 t1 t4 t5 t31 t32 t33 H K Kb11) H Inv):zx3 t1 t4 t5 t31 t32 t33 H K:=
 lp1 (M:=zfl) zx5 t33 (by kernel_rfl) Inv n h0 round
theorem zIG{t1 t4 t5 t18 t19 t20:AV}{H:zaa}{K:Kt}(Inv:Nat→AV→zaa→Prop)(n:Nat)(h0:HSc H→Inv n t20 H)(round:Rd1 (λt20=>zqW t1 t4 t5 t18 t19 t20) (λt20=>λH Kb5=>zx1 t1 t4 t5 t18 t19 t20 H K Kb5) H Inv):zx4 t1 t4 t5 t18 t19 t20 H K:=
 lp1 (M:=zfl) zIH t20 (by kernel_rfl) Inv n h0 round
theorem zII{t0:AV}{H:zaa}{K:Kt}(h:HSc H→zxY t0 H K):ACalls tP zoU [t0] H K:=
 zan (M:=zfl) Tryz.func134 (c:=zit) (by kernel_rfl) (λhs=>Eq.mpr (by kernel_rfl) (h hs))
def zfm:Nat→List Bool
 |5=>rl false [1,1,2,2,12,3,41]
 |11=>rl false [1,1,2,2,32,3,21]
 |14=>rl false [1,1,2,2,32,3,4,3,14]
 |_=>[]
noncomputable def ziu:Code:=Tryz.f135.body.getD .skip
noncomputable def zyf:List ResultVar:=Tryz.f135.results.toList
def zqY(t1 t4 t5 t18 t19 t20:AV):List AV:=ux 1 (t1::ux 2 (t4::t5::ux 12 (t18::t19::t20::ux 41 [])))
def zIR:List Bool:=zfm 5
noncomputable def zIM:Code:=zaq [1,1,1,1,0,1,0,0] ziu
def zIK(K:Kt):AExit→List AV→zaa→Prop:=zar tP zfm [1,1,1,1,0,1,0] ziu (zaB tP zyf K)
def zyd(t1 t4 t5 t18 t19 t20:AV)(H:zaa)(K:Kt):Prop:=ALoop tP zIM (zIK K) (zqY t1 t4 t5 t18 t19 t20) H
def zyb(t1 t4 t5 t38 t39 t40:AV):List AV:=ux 1 (t1::ux 2 (t4::t5::ux 32 (t38::t39::t40::ux 21 [])))
def zye:List Bool:=zfm 11
noncomputable def zqX:Code:=zaq [1,1,1,1,1,0,1,0,0] ziu
def zx8(K:Kt):AExit→List AV→zaa→Prop:=zar tP zfm [1,1,1,1,1,0,1,0] ziu (zaB tP zyf K)
def zyc(t1 t4 t5 t38 t39 t40:AV)(H:zaa)(K:Kt):Prop:=ALoop tP zqX (zx8 K) (zyb t1 t4 t5 t38 t39 t40) H
def zIN(t1 t4 t5 t38 t39 t40 t45 t46 t47:AV):List AV:=ux 1 (t1::ux 2 (t4::t5::ux 32 (t38::t39::t40::ux 4 (t45::t46::t47::ux 14 []))))
noncomputable def zIL:Code:=zaq [1,1,0,0,1,1,0,0] zqX
def zIJ(K:Kt)(Kb11:Lt):AExit→List AV→zaa→Prop:=zar tP zfm [1,1,0,0,1,1,0] zqX (zbK zye Kb11 (zx8 K))
def zIO(t1 t4 t5 t38 t39 t40 t45 t46 t47:AV)(H:zaa)(K:Kt)(Kb11:Lt):Prop:=ALoop tP zIL (zIJ K Kb11) (zIN t1 t4 t5 t38 t39 t40 t45 t46 t47) H
def zx9(t1 t4 t5 t38 t39 t40:AV)(H:zaa)(K:Kt)(Kb11:Lt):Prop:=
 zac .lss false t40 t39 λt41=>
 zag t41
 (zaj 8 t38 t40 λt42=>
 zae true 8 t42 H λt43=>
 zay [(.int .i64 0),(.int .i64 0),.snil,.snil,.snil,(.int .i64 0),(.int .i64 0),.snil] H λt9 H=>
 zak 8 t9 t43 H λH=>
 zaf 3 t9 λt44=>
 zae false 1 t44 H λt45=>
 zah 1 t45 λt46=>
 zIO t1 t4 t5 t38 t39 t40 t45 t46 (.int .i64 0) H K Kb11)
 (zae false 1 t4 H λt57=>
 zaf 2 t1 λt58=>
 zae false 1 t58 H λt59=>
 zah 1 t59 λt60=>
 zac .eql false t57 t60 λt61=>
 K t61 H)
def zya(t1 t4 t5 t18 t19 t20:AV)(H:zaa)(K:Kt)(Kb5:Lt):Prop:=
 zac .lss false t20 t19 λt21=>
 zag t21
 (zaj 7 t18 t20 λt22=>
 zae true 7 t22 H λt23=>
 zay [(.str []),.snil,.snil,(.int .i64 0),(.int .i64 0),.snil,(.int .i64 0)] H λt7 H=>
 zak 7 t7 t23 H λH=>
 zaf 1 t7 λt25=>
 zae false 1 t25 H λt26=>
 aCallV tP t5 [t26] H λt27 H=>
 aUn .not t27 λt28=>
 zab t28 false H (λK'=>K' t5 H) λt30 H=>
 zab t28 false H (λK'=>zaf 2 t7 (K' · H)) λt31 H=>
 zab t28 false H (λK'=>zae false 1 t31 H (K' · H)) λt32 H=>
 zab t28 false H (λK'=>aCallV tP t30 [t32] H K') λt33 H=>
 zab t28 false H (λK'=>aUn .not t33 (K' · H)) λt34 H=>
 zai t28 (.bool true) t34 λt35=>
 zag t35
 (K (.bool false) H)
 (zac .add false t20 (.int .i64 1) λt36=>
 Kb5 (zqY t1 t4 t5 t18 t19 t36) H))
 (zaf 3 t1 λt37=>
 zae false 1 t37 H λt38=>
 zah 1 t38 λt39=>
 zyc t1 t4 t5 t38 t39 (.int .i64 0) H K)
def zx7(t0:AV)(H:zaa)(K:Kt):Prop:=
 zaw t0 H λt1 H=>
 zaf 2 t1 λt12=>
 zae false 1 t12 H λt13=>
 zah 1 t13 λt14=>
 zbu 1 [(.bool false)] t14 t14 H λt15 H=>
 zay [.snil] H λt3 H=>
 zak 1 t3 t15 H λH=>
 zay [(.int .i64 0)] H λt4 H=>
 zak 1 t4 (.int .i64 0) H λH=>
 zcb zEh [t3,t4] λt16=>
 zaf 1 t1 λt17=>
 zae false 1 t17 H λt18=>
 zah 1 t18 λt19=>
 zyd t1 t4 t16 t18 t19 (.int .i64 0) H K
theorem zIP{t1 t4 t5 t38 t39 t40:AV}{H:zaa}{K:Kt}(Inv:Nat→AV→zaa→Prop)(n:Nat)(h0:HSc H→Inv n t40 H)(round:Rd1 (λt40=>zyb t1 t4 t5 t38 t39 t40) (λt40=>λH Kb11=>zx9 t1 t4 t5 t38 t39 t40 H K Kb11) H Inv):zyc t1 t4 t5 t38 t39 t40 H K:=
 lp1 (M:=zfm) zye t40 (by kernel_rfl) Inv n h0 round
theorem zIQ{t1 t4 t5 t18 t19 t20:AV}{H:zaa}{K:Kt}(Inv:Nat→AV→zaa→Prop)(n:Nat)(h0:HSc H→Inv n t20 H)(round:Rd1 (λt20=>zqY t1 t4 t5 t18 t19 t20) (λt20=>λH Kb5=>zya t1 t4 t5 t18 t19 t20 H K Kb5) H Inv):zyd t1 t4 t5 t18 t19 t20 H K:=
 lp1 (M:=zfm) zIR t20 (by kernel_rfl) Inv n h0 round
theorem zIS{t0:AV}{H:zaa}{K:Kt}(h:HSc H→zx7 t0 H K):ACalls tP zoV [t0] H K:=
 zan (M:=zfm) Tryz.func135 (c:=ziu) (by kernel_rfl) (λhs=>Eq.mpr (by kernel_rfl) (h hs))
def zlz:Nat→List Bool
 |6=>rl false [4,2,9,3,25]
 |_=>[]
noncomputable def zqZ:Code:=Tryz.f136.body.getD .skip
noncomputable def zIY:List ResultVar:=Tryz.f136.results.toList
def zq0(t4 t5 t15 t16 t17:AV):List AV:=ux 4 (t4::t5::ux 9 (t15::t16::t17::ux 25 []))
def zIW:List Bool:=zlz 6
noncomputable def zIU:Code:=zaq [1,1,1,1,1,0,1,0,0] zqZ
def zIT(K:Kt):AExit→List AV→zaa→Prop:=zar tP zlz [1,1,1,1,1,0,1,0] zqZ (zaB tP zIY K)
def zyi(t4 t5 t15 t16 t17:AV)(H:zaa)(K:Kt):Prop:=ALoop tP zIU (zIT K) (zq0 t4 t5 t15 t16 t17) H
def zyh(t4 t5 t15 t16 t17:AV)(H:zaa)(K:Kt)(Kb6:Lt):Prop:=
 zac .lss false t17 t16 λt18=>
 zag t18
 (zaj 7 t15 t17 λt19=>
 zae true 7 t19 H λt20=>
 zay [(.str []),.snil,.snil,(.int .i64 0),(.int .i64 0),.snil,(.int .i64 0)] H λt7 H=>
 zak 7 t7 t20 H λH=>
 zae false 1 t4 H λt21=>
 zaf 1 t7 λt22=>
 zae false 1 t22 H λt23=>
 aCallV tP t21 [t23,(.bool true)] H λt24 H=>
 zae false 1 t4 H λt25=>
 zaf 2 t7 λt26=>
 zae false 1 t26 H λt27=>
 aCallV tP t25 [t27,(.bool true)] H λt28 H=>
 zae false 1 t5 H λt29=>
 zaf 6 t7 λt30=>
 zae false 1 t30 H λt31=>
 aCallV tP t29 [t31] H λt32 H=>
 aUn .not t32 λt33=>
 zag t33
 (K (.bool false) H)
 (zae false 1 t4 H λt34=>
 zaf 1 t7 λt35=>
 zae false 1 t35 H λt36=>
 aCallV tP t34 [t36,(.bool false)] H λt37 H=>
 zae false 1 t4 H λt38=>
 zaf 2 t7 λt39=>
 zae false 1 t39 H λt40=>
 aCallV tP t38 [t40,(.bool false)] H λt41 H=>
 zac .add false t17 (.int .i64 1) λt42=>
 Kb6 (zq0 t4 t5 t15 t16 t42) H))
 (K (.bool true) H)
def zyg(t0:AV)(H:zaa)(K:Kt):Prop:=
 zaw t0 H λt1 H=>
 zaf 2 t1 λt8=>
 zae false 1 t8 H λt9=>
 zah 1 t9 λt10=>
 zbu 1 [(.bool false)] t10 t10 H λt11 H=>
 zay [.snil] H λt3 H=>
 zak 1 t3 t11 H λH=>
 zcb zEi [t3] λt12=>
 zay [.nilfn] H λt4 H=>
 zak 1 t4 t12 H λH=>
 zay [.nilfn] H λt5 H=>
 zcb zEj [t1,t3,t4,t5] λt13=>
 zak 1 t5 t13 H λH=>
 zaf 1 t1 λt14=>
 zae false 1 t14 H λt15=>
 zah 1 t15 λt16=>
 zyi t4 t5 t15 t16 (.int .i64 0) H K
theorem zIV{t4 t5 t15 t16 t17:AV}{H:zaa}{K:Kt}(Inv:Nat→AV→zaa→Prop)(n:Nat)(h0:HSc H→Inv n t17 H)(round:Rd1 (λt17=>zq0 t4 t5 t15 t16 t17) (λt17=>λH Kb6=>zyh t4 t5 t15 t16 t17 H K Kb6) H Inv):zyi t4 t5 t15 t16 t17 H K:=
 lp1 (M:=zlz) zIW t17 (by kernel_rfl) Inv n h0 round
theorem zIX{t0:AV}{H:zaa}{K:Kt}(h:HSc H→zyg t0 H K):ACalls tP zoW [t0] H K:=
 zan (M:=zlz) Tryz.func136 (c:=zqZ) (by kernel_rfl) (λhs=>Eq.mpr (by kernel_rfl) (h hs))
def zfY:Nat→List Bool
 |3=>rl false [1,1,1,1,12,3,30]
 |9=>rl false [3,1,24,3,18]
 |_=>[]
noncomputable def ziv:Code:=Tryz.f137.body.getD .skip
noncomputable def zyo:List ResultVar:=Tryz.f137.results.toList
def zq2(t1 t3 t16 t17 t18:AV):List AV:=ux 1 (t1::ux 1 (t3::ux 12 (t16::t17::t18::ux 30 [])))
def zI5:List Bool:=zfY 3
noncomputable def zI1:Code:=zaq [1,1,0,1,0,0] ziv
def zIZ(K:Kt):AExit→List AV→zaa→Prop:=zar tP zfY [1,1,0,1,0] ziv (zaB tP zyo K)
def zym(t1 t3 t16 t17 t18:AV)(H:zaa)(K:Kt):Prop:=ALoop tP zI1 (zIZ K) (zq2 t1 t3 t16 t17 t18) H
def zq3(t3 t28 t29 t30:AV):List AV:=ux 3 (t3::ux 24 (t28::t29::t30::ux 18 []))
def zI6:List Bool:=zfY 9
noncomputable def zI2:Code:=zaq [1,1,1,0,1,0,0] ziv
def zI0(K:Kt):AExit→List AV→zaa→Prop:=zar tP zfY [1,1,1,0,1,0] ziv (zaB tP zyo K)
def zyn(t3 t28 t29 t30:AV)(H:zaa)(K:Kt):Prop:=ALoop tP zI2 (zI0 K) (zq3 t3 t28 t29 t30) H
def zyl(t3 t28 t29 t30:AV)(H:zaa)(K:Kt)(Kb9:Lt):Prop:=
 zac .lss false t30 t29 λt31=>
 zag t31
 (zaj 7 t28 t30 λt33=>
 zae true 7 t33 H λt34=>
 zay [(.str []),.snil,.snil,(.int .i64 0),(.int .i64 0),.snil,(.int .i64 0)] H λt7 H=>
 zak 7 t7 t34 H λH=>
 zaf 0 t7 λt35=>
 zae false 1 t35 H λt36=>
 zac .eql false t36 (.str []) λt37=>
 zab t37 true H (λK'=>K' t3 H) λt39 H=>
 zab t37 true H (λK'=>zaG t39 (K' · H)) λt40 H=>
 zab t37 true H (λK'=>zaf 4 t40 (K' · H)) λt41 H=>
 zab t37 true H (λK'=>zae false 1 t41 H (K' · H)) λt42 H=>
 zab t37 true H (λK'=>K' t30 H) λt43 H=>
 zab t37 true H (λK'=>zaj 1 t42 t43 (K' · H)) λt44 H=>
 zab t37 true H (λK'=>zae false 1 t44 H (K' · H)) λt45 H=>
 zab t37 true H (λK'=>zac .neq false t45 (.int .i64 1) (K' · H)) λt46 H=>
 zai t37 t46 (.bool false) λt47=>
 zag t47
 (K (.bool false) H)
 (zac .add false t30 (.int .i64 1) λt48=>
 Kb9 (zq3 t3 t28 t29 t48) H))
 (K (.bool true) H)
def zyk(t1 t3 t16 t17 t18:AV)(H:zaa)(K:Kt)(Kb3:Lt):Prop:=
 zac .lss false t18 t17 λt19=>
 zag t19
 (zaj 8 t16 t18 λt20=>
 zae true 8 t20 H λt21=>
 zay [(.int .i64 0),(.int .i64 0),.snil,.snil,.snil,(.int .i64 0),(.int .i64 0),.snil] H λt5 H=>
 zak 8 t5 t21 H λH=>
 zae true 8 t5 H λt23=>
 ACalls tP zEk [t3,t23] H λt24 H=>
 aUn .not t24 λt25=>
 zag t25
 (K (.bool false) H)
 (zac .add false t18 (.int .i64 1) λt26=>
 Kb3 (zq2 t1 t3 t16 t17 t26) H))
 (zaf 1 t1 λt27=>
 zae false 1 t27 H λt28=>
 zah 1 t28 λt29=>
 zyn t3 t28 t29 (.int .i64 0) H K)
def zyj(t0:AV)(H:zaa)(K:Kt):Prop:=
 zaw t0 H λt1 H=>
 zad H (λK'=>zam true 4 t1 H (K' · H)) λt8=>
 zad H (λK'=>zaf 1 t1 (K' · H)) λt9=>
 zad H (λK'=>zam false 1 t9 H (K' · H)) λt10=>
 zad H (λK'=>zah 1 t10 (K' · H)) λt11=>
 zbu 8 [(.int .i64 0)] t11 t11 H λt12 H=>
 zad H (λK'=>zao [.snil,.snil,.snil,.snil,.snil] [(0,4),(4,1)] [(0,t8),(1,t12)] (K' · H)) λt13=>
 zaw t13 H λt14 H=>
 zad H (λK'=>K' t14 H) λt3=>
 zaf 3 t1 λt15=>
 zae false 1 t15 H λt16=>
 zah 1 t16 λt17=>
 zym t1 t3 t16 t17 (.int .i64 0) H K
theorem zI4{t3 t28 t29 t30:AV}{H:zaa}{K:Kt}(Inv:Nat→AV→zaa→Prop)(n:Nat)(h0:HSc H→Inv n t30 H)(round:Rd1 (λt30=>zq3 t3 t28 t29 t30) (λt30=>λH Kb9=>zyl t3 t28 t29 t30 H K Kb9) H Inv):zyn t3 t28 t29 t30 H K:=
 lp1 (M:=zfY) zI6 t30 (by kernel_rfl) Inv n h0 round
theorem zI3{t1 t3 t16 t17 t18:AV}{H:zaa}{K:Kt}(Inv:Nat→AV→zaa→Prop)(n:Nat)(h0:HSc H→Inv n t18 H)(round:Rd1 (λt18=>zq2 t1 t3 t16 t17 t18) (λt18=>λH Kb3=>zyk t1 t3 t16 t17 t18 H K Kb3) H Inv):zym t1 t3 t16 t17 t18 H K:=
 lp1 (M:=zfY) zI5 t18 (by kernel_rfl) Inv n h0 round
theorem zI7{t0:AV}{H:zaa}{K:Kt}(h:HSc H→zyj t0 H K):ACalls tP zoX [t0] H K:=
 zan (M:=zfY) Tryz.func137 (c:=ziv) (by kernel_rfl) (λhs=>Eq.mpr (by kernel_rfl) (h hs))
end Go.Proofs.YtaifokkaaahdoaaGreatDoor

namespace Go.Proofs.YtaifokkaaahdoaaGreatDoor
open Go Go.Abs
set_option maxRecDepth 100000
def zP4(_:Nat):List Bool:=[]
noncomputable def zP7:Code:=Tryz.f10.body.getD .skip
def zq8(t0 t1 t2:AV)(H:zaa)(K:Kt):Prop:=
 zaw t1 H λt4 H=>
 zaw t2 H λt5 H=>
 zay [(.int .i64 0)] H λt7 H=>
 zak 1 t7 (.int .i64 5000) H λH=>
 ACalls tP zj4 [t0] H λt9 H=>
 zab t9 true H (λK'=>K' t0 H) λt11 H=>
 zab t9 true H (λK'=>zae true 3 t5 H (K' · H)) λt12 H=>
 zab t9 true H (λK'=>ACalls tP zhZ [t11,t12,(.int .i64 0)] H K') λt13 H=>
 zai t9 t13 (.bool false) λt14=>
 zab t14 true H (λK'=>zae true 3 t4 H (K' · H)) λt16 H=>
 zab t14 true H (λK'=>ACalls tP zj5 [t16,t7] H K') λt17 H=>
 zai t14 t17 (.bool false) λt18=>
 zab t18 true H (λK'=>K' t0 H) λt20 H=>
 zab t18 true H (λK'=>zae true 3 t4 H (K' · H)) λt21 H=>
 zab t18 true H (λK'=>zae true 3 t5 H (K' · H)) λt22 H=>
 zab t18 true H (λK'=>ACalls tP zgA [t20,t21,t22] H K') λt23 H=>
 zai t18 t23 (.bool false) λt24=>
 K t24 H
theorem zBb{t0 t1 t2:AV}{H:zaa}{K:Kt}(h:HSc H→zq8 t0 t1 t2 H K):ACalls tP zkg [t0,t1,t2] H K:=
 zan (M:=zP4) Tryz.func10 (c:=zP7) (by kernel_rfl) (λhs=>Eq.mpr (by kernel_rfl) (h hs))
def zNC(_:Nat):List Bool:=[]
noncomputable def zNE:Code:=Tryz.f59.body.getD .skip
def zz6(t0 t1:AV)(H:zaa)(K:Kt):Prop:=
 zaw t1 H λt3 H=>
 zao [.snil,.snil,.snil,.snil] [(0,1),(1,1),(2,1),(3,1)] [(0,t0)] λt6=>
 ACalls tP zpo [t6] H λt7 H=>
 zab t7 true H (λK'=>K' t0 H) λt9 H=>
 zab t7 true H (λK'=>zae true 3 t3 H (K' · H)) λt10 H=>
 zab t7 true H (λK'=>ACalls tP zfP [t9,t10,(.int .i64 0)] H K') λt11 H=>
 zai t7 t11 (.bool false) λt12=>
 K t12 H
theorem zNF{t0 t1:AV}{H:zaa}{K:Kt}(h:HSc H→zz6 t0 t1 H K):ACalls tP zpk [t0,t1] H K:=
 zan (M:=zNC) Tryz.func59 (c:=zNE) (by kernel_rfl) (λhs=>Eq.mpr (by kernel_rfl) (h hs))
def zQf(_:Nat):List Bool:=[]
noncomputable def zQg:Code:=Tryz.f98.body.getD .skip
def zBf(t0 t1:AV)(H:zaa)(K:Kt):Prop:=
 ACalls tP zoY [t0,t1] H λt7 H=>
 zac .geq false t7 (.int .i64 0) λt8=>
 K t8 H
theorem zQh{t0 t1:AV}{H:zaa}{K:Kt}(h:HSc H→zBf t0 t1 H K):ACalls tP zpp [t0,t1] H K:=
 zan (M:=zQf) Tryz.func98 (c:=zQg) (by kernel_rfl) (λhs=>Eq.mpr (by kernel_rfl) (h hs))
def zlF:Nat→List Bool
 |2=>rl false [0,2,5,2,10]
 |_=>[]
noncomputable def zrc:Code:=Tryz.f139.body.getD .skip
noncomputable def zJl:List ResultVar:=Tryz.f139.results.toList
def zlG(t0 t1 t7 t8:AV):List AV:=t0::t1::ux 5 (t7::t8::ux 10 [])
def zJj:List Bool:=zlF 2
noncomputable def zJh:Code:=zaq [1,0,1,0,0] zrc
def zJg(K:Kt):AExit→List AV→zaa→Prop:=zar tP zlF [1,0,1,0] zrc (zaB tP zJl K)
def zyu(t0 t1 t7 t8:AV)(H:zaa)(K:Kt):Prop:=ALoop tP zJh (zJg K) (zlG t0 t1 t7 t8) H
def zrb(t0 t1 t7 t8:AV)(H:zaa)(K:Kt)(Kb2:Lt):Prop:=
 zac .lss false t8 t7 λt9=>
 zag t9
 (zaj 3 t0 t8 λt14=>
 zae true 3 t14 H λt15=>
 aCallV tP t1 [t15] H λt16 H=>
 zag t16
 (K t8 H)
 (zac .add false t8 (.int .i64 1) λt18=>
 Kb2 (zlG t0 t1 t7 t18) H))
 (K (.int .i64 (-1)) H)
def zyt(t0 t1:AV)(H:zaa)(K:Kt):Prop:=
 zah 1 t0 λt7=>
 zyu t0 t1 t7 (.int .i64 0) H K
theorem zJi{t0 t1 t7 t8:AV}{H:zaa}{K:Kt}(Inv:Nat→AV→zaa→Prop)(n:Nat)(h0:HSc H→Inv n t8 H)(round:Rd1 (λt8=>zlG t0 t1 t7 t8) (λt8=>λH Kb2=>zrb t0 t1 t7 t8 H K Kb2) H Inv):zyu t0 t1 t7 t8 H K:=
 lp1 (M:=zlF) zJj t8 (by kernel_rfl) Inv n h0 round
theorem zJk{t0 t1:AV}{H:zaa}{K:Kt}(h:HSc H→zyt t0 t1 H K):ACalls tP zoY [t0,t1] H K:=
 zan (M:=zlF) Tryz.func139 (c:=zrc) (by kernel_rfl) (λhs=>Eq.mpr (by kernel_rfl) (h hs))
def zNG(_:Nat):List Bool:=[]
noncomputable def zNH:Code:=Tryz.f61.body.getD .skip
def zeP(t0 t1 t2:AV)(H:zaa)(K:Kt):Prop:=
 zaw t0 H λt3 H=>
 zaw t1 H λt4 H=>
 zaw t2 H λt5 H=>
 zaf 0 t5 λt9=>
 zae false 1 t9 H λt10=>
 zac .eql false t10 (.int .i64 1) λt12=>
 zag t12
 (zaf 0 t4 λt13=>
 zae false 1 t13 H λt14=>
 zac .eql false t14 (.int .i64 3) λt15=>
 zab t15 true H (λK'=>zaf 1 t4 (K' · H)) λt17 H=>
 zab t15 true H (λK'=>zae false 1 t17 H (K' · H)) λt18 H=>
 zab t15 true H (λK'=>zac .leq false (.int .i64 (-1099511627776)) t18 (K' · H)) λt19 H=>
 zai t15 t19 (.bool false) λt20=>
 zab t20 true H (λK'=>zaf 1 t4 (K' · H)) λt22 H=>
 zab t20 true H (λK'=>zae false 1 t22 H (K' · H)) λt23 H=>
 zab t20 true H (λK'=>zac .leq false t23 (.int .i64 1099511627776) (K' · H)) λt24 H=>
 zai t20 t24 (.bool false) λt25=>
 zab t25 true H (λK'=>zaf 2 t4 (K' · H)) λt27 H=>
 zab t25 true H (λK'=>zae false 1 t27 H (K' · H)) λt28 H=>
 zab t25 true H (λK'=>zah 1 t28 (K' · H)) λt29 H=>
 zab t25 true H (λK'=>zac .eql false t29 (.int .i64 0) (K' · H)) λt30 H=>
 zai t25 t30 (.bool false) λt31=>
 K t31 H)
 (zac .eql false t10 (.int .i64 2) λt33=>
 zag t33
 (zaf 0 t4 λt34=>
 zae false 1 t34 H λt35=>
 zac .eql false t35 (.int .i64 2) λt36=>
 zab t36 true H (λK'=>zaf 1 t4 (K' · H)) λt38 H=>
 zab t36 true H (λK'=>zae false 1 t38 H (K' · H)) λt39 H=>
 zab t36 true H (λK'=>zac .eql false t39 (.int .i64 0) (K' · H)) λt40 H=>
 zab t36 true H (λK'=>K' t40 H) λt41 H=>
 zab t41 false H (λK'=>zaf 1 t4 (K' · H)) λt42 H=>
 zab t41 false H (λK'=>zae false 1 t42 H (K' · H)) λt43 H=>
 zab t41 false H (λK'=>zac .eql false t43 (.int .i64 1) (K' · H)) λt44 H=>
 zab t36 true H (λK'=>zai t41 (.bool true) t44 (K' · H)) λt45 H=>
 zai t36 t45 (.bool false) λt46=>
 zab t46 true H (λK'=>zaf 2 t4 (K' · H)) λt48 H=>
 zab t46 true H (λK'=>zae false 1 t48 H (K' · H)) λt49 H=>
 zab t46 true H (λK'=>zah 1 t49 (K' · H)) λt50 H=>
 zab t46 true H (λK'=>zac .eql false t50 (.int .i64 0) (K' · H)) λt51 H=>
 zai t46 t51 (.bool false) λt52=>
 K t52 H)
 (zac .eql false t10 (.int .i64 3) λt54=>
 zag t54
 (zaf 0 t4 λt55=>
 zae false 1 t55 H λt56=>
 zac .eql false t56 (.int .i64 1) λt57=>
 zab t57 true H (λK'=>zaf 1 t4 (K' · H)) λt59 H=>
 zab t57 true H (λK'=>zae false 1 t59 H (K' · H)) λt60 H=>
 zab t57 true H (λK'=>zac .eql false t60 (.int .i64 0) (K' · H)) λt61 H=>
 zai t57 t61 (.bool false) λt62=>
 zab t62 true H (λK'=>zaf 2 t4 (K' · H)) λt64 H=>
 zab t62 true H (λK'=>zae false 1 t64 H (K' · H)) λt65 H=>
 zab t62 true H (λK'=>zah 1 t65 (K' · H)) λt66 H=>
 zab t62 true H (λK'=>zac .eql false t66 (.int .i64 0) (K' · H)) λt67 H=>
 zai t62 t67 (.bool false) λt68=>
 K t68 H)
 (zac .eql false t10 (.int .i64 6) λt70=>
 zag t70
 (zaf 0 t4 λt71=>
 zae false 1 t71 H λt72=>
 zac .eql false t72 (.int .i64 4) λt73=>
 zab t73 true H (λK'=>zaf 1 t4 (K' · H)) λt75 H=>
 zab t73 true H (λK'=>zae false 1 t75 H (K' · H)) λt76 H=>
 zab t73 true H (λK'=>zac .eql false t76 (.int .i64 0) (K' · H)) λt77 H=>
 zai t73 t77 (.bool false) λt78=>
 zab t78 true H (λK'=>zae false 1 t3 H (K' · H)) λt80 H=>
 zab t78 true H (λK'=>zaf 2 t4 (K' · H)) λt81 H=>
 zab t78 true H (λK'=>zae false 1 t81 H (K' · H)) λt82 H=>
 zab t78 true H (λK'=>zaf 2 t5 (K' · H)) λt83 H=>
 zab t78 true H (λK'=>zae false 1 t83 H (K' · H)) λt84 H=>
 zab t78 true H (λK'=>ACalls tP zia [t80,t82,t84] H K') λt85 H=>
 zai t78 t85 (.bool false) λt86=>
 K t86 H)
 (zac .eql false t10 (.int .i64 5) λt88=>
 zag t88
 (zaf 0 t4 λt89=>
 zae false 1 t89 H λt90=>
 zac .neq false t90 (.int .i64 5) λt91=>
 zab t91 false H (λK'=>zaf 1 t4 (K' · H)) λt93 H=>
 zab t91 false H (λK'=>zae false 1 t93 H (K' · H)) λt94 H=>
 zab t91 false H (λK'=>zac .lss false t94 (.int .i64 0) (K' · H)) λt95 H=>
 zai t91 (.bool true) t95 λt96=>
 zab t96 false H (λK'=>zaf 1 t4 (K' · H)) λt98 H=>
 zab t96 false H (λK'=>zae false 1 t98 H (K' · H)) λt99 H=>
 zab t96 false H (λK'=>zac .geq false t99 (.int .i64 8) (K' · H)) λt100 H=>
 zai t96 (.bool true) t100 λt101=>
 zag t101
 (K (.bool false) H)
 (zae false 1 t3 H λt103=>
 zae true 3 t5 H λt104=>
 zaf 1 t4 λt105=>
 zae false 1 t105 H λt106=>
 ACalls tP zkl [t103,t104,t106] H λt107 H=>
 zaN t107 0 λt108=>
 zaN t107 1 λt109=>
 zab t109 true H (λK'=>zae false 1 t3 H (K' · H)) λt112 H=>
 zab t109 true H (λK'=>zaf 2 t4 (K' · H)) λt113 H=>
 zab t109 true H (λK'=>zae false 1 t113 H (K' · H)) λt114 H=>
 zab t109 true H (λK'=>K' t108 H) λt115 H=>
 zab t109 true H (λK'=>ACalls tP zia [t112,t114,t115] H K') λt116 H=>
 zai t109 t116 (.bool false) λt117=>
 K t117 H))
 (zac .eql false t10 (.int .i64 7) λt119=>
 zag t119
 (zaf 0 t4 λt120=>
 zae false 1 t120 H λt121=>
 zac .eql false t121 (.int .i64 6) λt122=>
 zab t122 true H (λK'=>zaf 1 t4 (K' · H)) λt124 H=>
 zab t122 true H (λK'=>zae false 1 t124 H (K' · H)) λt125 H=>
 zab t122 true H (λK'=>zac .eql false t125 (.int .i64 0) (K' · H)) λt126 H=>
 zai t122 t126 (.bool false) λt127=>
 zab t127 true H (λK'=>zaf 2 t4 (K' · H)) λt129 H=>
 zab t127 true H (λK'=>zae false 1 t129 H (K' · H)) λt130 H=>
 zab t127 true H (λK'=>zah 1 t130 (K' · H)) λt131 H=>
 zab t127 true H (λK'=>zac .leq false t131 (.int .i64 4096) (K' · H)) λt132 H=>
 zai t127 t132 (.bool false) λt133=>
 zab t133 true H (λK'=>zaf 2 t4 (K' · H)) λt135 H=>
 zab t133 true H (λK'=>zae false 1 t135 H (K' · H)) λt136 H=>
 zab t133 true H (λK'=>zcb zoM [t3,t5] (K' · H)) λt137 H=>
 zab t133 true H (λK'=>ACalls tP zpp [t136,t137] H K') λt138 H=>
 zab t133 true H (λK'=>aUn .not t138 (K' · H)) λt139 H=>
 zai t133 t139 (.bool false) λt140=>
 K t140 H)
 (zac .eql false t10 (.int .i64 8) λt142=>
 zag t142
 (zaf 0 t4 λt143=>
 zae false 1 t143 H λt144=>
 zac .eql false t144 (.int .i64 7) λt145=>
 zab t145 true H (λK'=>zaf 1 t4 (K' · H)) λt147 H=>
 zab t145 true H (λK'=>zae false 1 t147 H (K' · H)) λt148 H=>
 zab t145 true H (λK'=>zac .eql false t148 (.int .i64 0) (K' · H)) λt149 H=>
 zai t145 t149 (.bool false) λt150=>
 zab t150 true H (λK'=>zae false 1 t3 H (K' · H)) λt152 H=>
 zab t150 true H (λK'=>zaf 2 t4 (K' · H)) λt153 H=>
 zab t150 true H (λK'=>zae false 1 t153 H (K' · H)) λt154 H=>
 zab t150 true H (λK'=>zaf 2 t5 (K' · H)) λt155 H=>
 zab t150 true H (λK'=>zae false 1 t155 H (K' · H)) λt156 H=>
 zab t150 true H (λK'=>ACalls tP zia [t152,t154,t156] H K') λt157 H=>
 zai t150 t157 (.bool false) λt158=>
 K t158 H)
 (zac .eql false t10 (.int .i64 9) λt160=>
 zag t160
 (zaf 0 t4 λt161=>
 zae false 1 t161 H λt162=>
 zac .eql false t162 (.int .i64 8) λt163=>
 zab t163 true H (λK'=>zaf 1 t4 (K' · H)) λt165 H=>
 zab t163 true H (λK'=>zae false 1 t165 H (K' · H)) λt166 H=>
 zab t163 true H (λK'=>zac .leq false (.int .i64 0) t166 (K' · H)) λt167 H=>
 zai t163 t167 (.bool false) λt168=>
 zab t168 true H (λK'=>zaf 1 t4 (K' · H)) λt170 H=>
 zab t168 true H (λK'=>zae false 1 t170 H (K' · H)) λt171 H=>
 zab t168 true H (λK'=>zac .lss false t171 (.int .i64 64) (K' · H)) λt172 H=>
 zai t168 t172 (.bool false) λt173=>
 zab t173 true H (λK'=>zaf 2 t4 (K' · H)) λt175 H=>
 zab t173 true H (λK'=>zae false 1 t175 H (K' · H)) λt176 H=>
 zab t173 true H (λK'=>zah 1 t176 (K' · H)) λt177 H=>
 zab t173 true H (λK'=>zac .eql false t177 (.int .i64 0) (K' · H)) λt178 H=>
 zai t173 t178 (.bool false) λt179=>
 K t179 H)
 (K (.bool false) H))))))))
theorem zNI{t0 t1 t2:AV}{H:zaa}{K:Kt}(h:HSc H→zeP t0 t1 t2 H K):ACalls tP zj9 [t0,t1,t2] H K:=
 zan (M:=zNG) Tryz.func61 (c:=zNH) (by kernel_rfl) (λhs=>Eq.mpr (by kernel_rfl) (h hs))
def zQi(_:Nat):List Bool:=[]
noncomputable def zQj:Code:=Tryz.f100.body.getD .skip
def zBg(t0 t1 t2:AV)(H:zaa)(K:Kt):Prop:=
 zaw t0 H λt3 H=>
 zcb zo0 [t3] λt9=>
 ACalls tP zoZ [t1,t2,t9] H λt10 H=>
 K t10 H
theorem zQk{t0 t1 t2:AV}{H:zaa}{K:Kt}(h:HSc H→zBg t0 t1 t2 H K):ACalls tP zia [t0,t1,t2] H K:=
 zan (M:=zQi) Tryz.func100 (c:=zQj) (by kernel_rfl) (λhs=>Eq.mpr (by kernel_rfl) (h hs))
def zGZ(_:Nat):List Bool:=[]
noncomputable def zG0:Code:=Tryz.f102.body.getD .skip
def zxx(t0 t1 t2:AV)(H:zaa)(K:Kt):Prop:=
 zaw t0 H λt3 H=>
 zad H (λK'=>zam false 1 t1 H (K' · H)) λt5=>
 zad H (λK'=>zam true 3 t3 H (K' · H)) λt6=>
 zad H (λK'=>zaf 2 t2 (K' · H)) λt7=>
 zad H (λK'=>zam false 1 t7 H (K' · H)) λt8=>
 zad H (λK'=>zaj 3 t8 (.int .i64 0) (K' · H)) λt9=>
 zad H (λK'=>zam true 3 t9 H (K' · H)) λt10=>
 zaQ H (λH K'=>ACalls tP zj9 [t5,t6,t10] H K') λt11=>
 zad H (λK'=>aUn .not t11 (K' · H)) λt12=>
 zad H (λK'=>K' t12 H) λt4=>
 K t4 H
theorem zG1{t0 t1 t2:AV}{H:zaa}{K:Kt}(h:HSc H→zxx t0 t1 t2 H K):ACalls tP zoM [t0,t1,t2] H K:=
 zan (M:=zGZ) Tryz.func102 (c:=zG0) (by kernel_rfl) (λhs=>Eq.mpr (by kernel_rfl) (h hs))
def zlH:Nat→List Bool
 |4=>rl false [1,2,12,3,14]
 |_=>[]
noncomputable def zrf:Code:=Tryz.f140.body.getD .skip
noncomputable def zJr:List ResultVar:=Tryz.f140.results.toList
def zlI(t1 t2 t15 t16 t17:AV):List AV:=ux 1 (t1::t2::ux 12 (t15::t16::t17::ux 14 []))
def zJp:List Bool:=zlH 4
noncomputable def zJn:Code:=zaq [1,1,0,1,0,0] zrf
def zJm(K:Kt):AExit→List AV→zaa→Prop:=zar tP zlH [1,1,0,1,0] zrf (zaB tP zJr K)
def zyv(t1 t2 t15 t16 t17:AV)(H:zaa)(K:Kt):Prop:=ALoop tP zJn (zJm K) (zlI t1 t2 t15 t16 t17) H
def zre(t1 t2 t15 t16 t17:AV)(H:zaa)(K:Kt)(Kb4:Lt):Prop:=
 zac .lss false t17 t16 λt18=>
 zag t18
 (zaj 3 t15 t17 λt20=>
 zae true 3 t20 H λt21=>
 zay [(.int .i64 0),(.int .i64 0),.snil] H λt8 H=>
 zak 3 t8 t21 H λH=>
 zaj 3 t1 t17 λt24=>
 zae true 3 t24 H λt25=>
 zay [(.int .i64 0),(.int .i64 0),.snil] H λt9 H=>
 zak 3 t9 t25 H λH=>
 zae true 3 t8 H λt27=>
 zae true 3 t9 H λt28=>
 aCallV tP t2 [t27,t28] H λt29 H=>
 aUn .not t29 λt30=>
 zag t30
 (K (.bool false) H)
 (zac .add false t17 (.int .i64 1) λt31=>
 Kb4 (zlI t1 t2 t15 t16 t31) H))
 (K (.bool true) H)
def zrd(t0 t1 t2:AV)(H:zaa)(K:Kt):Prop:=
 zah 1 t0 λt11=>
 zah 1 t1 λt13=>
 zac .neq false t11 t13 λt14=>
 zag t14
 (K (.bool false) H)
 (zah 1 t0 λt16=>
 zyv t1 t2 t0 t16 (.int .i64 0) H K)
theorem zJo{t1 t2 t15 t16 t17:AV}{H:zaa}{K:Kt}(Inv:Nat→AV→zaa→Prop)(n:Nat)(h0:HSc H→Inv n t17 H)(round:Rd1 (λt17=>zlI t1 t2 t15 t16 t17) (λt17=>λH Kb4=>zre t1 t2 t15 t16 t17 H K Kb4) H Inv):zyv t1 t2 t15 t16 t17 H K:=
 lp1 (M:=zlH) zJp t17 (by kernel_rfl) Inv n h0 round
theorem zJq{t0 t1 t2:AV}{H:zaa}{K:Kt}(h:HSc H→zrd t0 t1 t2 H K):ACalls tP zoZ [t0,t1,t2] H K:=
 zan (M:=zlH) Tryz.func140 (c:=zrf) (by kernel_rfl) (λhs=>Eq.mpr (by kernel_rfl) (h hs))
def zJs(_:Nat):List Bool:=[]
noncomputable def zJt:Code:=Tryz.f141.body.getD .skip
def zyw(t0 t1 t2:AV)(H:zaa)(K:Kt):Prop:=
 zaw t0 H λt3 H=>
 zaw t1 H λt4 H=>
 zae false 1 t2 H λt6=>
 zae true 3 t3 H λt7=>
 zae true 3 t4 H λt8=>
 ACalls tP zj9 [t6,t7,t8] H λt9 H=>
 K t9 H
theorem zJu{t0 t1 t2:AV}{H:zaa}{K:Kt}(h:HSc H→zyw t0 t1 t2 H K):ACalls tP zo0 [t0,t1,t2] H K:=
 zan (M:=zJs) Tryz.func141 (c:=zJt) (by kernel_rfl) (λhs=>Eq.mpr (by kernel_rfl) (h hs))
def zms:Nat→List Bool
 |5=>rl false [1,2,2,1,24]
 |_=>[]
noncomputable def zr6:Code:=Tryz.f28.body.getD .skip
noncomputable def zMo:List ResultVar:=Tryz.f28.results.toList
def zmt(t1 t2 t5:AV):List AV:=ux 1 (t1::t2::ux 2 (t5::ux 24 []))
def zMm:List Bool:=zms 5
noncomputable def zMk:Code:=zaq [1,1,1,0,1,0,0] zr6
def zMj(K:Kt):AExit→List AV→zaa→Prop:=zar tP zms [1,1,1,0,1,0] zr6 (zaB tP zMo K)
def zzy(t1 t2 t5:AV)(H:zaa)(K:Kt):Prop:=ALoop tP zMk (zMj K) (zmt t1 t2 t5) H
def zr5(t1 t2 t5:AV)(H:zaa)(K:Kt)(Kb5:Lt):Prop:=
 zaf 2 t2 λt16=>
 zae false 1 t16 H λt17=>
 zah 1 t17 λt18=>
 zac .lss false t5 t18 λt19=>
 zag t19
 (zaf 2 t2 λt22=>
 zae false 1 t22 H λt23=>
 zaj 3 t23 t5 λt25=>
 zae true 3 t25 H λt26=>
 ACalls tP zj5 [t26,t1] H λt28 H=>
 aUn .not t28 λt29=>
 zag t29
 (K (.bool false) H)
 (zac .add false t5 (.int .i64 1) λt21=>
 Kb5 (zmt t1 t2 t21) H))
 (K (.bool true) H)
def zzx(t0 t1:AV)(H:zaa)(K:Kt):Prop:=
 zaw t0 H λt2 H=>
 zaG t1 λt7=>
 zae false 1 t7 H λt8=>
 zac .sub false t8 (.int .i64 1) λt9=>
 zaG t1 λt10=>
 zak 1 t10 t9 H λH=>
 zaG t1 λt12=>
 zae false 1 t12 H λt13=>
 zac .lss false t13 (.int .i64 0) λt14=>
 zag t14
 (K (.bool false) H)
 (zzy t1 t2 (.int .i64 0) H K)
theorem zMl{t1 t2 t5:AV}{H:zaa}{K:Kt}(Inv:Nat→AV→zaa→Prop)(n:Nat)(h0:HSc H→Inv n t5 H)(round:Rd1 (λt5=>zmt t1 t2 t5) (λt5=>λH Kb5=>zr5 t1 t2 t5 H K Kb5) H Inv):zzy t1 t2 t5 H K:=
 lp1 (M:=zms) zMm t5 (by kernel_rfl) Inv n h0 round
theorem zMn{t0 t1:AV}{H:zaa}{K:Kt}(h:HSc H→zzx t0 t1 H K):ACalls tP zj5 [t0,t1] H K:=
 zan (M:=zms) Tryz.func28 (c:=zr6) (by kernel_rfl) (λhs=>Eq.mpr (by kernel_rfl) (h hs))
def zmu:Nat→List Bool
 |21=>rl false [0,1,3,2,1,1,2,1,174]
 |_=>[]
noncomputable def zr7:Code:=Tryz.f29.body.getD .skip
noncomputable def zMt:List ResultVar:=Tryz.f29.results.toList
def ziO(t0 t4 t5 t7 t10:AV):List AV:=t0::ux 3 (t4::t5::ux 1 (t7::ux 2 (t10::ux 174 [])))
def zMs:List Bool:=zmu 21
noncomputable def zMr:Code:=zaq [1,1,0,1,0,1,1,1,1,1,1,1,1,1,1,1,0,1,0,1,0,0] zr7
def zMp(K:Kt):AExit→List AV→zaa→Prop:=zar tP zmu [1,1,0,1,0,1,1,1,1,1,1,1,1,1,1,1,0,1,0,1,0] zr7 (zaB tP zMt K)
def zmv(t0 t4 t5 t7 t10:AV)(H:zaa)(K:Kt):Prop:=ALoop tP zMr (zMp K) (ziO t0 t4 t5 t7 t10) H
def ziN(t0 t4 t5 t7 t10:AV)(H:zaa)(K:Kt)(Kb21:Lt):Prop:=
 zac .lss false t10 t7 λt153=>
 zag t153
 (zad H (λK'=>K' t0 H) λt156=>
 zad H (λK'=>zaf 2 t4 (K' · H)) λt157=>
 zad H (λK'=>zam false 1 t157 H (K' · H)) λt158=>
 zad H (λK'=>K' t10 H) λt159=>
 zad H (λK'=>zaj 3 t158 t159 (K' · H)) λt160=>
 zad H (λK'=>zam true 3 t160 H (K' · H)) λt161=>
 zad H (λK'=>zaf 2 t5 (K' · H)) λt162=>
 zad H (λK'=>zam false 1 t162 H (K' · H)) λt163=>
 zad H (λK'=>zaj 3 t163 (.int .i64 0) (K' · H)) λt164=>
 zad H (λK'=>zam true 3 t164 H (K' · H)) λt165=>
 zaQ H (λH K'=>ACalls tP zgA [t156,t161,t165] H K') λt166=>
 zad H (λK'=>aUn .not t166 (K' · H)) λt167=>
 zag t167
 (K (.bool false) H)
 (zac .add false t10 (.int .i64 1) λt155=>
 Kb21 (ziO t0 t4 t5 t7 t155) H))
 (K (.bool true) H)
def zfn(t0 t4 t5 t7 t117:AV)(H:zaa)(K:Kt):Prop:=
 zag t117
 (zaf 0 t5 λt120=>
 zae false 1 t120 H λt121=>
 zac .eql false t121 (.int .i64 7) λt122=>
 zab t122 true H (λK'=>zaf 0 t4 (K' · H)) λt124 H=>
 zab t122 true H (λK'=>zae false 1 t124 H (K' · H)) λt125 H=>
 zab t122 true H (λK'=>zac .neq false t125 (.int .i64 6) (K' · H)) λt126 H=>
 zab t122 true H (λK'=>K' t126 H) λt127 H=>
 zab t127 false H (λK'=>K' t7 H) λt128 H=>
 zab t127 false H (λK'=>zac .gtr false t128 (.int .i64 4096) (K' · H)) λt129 H=>
 zab t122 true H (λK'=>zai t127 (.bool true) t129 (K' · H)) λt130 H=>
 zai t122 t130 (.bool false) λt131=>
 zab t131 false H (λK'=>zaf 0 t5 (K' · H)) λt133 H=>
 zab t131 false H (λK'=>zae false 1 t133 H (K' · H)) λt134 H=>
 zab t131 false H (λK'=>zac .eql false t134 (.int .i64 8) (K' · H)) λt135 H=>
 zab t131 false H (λK'=>K' t135 H) λt136 H=>
 zab t136 true H (λK'=>zaf 0 t4 (K' · H)) λt137 H=>
 zab t136 true H (λK'=>zae false 1 t137 H (K' · H)) λt138 H=>
 zab t136 true H (λK'=>zac .neq false t138 (.int .i64 7) (K' · H)) λt139 H=>
 zab t136 true H (λK'=>K' t139 H) λt140 H=>
 zab t140 false H (λK'=>K' t7 H) λt141 H=>
 zab t140 false H (λK'=>zac .neq false t141 (.int .i64 1) (K' · H)) λt142 H=>
 zab t136 true H (λK'=>zai t140 (.bool true) t142 (K' · H)) λt143 H=>
 zab t131 false H (λK'=>zai t136 t143 (.bool false) (K' · H)) λt144 H=>
 zai t131 (.bool true) t144 λt145=>
 zab t145 false H (λK'=>zaf 1 t4 (K' · H)) λt147 H=>
 zab t145 false H (λK'=>zae false 1 t147 H (K' · H)) λt148 H=>
 zab t145 false H (λK'=>zac .neq false t148 (.int .i64 0) (K' · H)) λt149 H=>
 zai t145 (.bool true) t149 λt150=>
 zag t150
 (K (.bool false) H)
 (zmv t0 t4 t5 t7 (.int .i64 0) H K))
 (zaf 0 t4 λt168=>
 zae false 1 t168 H λt169=>
 zac .eql false t169 (.int .i64 8) λt170=>
 zab t170 true H (λK'=>zaf 1 t4 (K' · H)) λt172 H=>
 zab t170 true H (λK'=>zae false 1 t172 H (K' · H)) λt173 H=>
 zab t170 true H (λK'=>zac .geq false t173 (.int .i64 0) (K' · H)) λt174 H=>
 zai t170 t174 (.bool false) λt175=>
 zab t175 true H (λK'=>zaf 1 t4 (K' · H)) λt177 H=>
 zab t175 true H (λK'=>zae false 1 t177 H (K' · H)) λt178 H=>
 zab t175 true H (λK'=>zac .lss false t178 (.int .i64 64) (K' · H)) λt179 H=>
 zai t175 t179 (.bool false) λt180=>
 zab t180 true H (λK'=>K' t7 H) λt182 H=>
 zab t180 true H (λK'=>zac .eql false t182 (.int .i64 0) (K' · H)) λt183 H=>
 zai t180 t183 (.bool false) λt184=>
 K t184 H)
def zcy(t0 t1 t2:AV)(H:zaa)(K:Kt):Prop:=
 zaw t1 H λt4 H=>
 zaw t2 H λt5 H=>
 zaf 2 t4 λt11=>
 zae false 1 t11 H λt12=>
 zah 1 t12 λt13=>
 zaf 0 t5 λt14=>
 zae false 1 t14 H λt15=>
 zac .eql false t15 (.int .i64 3) λt17=>
 zag t17
 (zaf 0 t4 λt18=>
 zae false 1 t18 H λt19=>
 zac .eql false t19 (.int .i64 1) λt20=>
 zab t20 true H (λK'=>zaf 1 t4 (K' · H)) λt22 H=>
 zab t20 true H (λK'=>zae false 1 t22 H (K' · H)) λt23 H=>
 zab t20 true H (λK'=>zac .eql false t23 (.int .i64 0) (K' · H)) λt24 H=>
 zai t20 t24 (.bool false) λt25=>
 zab t25 true H (λK'=>K' t13 H) λt27 H=>
 zab t25 true H (λK'=>zac .eql false t27 (.int .i64 0) (K' · H)) λt28 H=>
 zai t25 t28 (.bool false) λt29=>
 K t29 H)
 (zac .eql false t15 (.int .i64 2) λt31=>
 zag t31
 (zaf 0 t4 λt32=>
 zae false 1 t32 H λt33=>
 zac .eql false t33 (.int .i64 2) λt34=>
 zab t34 true H (λK'=>zaf 1 t4 (K' · H)) λt36 H=>
 zab t34 true H (λK'=>zae false 1 t36 H (K' · H)) λt37 H=>
 zab t34 true H (λK'=>zac .eql false t37 (.int .i64 0) (K' · H)) λt38 H=>
 zab t34 true H (λK'=>K' t38 H) λt39 H=>
 zab t39 false H (λK'=>zaf 1 t4 (K' · H)) λt40 H=>
 zab t39 false H (λK'=>zae false 1 t40 H (K' · H)) λt41 H=>
 zab t39 false H (λK'=>zac .eql false t41 (.int .i64 1) (K' · H)) λt42 H=>
 zab t34 true H (λK'=>zai t39 (.bool true) t42 (K' · H)) λt43 H=>
 zai t34 t43 (.bool false) λt44=>
 zab t44 true H (λK'=>K' t13 H) λt46 H=>
 zab t44 true H (λK'=>zac .eql false t46 (.int .i64 0) (K' · H)) λt47 H=>
 zai t44 t47 (.bool false) λt48=>
 K t48 H)
 (zac .eql false t15 (.int .i64 1) λt50=>
 zag t50
 (zaf 0 t4 λt51=>
 zae false 1 t51 H λt52=>
 zac .eql false t52 (.int .i64 3) λt53=>
 zab t53 true H (λK'=>zaf 1 t4 (K' · H)) λt55 H=>
 zab t53 true H (λK'=>zae false 1 t55 H (K' · H)) λt56 H=>
 zab t53 true H (λK'=>zac .geq false t56 (.int .i64 (-1099511627776)) (K' · H)) λt57 H=>
 zai t53 t57 (.bool false) λt58=>
 zab t58 true H (λK'=>zaf 1 t4 (K' · H)) λt60 H=>
 zab t58 true H (λK'=>zae false 1 t60 H (K' · H)) λt61 H=>
 zab t58 true H (λK'=>zac .leq false t61 (.int .i64 1099511627776) (K' · H)) λt62 H=>
 zai t58 t62 (.bool false) λt63=>
 zab t63 true H (λK'=>K' t13 H) λt65 H=>
 zab t63 true H (λK'=>zac .eql false t65 (.int .i64 0) (K' · H)) λt66 H=>
 zai t63 t66 (.bool false) λt67=>
 K t67 H)
 (zac .eql false t15 (.int .i64 6) λt69=>
 zag t69
 (zaf 0 t4 λt70=>
 zae false 1 t70 H λt71=>
 zac .eql false t71 (.int .i64 4) λt72=>
 zab t72 true H (λK'=>zaf 1 t4 (K' · H)) λt74 H=>
 zab t72 true H (λK'=>zae false 1 t74 H (K' · H)) λt75 H=>
 zab t72 true H (λK'=>zac .eql false t75 (.int .i64 0) (K' · H)) λt76 H=>
 zai t72 t76 (.bool false) λt77=>
 zab t77 true H (λK'=>K' t0 H) λt79 H=>
 zab t77 true H (λK'=>zaf 2 t4 (K' · H)) λt80 H=>
 zab t77 true H (λK'=>zae false 1 t80 H (K' · H)) λt81 H=>
 zab t77 true H (λK'=>zaf 2 t5 (K' · H)) λt82 H=>
 zab t77 true H (λK'=>zae false 1 t82 H (K' · H)) λt83 H=>
 zab t77 true H (λK'=>ACalls tP zh3 [t79,t81,t83] H K') λt84 H=>
 zai t77 t84 (.bool false) λt85=>
 K t85 H)
 (zac .eql false t15 (.int .i64 5) λt87=>
 zag t87
 (zaf 0 t4 λt88=>
 zae false 1 t88 H λt89=>
 zac .neq false t89 (.int .i64 5) λt90=>
 zab t90 false H (λK'=>zaf 1 t4 (K' · H)) λt92 H=>
 zab t90 false H (λK'=>zae false 1 t92 H (K' · H)) λt93 H=>
 zab t90 false H (λK'=>zac .lss false t93 (.int .i64 0) (K' · H)) λt94 H=>
 zai t90 (.bool true) t94 λt95=>
 zab t95 false H (λK'=>zaf 1 t4 (K' · H)) λt97 H=>
 zab t95 false H (λK'=>zae false 1 t97 H (K' · H)) λt98 H=>
 zab t95 false H (λK'=>zac .geq false t98 (.int .i64 8) (K' · H)) λt99 H=>
 zai t95 (.bool true) t99 λt100=>
 zag t100
 (K (.bool false) H)
 (zae true 3 t5 H λt103=>
 zaf 1 t4 λt104=>
 zae false 1 t104 H λt105=>
 ACalls tP zkd [t0,t103,t105] H λt106 H=>
 zaN t106 0 λt107=>
 zaN t106 1 λt108=>
 zab t108 true H (λK'=>K' t0 H) λt111 H=>
 zab t108 true H (λK'=>zaf 2 t4 (K' · H)) λt112 H=>
 zab t108 true H (λK'=>zae false 1 t112 H (K' · H)) λt113 H=>
 zab t108 true H (λK'=>K' t107 H) λt114 H=>
 zab t108 true H (λK'=>ACalls tP zh3 [t111,t113,t114] H K') λt115 H=>
 zai t108 t115 (.bool false) λt116=>
 K t116 H))
 (zac .eql false t15 (.int .i64 7) λt118=>
 zag t118
 (zfn t0 t4 t5 t13 t118 H K)
 (zac .eql false t15 (.int .i64 8) λt119=>
 zfn t0 t4 t5 t13 t119 H K))))))
theorem zzA{t0 t4 t5 t7 t10:AV}{H:zaa}{K:Kt}(Inv:Nat→AV→zaa→Prop)(n:Nat)(h0:HSc H→Inv n t10 H)(round:Rd1 (λt10=>ziO t0 t4 t5 t7 t10) (λt10=>λH Kb21=>ziN t0 t4 t5 t7 t10 H K Kb21) H Inv):zmv t0 t4 t5 t7 t10 H K:=
 lp1 (M:=zmu) zMs t10 (by kernel_rfl) Inv n h0 round
theorem zzB{t0 t1 t2:AV}{H:zaa}{K:Kt}(h:HSc H→zcy t0 t1 t2 H K):ACalls tP zgA [t0,t1,t2] H K:=
 zan (M:=zmu) Tryz.func29 (c:=zr7) (by kernel_rfl) (λhs=>Eq.mpr (by kernel_rfl) (h hs))
def zmW:Nat→List Bool
 |4=>rl false [0,3,4,1,22]
 |_=>[]
noncomputable def zsz:Code:=Tryz.f67.body.getD .skip
noncomputable def zOg:List ResultVar:=Tryz.f67.results.toList
def ziZ(t0 t1 t2 t7:AV):List AV:=t0::t1::t2::ux 4 (t7::ux 22 [])
def zOe:List Bool:=zmW 4
noncomputable def zOd:Code:=zaq [1,1,0,1,0,0] zsz
def zOc(K:Kt):AExit→List AV→zaa→Prop:=zar tP zmW [1,1,0,1,0] zsz (zaB tP zOg K)
def zAo(t0 t1 t2 t7:AV)(H:zaa)(K:Kt):Prop:=ALoop tP zOd (zOc K) (ziZ t0 t1 t2 t7) H
def ziY(t0 t1 t2 t7:AV)(H:zaa)(K:Kt)(Kb4:Lt):Prop:=
 zah 1 t1 λt15=>
 zac .lss false t7 t15 λt16=>
 zag t16
 (zad H (λK'=>K' t0 H) λt19=>
 zad H (λK'=>K' t1 H) λt20=>
 zad H (λK'=>K' t7 H) λt21=>
 zad H (λK'=>zaj 3 t20 t21 (K' · H)) λt22=>
 zad H (λK'=>zam true 3 t22 H (K' · H)) λt23=>
 zad H (λK'=>K' t2 H) λt24=>
 zad H (λK'=>K' t7 H) λt25=>
 zad H (λK'=>zaj 3 t24 t25 (K' · H)) λt26=>
 zad H (λK'=>zam true 3 t26 H (K' · H)) λt27=>
 zaQ H (λH K'=>ACalls tP zgA [t19,t23,t27] H K') λt28=>
 zad H (λK'=>aUn .not t28 (K' · H)) λt29=>
 zag t29
 (K (.bool false) H)
 (zac .add false t7 (.int .i64 1) λt18=>
 Kb4 (ziZ t0 t1 t2 t18) H))
 (K (.bool true) H)
def ziX(t0 t1 t2:AV)(H:zaa)(K:Kt):Prop:=
 zah 1 t1 λt9=>
 zah 1 t2 λt11=>
 zac .neq false t9 t11 λt12=>
 zag t12
 (K (.bool false) H)
 (zAo t0 t1 t2 (.int .i64 0) H K)
theorem zAp{t0 t1 t2 t7:AV}{H:zaa}{K:Kt}(Inv:Nat→AV→zaa→Prop)(n:Nat)(h0:HSc H→Inv n t7 H)(round:Rd1 (λt7=>ziZ t0 t1 t2 t7) (λt7=>λH Kb4=>ziY t0 t1 t2 t7 H K Kb4) H Inv):zAo t0 t1 t2 t7 H K:=
 lp1 (M:=zmW) zOe t7 (by kernel_rfl) Inv n h0 round
theorem zAq{t0 t1 t2:AV}{H:zaa}{K:Kt}(h:HSc H→ziX t0 t1 t2 H K):ACalls tP zh3 [t0,t1,t2] H K:=
 zan (M:=zmW) Tryz.func67 (c:=zsz) (by kernel_rfl) (λhs=>Eq.mpr (by kernel_rfl) (h hs))
end Go.Proofs.YtaifokkaaahdoaaGreatDoor

namespace Go.Proofs.YtaifokkaaahdoaaGreatDoor
open Go Go.Abs
def d4(data:List Dat):AV:=.agg [.sl (data.map Dat.cs) .none,.snil,.snil,.snil]
section
variable {H:zaa} {K:Kt} (data:List Dat)
theorem zGL(hK:K (.bool true) H):ACalls tP zoS [d4 data] H K:=by refine ACalls.out (zIs λhs=>?_);simp[zxT,d4];refine⟨rfl,ACalls.wk (args':=[.sl (VT.css []) .none,.fn zvw [.ptr H.length 0]]) ?_ ⟨.atom .snil,.atom (.refl _),trivial⟩⟩;refine zjs [] (by simp) _ _ _ (by simp[AV.sc,AV.scV,AV.scA,AV.scB]) (λ_ H'=>H'=H++[.cells [.sl (data.map Dat.cs) .none,.snil,.snil,.snil]]) rfl (λi h=>by simp at h) ?_;rintro H' rfl;simp;exact Out.bool rfl (Nat.le_refl _) hs hK
theorem zCA(hK:K (.bool true) H):ACalls tP zoT [d4 data] H K:=by refine ACalls.out (zIx λhs=>?_);simp[zxU,d4];refine zIv (Inv:=λ_ _ t H'=>t=.int .i64 0∧H'=_) 0 (λ_=>⟨rfl,rfl⟩) ?_;rintro q t4 t H' ⟨rfl,rfl⟩ _ _ _ Kb hKb;simp[zxV];exact Out.bool rfl (Nat.le_refl _) hs hK
theorem zGk(hK:K (.bool true) H):ACalls tP zoU [d4 data] H K:=by refine ACalls.out (zII λhs=>?_);simp[zxY,d4,zbu];refine⟨⟨rfl,rfl⟩,zIG (Inv:=λ_ t H'=>t=.int .i64 0∧H'=_) 0 (λ_=>⟨rfl,rfl⟩) ?_⟩;rintro q t H' ⟨rfl,rfl⟩ _ _ _ Kb hKb;simp[zx1];refine zIF (Inv:=λ_ t H'=>t=.int .i64 0∧H'=_) 0 (λ_=>⟨rfl,rfl⟩) ?_;rintro q t H' ⟨rfl,rfl⟩ _ _ _ Kb2 hKb2;simp[zx0,Nat.add_assoc];exact Out.bool rfl (Nat.le_refl _) hs hK
theorem zCi(hK:K (.bool true) H):ACalls tP zoV [d4 data] H K:=by refine ACalls.out (zIS λhs=>?_);simp[zx7,d4,zbu];refine⟨⟨rfl,rfl⟩,zIQ (Inv:=λ_ t H'=>t=.int .i64 0∧H'=_) 0 (λ_=>⟨rfl,rfl⟩) ?_⟩;rintro q t H' ⟨rfl,rfl⟩ _ _ _ Kb hKb;simp[zya];refine zIP (Inv:=λ_ t H'=>t=.int .i64 0∧H'=_) 0 (λ_=>⟨rfl,rfl⟩) ?_;rintro q t H' ⟨rfl,rfl⟩ _ _ _ Kb2 hKb2;simp[zx9,Nat.add_assoc];exact Out.bool rfl (Nat.le_refl _) hs hK
theorem zE8(hK:K (.bool true) H):ACalls tP zoW [d4 data] H K:=by refine ACalls.out (zIX λhs=>?_);simp[zyg,d4,zbu];refine⟨rfl,⟨rfl,rfl,rfl,rfl⟩,zIV (Inv:=λ_ t H'=>t=.int .i64 0∧H'=_) 0 (λ_=>⟨rfl,rfl⟩) ?_⟩;rintro q t H' ⟨rfl,rfl⟩ _ _ _ Kb hKb;simp[zyh];exact Out.bool rfl (Nat.le_refl _) hs hK
theorem zC2(hK:K (.bool true) H):ACalls tP zoX [d4 data] H K:=by refine ACalls.out (zI7 λhs=>?_);simp[zyj,d4,zbu,zao,zaM];refine zI3 (Inv:=λ_ t H'=>t=.int .i64 0∧H'=_) 0 (λ_=>⟨rfl,rfl⟩) ?_;rintro q t H' ⟨rfl,rfl⟩ _ _ _ Kb hKb;simp[zyk];refine zI4 (Inv:=λ_ t H'=>t=.int .i64 0∧H'=_) 0 (λ_=>⟨rfl,rfl⟩) ?_;rintro q t H' ⟨rfl,rfl⟩ _ _ _ Kb2 hKb2;simp[zyl];exact Out.bool rfl (Nat.le_refl _) hs hK
def zdm(data:List Dat)(t:VT):Bool:=zaD data && zaA data 0 t
end
def zek(data:List Dat):Prop:=∀D∈data,D.cons.length≤1000000∧∀c∈D.cons,c.args.length≤1000000∧∀x∈c.args,zaW x
theorem zIj(data:List Dat)(hB:zek data)(hl:data.length≤1000000)(H:zaa)(K:AV→zaa→Prop)(hK:K (.bool (zaD data)) H):ACalls tP zoR [.sl (data.map Dat.cs) .none] H K:=by
 refine ACalls.out (zIo λhs=>?_);have hO:∀J,Out H.length K (.bool (zaD data)) (H++J):=λJ=>Out.bool rfl (Nat.le_refl _) hs hK;by_cases h12:data.length≤12
 ·have h12':¬ (12:Int)<data.length:=by omega
  have h12'':¬ 12<data.length:=by omega
  have hD0:zcd data data 0=false→∀J,Out H.length K (.bool false) (H++J):=λh J=>by have:=hO J;rwa [show zaD data=false by simp[zaD,h]]at this
  have hD1:zb0 (za8 data)=true→∀J,Out H.length K (.bool false) (H++J):=λh J=>by have:=hO J;rwa [show zaD data=false by simp[zaD,h]]at this
  have hD2:zb0 (zaE data)=true→∀J,Out H.length K (.bool false) (H++J):=λh J=>by have:=hO J;rwa [show zaD data=false by simp[zaD,h]]at this
  simp[zqO,h12',h12''];refine zIm (Inv:=λq t15 H'=>∃i:Nat,i≤data.length∧q=data.length-i∧t15=.int .i64 i∧zcd data (data.drop i) i=zcd data data 0∧(za8 (data.take i)).Nodup∧(zaE (data.take i)).Nodup∧H'=H++[.map (zbL (za8 (data.take i))),.map (zbL (zaE (data.take i)))]) data.length ?_ ?_
  ·intro _;exact⟨0,by omega,by omega,rfl,by simp,by simp[za8],by simp[zaE],by simp[za8,zaE,zbL]⟩
  ·rintro q t15 H' ⟨i,hi,rfl,rfl,ho,hdn,hcn,rfl⟩ hsc hlen hsF Kb hKb;by_cases hlt:i<data.length
   ·have e1:(data.map Dat.cs)[i]?=some (data[i]).cs:=by simp[hlt]
    obtain⟨hB1,hB2⟩:=hB _ (List.getElem_mem hlt);have hargs:=λc hc=>zKR data i c hlt hc hl hB1 (hB2 _ (List.getElem_mem hc)).1 (hB2 _ (List.getElem_mem hc)).2;rw[List.drop_eq_getElem_cons hlt,zcd]at ho;have htk:data.take (i+1)=data.take i++[data[i]]:=by rw[List.take_append_getElem hlt]
    have hsplit:data=data.take i++data[i]::data.drop (i+1):=by rw[List.getElem_cons_drop,List.take_append_drop]
    generalize hD:data[i]=D at *;have hbad:zb8 data i D=false→zcd data data 0=false:=λh=>by rw[←ho,h,Bool.false_and]
    have hno:∀J,zb8 data i D=false→Out H.length K (.bool false) (H++[.map (zbL (za8 (data.take i))),.map (zbL (zaE (data.take i)))]++J):=λJ h=>by rw[List.append_assoc];exact hD0 (hbad h) _
    simp[zqQ,hlt,e1,hD,Dat.cs];refine zyQ _ _ _ ?_;cases hu:zbO D.name with
    |false=>simp;exact hD0 (hbad (by simp[zb8,hu])) _
    |true=>
    by_cases hmem:D.name∈za8 (data.take i)
    ·simp[hlt,e1,hD,Dat.cs,zfT,hmem];refine hD1 ?_ _;rw[hsplit];simp only[za8,List.map_append,List.map_cons];exact zwf hmem
    by_cases hv0:D.vars<0
    ·simp[hlt,e1,hD,Dat.cs,zfT,hmem,hv0];exact hD0 (hbad (by simp[zb8,show ¬ 0≤D.vars by omega])) _
    by_cases hv6:6<D.vars
    ·simp[hlt,e1,hD,Dat.cs,zfT,hmem,hv0,hv6];exact hD0 (hbad (by simp[zb8,show ¬D.vars≤6 by omega])) _
    simp[hlt,e1,hD,Dat.cs,zfT,hmem,hv0,hv6,zpM _ _ hmem];by_cases hc1:D.cons.length<1
    ·have hc1':(D.cons.length:Int)<1:=by omega
     simp[hc1'];exact hD0 (hbad (by simp[zb8,show ¬ 1≤D.cons.length by omega])) _
    have hc1':¬(D.cons.length:Int)<1:=by omega
    by_cases hc8:8<D.cons.length
    ·have hc8':(8:Int)<D.cons.length:=by omega
     simp[hlt,e1,hD,Dat.cs,hc1',hc8',hc8];exact hD0 (hbad (by simp[zb8,show ¬D.cons.length≤8 by omega])) _
    have hc8':¬(8:Int)<D.cons.length:=by omega
    have hdat:zb8 data i D=D.cons.all (zcN data i D.vars):=by simp[zb8,hu,show 0≤D.vars by omega,show D.vars≤6 by omega,show 1≤D.cons.length by omega,show D.cons.length≤8 by omega]
    simp[hlt,e1,hD,Dat.cs,hc1',hc8',hc8];have hdn':(za8 (data.take (i+1))).Nodup:=by rw[htk];simp only[za8,List.map_append,List.map_cons,List.map_nil];exact zvL hdn hmem
    have hde:za8 (data.take i)++[D.name]=za8 (data.take (i+1)):=by rw[htk];simp[za8]
    rw[hde];refine zIl (Inv:=λq t78 H'=>∃j:Nat,j≤D.cons.length∧q=D.cons.length-j∧t78=.int .i64 j∧(D.cons.drop j).all (zcN data i D.vars)=D.cons.all (zcN data i D.vars)∧(zaE (data.take i)++(D.cons.take j).map Con.name).Nodup∧H'=H++[.map (zbL (za8 (data.take (i+1)))),.map (zbL (zaE (data.take i)++(D.cons.take j).map Con.name))]) D.cons.length ?_ ?_
    ·intro _;exact⟨0,by omega,by omega,rfl,by simp,by simpa using hcn,by simp⟩
    ·rintro q t78 H' ⟨j,hj,rfl,rfl,hoc,hcj,rfl⟩ hsc1 hlen1 hsF1 Kb1 hKb1;have hscH:∀ A B,HSc (H++[.map (zbL A),.map (zbL B)]):=λA B=>hs.append (by simp[zE9]);by_cases hjl:j<D.cons.length
     ·have e2:(D.cons.map Con.cs)[j]?=some (D.cons[j]).cs:=by simp[hjl]
      have hargs':=hargs j hjl;rw[List.drop_eq_getElem_cons hjl,List.all_cons]at hoc;have htj:zaE (data.take i)++(D.cons.take (j+1)).map Con.name=(zaE (data.take i)++(D.cons.take j).map Con.name)++[(D.cons[j]).name]:=by rw[←List.take_append_getElem hjl,List.map_append,List.append_assoc];rfl
      have hcs:zaE data=(zaE (data.take i)++(D.cons.take j).map Con.name)++(D.cons[j]).name::((D.cons.drop (j+1)).map Con.name++zaE (data.drop (i+1))):=by
       have h1:D.cons.map Con.name=(D.cons.take j).map Con.name++(D.cons[j]).name::(D.cons.drop (j+1)).map Con.name:=by rw[←List.map_cons (f:=Con.name),List.getElem_cons_drop,←List.map_append,List.take_append_drop]
       conv=>lhs;rw[hsplit]
       simp only[zaE,List.flatMap_append,List.flatMap_cons,List.append_assoc,h1,List.cons_append]
      generalize hC:D.cons[j]=C at *;have hbad':zcN data i D.vars C=false→zcd data data 0=false:=λh=>hbad (by rw[hdat,←hoc,h,Bool.false_and]);generalize hA:zaE (data.take i)++(D.cons.take j).map Con.name=A at *;simp only[zqP];simp[hjl,hC,Con.cs,Nat.add_assoc];refine zyQ _ _ _ ?_;cases hu2:zbO C.name with
      |false=>simp;exact hD0 (hbad' (by simp[zcN,hu2])) _
      |true=>
      by_cases hm2:C.name∈A
      ·simp[zfT,hm2];exact hD2 (by rw[hcs];exact zwf hm2) _
      ·simp[zfT,hm2];refine hargs' _ _ ?_;have hce:zcN data i D.vars C=(decide (C.args.length≤6) && C.args.all (zdj data i D.vars)):=by simp[zcN,hu2]
       rw[←hce];cases hco:zcN data i D.vars C with
       |false=>simp;exact hD0 (hbad' hco) _
       |true=>
        rw[hco,Bool.true_and]at hoc;simp[zpM _ _ hm2];rw[zav (by omega) (by omega)];refine hKb1 _ _ ⟨D.cons.length-(j+1),by omega,Back.at (J:=[.cells [.str C.name,.sl (VT.css C.args) .none]]) (H2:=H++[.map (zbL (za8 (data.take (i+1)))),.map (zbL (A++[C.name]))]) (by simp) (by simp) (hscH _ _) ?_ ⟨_,rfl,j+1,by omega,rfl,by simp,hoc,?_,?_⟩⟩
        ·simp[zlw,AV.sc,AV.scV,AV.scA,AV.scB]
        ·rw[htj];exact zvL hcj hm2
        ·rw[htj]
     ·obtain rfl:j=D.cons.length:=by omega
      rw[List.drop_length,List.all_nil]at hoc;rw[List.take_length]at *;simp[zqP];rw[zav (by omega) (by omega)];have hce:zaE (data.take i)++D.cons.map Con.name=zaE (data.take (i+1)):=by rw[htk];simp[zaE]
      rw[hce]at hcj ⊢;refine hKb _ _ ⟨data.length-(i+1),by omega,Back.at (J:=[]) (by simp) (by simp) (hscH _ _) ?_ ⟨_,rfl,i+1,by omega,rfl,by simp,?_,hdn',hcj,rfl⟩⟩
      ·simp[zlx,AV.sc,AV.scV,AV.scA,AV.scB]
      ·rw[←ho,hdat,←hoc,Bool.true_and]
   ·obtain rfl:i=data.length:=by omega
    rw[List.drop_length,zcd]at ho;rw[List.take_length]at *;simp[zqQ];have:=hO [.map (zbL (za8 data)),.map (zbL (zaE data))];rwa [show zaD data=true by simp[zaD,h12,←ho,zkw hdn,zkw hcn]]at this
 ·have h12':(12:Int)<data.length:=by omega
  have h12'':12<data.length:=by omega
  rw[show zaD data=false by simp[zaD,h12]]at hO;simp[zqO,h12',h12''];simpa using hO []
section
variable {H:zaa} {K:Kt} (data:List Dat)
theorem zP9(hB:zek data)(hl:data.length≤1000000)(hK:K (.bool (zaD data)) H):ACalls tP zpo [d4 data] H K:=by
 refine ACalls.out (zQb λhs=>?_);simp[zBc,d4];refine zIj data hB hl _ _ ?_;cases hd:zaD data with
 |false=>rw[hd]at hK;simp;exact Out.bool rfl (Nat.le_refl _) hs hK
 |true=>rw[hd]at hK;simp;refine zGL data ?_;simp;refine zCA data ?_;simp;refine zGk data ?_;simp;refine zCi data ?_;simp;refine zE8 data ?_;simp;refine zC2 data ?_;exact Out.bool rfl (Nat.le_refl _) hs hK
theorem zND(hB:zek data)(hl:data.length≤1000000)(t:VT)(ht:zaW t)(hK:K (.bool (zdm data t)) H):ACalls tP zpk [.sl (data.map Dat.cs) .none,.agg t.cs] H K:=by
 refine ACalls.out (zNF λhs=>?_);obtain⟨a,b,c,hv,ha,hb,hc⟩:=zaL t;simp[zz6,zao,zaM,hv];refine zP9 data hB hl ?_;unfold zdm at hK;cases hd:zaD data with
 |false=>rw[hd]at hK;simp;exact Out.bool rfl (Nat.le_refl _) hs hK
 |true=>rw[hd,Bool.true_and]at hK;simp;rw[←hv];refine zBd data 0 t ht _ _ ?_;exact Out.bool rfl (Nat.le_refl _) hs hK
end
end Go.Proofs.YtaifokkaaahdoaaGreatDoor
