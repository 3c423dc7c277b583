import Derived.Test.YtaifokkaaahdoaaGreatDoorKNum
import Derived.Test.YtaifokkaaahdoaaGreatDoorProg
import Derived.KernelRfl
import Derived.Test.YtaifokkaaahdoaaGreatDoorKGT1
import Derived.Test.YtaifokkaaahdoaaGreatDoorAbsQ1
set_option linter.unusedSimpArgs false
set_option linter.unusedVariables false
set_option linter.unusedSectionVars false
set_option maxRecDepth 8000
namespace Go.Proofs.YtaifokkaaahdoaaGreatDoor
open Go Go.Abs
set_option maxRecDepth 100000
def zKI(_:Nat):List Bool:=[]
noncomputable def zKJ:Code:=Tryz.f205.body.getD .skip
def zyC(t4 t6:AV)(H:zaa)(K:Kt):Prop:=
 zae true 3 t6 H λt74=>
 zak 3 t4 t74 H λH=>
 zae true 3 t4 H λr0=>
 za5 [r0,(.int .i64 0)] (K · H)
def zgN(t4 t6:AV)(H:zaa)(K:Kt):Prop:=
 zyC t4 t6 H K
def zgM(t4 t6:AV)(H:zaa)(K:Kt):Prop:=
 zgN t4 t6 H K
def zrc(t0 t1:AV)(H:zaa)(K:Kt):Prop:=
 zaw [(.int .i64 0),(.str []),(.int .i64 0)] H λt4 H=>
 zao [(.int .i64 0),(.str []),(.int .i64 0)] [(0,1),(1,1),(2,1)] [(2,t1)] λt9=>
 zaw [(.int .i64 0),(.str []),(.int .i64 0)] H λt6 H=>
 zak 3 t6 t9 H λH=>
 zbu t0 t1 λt12=>
 ACalls tP zji [t12] H λt25 H=>
 zab t25 false H (λK'=>K' t12 H) λt27 H=>
 zab t25 false H (λK'=>ACalls tP zhw [t27] H K') λt28 H=>
 zai t25 (.bool true) t28 λt29=>
 zag t29
 (za3 0 0 t0 (some t1) none λt32=>
 ACalls tP zjj [t32,(.fn zhx [])] H λt33 H=>
 zaf 1 t6 λt34=>
 zak 1 t34 t33 H λH=>
 zaf 1 t6 λt37=>
 zae false 1 t37 H λt38=>
 zah 0 t38 λt39=>
 zac .gtr false t39 (.int .i64 24) λt40=>
 zag t40
 (zao [(.int .i64 0),(.str []),(.int .i64 0)] [(0,1),(1,1),(2,1)] [] λt41=>
 zak 3 t4 t41 H λH=>
 zae true 3 t4 H λr0=>
 za5 [r0,(.int .i64 9)] (K · H))
 (ACalls tP zhw [t12] H λt44 H=>
 zag t44
 (zaf 0 t6 λt45=>
 zak 1 t45 (.int .i64 2) H λH=>
 zgM t4 t6 H K)
 (zaf 1 t6 λt47=>
 zae false 1 t47 H λt48=>
 ACalls tP zoo [t48] H λt49 H=>
 zag t49
 (zaf 0 t6 λt50=>
 zak 1 t50 (.int .i64 4) H λH=>
 zgM t4 t6 H K)
 (zaf 0 t6 λt35=>
 zak 1 t35 (.int .i64 1) H λH=>
 zgM t4 t6 H K))))
 (ACalls tP zfz [t12] H λt53 H=>
 zag t53
 (zaf 0 t6 λt54=>
 zak 1 t54 (.int .i64 3) H λH=>
 za3 0 0 t0 (some t1) none λt57=>
 ACalls tP zjj [t57,(.fn zfz [])] H λt58 H=>
 zaf 1 t6 λt59=>
 zak 1 t59 t58 H λH=>
 zac .eql false t12 (.int .u8 48) λt61=>
 zab t61 true H (λK'=>zaf 1 t6 (K' · H)) λt63 H=>
 zab t61 true H (λK'=>zae false 1 t63 H (K' · H)) λt64 H=>
 zab t61 true H (λK'=>zah 0 t64 (K' · H)) λt65 H=>
 zab t61 true H (λK'=>zac .gtr false t65 (.int .i64 1) (K' · H)) λt66 H=>
 zai t61 t66 (.bool false) λt67=>
 zag t67
 (zao [(.int .i64 0),(.str []),(.int .i64 0)] [(0,1),(1,1),(2,1)] [] λt68=>
 zak 3 t4 t68 H λH=>
 zae true 3 t4 H λr0=>
 za5 [r0,(.int .i64 2)] (K · H))
 (zaf 1 t6 λt69=>
 zae false 1 t69 H λt70=>
 ACalls tP zhy [t70] H λt71 H=>
 aUn .not t71 λt72=>
 zag t72
 (zao [(.int .i64 0),(.str []),(.int .i64 0)] [(0,1),(1,1),(2,1)] [] λt73=>
 zak 3 t4 t73 H λH=>
 zae true 3 t4 H λr0=>
 za5 [r0,(.int .i64 9)] (K · H))
 (zgN t4 t6 H K)))
 (zaf 0 t6 λt13=>
 zak 1 t13 (.int .i64 5) H λH=>
 za3 0 0 t0 (some t1) none λt16=>
 ACalls tP zop [t16] H λt17 H=>
 zaf 1 t6 λt18=>
 zak 1 t18 t17 H λH=>
 zaf 1 t6 λt19=>
 zae false 1 t19 H λt20=>
 zac .eql false t20 (.str []) λt21=>
 zag t21
 (zao [(.int .i64 0),(.str []),(.int .i64 0)] [(0,1),(1,1),(2,1)] [] λt22=>
 zak 3 t4 t22 H λH=>
 zae true 3 t4 H λr0=>
 za5 [r0,(.int .i64 2)] (K · H))
 (zgN t4 t6 H K)))
theorem zKK{t0 t1:AV}{H:zaa}{K:Kt}(h:HSc H→zrc t0 t1 H K):ACalls tP zon [t0,t1] H K:=
 zan (M:=zKI) Tryz.func205 (c:=zKJ) (by kernel_rfl) (λhs=>Eq.mpr (by kernel_rfl) (h hs))
def zI5(_:Nat):List Bool:=[]
noncomputable def zI6:Code:=Tryz.f145.body.getD .skip
def zx6(t0:AV)(H:zaa)(K:Kt):Prop:=
 zac .geq false t0 (.int .u8 97) λt4=>
 zab t4 true H (λK'=>K' t0 H) λt6 H=>
 zab t4 true H (λK'=>zac .leq false t6 (.int .u8 122) (K' · H)) λt7 H=>
 zai t4 t7 (.bool false) λt8=>
 K t8 H
theorem zI7{t0:AV}{H:zaa}{K:Kt}(h:HSc H→zx6 t0 H K):ACalls tP zja [t0] H K:=
 zan (M:=zI5) Tryz.func145 (c:=zI6) (by kernel_rfl) (λhs=>Eq.mpr (by kernel_rfl) (h hs))
def zI8(_:Nat):List Bool:=[]
noncomputable def zI9:Code:=Tryz.f146.body.getD .skip
def zx7(t0:AV)(H:zaa)(K:Kt):Prop:=
 zac .geq false t0 (.int .u8 65) λt4=>
 zab t4 true H (λK'=>K' t0 H) λt6 H=>
 zab t4 true H (λK'=>zac .leq false t6 (.int .u8 90) (K' · H)) λt7 H=>
 zai t4 t7 (.bool false) λt8=>
 K t8 H
theorem zJa{t0:AV}{H:zaa}{K:Kt}(h:HSc H→zx7 t0 H K):ACalls tP zgj [t0] H K:=
 zan (M:=zI8) Tryz.func146 (c:=zI9) (by kernel_rfl) (λhs=>Eq.mpr (by kernel_rfl) (h hs))
def zJb(_:Nat):List Bool:=[]
noncomputable def zJc:Code:=Tryz.f147.body.getD .skip
def zx8(t0:AV)(H:zaa)(K:Kt):Prop:=
 zac .geq false t0 (.int .u8 48) λt4=>
 zab t4 true H (λK'=>K' t0 H) λt6 H=>
 zab t4 true H (λK'=>zac .leq false t6 (.int .u8 57) (K' · H)) λt7 H=>
 zai t4 t7 (.bool false) λt8=>
 K t8 H
theorem zJd{t0:AV}{H:zaa}{K:Kt}(h:HSc H→zx8 t0 H K):ACalls tP zhu [t0] H K:=
 zan (M:=zJb) Tryz.func147 (c:=zJc) (by kernel_rfl) (λhs=>Eq.mpr (by kernel_rfl) (h hs))
def zkZ:Nat→List Bool
 |3=>rl false [0,1,2,2,13]
 |_=>[]
noncomputable def zqE:Code:=Tryz.f148.body.getD .skip
noncomputable def zJj:List ResultVar:=Tryz.f148.results.toList
def zk1(t0 t3 t4:AV):List AV:=t0::ux 2 (t3::t4::ux 13 [])
def zJh:List Bool:=zkZ 3
noncomputable def zJf:Code:=zaq [1,1,0,1,0,0] zqE
def zJe(K:Kt):AExit→List AV→zaa→Prop:=zar tP zkZ [1,1,0,1,0] zqE (zaA tP zJj K)
def zqF(t0 t3 t4:AV)(H:zaa)(K:Kt):Prop:=ALoop tP zJf (zJe K) (zk1 t0 t3 t4) H
def zk0(t0 t3 t4:AV)(H:zaa)(K:Kt)(Kb3:Lt):Prop:=
 zah 1 t3 λt8=>
 zac .lss false t4 t8 λt9=>
 zag t9
 (zaj 1 t3 t4 λt14=>
 zae false 1 t14 H λt15=>
 zac .eql false t15 t0 λt17=>
 zag t17
 (K (.bool true) H)
 (zac .add false t4 (.int .i64 1) λt11=>
 Kb3 (zk1 t0 t3 t11) H))
 (K (.bool false) H)
def zx9(t0:AV)(H:zaa)(K:Kt):Prop:=
 zas 1 [(.str [])] 28 [(0,(.str [97,114,114,97,121])),(1,(.str [98,111,111,108])),(2,(.str [99,97,116,99,104])),(3,(.str [100,97,116,97])),(4,(.str [101,108,115,101])),(5,(.str [101,110,100])),(6,(.str [102,97,108,115,101])),(7,(.str [102,110])),(8,(.str [102,117,110])),(9,(.str [103,101,116])),(10,(.str [105,102])),(11,(.str [105,110])),(12,(.str [105,110,116])),(13,(.str [108,101,110])),(14,(.str [108,101,116])),(15,(.str [109,97,116,99,104])),(16,(.str [110,101,119])),(17,(.str [114,97,105,115,101])),(18,(.str [114,101,97,100])),(19,(.str [114,101,102])),(20,(.str [115,101,116])),(21,(.str [116,104,101,110])),(22,(.str [116,105,99,107])),(23,(.str [116,114,117,101])),(24,(.str [116,114,121])),(25,(.str [117,110,105,116])),(26,(.str [119,105,116,104])),(27,(.str [119,114,105,116,101]))] λt5=>
 zqF t0 t5 (.int .i64 0) H K
theorem zJg{t0 t3 t4:AV}{H:zaa}{K:Kt}(Inv:Nat→AV→zaa→Prop)(n:Nat)(h0:HSc H→Inv n t4 H)(round:Rd1 (λt4=>zk1 t0 t3 t4) (λt4=>λH Kb3=>zk0 t0 t3 t4 H K Kb3) H Inv):zqF t0 t3 t4 H K:=
 lp1 (M:=zkZ) zJh t4 (by kernel_rfl) Inv n h0 round
theorem zJi{t0:AV}{H:zaa}{K:Kt}(h:HSc H→zx9 t0 H K):ACalls tP zjb [t0] H K:=
 zan (M:=zkZ) Tryz.func148 (c:=zqE) (by kernel_rfl) (λhs=>Eq.mpr (by kernel_rfl) (h hs))
def zk2:Nat→List Bool
 |3=>rl false [0,1,3,2,17]
 |_=>[]
noncomputable def zqH:Code:=Tryz.f149.body.getD .skip
noncomputable def zJp:List ResultVar:=Tryz.f149.results.toList
def zk3(t0 t4 t5:AV):List AV:=t0::ux 3 (t4::t5::ux 17 [])
def zJn:List Bool:=zk2 3
noncomputable def zJl:Code:=zaq [1,1,0,1,0,0] zqH
def zJk(K:Kt):AExit→List AV→zaa→Prop:=zar tP zk2 [1,1,0,1,0] zqH (zaA tP zJp K)
def zyb(t0 t4 t5:AV)(H:zaa)(K:Kt):Prop:=ALoop tP zJl (zJk K) (zk3 t0 t4 t5) H
def zqG(t0 t4 t5:AV)(H:zaa)(K:Kt)(Kb3:Lt):Prop:=
 zah 0 t0 λt8=>
 zac .lss false t5 t8 λt9=>
 zag t9
 (zac .mul false t4 (.int .i64 10) λt13=>
 zbu t0 t5 λt16=>
 zac .sub false t16 (.int .u8 48) λt17=>
 zbD .i64 t17 λt18=>
 zac .add false t13 t18 λt19=>
 zac .gtr false t19 (.int .i64 1000000) λt21=>
 zag t21
 (za5 [(.int .i64 0),(.bool false)] (K · H))
 (zac .add false t5 (.int .i64 1) λt11=>
 Kb3 (zk3 t0 t19 t11) H))
 (za5 [t4,(.bool true)] (K · H))
def zya(t0:AV)(H:zaa)(K:Kt):Prop:=
 zyb t0 (.int .i64 0) (.int .i64 0) H K
theorem zJm{t0 t4 t5:AV}{H:zaa}{K:Kt}(Inv:Nat→AV→AV→zaa→Prop)(n:Nat)(h0:HSc H→Inv n t4 t5 H)(round:Rd2 (λt4=>λt5=>zk3 t0 t4 t5) (λt4=>λt5=>λH Kb3=>zqG t0 t4 t5 H K Kb3) H Inv):zyb t0 t4 t5 H K:=
 lp2 (M:=zk2) zJn t4 t5 (by kernel_rfl) Inv n h0 round
theorem zJo{t0:AV}{H:zaa}{K:Kt}(h:HSc H→zya t0 H K):ACalls tP zgk [t0] H K:=
 zan (M:=zk2) Tryz.func149 (c:=zqH) (by kernel_rfl) (λhs=>Eq.mpr (by kernel_rfl) (h hs))
def zk4:Nat→List Bool
 |5=>rl false [0,1,2,2,30]
 |_=>[]
noncomputable def zqI:Code:=Tryz.f150.body.getD .skip
noncomputable def zJv:List ResultVar:=Tryz.f150.results.toList
def zk6(t0 t3 t4:AV):List AV:=t0::ux 2 (t3::t4::ux 30 [])
def zJt:List Bool:=zk4 5
noncomputable def zJr:Code:=zaq [1,1,1,0,1,0,0] zqI
def zJq(K:Kt):AExit→List AV→zaa→Prop:=zar tP zk4 [1,1,1,0,1,0] zqI (zaA tP zJv K)
def zqJ(t0 t3 t4:AV)(H:zaa)(K:Kt):Prop:=ALoop tP zJr (zJq K) (zk6 t0 t3 t4) H
def zk5(t0 t3 t4:AV)(H:zaa)(K:Kt)(Kb5:Lt):Prop:=
 zah 0 t3 λt25=>
 zac .lss false t4 t25 λt26=>
 zag t26
 (zad H (λK'=>K' t0 H) λt29=>
 zad H (λK'=>zbu t29 (.int .i64 0) (K' · H)) λt30=>
 zad H (λK'=>K' t3 H) λt31=>
 zad H (λK'=>K' t4 H) λt32=>
 zad H (λK'=>zbu t31 t32 (K' · H)) λt33=>
 zad H (λK'=>zac .eql false t30 t33 (K' · H)) λt34=>
 zag t34
 (K (.int .i64 1) H)
 (zac .add false t4 (.int .i64 1) λt28=>
 Kb5 (zk6 t0 t3 t28) H))
 (K (.int .i64 0) H)
def zgH(t0:AV)(H:zaa)(K:Kt):Prop:=
 zah 0 t0 λt6=>
 zac .geq false t6 (.int .i64 2) λt7=>
 zab t7 true H (λK'=>K' t0 H) λt9 H=>
 zab t7 true H (λK'=>za3 0 0 t9 none (some (.int .i64 2)) (K' · H)) λt10 H=>
 zab t7 true H (λK'=>zac .eql false t10 (.str [45,62]) (K' · H)) λt11 H=>
 zab t7 true H (λK'=>K' t11 H) λt12 H=>
 zab t12 false H (λK'=>K' t0 H) λt13 H=>
 zab t12 false H (λK'=>za3 0 0 t13 none (some (.int .i64 2)) (K' · H)) λt14 H=>
 zab t12 false H (λK'=>zac .eql false t14 (.str [60,61]) (K' · H)) λt15 H=>
 zab t7 true H (λK'=>zai t12 (.bool true) t15 (K' · H)) λt16 H=>
 zab t7 true H (λK'=>K' t16 H) λt17 H=>
 zab t17 false H (λK'=>K' t0 H) λt18 H=>
 zab t17 false H (λK'=>za3 0 0 t18 none (some (.int .i64 2)) (K' · H)) λt19 H=>
 zab t17 false H (λK'=>zac .eql false t19 (.str [61,61]) (K' · H)) λt20 H=>
 zab t7 true H (λK'=>zai t17 (.bool true) t20 (K' · H)) λt21 H=>
 zai t7 t21 (.bool false) λt22=>
 zag t22
 (K (.int .i64 2) H)
 (zqJ t0 (.str [40,41,44,61,124,43,45,42,47,37,60,59,95]) (.int .i64 0) H K)
theorem zJs{t0 t3 t4:AV}{H:zaa}{K:Kt}(Inv:Nat→AV→zaa→Prop)(n:Nat)(h0:HSc H→Inv n t4 H)(round:Rd1 (λt4=>zk6 t0 t3 t4) (λt4=>λH Kb5=>zk5 t0 t3 t4 H K Kb5) H Inv):zqJ t0 t3 t4 H K:=
 lp1 (M:=zk4) zJt t4 (by kernel_rfl) Inv n h0 round
theorem zJu{t0:AV}{H:zaa}{K:Kt}(h:HSc H→zgH t0 H K):ACalls tP zof [t0] H K:=
 zan (M:=zk4) Tryz.func150 (c:=zqI) (by kernel_rfl) (λhs=>Eq.mpr (by kernel_rfl) (h hs))
def zKO(_:Nat):List Bool:=[]
noncomputable def zKP:Code:=Tryz.f216.body.getD .skip
def zyE(t0:AV)(H:zaa)(K:Kt):Prop:=
 zac .geq false t0 (.int .u8 97) λt4=>
 zab t4 true H (λK'=>K' t0 H) λt6 H=>
 zab t4 true H (λK'=>zac .leq false t6 (.int .u8 122) (K' · H)) λt7 H=>
 zai t4 t7 (.bool false) λt8=>
 K t8 H
theorem zKQ{t0:AV}{H:zaa}{K:Kt}(h:HSc H→zyE t0 H K):ACalls tP zji [t0] H K:=
 zan (M:=zKO) Tryz.func216 (c:=zKP) (by kernel_rfl) (λhs=>Eq.mpr (by kernel_rfl) (h hs))
def zKR(_:Nat):List Bool:=[]
noncomputable def zKS:Code:=Tryz.f217.body.getD .skip
def zyF(t0:AV)(H:zaa)(K:Kt):Prop:=
 zac .geq false t0 (.int .u8 65) λt4=>
 zab t4 true H (λK'=>K' t0 H) λt6 H=>
 zab t4 true H (λK'=>zac .leq false t6 (.int .u8 90) (K' · H)) λt7 H=>
 zai t4 t7 (.bool false) λt8=>
 K t8 H
theorem zKT{t0:AV}{H:zaa}{K:Kt}(h:HSc H→zyF t0 H K):ACalls tP zhw [t0] H K:=
 zan (M:=zKR) Tryz.func217 (c:=zKS) (by kernel_rfl) (λhs=>Eq.mpr (by kernel_rfl) (h hs))
def zlu:Nat→List Bool
 |2=>rl false [0,2,3,1,16]
 |_=>[]
noncomputable def zre:Code:=Tryz.f218.body.getD .skip
noncomputable def zKZ:List ResultVar:=Tryz.f218.results.toList
def zlv(t0 t1 t5:AV):List AV:=t0::t1::ux 3 (t5::ux 16 [])
def zKX:List Bool:=zlu 2
noncomputable def zKV:Code:=zaq [1,1,0,0,0] zre
def zKU(K:Kt):AExit→List AV→zaa→Prop:=zar tP zlu [1,1,0,0] zre (zaA tP zKZ K)
def zyH(t0 t1 t5:AV)(H:zaa)(K:Kt):Prop:=ALoop tP zKV (zKU K) (zlv t0 t1 t5) H
def zrd(t0 t1 t5:AV)(H:zaa)(K:Kt)(Kb2:Lt):Prop:=
 zah 0 t0 λt8=>
 zac .lss false t5 t8 λt9=>
 zab t9 true H (λK'=>K' t1 H) λt11 H=>
 zab t9 true H (λK'=>K' t0 H) λt12 H=>
 zab t9 true H (λK'=>K' t5 H) λt13 H=>
 zab t9 true H (λK'=>zbu t12 t13 (K' · H)) λt14 H=>
 zab t9 true H (λK'=>aCallV tP t11 [t14] H K') λt15 H=>
 zai t9 t15 (.bool false) λt16=>
 zag t16
 (zac .add false t5 (.int .i64 1) λt18=>
 Kb2 (zlv t0 t1 t18) H)
 (za3 0 0 t0 none (some t5) λt21=>
 K t21 H)
def zyG(t0 t1:AV)(H:zaa)(K:Kt):Prop:=
 zyH t0 t1 (.int .i64 0) H K
theorem zKW{t0 t1 t5:AV}{H:zaa}{K:Kt}(Inv:Nat→AV→zaa→Prop)(n:Nat)(h0:HSc H→Inv n t5 H)(round:Rd1 (λt5=>zlv t0 t1 t5) (λt5=>λH Kb2=>zrd t0 t1 t5 H K Kb2) H Inv):zyH t0 t1 t5 H K:=
 lp1 (M:=zlu) zKX t5 (by kernel_rfl) Inv n h0 round
theorem zKY{t0 t1:AV}{H:zaa}{K:Kt}(h:HSc H→zyG t0 t1 H K):ACalls tP zjj [t0,t1] H K:=
 zan (M:=zlu) Tryz.func218 (c:=zre) (by kernel_rfl) (λhs=>Eq.mpr (by kernel_rfl) (h hs))
def zK0(_:Nat):List Bool:=[]
noncomputable def zK1:Code:=Tryz.f219.body.getD .skip
def zyI(t0:AV)(H:zaa)(K:Kt):Prop:=
 ACalls tP zji [t0] H λt4 H=>
 zab t4 false H (λK'=>K' t0 H) λt6 H=>
 zab t4 false H (λK'=>ACalls tP zhw [t6] H K') λt7 H=>
 zai t4 (.bool true) t7 λt8=>
 zab t8 false H (λK'=>K' t0 H) λt10 H=>
 zab t8 false H (λK'=>ACalls tP zfz [t10] H K') λt11 H=>
 zai t8 (.bool true) t11 λt12=>
 zab t12 false H (λK'=>K' t0 H) λt14 H=>
 zab t12 false H (λK'=>zac .eql false t14 (.int .u8 95) (K' · H)) λt15 H=>
 zai t12 (.bool true) t15 λt16=>
 K t16 H
theorem zK2{t0:AV}{H:zaa}{K:Kt}(h:HSc H→zyI t0 H K):ACalls tP zhx [t0] H K:=
 zan (M:=zK0) Tryz.func219 (c:=zK1) (by kernel_rfl) (λhs=>Eq.mpr (by kernel_rfl) (h hs))
def zK3(_:Nat):List Bool:=[]
noncomputable def zK4:Code:=Tryz.f220.body.getD .skip
def zbj(t4:AV)(H:zaa)(K:Kt):Prop:=
 zag t4
 (K (.bool true) H)
 (K (.bool false) H)
def zyJ(t0:AV)(H:zaa)(K:Kt):Prop:=
 zac .eql false t0 (.str [97,114,114,97,121]) λt5=>
 zag t5
 (zbj t5 H K)
 (zac .eql false t0 (.str [98,111,111,108]) λt6=>
 zag t6
 (zbj t6 H K)
 (zac .eql false t0 (.str [99,97,116,99,104]) λt7=>
 zag t7
 (zbj t7 H K)
 (zac .eql false t0 (.str [100,97,116,97]) λt8=>
 zag t8
 (zbj t8 H K)
 (zac .eql false t0 (.str [101,108,115,101]) λt9=>
 zag t9
 (zbj t9 H K)
 (zac .eql false t0 (.str [101,110,100]) λt10=>
 zag t10
 (zbj t10 H K)
 (zac .eql false t0 (.str [102,97,108,115,101]) λt11=>
 zag t11
 (zbj t11 H K)
 (zac .eql false t0 (.str [102,110]) λt12=>
 zag t12
 (zbj t12 H K)
 (zac .eql false t0 (.str [102,117,110]) λt13=>
 zag t13
 (zbj t13 H K)
 (zac .eql false t0 (.str [103,101,116]) λt14=>
 zag t14
 (zbj t14 H K)
 (zac .eql false t0 (.str [105,102]) λt15=>
 zag t15
 (zbj t15 H K)
 (zac .eql false t0 (.str [105,110]) λt16=>
 zag t16
 (zbj t16 H K)
 (zac .eql false t0 (.str [105,110,116]) λt17=>
 zag t17
 (zbj t17 H K)
 (zac .eql false t0 (.str [108,101,110]) λt18=>
 zag t18
 (zbj t18 H K)
 (zac .eql false t0 (.str [108,101,116]) λt19=>
 zag t19
 (zbj t19 H K)
 (zac .eql false t0 (.str [109,97,116,99,104]) λt20=>
 zag t20
 (zbj t20 H K)
 (zac .eql false t0 (.str [110,101,119]) λt21=>
 zag t21
 (zbj t21 H K)
 (zac .eql false t0 (.str [114,97,105,115,101]) λt22=>
 zag t22
 (zbj t22 H K)
 (zac .eql false t0 (.str [114,101,97,100]) λt23=>
 zag t23
 (zbj t23 H K)
 (zac .eql false t0 (.str [114,101,102]) λt24=>
 zag t24
 (zbj t24 H K)
 (zac .eql false t0 (.str [115,101,116]) λt25=>
 zag t25
 (zbj t25 H K)
 (zac .eql false t0 (.str [116,104,101,110]) λt26=>
 zag t26
 (zbj t26 H K)
 (zac .eql false t0 (.str [116,105,99,107]) λt27=>
 zag t27
 (zbj t27 H K)
 (zac .eql false t0 (.str [116,114,117,101]) λt28=>
 zag t28
 (zbj t28 H K)
 (zac .eql false t0 (.str [116,114,121]) λt29=>
 zag t29
 (zbj t29 H K)
 (zac .eql false t0 (.str [117,110,105,116]) λt30=>
 zag t30
 (zbj t30 H K)
 (zac .eql false t0 (.str [119,105,116,104]) λt31=>
 zag t31
 (zbj t31 H K)
 (zac .eql false t0 (.str [119,114,105,116,101]) λt32=>
 zbj t32 H K)))))))))))))))))))))))))))
theorem zK5{t0:AV}{H:zaa}{K:Kt}(h:HSc H→zyJ t0 H K):ACalls tP zoo [t0] H K:=
 zan (M:=zK3) Tryz.func220 (c:=zK4) (by kernel_rfl) (λhs=>Eq.mpr (by kernel_rfl) (h hs))
def zK6(_:Nat):List Bool:=[]
noncomputable def zK7:Code:=Tryz.f221.body.getD .skip
def zyK(t0:AV)(H:zaa)(K:Kt):Prop:=
 zac .geq false t0 (.int .u8 48) λt4=>
 zab t4 true H (λK'=>K' t0 H) λt6 H=>
 zab t4 true H (λK'=>zac .leq false t6 (.int .u8 57) (K' · H)) λt7 H=>
 zai t4 t7 (.bool false) λt8=>
 K t8 H
theorem zK8{t0:AV}{H:zaa}{K:Kt}(h:HSc H→zyK t0 H K):ACalls tP zfz [t0] H K:=
 zan (M:=zK6) Tryz.func221 (c:=zK7) (by kernel_rfl) (λhs=>Eq.mpr (by kernel_rfl) (h hs))
def zlw:Nat→List Bool
 |3=>rl false [0,1,2,1,2,2,13]
 |_=>[]
noncomputable def zrg:Code:=Tryz.f222.body.getD .skip
noncomputable def zLe:List ResultVar:=Tryz.f222.results.toList
def zlx(t0 t3 t6 t7:AV):List AV:=t0::ux 2 (t3::ux 2 (t6::t7::ux 13 []))
def zLc:List Bool:=zlw 3
noncomputable def zLa:Code:=zaq [1,1,0,1,0,0] zrg
def zK9(K:Kt):AExit→List AV→zaa→Prop:=zar tP zlw [1,1,0,1,0] zrg (zaA tP zLe K)
def zyM(t0 t3 t6 t7:AV)(H:zaa)(K:Kt):Prop:=ALoop tP zLa (zK9 K) (zlx t0 t3 t6 t7) H
def zrf(t0 t3 t6 t7:AV)(H:zaa)(K:Kt)(Kb3:Lt):Prop:=
 zac .lss false t7 t6 λt8=>
 zag t8
 (zac .mul false t3 (.int .i64 10) λt11=>
 zbu t0 t7 λt14=>
 zac .sub false t14 (.int .u8 48) λt15=>
 zbD .i64 t15 λt16=>
 zac .add false t11 t16 λt17=>
 zac .gtr false t17 (.int .i64 1000000) λt19=>
 zag t19
 (K (.bool false) H)
 (zac .add false t7 (.int .i64 1) λt20=>
 Kb3 (zlx t0 t17 t6 t20) H))
 (K (.bool true) H)
def zyL(t0:AV)(H:zaa)(K:Kt):Prop:=
 zah 0 t0 λt6=>
 zyM t0 (.int .i64 0) t6 (.int .i64 0) H K
theorem zLb{t0 t3 t6 t7:AV}{H:zaa}{K:Kt}(Inv:Nat→AV→AV→zaa→Prop)(n:Nat)(h0:HSc H→Inv n t3 t7 H)(round:Rd2 (λt3=>λt7=>zlx t0 t3 t6 t7) (λt3=>λt7=>λH Kb3=>zrf t0 t3 t6 t7 H K Kb3) H Inv):zyM t0 t3 t6 t7 H K:=
 lp2 (M:=zlw) zLc t3 t7 (by kernel_rfl) Inv n h0 round
theorem zLd{t0:AV}{H:zaa}{K:Kt}(h:HSc H→zyL t0 H K):ACalls tP zhy [t0] H K:=
 zan (M:=zlw) Tryz.func222 (c:=zrg) (by kernel_rfl) (λhs=>Eq.mpr (by kernel_rfl) (h hs))
def zLf(_:Nat):List Bool:=[]
noncomputable def zLg:Code:=Tryz.f223.body.getD .skip
def zcq(t0 t16:AV)(H:zaa)(K:Kt):Prop:=
 zag t16
 (za3 0 0 t0 none (some (.int .i64 1)) λt31=>
 K t31 H)
 (K (.str []) H)
def zly(t0:AV)(H:zaa)(K:Kt):Prop:=
 za3 0 0 t0 none (some (.int .i64 1)) λt15=>
 zac .eql false t15 (.str [40]) λt17=>
 zag t17
 (zcq t0 t17 H K)
 (zac .eql false t15 (.str [41]) λt18=>
 zag t18
 (zcq t0 t18 H K)
 (zac .eql false t15 (.str [44]) λt19=>
 zag t19
 (zcq t0 t19 H K)
 (zac .eql false t15 (.str [61]) λt20=>
 zag t20
 (zcq t0 t20 H K)
 (zac .eql false t15 (.str [124]) λt21=>
 zag t21
 (zcq t0 t21 H K)
 (zac .eql false t15 (.str [43]) λt22=>
 zag t22
 (zcq t0 t22 H K)
 (zac .eql false t15 (.str [45]) λt23=>
 zag t23
 (zcq t0 t23 H K)
 (zac .eql false t15 (.str [42]) λt24=>
 zag t24
 (zcq t0 t24 H K)
 (zac .eql false t15 (.str [47]) λt25=>
 zag t25
 (zcq t0 t25 H K)
 (zac .eql false t15 (.str [37]) λt26=>
 zag t26
 (zcq t0 t26 H K)
 (zac .eql false t15 (.str [60]) λt27=>
 zag t27
 (zcq t0 t27 H K)
 (zac .eql false t15 (.str [59]) λt28=>
 zag t28
 (zcq t0 t28 H K)
 (zac .eql false t15 (.str [95]) λt29=>
 zcq t0 t29 H K))))))))))))
def zfO(t0 t8:AV)(H:zaa)(K:Kt):Prop:=
 zag t8
 (za3 0 0 t0 none (some (.int .i64 2)) λt13=>
 K t13 H)
 (zly t0 H K)
def zgO(t0:AV)(H:zaa)(K:Kt):Prop:=
 zah 0 t0 λt4=>
 zac .geq false t4 (.int .i64 2) λt5=>
 zag t5
 (za3 0 0 t0 none (some (.int .i64 2)) λt7=>
 zac .eql false t7 (.str [45,62]) λt9=>
 zag t9
 (zfO t0 t9 H K)
 (zac .eql false t7 (.str [60,61]) λt10=>
 zag t10
 (zfO t0 t10 H K)
 (zac .eql false t7 (.str [61,61]) λt11=>
 zfO t0 t11 H K)))
 (zly t0 H K)
theorem zLh{t0:AV}{H:zaa}{K:Kt}(h:HSc H→zgO t0 H K):ACalls tP zop [t0] H K:=
 zan (M:=zLf) Tryz.func223 (c:=zLg) (by kernel_rfl) (λhs=>Eq.mpr (by kernel_rfl) (h hs))
def zJ4(_:Nat):List Bool:=[]
noncomputable def zJ5:Code:=Tryz.f169.body.getD .skip
def zyl(t0:AV)(H:zaa)(K:Kt):Prop:=
 ACalls tP zok [t0] H λt8 H=>
 zaI t8 0 λt9=>
 zaI t8 1 λt10=>
 zaI t8 2 λt11=>
 zac .eql false t11 (.int .i64 0) λt13=>
 zab t13 true H (λK'=>K' t9 H) λt15 H=>
 zab t13 true H (λK'=>zah 1 t15 (K' · H)) λt16 H=>
 zab t13 true H (λK'=>zac .eql false t16 (.int .i64 2) (K' · H)) λt17 H=>
 zai t13 t17 (.bool false) λt18=>
 zab t18 true H (λK'=>K' t9 H) λt20 H=>
 zab t18 true H (λK'=>zaj 3 t20 (.int .i64 0) (K' · H)) λt21 H=>
 zab t18 true H (λK'=>zaf 0 t21 (K' · H)) λt22 H=>
 zab t18 true H (λK'=>zae false 1 t22 H (K' · H)) λt23 H=>
 zab t18 true H (λK'=>zac .eql false t23 (.int .i64 2) (K' · H)) λt24 H=>
 zai t18 t24 (.bool false) λt25=>
 zab t25 true H (λK'=>K' t9 H) λt27 H=>
 zab t25 true H (λK'=>zaj 3 t27 (.int .i64 0) (K' · H)) λt28 H=>
 zab t25 true H (λK'=>zaf 1 t28 (K' · H)) λt29 H=>
 zab t25 true H (λK'=>zae false 1 t29 H (K' · H)) λt30 H=>
 zab t25 true H (λK'=>K' t0 H) λt31 H=>
 zab t25 true H (λK'=>zac .eql false t30 t31 (K' · H)) λt32 H=>
 zai t25 t32 (.bool false) λt33=>
 K t33 H
theorem zJ6{t0:AV}{H:zaa}{K:Kt}(h:HSc H→zyl t0 H K):ACalls tP zjf [t0] H K:=
 zan (M:=zJ4) Tryz.func169 (c:=zJ5) (by kernel_rfl) (λhs=>Eq.mpr (by kernel_rfl) (h hs))
def zNa(_:Nat):List Bool:=[]
noncomputable def zNb:Code:=Tryz.f62.body.getD .skip
def zzw(t0:AV)(H:zaa)(K:Kt):Prop:=
 ACalls tP zn1 [t0] H λt8 H=>
 zaI t8 0 λt9=>
 zaI t8 1 λt10=>
 zaI t8 2 λt11=>
 zac .eql false t11 (.int .i64 0) λt13=>
 zab t13 true H (λK'=>K' t9 H) λt15 H=>
 zab t13 true H (λK'=>zah 1 t15 (K' · H)) λt16 H=>
 zab t13 true H (λK'=>zac .eql false t16 (.int .i64 2) (K' · H)) λt17 H=>
 zai t13 t17 (.bool false) λt18=>
 zab t18 true H (λK'=>K' t9 H) λt20 H=>
 zab t18 true H (λK'=>zaj 3 t20 (.int .i64 0) (K' · H)) λt21 H=>
 zab t18 true H (λK'=>zaf 0 t21 (K' · H)) λt22 H=>
 zab t18 true H (λK'=>zae false 1 t22 H (K' · H)) λt23 H=>
 zab t18 true H (λK'=>zac .eql false t23 (.int .i64 2) (K' · H)) λt24 H=>
 zai t18 t24 (.bool false) λt25=>
 zab t25 true H (λK'=>K' t9 H) λt27 H=>
 zab t25 true H (λK'=>zaj 3 t27 (.int .i64 0) (K' · H)) λt28 H=>
 zab t25 true H (λK'=>zaf 1 t28 (K' · H)) λt29 H=>
 zab t25 true H (λK'=>zae false 1 t29 H (K' · H)) λt30 H=>
 zab t25 true H (λK'=>K' t0 H) λt31 H=>
 zab t25 true H (λK'=>zac .eql false t30 t31 (K' · H)) λt32 H=>
 zai t25 t32 (.bool false) λt33=>
 K t33 H
theorem zNc{t0:AV}{H:zaa}{K:Kt}(h:HSc H→zzw t0 H K):ACalls tP zjs [t0] H K:=
 zan (M:=zNa) Tryz.func62 (c:=zNb) (by kernel_rfl) (λhs=>Eq.mpr (by kernel_rfl) (h hs))
end Go.Proofs.YtaifokkaaahdoaaGreatDoor

namespace Go.Proofs.YtaifokkaaahdoaaGreatDoor
open Go Go.Abs
def kwds:List (List UInt8):=[[97,114,114,97,121],[98,111,111,108],[99,97,116,99,104],[100,97,116,97],[101,108,115,101],[101,110,100],[102,97,108,115,101],[102,110],[102,117,110],[103,101,116],[105,102],[105,110],[105,110,116],[108,101,110],[108,101,116],[109,97,116,99,104],[110,101,119],[114,97,105,115,101],[114,101,97,100],[114,101,102],[115,101,116],[116,104,101,110],[116,105,99,107],[116,114,117,101],[116,114,121],[117,110,105,116],[119,105,116,104],[119,114,105,116,101]]
def kwF(ws:List (List UInt8))(s:List UInt8):Bool:=ws.any (s == ·)
theorem zbt{H:zaa}{K:AV→zaa→Prop}{r:AV}(hsc:HSc H)(hv:r.isV=true)(hr:r.scV H.length=true)(h:K r H):Out H.length K r H:=by have:=Out.same (J:=[]) rfl hsc hv hr h;simpa using this
theorem zcp(b c:UInt8):((b.toNat:Int) == (c.toNat:Int))=(b == c):=by
 rw[Bool.eq_iff_iff];simp only[beq_iff_eq];constructor
 ·intro h;exact UInt8.toNat_inj.mp (by omega)
 ·rintro rfl;rfl
theorem zuM(b:UInt8)(H:zaa)(K:AV→zaa→Prop)(hK:K (.bool (zbM b)) H):ACalls tP zja [.int .u8 b.toNat] H K:=by refine ACalls.out (zI7 λhs=>?_);have hO:=zbt (K:=K) (H:=H) (r:=.bool (zbM b)) hs rfl rfl hK;unfold zbM at hO;cases h1:decide (97≤(b.toNat:Int)) <;> simp[zx6,h1] <;> simpa[h1]using hO
theorem zj6(b:UInt8)(H:zaa)(K:AV→zaa→Prop)(hK:K (.bool (bUp b)) H):ACalls tP zgj [.int .u8 b.toNat] H K:=by refine ACalls.out (zJa λhs=>?_);have hO:=zbt (K:=K) (H:=H) (r:=.bool (bUp b)) hs rfl rfl hK;unfold bUp at hO;cases h1:decide (65≤(b.toNat:Int)) <;> simp[zx7,h1] <;> simpa[h1]using hO
theorem zno(b:UInt8)(H:zaa)(K:AV→zaa→Prop)(hK:K (.bool (za4 b)) H):ACalls tP zhu [.int .u8 b.toNat] H K:=by refine ACalls.out (zJd λhs=>?_);have hO:=zbt (K:=K) (H:=H) (r:=.bool (za4 b)) hs rfl rfl hK;unfold za4 at hO;cases h1:decide (48≤(b.toNat:Int)) <;> simp[zx8,h1] <;> simpa[h1]using hO
theorem znT(b:UInt8)(H:zaa)(K:AV→zaa→Prop)(hK:K (.bool (zbM b)) H):ACalls tP zji [.int .u8 b.toNat] H K:=by refine ACalls.out (zKQ λhs=>?_);have hO:=zbt (K:=K) (H:=H) (r:=.bool (zbM b)) hs rfl rfl hK;unfold zbM at hO;cases h1:decide (97≤(b.toNat:Int)) <;> simp[zyE,h1] <;> simpa[h1]using hO
theorem zj7(b:UInt8)(H:zaa)(K:AV→zaa→Prop)(hK:K (.bool (bUp b)) H):ACalls tP zhw [.int .u8 b.toNat] H K:=by refine ACalls.out (zKT λhs=>?_);have hO:=zbt (K:=K) (H:=H) (r:=.bool (bUp b)) hs rfl rfl hK;unfold bUp at hO;cases h1:decide (65≤(b.toNat:Int)) <;> simp[zyF,h1] <;> simpa[h1]using hO
theorem znp(b:UInt8)(H:zaa)(K:AV→zaa→Prop)(hK:K (.bool (za4 b)) H):ACalls tP zfz [.int .u8 b.toNat] H K:=by refine ACalls.out (zK8 λhs=>?_);have hO:=zbt (K:=K) (H:=H) (r:=.bool (za4 b)) hs rfl rfl hK;unfold za4 at hO;cases h1:decide (48≤(b.toNat:Int)) <;> simp[zyK,h1] <;> simpa[h1]using hO
theorem zBz(b:UInt8)(H:zaa)(K:AV→zaa→Prop)(hK:K (.bool (zda b)) H):ACalls tP zom [.int .u8 b.toNat] H K:=by refine ACalls.out (zKH λhs=>?_);have hO:=zbt (K:=K) (H:=H) (r:=.bool (zda b)) hs rfl rfl hK;unfold zda at hO;have e1:((b.toNat:Int) == 9)=(b == 9):=zcp b 9;have e2:((b.toNat:Int) == 10)=(b == 10):=zcp b 10;have e3:((b.toNat:Int) == 13)=(b == 13):=zcp b 13;have e4:((b.toNat:Int) == 32)=(b == 32):=zcp b 32;cases h1:(b == 9) <;> cases h2:(b == 10) <;> cases h3:(b == 13) <;> simp[zyB,e1,e2,e3,e4,h1,h2,h3] <;> simpa[h1,h2,h3]using hO
theorem zF6(b:UInt8)(H:zaa)(K:AV→zaa→Prop)(hK:K (.bool (bIn b)) H):ACalls tP zhx [.int .u8 b.toNat] H K:=by
 refine ACalls.out (zK2 λhs=>?_);have hO:=zbt (K:=K) (H:=H) (r:=.bool (bIn b)) hs rfl rfl hK;unfold bIn at hO;have e1:((b.toNat:Int) == 95)=(b == 95):=zcp b 95;unfold zyI;refine znT b _ _ ?_;cases h1:zbM b with
 |true=>simp;simpa[h1]using hO
 |false=>
  simp;refine zj7 b _ _ ?_;cases h2:bUp b with
  |true=>simp;simpa[h1,h2]using hO
  |false=>
   simp;refine znp b _ _ ?_;cases h3:za4 b with
   |true=>simp;simpa[h1,h2,h3]using hO
   |false=>simp[e1];simpa[h1,h2,h3]using hO
theorem zCP(s:List UInt8)(H:zaa)(K:AV→zaa→Prop)(hK:K (.bool (kwF kwds s)) H):ACalls tP zoo [.str s] H K:=by
 refine ACalls.out (zK5 λhs=>?_);have hO:=zbt (K:=K) (H:=H) (r:=.bool (kwF kwds s)) hs rfl rfl hK;have step:∀ (w:List UInt8) (ws:List (List UInt8)) (rest:Prop),(Out H.length K (.bool (kwF ws s)) H→rest)→Out H.length K (.bool (kwF (w::ws) s)) H →
   zac .eql false (.str s) (.str w) λt=>zag t (zbj t H (Out H.length K)) rest:=by
  intro w ws rest h h';simp only[kwF,List.any_cons]at h h';cases e:(s == w) with
  |true=>simpa[zbj,e]using h'
  |false=>rw[e,Bool.false_or]at h';simpa[zbj,e]using h h'
 unfold zyJ
 revert hO
 unfold kwds
 iterate 27 refine step _ _ _ ?_
 intro h';simp only[kwF,List.any_cons,List.any_nil,Bool.or_false]at h';cases e:(s == [119,114,105,116,101]) <;> rw[e]at h' <;> simpa[zbj,e]using h'
theorem zCQ(s:List UInt8)(H:zaa)(K:AV→zaa→Prop)(hK:K (.bool (kwF kwds s)) H):ACalls tP zjb [.str s] H K:=by
 refine ACalls.out (zJi λhs=>?_);have hO:=zbt (K:=K) (H:=H) (r:=.bool (kwF kwds s)) hs rfl rfl hK;have e:zx9 (.str s) H (Out H.length K)=zqF (.str s) (.sl (kwds.map λw=>[.str w]) .full) (.int .i64 0) H (Out H.length K):=rfl;rw[e];have hlen:kwds.length=28:=rfl;generalize kwds=ws at *;refine zJg (Inv:=λq t4 H'=>∃i:Nat,i≤ws.length∧q=ws.length-i∧t4=.int .i64 i∧kwF (ws.drop i) s=kwF ws s∧H'=H) ws.length ?_ ?_
 ·intro _;exact⟨0,by omega,by omega,rfl,by simp,rfl⟩
 ·rintro q t8 H' ⟨i,hi,rfl,rfl,ho,rfl⟩ hsc _ hsF Kb hKb;by_cases hlt:i<ws.length
  ·rw[List.drop_eq_getElem_cons hlt]at ho;simp only[kwF,List.any_cons]at ho;cases hz:(ws[i] == s) with
   |true=>
    have hz':(s == ws[i])=true:=by rw[beq_iff_eq]at hz ⊢;exact hz.symm
    rw[hz',Bool.true_or]at ho;simp[zk0,hlt,hz];unfold kwF at hO;rw[←ho]at hO;exact hO
   |false=>
    have hz':(s == ws[i])=false:=by rw[beq_eq_false_iff_ne]at hz ⊢;exactλh=>hz h.symm
    rw[hz',Bool.false_or]at ho;simp[zk0,hlt,hz];rw[zax (by omega) (by omega)];refine hKb _ _ ⟨ws.length-(i+1),by omega,Back.here (Nat.le_refl _) hs ?_ ⟨_,rfl,i+1,by omega,rfl,by simp,ho,rfl⟩⟩;simp[zk1,AV.sc,AV.scV,AV.scA,AV.scB]
  ·simp[zk0,hlt];obtain rfl:i=ws.length:=by omega
   rw[List.drop_length]at ho;rw[←ho]at hO;exact hO
theorem ztk{b:UInt8}(h:za4 b=true):48≤(b.toNat:Int)∧(b.toNat:Int)≤57:=by simpa[za4]using h
theorem zEz(s:List UInt8)(hd:∀b∈s,za4 b=true)(hl:s.length≤1000000)(H:zaa)(K:AV→zaa→Prop)(hK:K (.bool (zb0 s 0)) H):ACalls tP zhy [.str s] H K:=by
 refine ACalls.out (zLd λhs=>?_);have hO:=zbt (K:=K) (H:=H) (r:=.bool (zb0 s 0)) hs rfl rfl hK;simp[zyL];refine zLb (Inv:=λq t3 t7 H'=>∃(i:Nat) (n:Int),i≤s.length∧q=s.length-i∧t7=.int .i64 i∧t3=.int .i64 n∧0≤n∧n≤1000000∧zb0 (s.drop i) n=zb0 s 0∧H'=H) s.length ?_ ?_
 ·intro _;exact⟨0,0,by omega,by omega,rfl,rfl,by omega,by omega,by simp,rfl⟩
 ·rintro q t3 t7 H' ⟨i,n,hi,rfl,rfl,rfl,hn0,hn1,ho,rfl⟩ hsc _ hsF Kb hKb;by_cases hlt:i<s.length
  ·have hb:=ztk (hd s[i] (List.getElem_mem hlt));rw[List.drop_eq_getElem_cons hlt,zb0]at ho;simp[zrf,hlt];rw[IntWalk.u8_in _ (by omega),zax (n:=n*10) (by omega) (by omega),zax (n:=(s[i].toNat:Int)-48) (by omega) (by omega),zax (by omega) (by omega),zax (by omega) (by omega)];by_cases hg:1000000<n*10+((s[i].toNat:Int)-48)
   ·rw[if_pos hg]at ho;have hg':decide (1000000<n*10+((s[i].toNat:Int)-48))=true:=by simpa using hg
    rw[←ho]at hO;rw[hg'];simpa using hO
   ·rw[if_neg hg]at ho;have hg':decide (1000000<n*10+((s[i].toNat:Int)-48))=false:=by simpa using hg
    rw[hg'];simp only[zs2,Bool.false_eq_true,if_false];refine hKb _ _ ⟨s.length-(i+1),by omega,Back.here (Nat.le_refl _) hs ?_ ⟨_,_,rfl,i+1,_,by omega,rfl,by simp,rfl,by omega,by omega,ho,rfl⟩⟩;simp[zlx,AV.sc,AV.scV,AV.scA,AV.scB]
  ·simp[zrf,hlt];obtain rfl:i=s.length:=by omega
   rw[List.drop_length,zb0]at ho;rw[←ho]at hO;exact hO
theorem zvB(cl:UInt8→Bool)(f:FuncId)(hcl:zdr tP f=true)(hf:∀(b:UInt8) (H:zaa) (K:AV→zaa→Prop),K (.bool (cl b)) H→ACalls tP f [.int .u8 b.toNat] H K)(s:List UInt8)(hl:s.length≤1000000)(H:zaa)(K:AV→zaa→Prop)(hK:K (.str (s.takeWhile cl)) H):ACalls tP zjj [.str s,.fn f []] H K:=by
 refine ACalls.out (zKY λhs=>?_);have hO:=zbt (K:=K) (H:=H) (r:=.str (s.takeWhile cl)) hs rfl rfl hK;simp[zyG];refine zKW (Inv:=λq t5 H'=>∃i:Nat,i≤s.length∧q=s.length-i∧t5=.int .i64 i∧s.take i++(s.drop i).takeWhile cl=s.takeWhile cl∧H'=H) s.length ?_ ?_
 ·intro _;exact⟨0,by omega,by omega,rfl,by simp,rfl⟩
 ·rintro q t5 H' ⟨i,hi,rfl,rfl,ho,rfl⟩ hsc _ hsF Kb hKb;by_cases hlt:i<s.length
  ·rw[List.drop_eq_getElem_cons hlt,List.takeWhile_cons]at ho;simp[zrd,hlt];simp only[aCallV,hcl,List.append_nil];refine hf _ _ _ ?_;cases hc:cl s[i] with
   |true=>rw[hc,if_pos rfl,List.append_cons,←List.take_succ_eq_append_getElem hlt]at ho;simp;rw[zax (by omega) (by omega)];refine hKb _ _ ⟨s.length-(i+1),by omega,Back.here (Nat.le_refl _) hs ?_ ⟨_,rfl,i+1,by omega,rfl,by simp,ho,rfl⟩⟩;simp[zlv,AV.sc,AV.scV,AV.scA,AV.scB]
   |false=>rw[hc,if_neg (by simp),List.append_nil]at ho;rw[←ho]at hO;simp[hi];exact hO
  ·simp[zrd,hlt];obtain rfl:i=s.length:=by omega
   rw[List.drop_length,List.takeWhile_nil,List.append_nil,List.take_length]at ho;rw[←ho]at hO;simpa using hO
theorem zFY(s:List UInt8)(hd:∀b∈s,za4 b=true)(hl:s.length≤1000000)(H:zaa)(K:AV→zaa→Prop)(hK:∀n,K (.tup [.int .i64 n,.bool (zb0 s 0)]) H):ACalls tP zgk [.str s] H K:=by
 refine ACalls.out (zJo λhs=>?_);have hO:∀n,Out H.length K (.tup [.int .i64 n,.bool (zb0 s 0)]) H:=λn=>Out.tup0 hs (hK n) ⟨zcb rfl rfl,zcb rfl rfl,trivial⟩;simp only[zya];refine zJm (Inv:=λq t3 t7 H'=>∃(i:Nat) (n:Int),i≤s.length∧q=s.length-i∧t7=.int .i64 i∧t3=.int .i64 n∧0≤n∧n≤1000000∧zb0 (s.drop i) n=zb0 s 0∧H'=H) s.length ?_ ?_
 ·intro _;exact⟨0,0,by omega,by omega,rfl,rfl,by omega,by omega,by simp,rfl⟩
 ·rintro q t3 t7 H' ⟨i,n,hi,rfl,rfl,rfl,hn0,hn1,ho,rfl⟩ hsc _ hsF Kb hKb;by_cases hlt:i<s.length
  ·have hb:=ztk (hd s[i] (List.getElem_mem hlt));rw[List.drop_eq_getElem_cons hlt,zb0]at ho;simp[zqG,hlt];rw[IntWalk.u8_in _ (by omega),zax (n:=n*10) (by omega) (by omega),zax (n:=(s[i].toNat:Int)-48) (by omega) (by omega),zax (by omega) (by omega),zax (by omega) (by omega)];by_cases hg:1000000<n*10+((s[i].toNat:Int)-48)
   ·rw[if_pos hg]at ho;have hg':decide (1000000<n*10+((s[i].toNat:Int)-48))=true:=by simpa using hg
    rw[←ho]at hO;rw[hg'];simpa[AV.isV]using hO 0
   ·rw[if_neg hg]at ho;have hg':decide (1000000<n*10+((s[i].toNat:Int)-48))=false:=by simpa using hg
    rw[hg'];simp only[zs2,Bool.false_eq_true,if_false];refine hKb _ _ ⟨s.length-(i+1),by omega,Back.here (Nat.le_refl _) hs ?_ ⟨_,_,rfl,i+1,_,by omega,rfl,by simp,rfl,by omega,by omega,ho,rfl⟩⟩;simp[zk3,AV.sc,AV.scV,AV.scA,AV.scB]
  ·simp[zqG,hlt,AV.isV];obtain rfl:i=s.length:=by omega
   rw[List.drop_length,zb0]at ho;rw[←ho]at hO;exact hO n
theorem zFo(b:UInt8)(r:List UInt8):(b::r).take 1=[b]:=by simp
theorem zo8{s:List UInt8}(h:¬ 2≤s.length):zdj s=false:=by
 match s,h with
 |[],_=>rfl
 |[b],_=>simp[zdj]
 |_::_::_,h=>simp at h
theorem zv2(b:UInt8)(r:List UInt8)(h:zdj (b::r)=false):sgn (b::r)=if sgns.contains b=true then 1 else 0:=by simp[sgn,h]
theorem zEs(b:UInt8)(r:List UInt8)(H:zaa)(K:AV→zaa→Prop)(hK:K (.str ((b::r).take (sgn (b::r)))) H):ACalls tP zop [.str (b::r)] H K:=by
 refine ACalls.out (zLh λhs=>?_);have hO:=zbt (K:=K) (H:=H) (r:=.str ((b::r).take (sgn (b::r)))) hs rfl rfl hK;have one:zdj (b::r)=false→zly (.str (b::r)) H (Out H.length K):=by
  intro h2;rw[zv2 b r h2]at hO;have hO:Out H.length K (.str (if sgns.contains b=true then [b] else [])) H:=by cases hc:sgns.contains b <;> rw[hc]at hO <;> simpa using hO
  have step:∀ (c:UInt8) (cs:List UInt8) (rest:Prop),(Out H.length K (.str (if cs.contains b=true then [b] else [])) H→rest)→Out H.length K (.str (if (c::cs).contains b=true then [b] else [])) H →
    zac .eql false (.str [b]) (.str [c]) λt=>zag t (zcq (.str (b::r)) t H (Out H.length K)) rest:=by
   intro c cs rest h h';rw[List.contains_cons]at h';cases e:(b == c) with
   |true=>rw[e]at h';simpa[zcq,e]using h'
   |false=>rw[e,Bool.false_or]at h';simpa[zcq,e]using h h'
  unfold zly;simp only[zA4,zAT,zAS,Int.toNat_one,zFo,List.drop_zero];refine⟨by decide,⟨by omega,by simp⟩,?_⟩
  revert hO
  unfold sgns
  iterate 12 refine step _ _ _ ?_
  intro h';rw[List.contains_cons]at h';cases e:(b == 95) <;> rw[e]at h' <;> simpa[zcq,e]using h'
 by_cases hl:2≤(b::r).length
 ·have hl':(2:Int)≤r.length+1:=by simp only[List.length_cons]at hl;omega
  have hl2:1≤r.length:=by simp only[List.length_cons]at hl;omega
  cases h2:zdj (b::r) with
  |true=>
   have h3:sgn (b::r)=2:=by simp[sgn,h2]
   rw[h3]at hO;unfold zdj at h2;simp only[List.take_succ_cons]at h2 hO;cases e1:(b::List.take 1 r == [45,62]) with
   |true=>simpa[zgO,hl',hl2,zfO,e1]using hO
   |false=>
    cases e2:(b::List.take 1 r == [60,61]) with
    |true=>simpa[zgO,hl',hl2,zfO,e1,e2]using hO
    |false=>rw[e1,e2]at h2;simp only[Bool.false_or]at h2;simpa[zgO,hl',hl2,zfO,e1,e2,h2]using hO
  |false=>have ho:=one h2;unfold zdj at h2;simp only[List.take_succ_cons]at h2;rw[Bool.or_eq_false_iff,Bool.or_eq_false_iff]at h2;simpa[zgO,hl',hl2,zfO,h2.1.1,h2.1.2,h2.2]using ho
 ·have ho:=one (zo8 hl);have:¬ ((2:Int)≤r.length+1):=by simp only[List.length_cons]at hl;omega
  simpa[zgO,this]using ho
theorem zEr(b:UInt8)(r:List UInt8)(H:zaa)(K:AV→zaa→Prop)(hK:K (.int .i64 (sgn (b::r))) H):ACalls tP zof [.str (b::r)] H K:=by
 refine ACalls.out (zJu λhs=>?_);have hO:=zbt (K:=K) (H:=H) (r:=.int .i64 (sgn (b::r))) hs rfl rfl hK;have one:zdj (b::r)=false→zqJ (.str (b::r)) (.str sgns) (.int .i64 0) H (Out H.length K):=by
  intro h2;rw[zv2 b r h2]at hO;have hlen:sgns.length=13:=rfl;generalize sgns=ws at *;refine zJs (Inv:=λq t4 H'=>∃i:Nat,i≤ws.length∧q=ws.length-i∧t4=.int .i64 i∧(ws.drop i).contains b=ws.contains b∧H'=H) ws.length ?_ ?_
  ·intro _;exact⟨0,by omega,by omega,rfl,by simp,rfl⟩
  ·rintro q t8 H' ⟨i,hi,rfl,rfl,ho,rfl⟩ hsc _ hsF Kb hKb;by_cases hlt:i<ws.length
   ·rw[List.drop_eq_getElem_cons hlt,List.contains_cons]at ho;have e1:=zcp b ws[i];cases hz:(b == ws[i]) with
    |true=>rw[hz,Bool.true_or]at ho;rw[←ho]at hO;simpa[zk5,hlt,e1,hz]using hO
    |false=>rw[hz,Bool.false_or]at ho;simp[zk5,hlt,e1,hz];rw[zax (by omega) (by omega)];refine hKb _ _ ⟨ws.length-(i+1),by omega,Back.here (Nat.le_refl _) hs ?_ ⟨_,rfl,i+1,by omega,rfl,by simp,ho,rfl⟩⟩;simp[zk6,AV.sc,AV.scV,AV.scA,AV.scB]
   ·obtain rfl:i=ws.length:=by omega
    rw[List.drop_length]at ho;rw[←ho]at hO;simpa[zk5,hlt]using hO
 by_cases hl:2≤(b::r).length
 ·have hl':(2:Int)≤r.length+1:=by simp only[List.length_cons]at hl;omega
  have hl2:1≤r.length:=by simp only[List.length_cons]at hl;omega
  cases h2:zdj (b::r) with
  |true=>
   have h3:sgn (b::r)=2:=by simp[sgn,h2]
   rw[h3]at hO;unfold zdj at h2;simp only[List.take_succ_cons]at h2 hO;cases e1:(b::List.take 1 r == [45,62]) with
   |true=>simpa[zgH,hl',hl2,e1]using hO
   |false=>
    cases e2:(b::List.take 1 r == [60,61]) with
    |true=>simpa[zgH,hl',hl2,e1,e2]using hO
    |false=>rw[e1,e2]at h2;simp only[Bool.false_or]at h2;simpa[zgH,hl',hl2,e1,e2,h2]using hO
  |false=>have ho:=one h2;unfold sgns at ho;unfold zdj at h2;simp only[List.take_succ_cons]at h2;rw[Bool.or_eq_false_iff,Bool.or_eq_false_iff]at h2;simpa[zgH,hl',hl2,h2.1.1,h2.1.2,h2.2]using ho
 ·have ho:=one (zo8 hl);unfold sgns at ho;have:¬ ((2:Int)≤r.length+1):=by simp only[List.length_cons]at hl;omega
  simpa[zgH,this]using ho

def Tk.cs(t:Tk):List AV:=[.int .i64 t.kind,.str t.text,.int .i64 t.pos]
def zjN(kw:List UInt8→Bool)(b:UInt8)(r:List UInt8)(i:Nat):AV:=
 match tok kw b r with
 |.error e=>.tup [.agg [.int .i64 0,.str [],.int .i64 0],.int .i64 e]
 |.ok (k,n)=>.tup [.agg (Tk.cs ⟨k,(b::r).take n,i⟩),.int .i64 0]
theorem zjZ{p:UInt8→Bool}(b:UInt8)(r:List UInt8):(b::r).take ((r.takeWhile p).length+1)=b::r.takeWhile p:=by
 rw[List.take_succ_cons];congr 1;induction r with
 |nil=>simp
 |cons c r ih=>by_cases h:p c=true <;> simp[h,ih]
theorem zCR:zdr tP zhx=true:=by kernel_rfl
theorem zCS:zdr tP zfz=true:=by kernel_rfl
theorem zvp{H J:zaa}{K:AV→zaa→Prop}{k p e:Int}{t:List UInt8}(hs:HSc H)(h:K (.tup [.agg [.int .i64 k,.str t,.int .i64 p],.int .i64 e]) H):
  Out H.length K (.tup [.agg [.int .i64 k,.str t,.int .i64 p],.int .i64 e]) (H++J):=Out.tup hs h ⟨zcb rfl rfl,zcb rfl rfl,trivial⟩
def zlt(t4 t6:AV)(H:zaa)(K:AV→zaa→Prop):Prop:=
 zaf 1 t6 λt69=>
 zae false 1 t69 H λt70=>
 ACalls tP zhy [t70] H λt71 H=>
 aUn .not t71 λt72=>
 zag t72
 (zao [(.int .i64 0),(.str []),(.int .i64 0)] [(0,1),(1,1),(2,1)] [] λt73=>
 zak 3 t4 t73 H λH=>
 zae true 3 t4 H λr0=>
 za5 [r0,(.int .i64 9)] (K · H))
 (zgN t4 t6 H K)
theorem zEh(s:List UInt8)(hl:s.length≤1000000)(i:Nat)(hi:i<s.length)(H:zaa)(K:AV→zaa→Prop)(hK:K (zjN (kwF kwds) s[i] (s.drop (i+1)) i) H):ACalls tP zon [.str s,.int .i64 i] H K:=by
 refine ACalls.out (zKK λhs=>?_);have hdr:=List.drop_eq_getElem_cons hi;have hrl:(s.drop i).length≤1000000:=by simp;omega
 generalize hb:s[i]=b at *;generalize hr:s.drop (i+1)=r at *;have hb':s[i]?.getD 0=b:=by simp[hi,hb]
 have post:∀(k:Int) (n:Nat),tok (kwF kwds) b r=.ok (k,n)→∀t,(b::r).take n=t→zgN (.ptr H.length 0) (.ptr (H.length+1) 0) (H++[.cells [.int .i64 0,.str [],.int .i64 0],.cells [.int .i64 k,.str t,.int .i64 i]]) (Out H.length K):=by intro k n ht t hte;subst hte;simp[zjN,ht,Tk.cs]at hK;simp[zgN,zyC,AV.known,AV.isV];exact zvp hs hK
 have bad:∀e:Int,tok (kwF kwds) b r=.error e→∀J,Out H.length K (.tup [.agg [.int .i64 0,.str [],.int .i64 0],.int .i64 e]) (H++J):=by intro e ht J;simp[zjN,ht]at hK;exact zvp hs hK
 have hi':=Nat.le_of_lt hi;by_cases hLU:(zbM b || bUp b)=true
 ·have hin:bIn b=true:=by simp[bIn,hLU]
  simp[zrc,hi,hb,hi',zao,zaL,AV.known];refine znT b _ _ ?_;have hc:zbM b=true∨(zbM b=false∧bUp b=true):=by cases hL:zbM b <;> simp[hL]at hLU ⊢;exact hLU
  have hpost:=λk=>post k ((r.takeWhile bIn).length+1);simp only[tok,hLU,if_true,zjZ]at hpost;rcases hc with hL|⟨hL,hU⟩
  case' inl=>simp[hL]
  case' inr=>simp[hL];refine zj7 b _ _ ?_;simp[hU]
  all_goals
   rw[hdr];refine zvB bIn zhx zCR zF6 (b::r) (by rw[←hdr];exact hrl) _ _ ?_;simp[hin,AV.known];by_cases hn:(r.takeWhile bIn).length+1>24
   ·have hn':(24:Int)<(r.takeWhile bIn).length+1:=by omega
    have:=bad 9 (by simp only[tok,hLU,if_true];rw[if_pos hn]);simp[hn',AV.known,AV.isV];exact this _
   ·have hn':¬ (24:Int)<(r.takeWhile bIn).length+1:=by omega
    simp[hn'];refine zj7 b _ _ ?_;rw[if_neg hn]at hpost;cases hU:bUp b with
    |true=>simp[AV.known,zgM];exact hpost 2 (by simp[hU]) _ rfl
    |false=>
     simp[AV.known];refine zCP _ _ _ ?_;cases hkw:kwF kwds (b::r.takeWhile bIn) with
     |true=>simp[AV.known,zgM];exact hpost 4 (by simp[hU,hkw]) _ rfl
     |false=>simp[AV.known,zgM];exact hpost 1 (by simp[hU,hkw]) _ rfl
 ·have hL:zbM b=false:=by simp at hLU;exact hLU.1
  have hU:bUp b=false:=by simp at hLU;exact hLU.2
  simp[zrc,hi,hb,zao,zaL,AV.known];refine znT b _ _ ?_;simp[hL];refine zj7 b _ _ ?_;simp[hU];refine znp b _ _ ?_;cases hD:za4 b with
  |true=>
   simp[hi',AV.known];rw[hdr];refine zvB za4 zfz zCS znp (b::r) (by rw[←hdr];exact hrl) _ _ ?_;have e1:((b.toNat:Int) == 48)=(b == 48):=zcp b 48;have htk:tok (kwF kwds) b r=if (b == 48 && decide ((r.takeWhile za4).length+1>1))=true then .error 2 else if zb0 (b::r.takeWhile za4) 0=true then .ok (3,(r.takeWhile za4).length+1) else .error 9:=by simp only[tok,hLU,hD,if_true,zjZ];rfl
   have hsm:∀J,ACalls tP zhy [.str (b::r.takeWhile za4)] (H++J) λt H'=>t=.bool (zb0 (b::r.takeWhile za4) 0)∧H'=H++J:=by
    intro J;refine zEz _ ?_ ?_ _ _ ⟨rfl,rfl⟩
    ·intro c hc;rcases List.mem_cons.1 hc with rfl | hc
     ·exact hD
     ·exact List.all_eq_true.1 (List.all_takeWhile) c hc
    ·have h1:(r.takeWhile za4).length≤r.length:=(List.takeWhile_sublist _).length_le;rw[hdr]at hrl;simp at hrl ⊢;omega
   simp[hD,AV.known,e1];have hpost:=post 3 ((r.takeWhile za4).length+1);rw[zjZ]at hpost;rw[htk]at hpost bad;have last:∀J,(¬(b == 48 && decide ((r.takeWhile za4).length+1>1))=true)→J=[.cells [.int .i64 0,.str [],.int .i64 0],.cells [.int .i64 3,.str (b::r.takeWhile za4),.int .i64 i]]→zlt (.ptr H.length 0) (.ptr (H.length+1) 0) (H++J) (Out H.length K):=by
    rintro J hne rfl;rw[if_neg hne]at hpost bad;simp[zlt];refine(hsm _).mono ?_;rintro _ _ ⟨rfl,rfl⟩;cases hv:zb0 (b::r.takeWhile za4) 0 with
    |true=>simp;exact hpost (by simp[hv]) _ rfl
    |false=>simp[AV.known,zao,zaL,AV.isV];exact bad 9 (by simp[hv]) _
   cases hz:(b == 48) with
   |true=>
    simp[hz];by_cases hn:1<(r.takeWhile za4).length+1
    ·have hn':(1:Int)<(r.takeWhile za4).length+1:=by omega
     have hd:decide ((r.takeWhile za4).length+1>1)=true:=decide_eq_true hn;have:=bad 2 (by rw[hz,hd];rfl);simp[hn',AV.known,AV.isV];exact this _
    ·have hn':¬ (1:Int)<(r.takeWhile za4).length+1:=by omega
     have hd:decide ((r.takeWhile za4).length+1>1)=false:=decide_eq_false hn;have:=last _ (by rw[hz,hd];decide) rfl;simp[zlt,zao,zaL]at this;simp[hn'];exact this
   |false=>have:=last _ (by simp[hz]) rfl;simp[zlt,zao,zaL]at this;simp[hz];exact this
  |false=>
   simp[hi',AV.known];rw[hdr];refine zEs b r _ _ ?_;simp[AV.known];have htk:tok (kwF kwds) b r=if sgn (b::r)=0 then .error 2 else .ok (5,sgn (b::r)):=by simp only[tok,hLU,hD];rfl
   by_cases hz:sgn (b::r)=0
   ·have:=bad 2 (by rw[htk,if_pos hz]);simp[hz,AV.isV];exact this _
   ·have:=post 5 (sgn (b::r)) (by rw[htk,if_neg hz]) _ rfl;have he:(List.take (sgn (b::r)) (b::r)).isEmpty=false:=by
     cases h:sgn (b::r) with
     |zero=>exact absurd h hz
     |succ n=>simp
    simp[he];exact this
def cat(l:List Tk):Except (Nat × Int) (List Tk)→Except (Nat × Int) (List Tk)
 |.error e=>.error e
 |.ok m=>.ok (l++m)
theorem ztx(l m:List Tk)(r:Except (Nat×Int) (List Tk)):cat l (cat m r)=cat (l++m) r:=by cases r <;> simp[cat]
@[simp] theorem zS3(r:Except (Nat×Int) (List Tk)):cat [] r=r:=by cases r <;> rfl
def zeu(r:List UInt8):List UInt8:=r.dropWhile (· != 10)
def zev(r:List UInt8):Nat:=(r.takeWhile (· != 10)).length
section
variable (kw:List UInt8→Bool)
theorem zpq(p:Nat):zbf kw [] p=.ok [⟨6,[],p⟩]:=by unfold zbf;rfl
theorem zwt{b:UInt8}(h:zda b=true)(r:List UInt8)(p:Nat):zbf kw (b::r) p=zbf kw r (p+1):=by
 conv=>lhs;unfold zbf
 simp[h]
theorem zwv{b:UInt8}(h0:zda b=false)(h:(b == 35)=true)(r:List UInt8)(p:Nat):zbf kw (b::r) p=zbf kw (zeu r) (p+1+zev r):=by
 conv=>lhs;unfold zbf
 simp only[h0,h,Bool.false_eq_true,if_false,if_true];rfl
theorem zwu{b:UInt8}(h0:zda b=false)(h:(b == 35)=false){r:List UInt8}{p:Nat}{e:Int}(ht:tok kw b r=.error e):zbf kw (b::r) p=.error (p,e):=by
 conv=>lhs;unfold zbf
 simp only[h0,h,Bool.false_eq_true,if_false,ht]
theorem zww{b:UInt8}(h0:zda b=false)(h:(b == 35)=false){r:List UInt8}{p:Nat}{k:Int}{n:Nat}(ht:tok kw b r=.ok (k,n)):
  zbf kw (b::r) p=cat [⟨k,(b::r).take n,p⟩] (zbf kw ((b::r).drop n) (p+n)):=by
 conv=>lhs;unfold zbf
 have hn:=zpp ht;obtain⟨m,rfl⟩:∃m,n=m+1:=⟨n-1,by omega⟩;simp only[h0,h,Bool.false_eq_true,if_false,ht,Nat.add_sub_cancel,List.drop_succ_cons];cases zbf kw (r.drop m) (p+(m+1)) <;> rfl
end
theorem zjR{b:UInt8}(h:(b == 10)=false)(r:List UInt8):zeu (b::r)=zeu r∧zev (b::r)=1+zev r:=by
 have hb:b≠10:=by simpa using h
 constructor
 ·simp[zeu,hb]
 ·simp[zev,hb];omega
theorem zv6{b:UInt8}(h:(b == 10)=true)(r:List UInt8):zeu (b::r)=b::r∧zev (b::r)=0:=by
 have hb:b=10:=by simpa using h
 constructor
 ·simp[zeu,hb]
 ·simp[zev,hb]
theorem skipC_nil:zeu []=[]∧zev []=0:=⟨rfl,rfl⟩
theorem zpo{kw:List UInt8→Bool}{b:UInt8}{r:List UInt8}{k:Int}{n:Nat}(h:tok kw b r=.ok (k,n)):n≤(b::r).length:=by
 have tw:∀p:UInt8→Bool,(r.takeWhile p).length≤r.length:=λp=>(List.takeWhile_sublist _).length_le;unfold tok at h;split at h
 ·simp only at h;split at h <;> simp at h;have:=tw bIn;simp;omega
 ·split at h
  ·simp only at h;split at h
   ·simp at h
   ·split at h <;> simp at h;have:=tw za4;simp;omega
  ·simp only at h;split at h <;> simp at h
   obtain⟨_,rfl⟩:=h;unfold sgn;split
   ·rename_i h2;by_cases hl:2≤(b::r).length
    ·exact hl
    ·rw[zo8 hl]at h2;cases h2
   ·split
    ·simp
    ·split <;> simp
theorem zFq{kw:List UInt8→Bool}{b:UInt8}{r:List UInt8}{e:Int}(h:tok kw b r=.error e):e=2∨e=9:=by
 unfold tok at h;split at h
 ·simp only at h;split at h <;> simp at h;omega
 ·split at h
  ·simp only at h;split at h
   ·simp at h;omega
   ·split at h <;> simp at h;omega
  ·simp only at h;split at h <;> simp at h;omega
def ze3(s:List UInt8):AV:=
 if s.length>16384 then .tup [.sl [] .none,.int .i64 0,.int .i64 9] else
 match zbf (kwF kwds) s 0 with
 |.error (p,e)=>.tup [.sl [] .none,.int .i64 p,.int .i64 e]
 |.ok l=>.tup [.sl (l.map Tk.cs) .none,.int .i64 0,.int .i64 0]
theorem two{H:zaa}{x y:AB}:H++[x,y]=(H++[x])++[y]:=by simp
theorem zvo{H J:zaa}{K:AV→zaa→Prop}{p e:Int}(hs:HSc H)(hK:K (.tup [.sl [] .none,.int .i64 p,.int .i64 e]) H):Out H.length K (.tup [.snil,.int .i64 p,.int .i64 e]) (H++J):=
 Out.tup hs hK ⟨zhT,zcb rfl rfl,zcb rfl rfl,trivial⟩
theorem zFb(s:List UInt8)(H:zaa)(K:AV→zaa→Prop)(hK:K (ze3 s) H):ACalls tP zok [.str s] H K:=by
 refine ACalls.out (zKl λhs=>?_);by_cases hl:s.length>16384
 ·have hl':(16384:Int)<s.length:=by omega
  simp[zqW,hl',AV.isV];unfold ze3 at hK;rw[if_pos hl]at hK;exact Out.tup0 hs hK ⟨zhT,zcb rfl rfl,zcb rfl rfl,trivial⟩
 have hl':¬(16384:Int)<s.length:=by omega
 unfold ze3 at hK;rw[if_neg hl]at hK;simp[zqW,hl'];have hperm:∀n,HSc (H++[.perm zeR 3 n]):=λn=>hs.append rfl;unfold zlo;refine ALoop.own 5 zeR 3 rfl ?_;show zlo (.str s) (.sl [] (.own H.length)) (.int .i64 0) (H++[.perm zeR 3 0]) (Out H.length K);refine zKi (Inv:=λq t5 t6 H'=>∃(i:Nat) (l:List Tk),i≤s.length∧l.length≤i∧q=s.length-i∧t6=.int .i64 i∧t5=.sl (l.map Tk.cs) (.own H.length)∧H'=H++[.perm zeR 3 l.length]∧cat l (zbf (kwF kwds) (s.drop i) i)=zbf (kwF kwds) s 0) s.length ?_ ?_
 ·intro _;exact⟨0,[],by omega,by simp,by omega,rfl,rfl,rfl,by simp⟩
 ·rintro q t5 t6 H' ⟨i,l,hi,hll,rfl,rfl,rfl,rfl,ho⟩ hsc hlen hsF Kb hKb;have done:cat l (.ok [⟨6,[],s.length⟩])=zbf (kwF kwds) s 0→zln (.str s) (.sl (l.map Tk.cs) (.own H.length)) (H++[.perm zeR 3 l.length]) (Out H.length K):=by intro ho;rw[←ho]at hK;simp[zln,zyr,zao,zaL,zas,zba,plain,AV.pd,zay,zbb,za2,AV.isV];refine⟨by omega,?_⟩;simp[cat,Tk.cs]at hK;exact Out.tup hs hK ⟨slV,zcb rfl rfl,zcb rfl rfl,trivial⟩
  by_cases hlt:i<s.length
  ·have hdr:=List.drop_eq_getElem_cons hlt;simp[zqX,hlt];refine zBz _ _ _ ?_;have e35:((s[i].toNat:Int) == 35)=(s[i] == 35):=zcp s[i] 35;cases hbl:zda s[i] with
   |true=>rw[hdr,zwt _ hbl]at ho;simp[zgJ];rw[zax (by omega) (by omega)];refine hKb _ _ ⟨s.length-(i+1),by omega,Back.here (by simp) (hperm _) ?_ ⟨_,_,rfl,i+1,l,by omega,by omega,rfl,by simp,rfl,rfl,ho⟩⟩;simp[zgI,AV.sc,AV.scV,AV.scA,AV.scB]
   |false=>
    simp[e35];cases hsh:(s[i] == 35) with
    |true=>
     simp;rw[hdr,zwv _ hbl hsh]at ho;have h10:(s[i] == 10)=false:=by rw[beq_iff_eq]at hsh;rw[hsh];rfl
     obtain⟨c1,c2⟩:=zjR h10 (s.drop (i+1));rw[Nat.add_assoc,←c1,←c2,←hdr]at ho;refine zKj (Inv:=λq t6 H'=>∃(j:Nat),i≤j∧j≤s.length∧q=s.length-j∧t6=.int .i64 j∧H'=H++[.perm zeR 3 l.length]∧cat l (zbf (kwF kwds) (zeu (s.drop j)) (j+zev (s.drop j)))=zbf (kwF kwds) s 0) (s.length-i) ?_ ?_
     ·intro _;exact⟨i,by omega,by omega,by omega,rfl,rfl,ho⟩
     ·rintro q t6 H' ⟨j,hij,hj,rfl,rfl,rfl,ho⟩ hsc hlen hsF Kb9 hKb9;by_cases hjlt:j<s.length
      ·have hdrj:=List.drop_eq_getElem_cons hjlt;have e10:((s[j].toNat:Int) == 10)=(s[j] == 10):=zcp s[j] 10;simp[zqY,hjlt,e10];cases hz:(s[j] == 10) with
       |true=>
        obtain⟨d1,d2⟩:=zv6 hz (s.drop (j+1));rw[hdrj,d1,d2,←hdrj,Nat.add_zero]at ho;have hij':i≠j:=by rintro rfl;rw[h10]at hz;cases hz
        simp[zgJ];refine hKb _ _ ⟨s.length-j,by omega,Back.here (by simp) (hperm _) ?_ ⟨_,_,rfl,j,l,by omega,by omega,rfl,by simp,rfl,rfl,ho⟩⟩;simp[zgI,AV.sc,AV.scV,AV.scA,AV.scB]
       |false=>obtain⟨d1,d2⟩:=zjR hz (s.drop (j+1));rw[hdrj,d1,d2,←Nat.add_assoc]at ho;simp;rw[zax (by omega) (by omega)];refine hKb9 _ _ ⟨s.length-(j+1),by omega,Back.here (by simp) (hperm _) ?_ ⟨_,rfl,j+1,by omega,by omega,rfl,by simp,rfl,ho⟩⟩;simp[zlm,AV.sc,AV.scV,AV.scA,AV.scB]
      ·obtain rfl:j=s.length:=by omega
       simp[zqY];rw[List.drop_length,skipC_nil.1,skipC_nil.2,Nat.add_zero,zpq]at ho;exact done ho
    |false=>
     simp;refine zEh s (by omega) i hlt _ _ ?_;unfold zjN;cases ht:tok (kwF kwds) s[i] (s.drop (i+1)) with
     |error e=>
      rw[hdr,zwu _ hbl hsh ht]at ho;have he:(e != 0)=true:=by rcases zFq ht with rfl|rfl <;> rfl
      rw[←ho]at hK;simp[AV.known,AV.isV,he];exact zvo hs hK
     |ok kn=>
      obtain⟨k,n⟩:=kn;rw[hdr,zww _ hbl hsh ht,ztx,←hdr]at ho;have hn:=zpo ht;rw[←hdr]at hn;simp at hn;have hn0:=zpp ht;simp[Tk.cs,AV.known,zas,zba,plain,AV.pd,zay,zbb,za2,zgJ];refine⟨by omega,?_⟩;rw[show min n (s.length-i)=n by omega,zax (by omega) (by omega),two];refine hKb _ _ ⟨s.length-(i+n),by omega,Back.same (by simp) (hperm _) ?_ ⟨_,_,rfl,i+n,l++[⟨k,(s.drop i).take n,i⟩],by omega,by simp;omega,rfl,by simp,by simp[Tk.cs],by simp,?_⟩⟩
      ·simp[zgI,AV.sc,AV.scV,AV.scA,AV.scB]
      ·rw[List.drop_drop]at ho;exact ho
  ·obtain rfl:i=s.length:=by omega
   rw[List.drop_length,zpq]at ho;simpa[zqX]using done ho
end Go.Proofs.YtaifokkaaahdoaaGreatDoor
