import Derived.Test.YtaifokkaaahdoaaGreatDoorKNum
import Derived.Test.YtaifokkaaahdoaaGreatDoorProg
import Derived.KernelRfl
import Derived.Test.YtaifokkaaahdoaaGreatDoorKGT1
import Derived.Test.YtaifokkaaahdoaaGreatDoorAbsQ1
set_option linter.unusedSimpArgs false
set_option linter.unusedVariables false
set_option linter.unusedSectionVars false
set_option maxRecDepth 8000
namespace Go.Proofs.YtaifokkaaahdoaaGreatDoor
open Go Go.Abs
set_option maxRecDepth 100000
def zLr(_:Nat):List Bool:=[]
noncomputable def zLs:Code:=Tryz.f205.body.getD .skip
def zy6(t4 t6:AV)(H:zaa)(K:Kt):Prop:=
 zae true 3 t6 H λt74=>
 zak 3 t4 t74 H λH=>
 zae true 3 t4 H λr0=>
 zbb [r0,(.int .i64 0)] (K · H)
def zg7(t4 t6:AV)(H:zaa)(K:Kt):Prop:=
 zy6 t4 t6 H K
def zg6(t4 t6:AV)(H:zaa)(K:Kt):Prop:=
 zg7 t4 t6 H K
def zrT(t0 t1:AV)(H:zaa)(K:Kt):Prop:=
 zay [(.int .i64 0),(.str []),(.int .i64 0)] H λt4 H=>
 zao [(.int .i64 0),(.str []),(.int .i64 0)] [(0,1),(1,1),(2,1)] [(2,t1)] λt9=>
 zay [(.int .i64 0),(.str []),(.int .i64 0)] H λt6 H=>
 zak 3 t6 t9 H λH=>
 zbA t0 t1 λt12=>
 ACalls tP zj1 [t12] H λt25 H=>
 zab t25 false H (λK'=>K' t12 H) λt27 H=>
 zab t25 false H (λK'=>ACalls tP zhV [t27] H K') λt28 H=>
 zai t25 (.bool true) t28 λt29=>
 zag t29
 (za7 0 0 t0 (some t1) none λt32=>
 ACalls tP zj2 [t32,(.fn zhW [])] H λt33 H=>
 zaf 1 t6 λt34=>
 zak 1 t34 t33 H λH=>
 zaf 1 t6 λt37=>
 zae false 1 t37 H λt38=>
 zah 0 t38 λt39=>
 zac .gtr false t39 (.int .i64 24) λt40=>
 zag t40
 (zao [(.int .i64 0),(.str []),(.int .i64 0)] [(0,1),(1,1),(2,1)] [] λt41=>
 zak 3 t4 t41 H λH=>
 zae true 3 t4 H λr0=>
 zbb [r0,(.int .i64 9)] (K · H))
 (ACalls tP zhV [t12] H λt44 H=>
 zag t44
 (zaf 0 t6 λt45=>
 zak 1 t45 (.int .i64 2) H λH=>
 zg6 t4 t6 H K)
 (zaf 1 t6 λt47=>
 zae false 1 t47 H λt48=>
 ACalls tP zpa [t48] H λt49 H=>
 zag t49
 (zaf 0 t6 λt50=>
 zak 1 t50 (.int .i64 4) H λH=>
 zg6 t4 t6 H K)
 (zaf 0 t6 λt35=>
 zak 1 t35 (.int .i64 1) H λH=>
 zg6 t4 t6 H K))))
 (ACalls tP zfO [t12] H λt53 H=>
 zag t53
 (zaf 0 t6 λt54=>
 zak 1 t54 (.int .i64 3) H λH=>
 za7 0 0 t0 (some t1) none λt57=>
 ACalls tP zj2 [t57,(.fn zfO [])] H λt58 H=>
 zaf 1 t6 λt59=>
 zak 1 t59 t58 H λH=>
 zac .eql false t12 (.int .u8 48) λt61=>
 zab t61 true H (λK'=>zaf 1 t6 (K' · H)) λt63 H=>
 zab t61 true H (λK'=>zae false 1 t63 H (K' · H)) λt64 H=>
 zab t61 true H (λK'=>zah 0 t64 (K' · H)) λt65 H=>
 zab t61 true H (λK'=>zac .gtr false t65 (.int .i64 1) (K' · H)) λt66 H=>
 zai t61 t66 (.bool false) λt67=>
 zag t67
 (zao [(.int .i64 0),(.str []),(.int .i64 0)] [(0,1),(1,1),(2,1)] [] λt68=>
 zak 3 t4 t68 H λH=>
 zae true 3 t4 H λr0=>
 zbb [r0,(.int .i64 2)] (K · H))
 (zaf 1 t6 λt69=>
 zae false 1 t69 H λt70=>
 ACalls tP zhX [t70] H λt71 H=>
 aUn .not t71 λt72=>
 zag t72
 (zao [(.int .i64 0),(.str []),(.int .i64 0)] [(0,1),(1,1),(2,1)] [] λt73=>
 zak 3 t4 t73 H λH=>
 zae true 3 t4 H λr0=>
 zbb [r0,(.int .i64 9)] (K · H))
 (zg7 t4 t6 H K)))
 (zaf 0 t6 λt13=>
 zak 1 t13 (.int .i64 5) H λH=>
 za7 0 0 t0 (some t1) none λt16=>
 ACalls tP zpb [t16] H λt17 H=>
 zaf 1 t6 λt18=>
 zak 1 t18 t17 H λH=>
 zaf 1 t6 λt19=>
 zae false 1 t19 H λt20=>
 zac .eql false t20 (.str []) λt21=>
 zag t21
 (zao [(.int .i64 0),(.str []),(.int .i64 0)] [(0,1),(1,1),(2,1)] [] λt22=>
 zak 3 t4 t22 H λH=>
 zae true 3 t4 H λr0=>
 zbb [r0,(.int .i64 2)] (K · H))
 (zg7 t4 t6 H K)))
theorem zLt{t0 t1:AV}{H:zaa}{K:Kt}(h:HSc H→zrT t0 t1 H K):ACalls tP zo9 [t0,t1] H K:=
 zan (M:=zLr) Tryz.func205 (c:=zLs) (by kernel_rfl) (λhs=>Eq.mpr (by kernel_rfl) (h hs))
def zJQ(_:Nat):List Bool:=[]
noncomputable def zJR:Code:=Tryz.f145.body.getD .skip
def zyz(t0:AV)(H:zaa)(K:Kt):Prop:=
 zac .geq false t0 (.int .u8 97) λt4=>
 zab t4 true H (λK'=>K' t0 H) λt6 H=>
 zab t4 true H (λK'=>zac .leq false t6 (.int .u8 122) (K' · H)) λt7 H=>
 zai t4 t7 (.bool false) λt8=>
 K t8 H
theorem zJS{t0:AV}{H:zaa}{K:Kt}(h:HSc H→zyz t0 H K):ACalls tP zjU [t0] H K:=
 zan (M:=zJQ) Tryz.func145 (c:=zJR) (by kernel_rfl) (λhs=>Eq.mpr (by kernel_rfl) (h hs))
def zJT(_:Nat):List Bool:=[]
noncomputable def zJU:Code:=Tryz.f146.body.getD .skip
def zyA(t0:AV)(H:zaa)(K:Kt):Prop:=
 zac .geq false t0 (.int .u8 65) λt4=>
 zab t4 true H (λK'=>K' t0 H) λt6 H=>
 zab t4 true H (λK'=>zac .leq false t6 (.int .u8 90) (K' · H)) λt7 H=>
 zai t4 t7 (.bool false) λt8=>
 K t8 H
theorem zJV{t0:AV}{H:zaa}{K:Kt}(h:HSc H→zyA t0 H K):ACalls tP zgy [t0] H K:=
 zan (M:=zJT) Tryz.func146 (c:=zJU) (by kernel_rfl) (λhs=>Eq.mpr (by kernel_rfl) (h hs))
def zJW(_:Nat):List Bool:=[]
noncomputable def zJX:Code:=Tryz.f147.body.getD .skip
def zyB(t0:AV)(H:zaa)(K:Kt):Prop:=
 zac .geq false t0 (.int .u8 48) λt4=>
 zab t4 true H (λK'=>K' t0 H) λt6 H=>
 zab t4 true H (λK'=>zac .leq false t6 (.int .u8 57) (K' · H)) λt7 H=>
 zai t4 t7 (.bool false) λt8=>
 K t8 H
theorem zJY{t0:AV}{H:zaa}{K:Kt}(h:HSc H→zyB t0 H K):ACalls tP zhS [t0] H K:=
 zan (M:=zJW) Tryz.func147 (c:=zJX) (by kernel_rfl) (λhs=>Eq.mpr (by kernel_rfl) (h hs))
def zlQ:Nat→List Bool
 |3=>rl false [0,1,2,2,13]
 |_=>[]
noncomputable def zrq:Code:=Tryz.f148.body.getD .skip
noncomputable def zJ4:List ResultVar:=Tryz.f148.results.toList
def zlS(t0 t3 t4:AV):List AV:=t0::ux 2 (t3::t4::ux 13 [])
def zJ2:List Bool:=zlQ 3
noncomputable def zJ0:Code:=zaq [1,1,0,1,0,0] zrq
def zJZ(K:Kt):AExit→List AV→zaa→Prop:=zar tP zlQ [1,1,0,1,0] zrq (zaB tP zJ4 K)
def zrr(t0 t3 t4:AV)(H:zaa)(K:Kt):Prop:=ALoop tP zJ0 (zJZ K) (zlS t0 t3 t4) H
def zlR(t0 t3 t4:AV)(H:zaa)(K:Kt)(Kb3:Lt):Prop:=
 zah 1 t3 λt8=>
 zac .lss false t4 t8 λt9=>
 zag t9
 (zaj 1 t3 t4 λt14=>
 zae false 1 t14 H λt15=>
 zac .eql false t15 t0 λt17=>
 zag t17
 (K (.bool true) H)
 (zac .add false t4 (.int .i64 1) λt11=>
 Kb3 (zlS t0 t3 t11) H))
 (K (.bool false) H)
def zyC(t0:AV)(H:zaa)(K:Kt):Prop:=
 zas 1 [(.str [])] 28 [(0,(.str [97,114,114,97,121])),(1,(.str [98,111,111,108])),(2,(.str [99,97,116,99,104])),(3,(.str [100,97,116,97])),(4,(.str [101,108,115,101])),(5,(.str [101,110,100])),(6,(.str [102,97,108,115,101])),(7,(.str [102,110])),(8,(.str [102,117,110])),(9,(.str [103,101,116])),(10,(.str [105,102])),(11,(.str [105,110])),(12,(.str [105,110,116])),(13,(.str [108,101,110])),(14,(.str [108,101,116])),(15,(.str [109,97,116,99,104])),(16,(.str [110,101,119])),(17,(.str [114,97,105,115,101])),(18,(.str [114,101,97,100])),(19,(.str [114,101,102])),(20,(.str [115,101,116])),(21,(.str [116,104,101,110])),(22,(.str [116,105,99,107])),(23,(.str [116,114,117,101])),(24,(.str [116,114,121])),(25,(.str [117,110,105,116])),(26,(.str [119,105,116,104])),(27,(.str [119,114,105,116,101]))] λt5=>
 zrr t0 t5 (.int .i64 0) H K
theorem zJ1{t0 t3 t4:AV}{H:zaa}{K:Kt}(Inv:Nat→AV→zaa→Prop)(n:Nat)(h0:HSc H→Inv n t4 H)(round:Rd1 (λt4=>zlS t0 t3 t4) (λt4=>λH Kb3=>zlR t0 t3 t4 H K Kb3) H Inv):zrr t0 t3 t4 H K:=
 lp1 (M:=zlQ) zJ2 t4 (by kernel_rfl) Inv n h0 round
theorem zJ3{t0:AV}{H:zaa}{K:Kt}(h:HSc H→zyC t0 H K):ACalls tP zjV [t0] H K:=
 zan (M:=zlQ) Tryz.func148 (c:=zrq) (by kernel_rfl) (λhs=>Eq.mpr (by kernel_rfl) (h hs))
def zlT:Nat→List Bool
 |3=>rl false [0,1,3,2,17]
 |_=>[]
noncomputable def zrt:Code:=Tryz.f149.body.getD .skip
noncomputable def zKa:List ResultVar:=Tryz.f149.results.toList
def zlU(t0 t4 t5:AV):List AV:=t0::ux 3 (t4::t5::ux 17 [])
def zJ8:List Bool:=zlT 3
noncomputable def zJ6:Code:=zaq [1,1,0,1,0,0] zrt
def zJ5(K:Kt):AExit→List AV→zaa→Prop:=zar tP zlT [1,1,0,1,0] zrt (zaB tP zKa K)
def zyE(t0 t4 t5:AV)(H:zaa)(K:Kt):Prop:=ALoop tP zJ6 (zJ5 K) (zlU t0 t4 t5) H
def zrs(t0 t4 t5:AV)(H:zaa)(K:Kt)(Kb3:Lt):Prop:=
 zah 0 t0 λt8=>
 zac .lss false t5 t8 λt9=>
 zag t9
 (zac .mul false t4 (.int .i64 10) λt13=>
 zbA t0 t5 λt16=>
 zac .sub false t16 (.int .u8 48) λt17=>
 zbJ .i64 t17 λt18=>
 zac .add false t13 t18 λt19=>
 zac .gtr false t19 (.int .i64 1000000) λt21=>
 zag t21
 (zbb [(.int .i64 0),(.bool false)] (K · H))
 (zac .add false t5 (.int .i64 1) λt11=>
 Kb3 (zlU t0 t19 t11) H))
 (zbb [t4,(.bool true)] (K · H))
def zyD(t0:AV)(H:zaa)(K:Kt):Prop:=
 zyE t0 (.int .i64 0) (.int .i64 0) H K
theorem zJ7{t0 t4 t5:AV}{H:zaa}{K:Kt}(Inv:Nat→AV→AV→zaa→Prop)(n:Nat)(h0:HSc H→Inv n t4 t5 H)(round:Rd2 (λt4=>λt5=>zlU t0 t4 t5) (λt4=>λt5=>λH Kb3=>zrs t0 t4 t5 H K Kb3) H Inv):zyE t0 t4 t5 H K:=
 lp2 (M:=zlT) zJ8 t4 t5 (by kernel_rfl) Inv n h0 round
theorem zJ9{t0:AV}{H:zaa}{K:Kt}(h:HSc H→zyD t0 H K):ACalls tP zgz [t0] H K:=
 zan (M:=zlT) Tryz.func149 (c:=zrt) (by kernel_rfl) (λhs=>Eq.mpr (by kernel_rfl) (h hs))
def zlV:Nat→List Bool
 |5=>rl false [0,1,2,2,30]
 |_=>[]
noncomputable def zru:Code:=Tryz.f150.body.getD .skip
noncomputable def zKg:List ResultVar:=Tryz.f150.results.toList
def zlX(t0 t3 t4:AV):List AV:=t0::ux 2 (t3::t4::ux 30 [])
def zKe:List Bool:=zlV 5
noncomputable def zKc:Code:=zaq [1,1,1,0,1,0,0] zru
def zKb(K:Kt):AExit→List AV→zaa→Prop:=zar tP zlV [1,1,1,0,1,0] zru (zaB tP zKg K)
def zrv(t0 t3 t4:AV)(H:zaa)(K:Kt):Prop:=ALoop tP zKc (zKb K) (zlX t0 t3 t4) H
def zlW(t0 t3 t4:AV)(H:zaa)(K:Kt)(Kb5:Lt):Prop:=
 zah 0 t3 λt25=>
 zac .lss false t4 t25 λt26=>
 zag t26
 (zad H (λK'=>K' t0 H) λt29=>
 zad H (λK'=>zbA t29 (.int .i64 0) (K' · H)) λt30=>
 zad H (λK'=>K' t3 H) λt31=>
 zad H (λK'=>K' t4 H) λt32=>
 zad H (λK'=>zbA t31 t32 (K' · H)) λt33=>
 zad H (λK'=>zac .eql false t30 t33 (K' · H)) λt34=>
 zag t34
 (K (.int .i64 1) H)
 (zac .add false t4 (.int .i64 1) λt28=>
 Kb5 (zlX t0 t3 t28) H))
 (K (.int .i64 0) H)
def zg1(t0:AV)(H:zaa)(K:Kt):Prop:=
 zah 0 t0 λt6=>
 zac .geq false t6 (.int .i64 2) λt7=>
 zab t7 true H (λK'=>K' t0 H) λt9 H=>
 zab t7 true H (λK'=>za7 0 0 t9 none (some (.int .i64 2)) (K' · H)) λt10 H=>
 zab t7 true H (λK'=>zac .eql false t10 (.str [45,62]) (K' · H)) λt11 H=>
 zab t7 true H (λK'=>K' t11 H) λt12 H=>
 zab t12 false H (λK'=>K' t0 H) λt13 H=>
 zab t12 false H (λK'=>za7 0 0 t13 none (some (.int .i64 2)) (K' · H)) λt14 H=>
 zab t12 false H (λK'=>zac .eql false t14 (.str [60,61]) (K' · H)) λt15 H=>
 zab t7 true H (λK'=>zai t12 (.bool true) t15 (K' · H)) λt16 H=>
 zab t7 true H (λK'=>K' t16 H) λt17 H=>
 zab t17 false H (λK'=>K' t0 H) λt18 H=>
 zab t17 false H (λK'=>za7 0 0 t18 none (some (.int .i64 2)) (K' · H)) λt19 H=>
 zab t17 false H (λK'=>zac .eql false t19 (.str [61,61]) (K' · H)) λt20 H=>
 zab t7 true H (λK'=>zai t17 (.bool true) t20 (K' · H)) λt21 H=>
 zai t7 t21 (.bool false) λt22=>
 zag t22
 (K (.int .i64 2) H)
 (zrv t0 (.str [40,41,44,61,124,43,45,42,47,37,60,59,95]) (.int .i64 0) H K)
theorem zKd{t0 t3 t4:AV}{H:zaa}{K:Kt}(Inv:Nat→AV→zaa→Prop)(n:Nat)(h0:HSc H→Inv n t4 H)(round:Rd1 (λt4=>zlX t0 t3 t4) (λt4=>λH Kb5=>zlW t0 t3 t4 H K Kb5) H Inv):zrv t0 t3 t4 H K:=
 lp1 (M:=zlV) zKe t4 (by kernel_rfl) Inv n h0 round
theorem zKf{t0:AV}{H:zaa}{K:Kt}(h:HSc H→zg1 t0 H K):ACalls tP zo1 [t0] H K:=
 zan (M:=zlV) Tryz.func150 (c:=zru) (by kernel_rfl) (λhs=>Eq.mpr (by kernel_rfl) (h hs))
def zLx(_:Nat):List Bool:=[]
noncomputable def zLy:Code:=Tryz.f216.body.getD .skip
def zy8(t0:AV)(H:zaa)(K:Kt):Prop:=
 zac .geq false t0 (.int .u8 97) λt4=>
 zab t4 true H (λK'=>K' t0 H) λt6 H=>
 zab t4 true H (λK'=>zac .leq false t6 (.int .u8 122) (K' · H)) λt7 H=>
 zai t4 t7 (.bool false) λt8=>
 K t8 H
theorem zLz{t0:AV}{H:zaa}{K:Kt}(h:HSc H→zy8 t0 H K):ACalls tP zj1 [t0] H K:=
 zan (M:=zLx) Tryz.func216 (c:=zLy) (by kernel_rfl) (λhs=>Eq.mpr (by kernel_rfl) (h hs))
def zLA(_:Nat):List Bool:=[]
noncomputable def zLB:Code:=Tryz.f217.body.getD .skip
def zy9(t0:AV)(H:zaa)(K:Kt):Prop:=
 zac .geq false t0 (.int .u8 65) λt4=>
 zab t4 true H (λK'=>K' t0 H) λt6 H=>
 zab t4 true H (λK'=>zac .leq false t6 (.int .u8 90) (K' · H)) λt7 H=>
 zai t4 t7 (.bool false) λt8=>
 K t8 H
theorem zLC{t0:AV}{H:zaa}{K:Kt}(h:HSc H→zy9 t0 H K):ACalls tP zhV [t0] H K:=
 zan (M:=zLA) Tryz.func217 (c:=zLB) (by kernel_rfl) (λhs=>Eq.mpr (by kernel_rfl) (h hs))
def zmk:Nat→List Bool
 |2=>rl false [0,2,3,1,16]
 |_=>[]
noncomputable def zrV:Code:=Tryz.f218.body.getD .skip
noncomputable def zLI:List ResultVar:=Tryz.f218.results.toList
def zml(t0 t1 t5:AV):List AV:=t0::t1::ux 3 (t5::ux 16 [])
def zLG:List Bool:=zmk 2
noncomputable def zLE:Code:=zaq [1,1,0,0,0] zrV
def zLD(K:Kt):AExit→List AV→zaa→Prop:=zar tP zmk [1,1,0,0] zrV (zaB tP zLI K)
def zzb(t0 t1 t5:AV)(H:zaa)(K:Kt):Prop:=ALoop tP zLE (zLD K) (zml t0 t1 t5) H
def zrU(t0 t1 t5:AV)(H:zaa)(K:Kt)(Kb2:Lt):Prop:=
 zah 0 t0 λt8=>
 zac .lss false t5 t8 λt9=>
 zab t9 true H (λK'=>K' t1 H) λt11 H=>
 zab t9 true H (λK'=>K' t0 H) λt12 H=>
 zab t9 true H (λK'=>K' t5 H) λt13 H=>
 zab t9 true H (λK'=>zbA t12 t13 (K' · H)) λt14 H=>
 zab t9 true H (λK'=>aCallV tP t11 [t14] H K') λt15 H=>
 zai t9 t15 (.bool false) λt16=>
 zag t16
 (zac .add false t5 (.int .i64 1) λt18=>
 Kb2 (zml t0 t1 t18) H)
 (za7 0 0 t0 none (some t5) λt21=>
 K t21 H)
def zza(t0 t1:AV)(H:zaa)(K:Kt):Prop:=
 zzb t0 t1 (.int .i64 0) H K
theorem zLF{t0 t1 t5:AV}{H:zaa}{K:Kt}(Inv:Nat→AV→zaa→Prop)(n:Nat)(h0:HSc H→Inv n t5 H)(round:Rd1 (λt5=>zml t0 t1 t5) (λt5=>λH Kb2=>zrU t0 t1 t5 H K Kb2) H Inv):zzb t0 t1 t5 H K:=
 lp1 (M:=zmk) zLG t5 (by kernel_rfl) Inv n h0 round
theorem zLH{t0 t1:AV}{H:zaa}{K:Kt}(h:HSc H→zza t0 t1 H K):ACalls tP zj2 [t0,t1] H K:=
 zan (M:=zmk) Tryz.func218 (c:=zrV) (by kernel_rfl) (λhs=>Eq.mpr (by kernel_rfl) (h hs))
def zLJ(_:Nat):List Bool:=[]
noncomputable def zLK:Code:=Tryz.f219.body.getD .skip
def zzc(t0:AV)(H:zaa)(K:Kt):Prop:=
 ACalls tP zj1 [t0] H λt4 H=>
 zab t4 false H (λK'=>K' t0 H) λt6 H=>
 zab t4 false H (λK'=>ACalls tP zhV [t6] H K') λt7 H=>
 zai t4 (.bool true) t7 λt8=>
 zab t8 false H (λK'=>K' t0 H) λt10 H=>
 zab t8 false H (λK'=>ACalls tP zfO [t10] H K') λt11 H=>
 zai t8 (.bool true) t11 λt12=>
 zab t12 false H (λK'=>K' t0 H) λt14 H=>
 zab t12 false H (λK'=>zac .eql false t14 (.int .u8 95) (K' · H)) λt15 H=>
 zai t12 (.bool true) t15 λt16=>
 K t16 H
theorem zLL{t0:AV}{H:zaa}{K:Kt}(h:HSc H→zzc t0 H K):ACalls tP zhW [t0] H K:=
 zan (M:=zLJ) Tryz.func219 (c:=zLK) (by kernel_rfl) (λhs=>Eq.mpr (by kernel_rfl) (h hs))
def zLM(_:Nat):List Bool:=[]
noncomputable def zLN:Code:=Tryz.f220.body.getD .skip
def zbo(t4:AV)(H:zaa)(K:Kt):Prop:=
 zag t4
 (K (.bool true) H)
 (K (.bool false) H)
def zzd(t0:AV)(H:zaa)(K:Kt):Prop:=
 zac .eql false t0 (.str [97,114,114,97,121]) λt5=>
 zag t5
 (zbo t5 H K)
 (zac .eql false t0 (.str [98,111,111,108]) λt6=>
 zag t6
 (zbo t6 H K)
 (zac .eql false t0 (.str [99,97,116,99,104]) λt7=>
 zag t7
 (zbo t7 H K)
 (zac .eql false t0 (.str [100,97,116,97]) λt8=>
 zag t8
 (zbo t8 H K)
 (zac .eql false t0 (.str [101,108,115,101]) λt9=>
 zag t9
 (zbo t9 H K)
 (zac .eql false t0 (.str [101,110,100]) λt10=>
 zag t10
 (zbo t10 H K)
 (zac .eql false t0 (.str [102,97,108,115,101]) λt11=>
 zag t11
 (zbo t11 H K)
 (zac .eql false t0 (.str [102,110]) λt12=>
 zag t12
 (zbo t12 H K)
 (zac .eql false t0 (.str [102,117,110]) λt13=>
 zag t13
 (zbo t13 H K)
 (zac .eql false t0 (.str [103,101,116]) λt14=>
 zag t14
 (zbo t14 H K)
 (zac .eql false t0 (.str [105,102]) λt15=>
 zag t15
 (zbo t15 H K)
 (zac .eql false t0 (.str [105,110]) λt16=>
 zag t16
 (zbo t16 H K)
 (zac .eql false t0 (.str [105,110,116]) λt17=>
 zag t17
 (zbo t17 H K)
 (zac .eql false t0 (.str [108,101,110]) λt18=>
 zag t18
 (zbo t18 H K)
 (zac .eql false t0 (.str [108,101,116]) λt19=>
 zag t19
 (zbo t19 H K)
 (zac .eql false t0 (.str [109,97,116,99,104]) λt20=>
 zag t20
 (zbo t20 H K)
 (zac .eql false t0 (.str [110,101,119]) λt21=>
 zag t21
 (zbo t21 H K)
 (zac .eql false t0 (.str [114,97,105,115,101]) λt22=>
 zag t22
 (zbo t22 H K)
 (zac .eql false t0 (.str [114,101,97,100]) λt23=>
 zag t23
 (zbo t23 H K)
 (zac .eql false t0 (.str [114,101,102]) λt24=>
 zag t24
 (zbo t24 H K)
 (zac .eql false t0 (.str [115,101,116]) λt25=>
 zag t25
 (zbo t25 H K)
 (zac .eql false t0 (.str [116,104,101,110]) λt26=>
 zag t26
 (zbo t26 H K)
 (zac .eql false t0 (.str [116,105,99,107]) λt27=>
 zag t27
 (zbo t27 H K)
 (zac .eql false t0 (.str [116,114,117,101]) λt28=>
 zag t28
 (zbo t28 H K)
 (zac .eql false t0 (.str [116,114,121]) λt29=>
 zag t29
 (zbo t29 H K)
 (zac .eql false t0 (.str [117,110,105,116]) λt30=>
 zag t30
 (zbo t30 H K)
 (zac .eql false t0 (.str [119,105,116,104]) λt31=>
 zag t31
 (zbo t31 H K)
 (zac .eql false t0 (.str [119,114,105,116,101]) λt32=>
 zbo t32 H K)))))))))))))))))))))))))))
theorem zLO{t0:AV}{H:zaa}{K:Kt}(h:HSc H→zzd t0 H K):ACalls tP zpa [t0] H K:=
 zan (M:=zLM) Tryz.func220 (c:=zLN) (by kernel_rfl) (λhs=>Eq.mpr (by kernel_rfl) (h hs))
def zLP(_:Nat):List Bool:=[]
noncomputable def zLQ:Code:=Tryz.f221.body.getD .skip
def zze(t0:AV)(H:zaa)(K:Kt):Prop:=
 zac .geq false t0 (.int .u8 48) λt4=>
 zab t4 true H (λK'=>K' t0 H) λt6 H=>
 zab t4 true H (λK'=>zac .leq false t6 (.int .u8 57) (K' · H)) λt7 H=>
 zai t4 t7 (.bool false) λt8=>
 K t8 H
theorem zLR{t0:AV}{H:zaa}{K:Kt}(h:HSc H→zze t0 H K):ACalls tP zfO [t0] H K:=
 zan (M:=zLP) Tryz.func221 (c:=zLQ) (by kernel_rfl) (λhs=>Eq.mpr (by kernel_rfl) (h hs))
def zmm:Nat→List Bool
 |3=>rl false [0,1,2,1,2,2,13]
 |_=>[]
noncomputable def zrX:Code:=Tryz.f222.body.getD .skip
noncomputable def zLX:List ResultVar:=Tryz.f222.results.toList
def zmn(t0 t3 t6 t7:AV):List AV:=t0::ux 2 (t3::ux 2 (t6::t7::ux 13 []))
def zLV:List Bool:=zmm 3
noncomputable def zLT:Code:=zaq [1,1,0,1,0,0] zrX
def zLS(K:Kt):AExit→List AV→zaa→Prop:=zar tP zmm [1,1,0,1,0] zrX (zaB tP zLX K)
def zzg(t0 t3 t6 t7:AV)(H:zaa)(K:Kt):Prop:=ALoop tP zLT (zLS K) (zmn t0 t3 t6 t7) H
def zrW(t0 t3 t6 t7:AV)(H:zaa)(K:Kt)(Kb3:Lt):Prop:=
 zac .lss false t7 t6 λt8=>
 zag t8
 (zac .mul false t3 (.int .i64 10) λt11=>
 zbA t0 t7 λt14=>
 zac .sub false t14 (.int .u8 48) λt15=>
 zbJ .i64 t15 λt16=>
 zac .add false t11 t16 λt17=>
 zac .gtr false t17 (.int .i64 1000000) λt19=>
 zag t19
 (K (.bool false) H)
 (zac .add false t7 (.int .i64 1) λt20=>
 Kb3 (zmn t0 t17 t6 t20) H))
 (K (.bool true) H)
def zzf(t0:AV)(H:zaa)(K:Kt):Prop:=
 zah 0 t0 λt6=>
 zzg t0 (.int .i64 0) t6 (.int .i64 0) H K
theorem zLU{t0 t3 t6 t7:AV}{H:zaa}{K:Kt}(Inv:Nat→AV→AV→zaa→Prop)(n:Nat)(h0:HSc H→Inv n t3 t7 H)(round:Rd2 (λt3=>λt7=>zmn t0 t3 t6 t7) (λt3=>λt7=>λH Kb3=>zrW t0 t3 t6 t7 H K Kb3) H Inv):zzg t0 t3 t6 t7 H K:=
 lp2 (M:=zmm) zLV t3 t7 (by kernel_rfl) Inv n h0 round
theorem zLW{t0:AV}{H:zaa}{K:Kt}(h:HSc H→zzf t0 H K):ACalls tP zhX [t0] H K:=
 zan (M:=zmm) Tryz.func222 (c:=zrX) (by kernel_rfl) (λhs=>Eq.mpr (by kernel_rfl) (h hs))
def zLY(_:Nat):List Bool:=[]
noncomputable def zLZ:Code:=Tryz.f223.body.getD .skip
def zcx(t0 t16:AV)(H:zaa)(K:Kt):Prop:=
 zag t16
 (za7 0 0 t0 none (some (.int .i64 1)) λt31=>
 K t31 H)
 (K (.str []) H)
def zmo(t0:AV)(H:zaa)(K:Kt):Prop:=
 za7 0 0 t0 none (some (.int .i64 1)) λt15=>
 zac .eql false t15 (.str [40]) λt17=>
 zag t17
 (zcx t0 t17 H K)
 (zac .eql false t15 (.str [41]) λt18=>
 zag t18
 (zcx t0 t18 H K)
 (zac .eql false t15 (.str [44]) λt19=>
 zag t19
 (zcx t0 t19 H K)
 (zac .eql false t15 (.str [61]) λt20=>
 zag t20
 (zcx t0 t20 H K)
 (zac .eql false t15 (.str [124]) λt21=>
 zag t21
 (zcx t0 t21 H K)
 (zac .eql false t15 (.str [43]) λt22=>
 zag t22
 (zcx t0 t22 H K)
 (zac .eql false t15 (.str [45]) λt23=>
 zag t23
 (zcx t0 t23 H K)
 (zac .eql false t15 (.str [42]) λt24=>
 zag t24
 (zcx t0 t24 H K)
 (zac .eql false t15 (.str [47]) λt25=>
 zag t25
 (zcx t0 t25 H K)
 (zac .eql false t15 (.str [37]) λt26=>
 zag t26
 (zcx t0 t26 H K)
 (zac .eql false t15 (.str [60]) λt27=>
 zag t27
 (zcx t0 t27 H K)
 (zac .eql false t15 (.str [59]) λt28=>
 zag t28
 (zcx t0 t28 H K)
 (zac .eql false t15 (.str [95]) λt29=>
 zcx t0 t29 H K))))))))))))
def zf3(t0 t8:AV)(H:zaa)(K:Kt):Prop:=
 zag t8
 (za7 0 0 t0 none (some (.int .i64 2)) λt13=>
 K t13 H)
 (zmo t0 H K)
def zg8(t0:AV)(H:zaa)(K:Kt):Prop:=
 zah 0 t0 λt4=>
 zac .geq false t4 (.int .i64 2) λt5=>
 zag t5
 (za7 0 0 t0 none (some (.int .i64 2)) λt7=>
 zac .eql false t7 (.str [45,62]) λt9=>
 zag t9
 (zf3 t0 t9 H K)
 (zac .eql false t7 (.str [60,61]) λt10=>
 zag t10
 (zf3 t0 t10 H K)
 (zac .eql false t7 (.str [61,61]) λt11=>
 zf3 t0 t11 H K)))
 (zmo t0 H K)
theorem zL0{t0:AV}{H:zaa}{K:Kt}(h:HSc H→zg8 t0 H K):ACalls tP zpb [t0] H K:=
 zan (M:=zLY) Tryz.func223 (c:=zLZ) (by kernel_rfl) (λhs=>Eq.mpr (by kernel_rfl) (h hs))
def zKN(_:Nat):List Bool:=[]
noncomputable def zKO:Code:=Tryz.f169.body.getD .skip
def zyP(t0:AV)(H:zaa)(K:Kt):Prop:=
 ACalls tP zo6 [t0] H λt8 H=>
 zaN t8 0 λt9=>
 zaN t8 1 λt10=>
 zaN t8 2 λt11=>
 zac .eql false t11 (.int .i64 0) λt13=>
 zab t13 true H (λK'=>K' t9 H) λt15 H=>
 zab t13 true H (λK'=>zah 1 t15 (K' · H)) λt16 H=>
 zab t13 true H (λK'=>zac .eql false t16 (.int .i64 2) (K' · H)) λt17 H=>
 zai t13 t17 (.bool false) λt18=>
 zab t18 true H (λK'=>K' t9 H) λt20 H=>
 zab t18 true H (λK'=>zaj 3 t20 (.int .i64 0) (K' · H)) λt21 H=>
 zab t18 true H (λK'=>zaf 0 t21 (K' · H)) λt22 H=>
 zab t18 true H (λK'=>zae false 1 t22 H (K' · H)) λt23 H=>
 zab t18 true H (λK'=>zac .eql false t23 (.int .i64 2) (K' · H)) λt24 H=>
 zai t18 t24 (.bool false) λt25=>
 zab t25 true H (λK'=>K' t9 H) λt27 H=>
 zab t25 true H (λK'=>zaj 3 t27 (.int .i64 0) (K' · H)) λt28 H=>
 zab t25 true H (λK'=>zaf 1 t28 (K' · H)) λt29 H=>
 zab t25 true H (λK'=>zae false 1 t29 H (K' · H)) λt30 H=>
 zab t25 true H (λK'=>K' t0 H) λt31 H=>
 zab t25 true H (λK'=>zac .eql false t30 t31 (K' · H)) λt32 H=>
 zai t25 t32 (.bool false) λt33=>
 K t33 H
theorem zKP{t0:AV}{H:zaa}{K:Kt}(h:HSc H→zyP t0 H K):ACalls tP zjY [t0] H K:=
 zan (M:=zKN) Tryz.func169 (c:=zKO) (by kernel_rfl) (λhs=>Eq.mpr (by kernel_rfl) (h hs))
def zNN(_:Nat):List Bool:=[]
noncomputable def zNO:Code:=Tryz.f62.body.getD .skip
def zz7(t0:AV)(H:zaa)(K:Kt):Prop:=
 ACalls tP zoN [t0] H λt8 H=>
 zaN t8 0 λt9=>
 zaN t8 1 λt10=>
 zaN t8 2 λt11=>
 zac .eql false t11 (.int .i64 0) λt13=>
 zab t13 true H (λK'=>K' t9 H) λt15 H=>
 zab t13 true H (λK'=>zah 1 t15 (K' · H)) λt16 H=>
 zab t13 true H (λK'=>zac .eql false t16 (.int .i64 2) (K' · H)) λt17 H=>
 zai t13 t17 (.bool false) λt18=>
 zab t18 true H (λK'=>K' t9 H) λt20 H=>
 zab t18 true H (λK'=>zaj 3 t20 (.int .i64 0) (K' · H)) λt21 H=>
 zab t18 true H (λK'=>zaf 0 t21 (K' · H)) λt22 H=>
 zab t18 true H (λK'=>zae false 1 t22 H (K' · H)) λt23 H=>
 zab t18 true H (λK'=>zac .eql false t23 (.int .i64 2) (K' · H)) λt24 H=>
 zai t18 t24 (.bool false) λt25=>
 zab t25 true H (λK'=>K' t9 H) λt27 H=>
 zab t25 true H (λK'=>zaj 3 t27 (.int .i64 0) (K' · H)) λt28 H=>
 zab t25 true H (λK'=>zaf 1 t28 (K' · H)) λt29 H=>
 zab t25 true H (λK'=>zae false 1 t29 H (K' · H)) λt30 H=>
 zab t25 true H (λK'=>K' t0 H) λt31 H=>
 zab t25 true H (λK'=>zac .eql false t30 t31 (K' · H)) λt32 H=>
 zai t25 t32 (.bool false) λt33=>
 K t33 H
theorem zNP{t0:AV}{H:zaa}{K:Kt}(h:HSc H→zz7 t0 H K):ACalls tP zkb [t0] H K:=
 zan (M:=zNN) Tryz.func62 (c:=zNO) (by kernel_rfl) (λhs=>Eq.mpr (by kernel_rfl) (h hs))
end Go.Proofs.YtaifokkaaahdoaaGreatDoor

namespace Go.Proofs.YtaifokkaaahdoaaGreatDoor
open Go Go.Abs
def kwds:List (List UInt8):=[[97,114,114,97,121],[98,111,111,108],[99,97,116,99,104],[100,97,116,97],[101,108,115,101],[101,110,100],[102,97,108,115,101],[102,110],[102,117,110],[103,101,116],[105,102],[105,110],[105,110,116],[108,101,110],[108,101,116],[109,97,116,99,104],[110,101,119],[114,97,105,115,101],[114,101,97,100],[114,101,102],[115,101,116],[116,104,101,110],[116,105,99,107],[116,114,117,101],[116,114,121],[117,110,105,116],[119,105,116,104],[119,114,105,116,101]]
def kwF(ws:List (List UInt8))(s:List UInt8):Bool:=ws.any (s == ·)
theorem zby{H:zaa}{K:AV→zaa→Prop}{r:AV}(hsc:HSc H)(hv:r.isV=true)(hr:r.scV H.length=true)(h:K r H):Out H.length K r H:=by have:=Out.same (J:=[]) rfl hsc hv hr h;simpa using this
theorem zcw(b c:UInt8):((b.toNat:Int) == (c.toNat:Int))=(b == c):=by
 rw[Bool.eq_iff_iff];simp only[beq_iff_eq];constructor
 ·intro h;exact UInt8.toNat_inj.mp (by omega)
 ·rintro rfl;rfl
theorem zvg(b:UInt8)(H:zaa)(K:AV→zaa→Prop)(hK:K (.bool (zbR b)) H):ACalls tP zjU [.int .u8 b.toNat] H K:=by refine ACalls.out (zJS λhs=>?_);have hO:=zby (K:=K) (H:=H) (r:=.bool (zbR b)) hs rfl rfl hK;unfold zbR at hO;cases h1:decide (97≤(b.toNat:Int)) <;> simp[zyz,h1] <;> simpa[h1]using hO
theorem zkX(b:UInt8)(H:zaa)(K:AV→zaa→Prop)(hK:K (.bool (bUp b)) H):ACalls tP zgy [.int .u8 b.toNat] H K:=by refine ACalls.out (zJV λhs=>?_);have hO:=zby (K:=K) (H:=H) (r:=.bool (bUp b)) hs rfl rfl hK;unfold bUp at hO;cases h1:decide (65≤(b.toNat:Int)) <;> simp[zyA,h1] <;> simpa[h1]using hO
theorem zn4(b:UInt8)(H:zaa)(K:AV→zaa→Prop)(hK:K (.bool (zba b)) H):ACalls tP zhS [.int .u8 b.toNat] H K:=by refine ACalls.out (zJY λhs=>?_);have hO:=zby (K:=K) (H:=H) (r:=.bool (zba b)) hs rfl rfl hK;unfold zba at hO;cases h1:decide (48≤(b.toNat:Int)) <;> simp[zyB,h1] <;> simpa[h1]using hO
theorem zoD(b:UInt8)(H:zaa)(K:AV→zaa→Prop)(hK:K (.bool (zbR b)) H):ACalls tP zj1 [.int .u8 b.toNat] H K:=by refine ACalls.out (zLz λhs=>?_);have hO:=zby (K:=K) (H:=H) (r:=.bool (zbR b)) hs rfl rfl hK;unfold zbR at hO;cases h1:decide (97≤(b.toNat:Int)) <;> simp[zy8,h1] <;> simpa[h1]using hO
theorem zkY(b:UInt8)(H:zaa)(K:AV→zaa→Prop)(hK:K (.bool (bUp b)) H):ACalls tP zhV [.int .u8 b.toNat] H K:=by refine ACalls.out (zLC λhs=>?_);have hO:=zby (K:=K) (H:=H) (r:=.bool (bUp b)) hs rfl rfl hK;unfold bUp at hO;cases h1:decide (65≤(b.toNat:Int)) <;> simp[zy9,h1] <;> simpa[h1]using hO
theorem zn5(b:UInt8)(H:zaa)(K:AV→zaa→Prop)(hK:K (.bool (zba b)) H):ACalls tP zfO [.int .u8 b.toNat] H K:=by refine ACalls.out (zLR λhs=>?_);have hO:=zby (K:=K) (H:=H) (r:=.bool (zba b)) hs rfl rfl hK;unfold zba at hO;cases h1:decide (48≤(b.toNat:Int)) <;> simp[zze,h1] <;> simpa[h1]using hO
theorem zCj(b:UInt8)(H:zaa)(K:AV→zaa→Prop)(hK:K (.bool (zdk b)) H):ACalls tP zo8 [.int .u8 b.toNat] H K:=by refine ACalls.out (zLq λhs=>?_);have hO:=zby (K:=K) (H:=H) (r:=.bool (zdk b)) hs rfl rfl hK;unfold zdk at hO;have e1:((b.toNat:Int) == 9)=(b == 9):=zcw b 9;have e2:((b.toNat:Int) == 10)=(b == 10):=zcw b 10;have e3:((b.toNat:Int) == 13)=(b == 13):=zcw b 13;have e4:((b.toNat:Int) == 32)=(b == 32):=zcw b 32;cases h1:(b == 9) <;> cases h2:(b == 10) <;> cases h3:(b == 13) <;> simp[zy5,e1,e2,e3,e4,h1,h2,h3] <;> simpa[h1,h2,h3]using hO
theorem zGS(b:UInt8)(H:zaa)(K:AV→zaa→Prop)(hK:K (.bool (bIn b)) H):ACalls tP zhW [.int .u8 b.toNat] H K:=by
 refine ACalls.out (zLL λhs=>?_);have hO:=zby (K:=K) (H:=H) (r:=.bool (bIn b)) hs rfl rfl hK;unfold bIn at hO;have e1:((b.toNat:Int) == 95)=(b == 95):=zcw b 95;unfold zzc;refine zoD b _ _ ?_;cases h1:zbR b with
 |true=>simp;simpa[h1]using hO
 |false=>
  simp;refine zkY b _ _ ?_;cases h2:bUp b with
  |true=>simp;simpa[h1,h2]using hO
  |false=>
   simp;refine zn5 b _ _ ?_;cases h3:zba b with
   |true=>simp;simpa[h1,h2,h3]using hO
   |false=>simp[e1];simpa[h1,h2,h3]using hO
theorem zDH(s:List UInt8)(H:zaa)(K:AV→zaa→Prop)(hK:K (.bool (kwF kwds s)) H):ACalls tP zpa [.str s] H K:=by
 refine ACalls.out (zLO λhs=>?_);have hO:=zby (K:=K) (H:=H) (r:=.bool (kwF kwds s)) hs rfl rfl hK;have step:∀ (w:List UInt8) (ws:List (List UInt8)) (rest:Prop),(Out H.length K (.bool (kwF ws s)) H→rest)→Out H.length K (.bool (kwF (w::ws) s)) H →
   zac .eql false (.str s) (.str w) λt=>zag t (zbo t H (Out H.length K)) rest:=by
  intro w ws rest h h';simp only[kwF,List.any_cons]at h h';cases e:(s == w) with
  |true=>simpa[zbo,e]using h'
  |false=>rw[e,Bool.false_or]at h';simpa[zbo,e]using h h'
 unfold zzd
 revert hO
 unfold kwds
 iterate 27 refine step _ _ _ ?_
 intro h';simp only[kwF,List.any_cons,List.any_nil,Bool.or_false]at h';cases e:(s == [119,114,105,116,101]) <;> rw[e]at h' <;> simpa[zbo,e]using h'
theorem zDI(s:List UInt8)(H:zaa)(K:AV→zaa→Prop)(hK:K (.bool (kwF kwds s)) H):ACalls tP zjV [.str s] H K:=by
 refine ACalls.out (zJ3 λhs=>?_);have hO:=zby (K:=K) (H:=H) (r:=.bool (kwF kwds s)) hs rfl rfl hK;have e:zyC (.str s) H (Out H.length K)=zrr (.str s) (.sl (kwds.map λw=>[.str w]) .full) (.int .i64 0) H (Out H.length K):=rfl;rw[e];have hlen:kwds.length=28:=rfl;generalize kwds=ws at *;refine zJ1 (Inv:=λq t4 H'=>∃i:Nat,i≤ws.length∧q=ws.length-i∧t4=.int .i64 i∧kwF (ws.drop i) s=kwF ws s∧H'=H) ws.length ?_ ?_
 ·intro _;exact⟨0,by omega,by omega,rfl,by simp,rfl⟩
 ·rintro q t8 H' ⟨i,hi,rfl,rfl,ho,rfl⟩ hsc _ hsF Kb hKb;by_cases hlt:i<ws.length
  ·rw[List.drop_eq_getElem_cons hlt]at ho;simp only[kwF,List.any_cons]at ho;cases hz:(ws[i] == s) with
   |true=>
    have hz':(s == ws[i])=true:=by rw[beq_iff_eq]at hz ⊢;exact hz.symm
    rw[hz',Bool.true_or]at ho;simp[zlR,hlt,hz];unfold kwF at hO;rw[←ho]at hO;exact hO
   |false=>
    have hz':(s == ws[i])=false:=by rw[beq_eq_false_iff_ne]at hz ⊢;exactλh=>hz h.symm
    rw[hz',Bool.false_or]at ho;simp[zlR,hlt,hz];rw[zav (by omega) (by omega)];refine hKb _ _ ⟨ws.length-(i+1),by omega,Back.here (Nat.le_refl _) hs ?_ ⟨_,rfl,i+1,by omega,rfl,by simp,ho,rfl⟩⟩;simp[zlS,AV.sc,AV.scV,AV.scA,AV.scB]
  ·simp[zlR,hlt];obtain rfl:i=ws.length:=by omega
   rw[List.drop_length]at ho;rw[←ho]at hO;exact hO
theorem ztS{b:UInt8}(h:zba b=true):48≤(b.toNat:Int)∧(b.toNat:Int)≤57:=by simpa[zba]using h
theorem zFp(s:List UInt8)(hd:∀b∈s,zba b=true)(hl:s.length≤1000000)(H:zaa)(K:AV→zaa→Prop)(hK:K (.bool (zb7 s 0)) H):ACalls tP zhX [.str s] H K:=by
 refine ACalls.out (zLW λhs=>?_);have hO:=zby (K:=K) (H:=H) (r:=.bool (zb7 s 0)) hs rfl rfl hK;simp[zzf];refine zLU (Inv:=λq t3 t7 H'=>∃(i:Nat) (n:Int),i≤s.length∧q=s.length-i∧t7=.int .i64 i∧t3=.int .i64 n∧0≤n∧n≤1000000∧zb7 (s.drop i) n=zb7 s 0∧H'=H) s.length ?_ ?_
 ·intro _;exact⟨0,0,by omega,by omega,rfl,rfl,by omega,by omega,by simp,rfl⟩
 ·rintro q t3 t7 H' ⟨i,n,hi,rfl,rfl,rfl,hn0,hn1,ho,rfl⟩ hsc _ hsF Kb hKb;by_cases hlt:i<s.length
  ·have hb:=ztS (hd s[i] (List.getElem_mem hlt));rw[List.drop_eq_getElem_cons hlt,zb7]at ho;simp[zrW,hlt];rw[IntWalk.u8_in _ (by omega),zav (n:=n*10) (by omega) (by omega),zav (n:=(s[i].toNat:Int)-48) (by omega) (by omega),zav (by omega) (by omega),zav (by omega) (by omega)];by_cases hg:1000000<n*10+((s[i].toNat:Int)-48)
   ·rw[if_pos hg]at ho;have hg':decide (1000000<n*10+((s[i].toNat:Int)-48))=true:=by simpa using hg
    rw[←ho]at hO;rw[hg'];simpa using hO
   ·rw[if_neg hg]at ho;have hg':decide (1000000<n*10+((s[i].toNat:Int)-48))=false:=by simpa using hg
    rw[hg'];simp only[ztC,Bool.false_eq_true,if_false];refine hKb _ _ ⟨s.length-(i+1),by omega,Back.here (Nat.le_refl _) hs ?_ ⟨_,_,rfl,i+1,_,by omega,rfl,by simp,rfl,by omega,by omega,ho,rfl⟩⟩;simp[zmn,AV.sc,AV.scV,AV.scA,AV.scB]
  ·simp[zrW,hlt];obtain rfl:i=s.length:=by omega
   rw[List.drop_length,zb7]at ho;rw[←ho]at hO;exact hO
theorem zv7(cl:UInt8→Bool)(f:FuncId)(hcl:zdD tP f=true)(hf:∀(b:UInt8) (H:zaa) (K:AV→zaa→Prop),K (.bool (cl b)) H→ACalls tP f [.int .u8 b.toNat] H K)(s:List UInt8)(hl:s.length≤1000000)(H:zaa)(K:AV→zaa→Prop)(hK:K (.str (s.takeWhile cl)) H):ACalls tP zj2 [.str s,.fn f []] H K:=by
 refine ACalls.out (zLH λhs=>?_);have hO:=zby (K:=K) (H:=H) (r:=.str (s.takeWhile cl)) hs rfl rfl hK;simp[zza];refine zLF (Inv:=λq t5 H'=>∃i:Nat,i≤s.length∧q=s.length-i∧t5=.int .i64 i∧s.take i++(s.drop i).takeWhile cl=s.takeWhile cl∧H'=H) s.length ?_ ?_
 ·intro _;exact⟨0,by omega,by omega,rfl,by simp,rfl⟩
 ·rintro q t5 H' ⟨i,hi,rfl,rfl,ho,rfl⟩ hsc _ hsF Kb hKb;by_cases hlt:i<s.length
  ·rw[List.drop_eq_getElem_cons hlt,List.takeWhile_cons]at ho;simp[zrU,hlt];simp only[aCallV,hcl,List.append_nil];refine hf _ _ _ ?_;cases hc:cl s[i] with
   |true=>rw[hc,if_pos rfl,List.append_cons,←List.take_succ_eq_append_getElem hlt]at ho;simp;rw[zav (by omega) (by omega)];refine hKb _ _ ⟨s.length-(i+1),by omega,Back.here (Nat.le_refl _) hs ?_ ⟨_,rfl,i+1,by omega,rfl,by simp,ho,rfl⟩⟩;simp[zml,AV.sc,AV.scV,AV.scA,AV.scB]
   |false=>rw[hc,if_neg (by simp),List.append_nil]at ho;rw[←ho]at hO;simp[hi];exact hO
  ·simp[zrU,hlt];obtain rfl:i=s.length:=by omega
   rw[List.drop_length,List.takeWhile_nil,List.append_nil,List.take_length]at ho;rw[←ho]at hO;simpa using hO
theorem zGK(s:List UInt8)(hd:∀b∈s,zba b=true)(hl:s.length≤1000000)(H:zaa)(K:AV→zaa→Prop)(hK:∀n,K (.tup [.int .i64 n,.bool (zb7 s 0)]) H):ACalls tP zgz [.str s] H K:=by
 refine ACalls.out (zJ9 λhs=>?_);have hO:∀n,Out H.length K (.tup [.int .i64 n,.bool (zb7 s 0)]) H:=λn=>Out.tup0 hs (hK n) ⟨zb4 rfl rfl,zb4 rfl rfl,trivial⟩;simp only[zyD];refine zJ7 (Inv:=λq t3 t7 H'=>∃(i:Nat) (n:Int),i≤s.length∧q=s.length-i∧t7=.int .i64 i∧t3=.int .i64 n∧0≤n∧n≤1000000∧zb7 (s.drop i) n=zb7 s 0∧H'=H) s.length ?_ ?_
 ·intro _;exact⟨0,0,by omega,by omega,rfl,rfl,by omega,by omega,by simp,rfl⟩
 ·rintro q t3 t7 H' ⟨i,n,hi,rfl,rfl,rfl,hn0,hn1,ho,rfl⟩ hsc _ hsF Kb hKb;by_cases hlt:i<s.length
  ·have hb:=ztS (hd s[i] (List.getElem_mem hlt));rw[List.drop_eq_getElem_cons hlt,zb7]at ho;simp[zrs,hlt];rw[IntWalk.u8_in _ (by omega),zav (n:=n*10) (by omega) (by omega),zav (n:=(s[i].toNat:Int)-48) (by omega) (by omega),zav (by omega) (by omega),zav (by omega) (by omega)];by_cases hg:1000000<n*10+((s[i].toNat:Int)-48)
   ·rw[if_pos hg]at ho;have hg':decide (1000000<n*10+((s[i].toNat:Int)-48))=true:=by simpa using hg
    rw[←ho]at hO;rw[hg'];simpa[AV.isV]using hO 0
   ·rw[if_neg hg]at ho;have hg':decide (1000000<n*10+((s[i].toNat:Int)-48))=false:=by simpa using hg
    rw[hg'];simp only[ztC,Bool.false_eq_true,if_false];refine hKb _ _ ⟨s.length-(i+1),by omega,Back.here (Nat.le_refl _) hs ?_ ⟨_,_,rfl,i+1,_,by omega,rfl,by simp,rfl,by omega,by omega,ho,rfl⟩⟩;simp[zlU,AV.sc,AV.scV,AV.scA,AV.scB]
  ·simp[zrs,hlt,AV.isV];obtain rfl:i=s.length:=by omega
   rw[List.drop_length,zb7]at ho;rw[←ho]at hO;exact hO n
theorem zGe(b:UInt8)(r:List UInt8):(b::r).take 1=[b]:=by simp
theorem zpP{s:List UInt8}(h:¬ 2≤s.length):zdu s=false:=by
 match s,h with
 |[],_=>rfl
 |[b],_=>simp[zdu]
 |_::_::_,h=>simp at h
theorem zww(b:UInt8)(r:List UInt8)(h:zdu (b::r)=false):sgn (b::r)=if sgns.contains b=true then 1 else 0:=by simp[sgn,h]
theorem zFi(b:UInt8)(r:List UInt8)(H:zaa)(K:AV→zaa→Prop)(hK:K (.str ((b::r).take (sgn (b::r)))) H):ACalls tP zpb [.str (b::r)] H K:=by
 refine ACalls.out (zL0 λhs=>?_);have hO:=zby (K:=K) (H:=H) (r:=.str ((b::r).take (sgn (b::r)))) hs rfl rfl hK;have one:zdu (b::r)=false→zmo (.str (b::r)) H (Out H.length K):=by
  intro h2;rw[zww b r h2]at hO;have hO:Out H.length K (.str (if sgns.contains b=true then [b] else [])) H:=by cases hc:sgns.contains b <;> rw[hc]at hO <;> simpa using hO
  have step:∀ (c:UInt8) (cs:List UInt8) (rest:Prop),(Out H.length K (.str (if cs.contains b=true then [b] else [])) H→rest)→Out H.length K (.str (if (c::cs).contains b=true then [b] else [])) H →
    zac .eql false (.str [b]) (.str [c]) λt=>zag t (zcx (.str (b::r)) t H (Out H.length K)) rest:=by
   intro c cs rest h h';rw[List.contains_cons]at h';cases e:(b == c) with
   |true=>rw[e]at h';simpa[zcx,e]using h'
   |false=>rw[e,Bool.false_or]at h';simpa[zcx,e]using h h'
  unfold zmo;simp only[zBO,zBD,zBC,Int.toNat_one,zGe,List.drop_zero];refine⟨by decide,⟨by omega,by simp⟩,?_⟩
  revert hO
  unfold sgns
  iterate 12 refine step _ _ _ ?_
  intro h';rw[List.contains_cons]at h';cases e:(b == 95) <;> rw[e]at h' <;> simpa[zcx,e]using h'
 by_cases hl:2≤(b::r).length
 ·have hl':(2:Int)≤r.length+1:=by simp only[List.length_cons]at hl;omega
  have hl2:1≤r.length:=by simp only[List.length_cons]at hl;omega
  cases h2:zdu (b::r) with
  |true=>
   have h3:sgn (b::r)=2:=by simp[sgn,h2]
   rw[h3]at hO;unfold zdu at h2;simp only[List.take_succ_cons]at h2 hO;cases e1:(b::List.take 1 r == [45,62]) with
   |true=>simpa[zg8,hl',hl2,zf3,e1]using hO
   |false=>
    cases e2:(b::List.take 1 r == [60,61]) with
    |true=>simpa[zg8,hl',hl2,zf3,e1,e2]using hO
    |false=>rw[e1,e2]at h2;simp only[Bool.false_or]at h2;simpa[zg8,hl',hl2,zf3,e1,e2,h2]using hO
  |false=>have ho:=one h2;unfold zdu at h2;simp only[List.take_succ_cons]at h2;rw[Bool.or_eq_false_iff,Bool.or_eq_false_iff]at h2;simpa[zg8,hl',hl2,zf3,h2.1.1,h2.1.2,h2.2]using ho
 ·have ho:=one (zpP hl);have:¬ ((2:Int)≤r.length+1):=by simp only[List.length_cons]at hl;omega
  simpa[zg8,this]using ho
theorem zFh(b:UInt8)(r:List UInt8)(H:zaa)(K:AV→zaa→Prop)(hK:K (.int .i64 (sgn (b::r))) H):ACalls tP zo1 [.str (b::r)] H K:=by
 refine ACalls.out (zKf λhs=>?_);have hO:=zby (K:=K) (H:=H) (r:=.int .i64 (sgn (b::r))) hs rfl rfl hK;have one:zdu (b::r)=false→zrv (.str (b::r)) (.str sgns) (.int .i64 0) H (Out H.length K):=by
  intro h2;rw[zww b r h2]at hO;have hlen:sgns.length=13:=rfl;generalize sgns=ws at *;refine zKd (Inv:=λq t4 H'=>∃i:Nat,i≤ws.length∧q=ws.length-i∧t4=.int .i64 i∧(ws.drop i).contains b=ws.contains b∧H'=H) ws.length ?_ ?_
  ·intro _;exact⟨0,by omega,by omega,rfl,by simp,rfl⟩
  ·rintro q t8 H' ⟨i,hi,rfl,rfl,ho,rfl⟩ hsc _ hsF Kb hKb;by_cases hlt:i<ws.length
   ·rw[List.drop_eq_getElem_cons hlt,List.contains_cons]at ho;have e1:=zcw b ws[i];cases hz:(b == ws[i]) with
    |true=>rw[hz,Bool.true_or]at ho;rw[←ho]at hO;simpa[zlW,hlt,e1,hz]using hO
    |false=>rw[hz,Bool.false_or]at ho;simp[zlW,hlt,e1,hz];rw[zav (by omega) (by omega)];refine hKb _ _ ⟨ws.length-(i+1),by omega,Back.here (Nat.le_refl _) hs ?_ ⟨_,rfl,i+1,by omega,rfl,by simp,ho,rfl⟩⟩;simp[zlX,AV.sc,AV.scV,AV.scA,AV.scB]
   ·obtain rfl:i=ws.length:=by omega
    rw[List.drop_length]at ho;rw[←ho]at hO;simpa[zlW,hlt]using hO
 by_cases hl:2≤(b::r).length
 ·have hl':(2:Int)≤r.length+1:=by simp only[List.length_cons]at hl;omega
  have hl2:1≤r.length:=by simp only[List.length_cons]at hl;omega
  cases h2:zdu (b::r) with
  |true=>
   have h3:sgn (b::r)=2:=by simp[sgn,h2]
   rw[h3]at hO;unfold zdu at h2;simp only[List.take_succ_cons]at h2 hO;cases e1:(b::List.take 1 r == [45,62]) with
   |true=>simpa[zg1,hl',hl2,e1]using hO
   |false=>
    cases e2:(b::List.take 1 r == [60,61]) with
    |true=>simpa[zg1,hl',hl2,e1,e2]using hO
    |false=>rw[e1,e2]at h2;simp only[Bool.false_or]at h2;simpa[zg1,hl',hl2,e1,e2,h2]using hO
  |false=>have ho:=one h2;unfold sgns at ho;unfold zdu at h2;simp only[List.take_succ_cons]at h2;rw[Bool.or_eq_false_iff,Bool.or_eq_false_iff]at h2;simpa[zg1,hl',hl2,h2.1.1,h2.1.2,h2.2]using ho
 ·have ho:=one (zpP hl);unfold sgns at ho;have:¬ ((2:Int)≤r.length+1):=by simp only[List.length_cons]at hl;omega
  simpa[zg1,this]using ho

def Tk.cs(t:Tk):List AV:=[.int .i64 t.kind,.str t.text,.int .i64 t.pos]
def zkB(kw:List UInt8→Bool)(b:UInt8)(r:List UInt8)(i:Nat):AV:=
 match tok kw b r with
 |.error e=>.tup [.agg [.int .i64 0,.str [],.int .i64 0],.int .i64 e]
 |.ok (k,n)=>.tup [.agg (Tk.cs ⟨k,(b::r).take n,i⟩),.int .i64 0]
theorem zkO{p:UInt8→Bool}(b:UInt8)(r:List UInt8):(b::r).take ((r.takeWhile p).length+1)=b::r.takeWhile p:=by
 rw[List.take_succ_cons];congr 1;induction r with
 |nil=>simp
 |cons c r ih=>by_cases h:p c=true <;> simp[h,ih]
theorem zDJ:zdD tP zhW=true:=by kernel_rfl
theorem zDK:zdD tP zfO=true:=by kernel_rfl
theorem zvV{H J:zaa}{K:AV→zaa→Prop}{k p e:Int}{t:List UInt8}(hs:HSc H)(h:K (.tup [.agg [.int .i64 k,.str t,.int .i64 p],.int .i64 e]) H):
  Out H.length K (.tup [.agg [.int .i64 k,.str t,.int .i64 p],.int .i64 e]) (H++J):=Out.tup hs h ⟨zb4 rfl rfl,zb4 rfl rfl,trivial⟩
def zmj(t4 t6:AV)(H:zaa)(K:AV→zaa→Prop):Prop:=
 zaf 1 t6 λt69=>
 zae false 1 t69 H λt70=>
 ACalls tP zhX [t70] H λt71 H=>
 aUn .not t71 λt72=>
 zag t72
 (zao [(.int .i64 0),(.str []),(.int .i64 0)] [(0,1),(1,1),(2,1)] [] λt73=>
 zak 3 t4 t73 H λH=>
 zae true 3 t4 H λr0=>
 zbb [r0,(.int .i64 9)] (K · H))
 (zg7 t4 t6 H K)
theorem zE7(s:List UInt8)(hl:s.length≤1000000)(i:Nat)(hi:i<s.length)(H:zaa)(K:AV→zaa→Prop)(hK:K (zkB (kwF kwds) s[i] (s.drop (i+1)) i) H):ACalls tP zo9 [.str s,.int .i64 i] H K:=by
 refine ACalls.out (zLt λhs=>?_);have hdr:=List.drop_eq_getElem_cons hi;have hrl:(s.drop i).length≤1000000:=by simp;omega
 generalize hb:s[i]=b at *;generalize hr:s.drop (i+1)=r at *;have hb':s[i]?.getD 0=b:=by simp[hi,hb]
 have post:∀(k:Int) (n:Nat),tok (kwF kwds) b r=.ok (k,n)→∀t,(b::r).take n=t→zg7 (.ptr H.length 0) (.ptr (H.length+1) 0) (H++[.cells [.int .i64 0,.str [],.int .i64 0],.cells [.int .i64 k,.str t,.int .i64 i]]) (Out H.length K):=by intro k n ht t hte;subst hte;simp[zkB,ht,Tk.cs]at hK;simp[zg7,zy6,AV.known,AV.isV];exact zvV hs hK
 have bad:∀e:Int,tok (kwF kwds) b r=.error e→∀J,Out H.length K (.tup [.agg [.int .i64 0,.str [],.int .i64 0],.int .i64 e]) (H++J):=by intro e ht J;simp[zkB,ht]at hK;exact zvV hs hK
 have hi':=Nat.le_of_lt hi;by_cases hLU:(zbR b || bUp b)=true
 ·have hin:bIn b=true:=by simp[bIn,hLU]
  simp[zrT,hi,hb,hi',zao,zaM,AV.known];refine zoD b _ _ ?_;have hc:zbR b=true∨(zbR b=false∧bUp b=true):=by cases hL:zbR b <;> simp[hL]at hLU ⊢;exact hLU
  have hpost:=λk=>post k ((r.takeWhile bIn).length+1);simp only[tok,hLU,if_true,zkO]at hpost;rcases hc with hL|⟨hL,hU⟩
  case' inl=>simp[hL]
  case' inr=>simp[hL];refine zkY b _ _ ?_;simp[hU]
  all_goals
   rw[hdr];refine zv7 bIn zhW zDJ zGS (b::r) (by rw[←hdr];exact hrl) _ _ ?_;simp[hin,AV.known];by_cases hn:(r.takeWhile bIn).length+1>24
   ·have hn':(24:Int)<(r.takeWhile bIn).length+1:=by omega
    have:=bad 9 (by simp only[tok,hLU,if_true];rw[if_pos hn]);simp[hn',AV.known,AV.isV];exact this _
   ·have hn':¬ (24:Int)<(r.takeWhile bIn).length+1:=by omega
    simp[hn'];refine zkY b _ _ ?_;rw[if_neg hn]at hpost;cases hU:bUp b with
    |true=>simp[AV.known,zg6];exact hpost 2 (by simp[hU]) _ rfl
    |false=>
     simp[AV.known];refine zDH _ _ _ ?_;cases hkw:kwF kwds (b::r.takeWhile bIn) with
     |true=>simp[AV.known,zg6];exact hpost 4 (by simp[hU,hkw]) _ rfl
     |false=>simp[AV.known,zg6];exact hpost 1 (by simp[hU,hkw]) _ rfl
 ·have hL:zbR b=false:=by simp at hLU;exact hLU.1
  have hU:bUp b=false:=by simp at hLU;exact hLU.2
  simp[zrT,hi,hb,zao,zaM,AV.known];refine zoD b _ _ ?_;simp[hL];refine zkY b _ _ ?_;simp[hU];refine zn5 b _ _ ?_;cases hD:zba b with
  |true=>
   simp[hi',AV.known];rw[hdr];refine zv7 zba zfO zDK zn5 (b::r) (by rw[←hdr];exact hrl) _ _ ?_;have e1:((b.toNat:Int) == 48)=(b == 48):=zcw b 48;have htk:tok (kwF kwds) b r=if (b == 48 && decide ((r.takeWhile zba).length+1>1))=true then .error 2 else if zb7 (b::r.takeWhile zba) 0=true then .ok (3,(r.takeWhile zba).length+1) else .error 9:=by simp only[tok,hLU,hD,if_true,zkO];rfl
   have hsm:∀J,ACalls tP zhX [.str (b::r.takeWhile zba)] (H++J) λt H'=>t=.bool (zb7 (b::r.takeWhile zba) 0)∧H'=H++J:=by
    intro J;refine zFp _ ?_ ?_ _ _ ⟨rfl,rfl⟩
    ·intro c hc;rcases List.mem_cons.1 hc with rfl | hc
     ·exact hD
     ·exact List.all_eq_true.1 (List.all_takeWhile) c hc
    ·have h1:(r.takeWhile zba).length≤r.length:=(List.takeWhile_sublist _).length_le;rw[hdr]at hrl;simp at hrl ⊢;omega
   simp[hD,AV.known,e1];have hpost:=post 3 ((r.takeWhile zba).length+1);rw[zkO]at hpost;rw[htk]at hpost bad;have last:∀J,(¬(b == 48 && decide ((r.takeWhile zba).length+1>1))=true)→J=[.cells [.int .i64 0,.str [],.int .i64 0],.cells [.int .i64 3,.str (b::r.takeWhile zba),.int .i64 i]]→zmj (.ptr H.length 0) (.ptr (H.length+1) 0) (H++J) (Out H.length K):=by
    rintro J hne rfl;rw[if_neg hne]at hpost bad;simp[zmj];refine(hsm _).mono ?_;rintro _ _ ⟨rfl,rfl⟩;cases hv:zb7 (b::r.takeWhile zba) 0 with
    |true=>simp;exact hpost (by simp[hv]) _ rfl
    |false=>simp[AV.known,zao,zaM,AV.isV];exact bad 9 (by simp[hv]) _
   cases hz:(b == 48) with
   |true=>
    simp[hz];by_cases hn:1<(r.takeWhile zba).length+1
    ·have hn':(1:Int)<(r.takeWhile zba).length+1:=by omega
     have hd:decide ((r.takeWhile zba).length+1>1)=true:=decide_eq_true hn;have:=bad 2 (by rw[hz,hd];rfl);simp[hn',AV.known,AV.isV];exact this _
    ·have hn':¬ (1:Int)<(r.takeWhile zba).length+1:=by omega
     have hd:decide ((r.takeWhile zba).length+1>1)=false:=decide_eq_false hn;have:=last _ (by rw[hz,hd];decide) rfl;simp[zmj,zao,zaM]at this;simp[hn'];exact this
   |false=>have:=last _ (by simp[hz]) rfl;simp[zmj,zao,zaM]at this;simp[hz];exact this
  |false=>
   simp[hi',AV.known];rw[hdr];refine zFi b r _ _ ?_;simp[AV.known];have htk:tok (kwF kwds) b r=if sgn (b::r)=0 then .error 2 else .ok (5,sgn (b::r)):=by simp only[tok,hLU,hD];rfl
   by_cases hz:sgn (b::r)=0
   ·have:=bad 2 (by rw[htk,if_pos hz]);simp[hz,AV.isV];exact this _
   ·have:=post 5 (sgn (b::r)) (by rw[htk,if_neg hz]) _ rfl;have he:(List.take (sgn (b::r)) (b::r)).isEmpty=false:=by
     cases h:sgn (b::r) with
     |zero=>exact absurd h hz
     |succ n=>simp
    simp[he];exact this
def cat(l:List Tk):Except (Nat × Int) (List Tk)→Except (Nat × Int) (List Tk)
 |.error e=>.error e
 |.ok m=>.ok (l++m)
theorem zt4(l m:List Tk)(r:Except (Nat×Int) (List Tk)):cat l (cat m r)=cat (l++m) r:=by cases r <;> simp[cat]
@[simp] theorem zTz(r:Except (Nat×Int) (List Tk)):cat [] r=r:=by cases r <;> rfl
def zeE(r:List UInt8):List UInt8:=r.dropWhile (· != 10)
def zeF(r:List UInt8):Nat:=(r.takeWhile (· != 10)).length
section
variable (kw:List UInt8→Bool)
theorem zp6(p:Nat):zbk kw [] p=.ok [⟨6,[],p⟩]:=by unfold zbk;rfl
theorem zwW{b:UInt8}(h:zdk b=true)(r:List UInt8)(p:Nat):zbk kw (b::r) p=zbk kw r (p+1):=by
 conv=>lhs;unfold zbk
 simp[h]
theorem zwY{b:UInt8}(h0:zdk b=false)(h:(b == 35)=true)(r:List UInt8)(p:Nat):zbk kw (b::r) p=zbk kw (zeE r) (p+1+zeF r):=by
 conv=>lhs;unfold zbk
 simp only[h0,h,Bool.false_eq_true,if_false,if_true];rfl
theorem zwX{b:UInt8}(h0:zdk b=false)(h:(b == 35)=false){r:List UInt8}{p:Nat}{e:Int}(ht:tok kw b r=.error e):zbk kw (b::r) p=.error (p,e):=by
 conv=>lhs;unfold zbk
 simp only[h0,h,Bool.false_eq_true,if_false,ht]
theorem zwZ{b:UInt8}(h0:zdk b=false)(h:(b == 35)=false){r:List UInt8}{p:Nat}{k:Int}{n:Nat}(ht:tok kw b r=.ok (k,n)):
  zbk kw (b::r) p=cat [⟨k,(b::r).take n,p⟩] (zbk kw ((b::r).drop n) (p+n)):=by
 conv=>lhs;unfold zbk
 have hn:=zp5 ht;obtain⟨m,rfl⟩:∃m,n=m+1:=⟨n-1,by omega⟩;simp only[h0,h,Bool.false_eq_true,if_false,ht,Nat.add_sub_cancel,List.drop_succ_cons];cases zbk kw (r.drop m) (p+(m+1)) <;> rfl
end
theorem zkF{b:UInt8}(h:(b == 10)=false)(r:List UInt8):zeE (b::r)=zeE r∧zeF (b::r)=1+zeF r:=by
 have hb:b≠10:=by simpa using h
 constructor
 ·simp[zeE,hb]
 ·simp[zeF,hb];omega
theorem zwA{b:UInt8}(h:(b == 10)=true)(r:List UInt8):zeE (b::r)=b::r∧zeF (b::r)=0:=by
 have hb:b=10:=by simpa using h
 constructor
 ·simp[zeE,hb]
 ·simp[zeF,hb]
theorem skipC_nil:zeE []=[]∧zeF []=0:=⟨rfl,rfl⟩
theorem zp4{kw:List UInt8→Bool}{b:UInt8}{r:List UInt8}{k:Int}{n:Nat}(h:tok kw b r=.ok (k,n)):n≤(b::r).length:=by
 have tw:∀p:UInt8→Bool,(r.takeWhile p).length≤r.length:=λp=>(List.takeWhile_sublist _).length_le;unfold tok at h;split at h
 ·simp only at h;split at h <;> simp at h;have:=tw bIn;simp;omega
 ·split at h
  ·simp only at h;split at h
   ·simp at h
   ·split at h <;> simp at h;have:=tw zba;simp;omega
  ·simp only at h;split at h <;> simp at h
   obtain⟨_,rfl⟩:=h;unfold sgn;split
   ·rename_i h2;by_cases hl:2≤(b::r).length
    ·exact hl
    ·rw[zpP hl]at h2;cases h2
   ·split
    ·simp
    ·split <;> simp
theorem zGg{kw:List UInt8→Bool}{b:UInt8}{r:List UInt8}{e:Int}(h:tok kw b r=.error e):e=2∨e=9:=by
 unfold tok at h;split at h
 ·simp only at h;split at h <;> simp at h;omega
 ·split at h
  ·simp only at h;split at h
   ·simp at h;omega
   ·split at h <;> simp at h;omega
  ·simp only at h;split at h <;> simp at h;omega
def zfe(s:List UInt8):AV:=
 if s.length>16384 then .tup [.sl [] .none,.int .i64 0,.int .i64 9] else
 match zbk (kwF kwds) s 0 with
 |.error (p,e)=>.tup [.sl [] .none,.int .i64 p,.int .i64 e]
 |.ok l=>.tup [.sl (l.map Tk.cs) .none,.int .i64 0,.int .i64 0]
theorem two{H:zaa}{x y:AB}:H++[x,y]=(H++[x])++[y]:=by simp
theorem zvU{H J:zaa}{K:AV→zaa→Prop}{p e:Int}(hs:HSc H)(hK:K (.tup [.sl [] .none,.int .i64 p,.int .i64 e]) H):Out H.length K (.tup [.snil,.int .i64 p,.int .i64 e]) (H++J):=
 Out.tup hs hK ⟨zgQ,zb4 rfl rfl,zb4 rfl rfl,trivial⟩
theorem zF1(s:List UInt8)(H:zaa)(K:AV→zaa→Prop)(hK:K (zfe s) H):ACalls tP zo6 [.str s] H K:=by
 refine ACalls.out (zK4 λhs=>?_);by_cases hl:s.length>16384
 ·have hl':(16384:Int)<s.length:=by omega
  simp[zrI,hl',AV.isV];unfold zfe at hK;rw[if_pos hl]at hK;exact Out.tup0 hs hK ⟨zgQ,zb4 rfl rfl,zb4 rfl rfl,trivial⟩
 have hl':¬(16384:Int)<s.length:=by omega
 unfold zfe at hK;rw[if_neg hl]at hK;simp[zrI,hl'];have hperm:∀n,HSc (H++[.perm ze1 3 n]):=λn=>hs.append rfl;unfold zme;refine ALoop.own 5 ze1 3 rfl ?_;show zme (.str s) (.sl [] (.own H.length)) (.int .i64 0) (H++[.perm ze1 3 0]) (Out H.length K);refine zK1 (Inv:=λq t5 t6 H'=>∃(i:Nat) (l:List Tk),i≤s.length∧l.length≤i∧q=s.length-i∧t6=.int .i64 i∧t5=.sl (l.map Tk.cs) (.own H.length)∧H'=H++[.perm ze1 3 l.length]∧cat l (zbk (kwF kwds) (s.drop i) i)=zbk (kwF kwds) s 0) s.length ?_ ?_
 ·intro _;exact⟨0,[],by omega,by simp,by omega,rfl,rfl,rfl,by simp⟩
 ·rintro q t5 t6 H' ⟨i,l,hi,hll,rfl,rfl,rfl,rfl,ho⟩ hsc hlen hsF Kb hKb;have done:cat l (.ok [⟨6,[],s.length⟩])=zbk (kwF kwds) s 0→zmd (.str s) (.sl (l.map Tk.cs) (.own H.length)) (H++[.perm ze1 3 l.length]) (Out H.length K):=by intro ho;rw[←ho]at hK;simp[zmd,zyV,zao,zaM,zas,zbh,plain,AV.pd,zax,zbc,za2,AV.isV];refine⟨by omega,?_⟩;simp[cat,Tk.cs]at hK;exact Out.tup hs hK ⟨slV,zb4 rfl rfl,zb4 rfl rfl,trivial⟩
  by_cases hlt:i<s.length
  ·have hdr:=List.drop_eq_getElem_cons hlt;simp[zrJ,hlt];refine zCj _ _ _ ?_;have e35:((s[i].toNat:Int) == 35)=(s[i] == 35):=zcw s[i] 35;cases hbl:zdk s[i] with
   |true=>rw[hdr,zwW _ hbl]at ho;simp[zg3];rw[zav (by omega) (by omega)];refine hKb _ _ ⟨s.length-(i+1),by omega,Back.here (by simp) (hperm _) ?_ ⟨_,_,rfl,i+1,l,by omega,by omega,rfl,by simp,rfl,rfl,ho⟩⟩;simp[zg2,AV.sc,AV.scV,AV.scA,AV.scB]
   |false=>
    simp[e35];cases hsh:(s[i] == 35) with
    |true=>
     simp;rw[hdr,zwY _ hbl hsh]at ho;have h10:(s[i] == 10)=false:=by rw[beq_iff_eq]at hsh;rw[hsh];rfl
     obtain⟨c1,c2⟩:=zkF h10 (s.drop (i+1));rw[Nat.add_assoc,←c1,←c2,←hdr]at ho;refine zK2 (Inv:=λq t6 H'=>∃(j:Nat),i≤j∧j≤s.length∧q=s.length-j∧t6=.int .i64 j∧H'=H++[.perm ze1 3 l.length]∧cat l (zbk (kwF kwds) (zeE (s.drop j)) (j+zeF (s.drop j)))=zbk (kwF kwds) s 0) (s.length-i) ?_ ?_
     ·intro _;exact⟨i,by omega,by omega,by omega,rfl,rfl,ho⟩
     ·rintro q t6 H' ⟨j,hij,hj,rfl,rfl,rfl,ho⟩ hsc hlen hsF Kb9 hKb9;by_cases hjlt:j<s.length
      ·have hdrj:=List.drop_eq_getElem_cons hjlt;have e10:((s[j].toNat:Int) == 10)=(s[j] == 10):=zcw s[j] 10;simp[zrK,hjlt,e10];cases hz:(s[j] == 10) with
       |true=>
        obtain⟨d1,d2⟩:=zwA hz (s.drop (j+1));rw[hdrj,d1,d2,←hdrj,Nat.add_zero]at ho;have hij':i≠j:=by rintro rfl;rw[h10]at hz;cases hz
        simp[zg3];refine hKb _ _ ⟨s.length-j,by omega,Back.here (by simp) (hperm _) ?_ ⟨_,_,rfl,j,l,by omega,by omega,rfl,by simp,rfl,rfl,ho⟩⟩;simp[zg2,AV.sc,AV.scV,AV.scA,AV.scB]
       |false=>obtain⟨d1,d2⟩:=zkF hz (s.drop (j+1));rw[hdrj,d1,d2,←Nat.add_assoc]at ho;simp;rw[zav (by omega) (by omega)];refine hKb9 _ _ ⟨s.length-(j+1),by omega,Back.here (by simp) (hperm _) ?_ ⟨_,rfl,j+1,by omega,by omega,rfl,by simp,rfl,ho⟩⟩;simp[zmc,AV.sc,AV.scV,AV.scA,AV.scB]
      ·obtain rfl:j=s.length:=by omega
       simp[zrK];rw[List.drop_length,skipC_nil.1,skipC_nil.2,Nat.add_zero,zp6]at ho;exact done ho
    |false=>
     simp;refine zE7 s (by omega) i hlt _ _ ?_;unfold zkB;cases ht:tok (kwF kwds) s[i] (s.drop (i+1)) with
     |error e=>
      rw[hdr,zwX _ hbl hsh ht]at ho;have he:(e != 0)=true:=by rcases zGg ht with rfl|rfl <;> rfl
      rw[←ho]at hK;simp[AV.known,AV.isV,he];exact zvU hs hK
     |ok kn=>
      obtain⟨k,n⟩:=kn;rw[hdr,zwZ _ hbl hsh ht,zt4,←hdr]at ho;have hn:=zp4 ht;rw[←hdr]at hn;simp at hn;have hn0:=zp5 ht;simp[Tk.cs,AV.known,zas,zbh,plain,AV.pd,zax,zbc,za2,zg3];refine⟨by omega,?_⟩;rw[show min n (s.length-i)=n by omega,zav (by omega) (by omega),two];refine hKb _ _ ⟨s.length-(i+n),by omega,Back.same (by simp) (hperm _) ?_ ⟨_,_,rfl,i+n,l++[⟨k,(s.drop i).take n,i⟩],by omega,by simp;omega,rfl,by simp,by simp[Tk.cs],by simp,?_⟩⟩
      ·simp[zg2,AV.sc,AV.scV,AV.scA,AV.scB]
      ·rw[List.drop_drop]at ho;exact ho
  ·obtain rfl:i=s.length:=by omega
   rw[List.drop_length,zp6]at ho;simpa[zrJ]using done ho
end Go.Proofs.YtaifokkaaahdoaaGreatDoor
