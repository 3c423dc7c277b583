import Derived.Test.YtaifokkaaahdoaaGreatDoorKNum
import Derived.Test.YtaifokkaaahdoaaGreatDoorProg
import Derived.KernelRfl
import Derived.Test.YtaifokkaaahdoaaGreatDoorAbsQ1
set_option linter.unusedSimpArgs false
set_option linter.unusedVariables false
set_option linter.unusedSectionVars false
set_option maxRecDepth 8000
namespace Go.Proofs.YtaifokkaaahdoaaGreatDoor
open Go Go.Abs
set_option maxRecDepth 100000
def zNl(_:Nat):List Bool:=[]
noncomputable def zNm:Code:=Tryz.f46.body.getD .skip
def zzZ(t0:AV)(H:zaa)(K:Kt):Prop:=
 zay [(.bool false),.snil,.snil] H λt2 H=>
 zac .lss false t0 (.int .i64 0) λt4=>
 ACalls tP zpn [t0] H λt6 H=>
 zas 1 [(.int .u32 0)] 1 [(0,(.int .u32 1))] λt7=>
 zao [(.bool false),.snil,.snil] [(0,1),(1,1),(2,1)] [(0,t4),(1,t6),(2,t7)] λt8=>
 ACalls tP zh4 [t8] H λt9 H=>
 zak 3 t2 t9 H λH=>
 zae true 3 t2 H λr0=>
 K r0 H
theorem zNn{t0:AV}{H:zaa}{K:Kt}(h:HSc H→zzZ t0 H K):ACalls tP ze8 [t0] H K:=
 zan (M:=zNl) Tryz.func46 (c:=zNm) (by kernel_rfl) (λhs=>Eq.mpr (by kernel_rfl) (h hs))
def zPE(_:Nat):List Bool:=[]
noncomputable def zPF:Code:=Tryz.f86.body.getD .skip
def zAZ(t0 t1:AV)(H:zaa)(K:Kt):Prop:=
 zaw t0 H λt2 H=>
 zaw t1 H λt3 H=>
 zay [(.bool false),.snil,.snil] H λt4 H=>
 zad H (λK'=>zam true 3 t2 H (K' · H)) λt7=>
 zaQ H (λH K'=>ACalls tP zd6 [t7] H K') λt8=>
 zad H (λK'=>zam true 3 t3 H (K' · H)) λt9=>
 zaQ H (λH K'=>ACalls tP zd6 [t9] H K') λt10=>
 zay [(.bool false),.snil,.snil] H λt5 H=>
 zay [(.bool false),.snil,.snil] H λt6 H=>
 zak 3 t5 t8 H λH=>
 zak 3 t6 t10 H λH=>
 zad H (λK'=>zaf 0 t5 (K' · H)) λt11=>
 zad H (λK'=>zam false 1 t11 H (K' · H)) λt12=>
 zad H (λK'=>zaf 0 t6 (K' · H)) λt13=>
 zad H (λK'=>zam false 1 t13 H (K' · H)) λt14=>
 zad H (λK'=>zac .neq true t12 t14 (K' · H)) λt15=>
 zad H (λK'=>zaf 1 t5 (K' · H)) λt16=>
 zad H (λK'=>zam false 1 t16 H (K' · H)) λt17=>
 zad H (λK'=>zaf 1 t6 (K' · H)) λt18=>
 zad H (λK'=>zam false 1 t18 H (K' · H)) λt19=>
 zaQ H (λH K'=>ACalls tP zcQ [t17,t19] H K') λt20=>
 zad H (λK'=>zaf 2 t5 (K' · H)) λt21=>
 zad H (λK'=>zam false 1 t21 H (K' · H)) λt22=>
 zad H (λK'=>zaf 2 t6 (K' · H)) λt23=>
 zad H (λK'=>zam false 1 t23 H (K' · H)) λt24=>
 zaQ H (λH K'=>ACalls tP zcQ [t22,t24] H K') λt25=>
 zad H (λK'=>zao [(.bool false),.snil,.snil] [(0,1),(1,1),(2,1)] [(0,t15),(1,t20),(2,t25)] (K' · H)) λt26=>
 zaQ H (λH K'=>ACalls tP zh4 [t26] H K') λt27=>
 zak 3 t4 t27 H λH=>
 zae true 3 t4 H λr0=>
 K r0 H
theorem zPG{t0 t1:AV}{H:zaa}{K:Kt}(h:HSc H→zAZ t0 t1 H K):ACalls tP zkh [t0,t1] H K:=
 zan (M:=zPE) Tryz.func86 (c:=zPF) (by kernel_rfl) (λhs=>Eq.mpr (by kernel_rfl) (h hs))
def zO3(_:Nat):List Bool:=[]
noncomputable def zO4:Code:=Tryz.f77.body.getD .skip
def zAL(t0 t1:AV)(H:zaa)(K:Kt):Prop:=
 zaw t0 H λt2 H=>
 zaw t1 H λt3 H=>
 zay [(.bool false),.snil,.snil] H λt4 H=>
 zad H (λK'=>zam true 3 t2 H (K' · H)) λt5=>
 zaQ H (λH K'=>ACalls tP zd6 [t5] H K') λt6=>
 zad H (λK'=>zam true 3 t3 H (K' · H)) λt7=>
 zaQ H (λH K'=>ACalls tP zd6 [t7] H K') λt8=>
 zaQ H (λH K'=>ACalls tP zoQ [t6,t8] H K') λt9=>
 zaQ H (λH K'=>ACalls tP zh4 [t9] H K') λt10=>
 zak 3 t4 t10 H λH=>
 zae true 3 t4 H λr0=>
 K r0 H
theorem zO5{t0 t1:AV}{H:zaa}{K:Kt}(h:HSc H→zAL t0 t1 H K):ACalls tP zh7 [t0,t1] H K:=
 zan (M:=zO3) Tryz.func77 (c:=zO4) (by kernel_rfl) (λhs=>Eq.mpr (by kernel_rfl) (h hs))
def zPH(_:Nat):List Bool:=[]
noncomputable def zPI:Code:=Tryz.f87.body.getD .skip
def zA1(t0:AV)(H:zaa)(K:Kt):Prop:=
 zac .lss false t0 (.int .i64 0) λt4=>
 zag t4
 (zbJ .u64 t0 λt6=>
 aUn .neg t6 λt7=>
 ACalls tP zjQ [t7] H λt8 H=>
 K t8 H)
 (zbJ .u64 t0 λt10=>
 ACalls tP zjQ [t10] H λt11 H=>
 K t11 H)
theorem zPJ{t0:AV}{H:zaa}{K:Kt}(h:HSc H→zA1 t0 H K):ACalls tP zpn [t0] H K:=
 zan (M:=zPH) Tryz.func87 (c:=zPI) (by kernel_rfl) (λhs=>Eq.mpr (by kernel_rfl) (h hs))
def zOJ(_:Nat):List Bool:=[]
noncomputable def zOK:Code:=Tryz.f73.body.getD .skip
def zAC(t0:AV)(H:zaa)(K:Kt):Prop:=
 zaw t0 H λt1 H=>
 zay [(.bool false),.snil,.snil] H λt2 H=>
 zae true 3 t1 H λt4=>
 ACalls tP zoP [t4] H λt5 H=>
 zay [(.bool false),.snil,.snil] H λt3 H=>
 zak 3 t3 t5 H λH=>
 zaf 0 t3 λt6=>
 zae false 1 t6 H λt7=>
 zaf 1 t3 λt8=>
 zae false 1 t8 H λt9=>
 zaf 2 t3 λt10=>
 zae false 1 t10 H λt11=>
 zao [(.bool false),.snil,.snil] [(0,1),(1,1),(2,1)] [(0,t7),(1,t9),(2,t11)] λt12=>
 zak 3 t2 t12 H λH=>
 zae true 3 t2 H λr0=>
 K r0 H
theorem zOL{t0:AV}{H:zaa}{K:Kt}(h:HSc H→zAC t0 H K):ACalls tP zh4 [t0] H K:=
 zan (M:=zOJ) Tryz.func73 (c:=zOK) (by kernel_rfl) (λhs=>Eq.mpr (by kernel_rfl) (h hs))
def zOH(_:Nat):List Bool:=[]
noncomputable def zOI:Code:=Tryz.f72.body.getD .skip
def zsJ(t0:AV)(H:zaa)(K:Kt):Prop:=
 zaw t0 H λt1 H=>
 zay [(.bool false),.snil,.snil] H λt2 H=>
 zad H (λK'=>zaf 1 t1 (K' · H)) λt5=>
 zad H (λK'=>zam false 1 t5 H (K' · H)) λt6=>
 zaQ H (λH K'=>ACalls tP zhP [t6] H K') λt7=>
 zad H (λK'=>zaf 2 t1 (K' · H)) λt8=>
 zad H (λK'=>zam false 1 t8 H (K' · H)) λt9=>
 zaQ H (λH K'=>ACalls tP zhP [t9] H K') λt10=>
 zad H (λK'=>K' t7 H) λt3=>
 zad H (λK'=>K' t10 H) λt4=>
 zah 1 t3 λt12=>
 zac .eql false t12 (.int .i64 0) λt13=>
 zab t13 false H (λK'=>K' t4 H) λt15 H=>
 zab t13 false H (λK'=>zah 1 t15 (K' · H)) λt16 H=>
 zab t13 false H (λK'=>zac .eql false t16 (.int .i64 0) (K' · H)) λt17 H=>
 zai t13 (.bool true) t17 λt18=>
 zag t18
 (zas 1 [(.int .u32 0)] 1 [(0,(.int .u32 1))] λt19=>
 zao [(.bool false),.snil,.snil] [(0,1),(1,1),(2,1)] [(2,t19)] λt20=>
 zak 3 t2 t20 H λH=>
 zae true 3 t2 H λr0=>
 K r0 H)
 (zaf 0 t1 λt21=>
 zae false 1 t21 H λt22=>
 zao [(.bool false),.snil,.snil] [(0,1),(1,1),(2,1)] [(0,t22),(1,t3),(2,t4)] λt25=>
 zak 3 t2 t25 H λH=>
 zae true 3 t2 H λr0=>
 K r0 H)
theorem zAB{t0:AV}{H:zaa}{K:Kt}(h:HSc H→zsJ t0 H K):ACalls tP zd6 [t0] H K:=
 zan (M:=zOH) Tryz.func72 (c:=zOI) (by kernel_rfl) (λhs=>Eq.mpr (by kernel_rfl) (h hs))
def zf8:Nat→List Bool
 |5=>rl false [0,2,3,1,19,2,50]
 |9=>rl false [0,2,3,3,17,2,3,2,45]
 |_=>[]
noncomputable def zs0:Code:=Tryz.f84.body.getD .skip
noncomputable def zPA:List ResultVar:=Tryz.f84.results.toList
def zni(t0 t1 t5 t25 t26:AV):List AV:=t0::t1::ux 3 (t5::ux 19 (t25::t26::ux 50 []))
def zAX:List Bool:=zf8 5
noncomputable def zs1:Code:=zaq [1,1,1,0,1,0,0] zs0
def zAU(K:Kt):AExit→List AV→zaa→Prop:=zar tP zf8 [1,1,1,0,1,0] zs0 (zaB tP zPA K)
def zAV(t0 t1 t5 t25 t26:AV)(H:zaa)(K:Kt):Prop:=ALoop tP zs1 (zAU K) (zni t0 t1 t5 t25 t26) H
def zi5(t0 t1 t5 t6 t7 t25 t26 t30 t31:AV):List AV:=t0::t1::ux 3 (t5::t6::t7::ux 17 (t25::t26::ux 3 (t30::t31::ux 45 [])))
def zPy:List Bool:=zf8 9
noncomputable def zPv:Code:=zaq [1,1,0,0,1,1,0,1,0,0] zs1
def zPu(K:Kt)(Kb5:Lt):AExit→List AV→zaa→Prop:=zar tP zf8 [1,1,0,0,1,1,0,1,0] zs1 (zbK zAX Kb5 (zAU K))
def zAW(t0 t1 t5 t6 t7 t25 t26 t30 t31:AV)(H:zaa)(K:Kt)(Kb5:Lt):Prop:=ALoop tP zPv (zPu K Kb5) (zi5 t0 t1 t5 t6 t7 t25 t26 t30 t31) H
def zsZ(t0 t1 t5 t6 t7 t25 t26 t30 t31:AV)(H:zaa)(K:Kt)(Kb5:Lt)(Kb9:Lt):Prop:=
 zac .lss false t31 t30 λt32=>
 zag t32
 (zad H (λK'=>K' t0 H) λt34=>
 zad H (λK'=>K' t6 H) λt35=>
 zad H (λK'=>zaj 1 t34 t35 (K' · H)) λt36=>
 zad H (λK'=>zam false 1 t36 H (K' · H)) λt37=>
 zad H (λK'=>zbJ .u64 t37 (K' · H)) λt38=>
 zad H (λK'=>K' t1 H) λt39=>
 zad H (λK'=>K' t31 H) λt40=>
 zad H (λK'=>zaj 1 t39 t40 (K' · H)) λt41=>
 zad H (λK'=>zam false 1 t41 H (K' · H)) λt42=>
 zad H (λK'=>zbJ .u64 t42 (K' · H)) λt43=>
 zad H (λK'=>zac .mul false t38 t43 (K' · H)) λt44=>
 zad H (λK'=>K' t5 H) λt45=>
 zad H (λK'=>K' t6 H) λt46=>
 zad H (λK'=>K' t31 H) λt47=>
 zad H (λK'=>zac .add false t46 t47 (K' · H)) λt48=>
 zad H (λK'=>zaj 1 t45 t48 (K' · H)) λt49=>
 zad H (λK'=>zam false 1 t49 H (K' · H)) λt50=>
 zad H (λK'=>zbJ .u64 t50 (K' · H)) λt51=>
 zad H (λK'=>zac .add false t44 t51 (K' · H)) λt52=>
 zad H (λK'=>K' t7 H) λt53=>
 zad H (λK'=>zac .add false t52 t53 (K' · H)) λt54=>
 zad H (λK'=>K' t54 H) λt9=>
 zac .add false t6 t31 λt58=>
 zac .rem false t9 (.int .u64 1000000000) λt60=>
 zbJ .u32 t60 λt61=>
 zaj 1 t5 t58 λt62=>
 zak 1 t62 t61 H λH=>
 zac .quo false t9 (.int .u64 1000000000) λt64=>
 zac .add false t31 (.int .i64 1) λt65=>
 Kb9 (zi5 t0 t1 t5 t6 t64 t25 t26 t30 t65) H)
 (zah 1 t1 λt69=>
 zac .add false t6 t69 λt70=>
 zbJ .u32 t7 λt72=>
 zaj 1 t5 t70 λt73=>
 zak 1 t73 t72 H λH=>
 zac .add false t26 (.int .i64 1) λt74=>
 Kb5 (zni t0 t1 t5 t25 t74) H)
def zsY(t0 t1 t5 t25 t26:AV)(H:zaa)(K:Kt)(Kb5:Lt):Prop:=
 zac .lss false t26 t25 λt27=>
 zag t27
 (zah 1 t1 λt30=>
 zAW t0 t1 t5 t26 (.int .u64 0) t25 t26 t30 (.int .i64 0) H K Kb5)
 (ACalls tP zgx [t5] H λt76 H=>
 K t76 H)
def znh(t0 t1:AV)(H:zaa)(K:Kt):Prop:=
 zah 1 t0 λt11=>
 zac .eql false t11 (.int .i64 0) λt12=>
 zab t12 false H (λK'=>K' t1 H) λt14 H=>
 zab t12 false H (λK'=>zah 1 t14 (K' · H)) λt15 H=>
 zab t12 false H (λK'=>zac .eql false t15 (.int .i64 0) (K' · H)) λt16 H=>
 zai t12 (.bool true) t16 λt17=>
 zag t17
 (K .snil H)
 (zah 1 t0 λt19=>
 zah 1 t1 λt21=>
 zac .add false t19 t21 λt22=>
 zbu 4 [(.int .u32 0)] t22 t22 H λt23 H=>
 zah 1 t0 λt25=>
 zAV t0 t1 t23 t25 (.int .i64 0) H K)
theorem zPx{t0 t1 t5 t6 t7 t25 t26 t30 t31:AV}{H:zaa}{K:Kt}{Kb5:Lt}(Inv:Nat→AV→AV→zaa→Prop)(n:Nat)(h0:HSc H→Inv n t7 t31 H)(round:Rd2 (λt7=>λt31=>zi5 t0 t1 t5 t6 t7 t25 t26 t30 t31) (λt7=>λt31=>λH Kb9=>zsZ t0 t1 t5 t6 t7 t25 t26 t30 t31 H K Kb5 Kb9) H Inv):zAW t0 t1 t5 t6 t7 t25 t26 t30 t31 H K Kb5:=
 lp2 (M:=zf8) zPy t7 t31 (by kernel_rfl) Inv n h0 round
theorem zPw{t0 t1 t5 t25 t26:AV}{H:zaa}{K:Kt}(Inv:Nat→AV→zaa→Prop)(n:Nat)(h0:HSc H→Inv n t26 H)(round:Rd1 (λt26=>zni t0 t1 t5 t25 t26) (λt26=>λH Kb5=>zsY t0 t1 t5 t25 t26 H K Kb5) H Inv):zAV t0 t1 t5 t25 t26 H K:=
 lp1 (M:=zf8) zAX t26 (by kernel_rfl) Inv n h0 round
theorem zPz{t0 t1:AV}{H:zaa}{K:Kt}(h:HSc H→znh t0 t1 H K):ACalls tP zcQ [t0,t1] H K:=
 zan (M:=zf8) Tryz.func84 (c:=zs0) (by kernel_rfl) (λhs=>Eq.mpr (by kernel_rfl) (h hs))
def zHH(_:Nat):List Bool:=[]
noncomputable def zHI:Code:=Tryz.f110.body.getD .skip
def zxG(t0 t1:AV)(H:zaa)(K:Kt):Prop:=
 zaw t0 H λt2 H=>
 zaw t1 H λt3 H=>
 zay [(.bool false),.snil,.snil] H λt4 H=>
 zad H (λK'=>zaf 1 t2 (K' · H)) λt8=>
 zad H (λK'=>zam false 1 t8 H (K' · H)) λt9=>
 zad H (λK'=>zaf 2 t3 (K' · H)) λt10=>
 zad H (λK'=>zam false 1 t10 H (K' · H)) λt11=>
 zaQ H (λH K'=>ACalls tP zcQ [t9,t11] H K') λt12=>
 zad H (λK'=>zaf 1 t3 (K' · H)) λt13=>
 zad H (λK'=>zam false 1 t13 H (K' · H)) λt14=>
 zad H (λK'=>zaf 2 t2 (K' · H)) λt15=>
 zad H (λK'=>zam false 1 t15 H (K' · H)) λt16=>
 zaQ H (λH K'=>ACalls tP zcQ [t14,t16] H K') λt17=>
 zad H (λK'=>K' t12 H) λt5=>
 zad H (λK'=>K' t17 H) λt6=>
 zaf 2 t2 λt18=>
 zae false 1 t18 H λt19=>
 zaf 2 t3 λt20=>
 zae false 1 t20 H λt21=>
 ACalls tP zcQ [t19,t21] H λt22 H=>
 zaf 0 t2 λt23=>
 zae false 1 t23 H λt24=>
 zaf 0 t3 λt25=>
 zae false 1 t25 H λt26=>
 zac .eql true t24 t26 λt27=>
 zag t27
 (zad H (λK'=>zaf 0 t2 (K' · H)) λt28=>
 zad H (λK'=>zam false 1 t28 H (K' · H)) λt29=>
 zad H (λK'=>K' t5 H) λt30=>
 zad H (λK'=>K' t6 H) λt31=>
 zaQ H (λH K'=>ACalls tP zo3 [t30,t31] H K') λt32=>
 zad H (λK'=>K' t22 H) λt33=>
 zad H (λK'=>zao [(.bool false),.snil,.snil] [(0,1),(1,1),(2,1)] [(0,t29),(1,t32),(2,t33)] (K' · H)) λt34=>
 zak 3 t4 t34 H λH=>
 zae true 3 t4 H λr0=>
 K r0 H)
 (ACalls tP zh9 [t5,t6] H λt37 H=>
 zac .geq false t37 (.int .i64 0) λt38=>
 zag t38
 (zad H (λK'=>zaf 0 t2 (K' · H)) λt39=>
 zad H (λK'=>zam false 1 t39 H (K' · H)) λt40=>
 zad H (λK'=>K' t5 H) λt41=>
 zad H (λK'=>K' t6 H) λt42=>
 zaQ H (λH K'=>ACalls tP zvv [t41,t42] H K') λt43=>
 zad H (λK'=>K' t22 H) λt44=>
 zad H (λK'=>zao [(.bool false),.snil,.snil] [(0,1),(1,1),(2,1)] [(0,t40),(1,t43),(2,t44)] (K' · H)) λt45=>
 zak 3 t4 t45 H λH=>
 zae true 3 t4 H λr0=>
 K r0 H)
 (zad H (λK'=>zaf 0 t3 (K' · H)) λt46=>
 zad H (λK'=>zam false 1 t46 H (K' · H)) λt47=>
 zad H (λK'=>K' t6 H) λt48=>
 zad H (λK'=>K' t5 H) λt49=>
 zaQ H (λH K'=>ACalls tP zvv [t48,t49] H K') λt50=>
 zad H (λK'=>K' t22 H) λt51=>
 zad H (λK'=>zao [(.bool false),.snil,.snil] [(0,1),(1,1),(2,1)] [(0,t47),(1,t50),(2,t51)] (K' · H)) λt52=>
 zak 3 t4 t52 H λH=>
 zae true 3 t4 H λr0=>
 K r0 H))
theorem zHJ{t0 t1:AV}{H:zaa}{K:Kt}(h:HSc H→zxG t0 t1 H K):ACalls tP zoQ [t0,t1] H K:=
 zan (M:=zHH) Tryz.func110 (c:=zHI) (by kernel_rfl) (λhs=>Eq.mpr (by kernel_rfl) (h hs))
def zPl(_:Nat):List Bool:=[]
noncomputable def zPm:Code:=Tryz.f82.body.getD .skip
def zsW(t0:AV)(H:zaa)(K:Kt):Prop:=
 zaw t0 H λt1 H=>
 zaf 1 t1 λt4=>
 zae false 1 t4 H λt5=>
 zah 1 t5 λt6=>
 zac .eql false t6 (.int .i64 0) λt7=>
 zag t7
 (K (.int .i64 0) H)
 (zaf 0 t1 λt9=>
 zae false 1 t9 H λt10=>
 zag t10
 (K (.int .i64 (-1)) H)
 (K (.int .i64 1) H))
theorem zPn{t0:AV}{H:zaa}{K:Kt}(h:HSc H→zsW t0 H K):ACalls tP zh8 [t0] H K:=
 zan (M:=zPl) Tryz.func82 (c:=zPm) (by kernel_rfl) (λhs=>Eq.mpr (by kernel_rfl) (h hs))
def znf:Nat→List Bool
 |6=>rl false [0,2,3,1,37]
 |_=>[]
noncomputable def zsX:Code:=Tryz.f83.body.getD .skip
noncomputable def zPt:List ResultVar:=Tryz.f83.results.toList
def zng(t0 t1 t5:AV):List AV:=t0::t1::ux 3 (t5::ux 37 [])
def zPr:List Bool:=znf 6
noncomputable def zPp:Code:=zaq [1,1,0,1,0,0] zsX
def zPo(K:Kt):AExit→List AV→zaa→Prop:=zar tP znf [1,1,0,1,0] zsX (zaB tP zPt K)
def zAT(t0 t1 t5:AV)(H:zaa)(K:Kt):Prop:=ALoop tP zPp (zPo K) (zng t0 t1 t5) H
def zi4(t0 t1 t5:AV)(H:zaa)(K:Kt)(Kb6:Lt):Prop:=
 zac .geq false t5 (.int .i64 0) λt20=>
 zag t20
 (zad H (λK'=>K' t0 H) λt24=>
 zad H (λK'=>K' t5 H) λt25=>
 zad H (λK'=>zaj 1 t24 t25 (K' · H)) λt26=>
 zad H (λK'=>zam false 1 t26 H (K' · H)) λt27=>
 zad H (λK'=>K' t1 H) λt28=>
 zad H (λK'=>K' t5 H) λt29=>
 zad H (λK'=>zaj 1 t28 t29 (K' · H)) λt30=>
 zad H (λK'=>zam false 1 t30 H (K' · H)) λt31=>
 zad H (λK'=>zac .lss false t27 t31 (K' · H)) λt32=>
 zad H (λK'=>K' t32 H) λt23=>
 zag t23
 (K (.int .i64 (-1)) H)
 (zad H (λK'=>K' t0 H) λt34=>
 zad H (λK'=>K' t5 H) λt35=>
 zad H (λK'=>zaj 1 t34 t35 (K' · H)) λt36=>
 zad H (λK'=>zam false 1 t36 H (K' · H)) λt37=>
 zad H (λK'=>K' t1 H) λt38=>
 zad H (λK'=>K' t5 H) λt39=>
 zad H (λK'=>zaj 1 t38 t39 (K' · H)) λt40=>
 zad H (λK'=>zam false 1 t40 H (K' · H)) λt41=>
 zad H (λK'=>zac .gtr false t37 t41 (K' · H)) λt42=>
 zad H (λK'=>K' t42 H) λt33=>
 zag t33
 (K (.int .i64 1) H)
 (zac .sub false t5 (.int .i64 1) λt22=>
 Kb6 (zng t0 t1 t22) H)))
 (K (.int .i64 0) H)
def zne(t0 t1:AV)(H:zaa)(K:Kt):Prop:=
 zah 1 t0 λt7=>
 zah 1 t1 λt9=>
 zac .neq false t7 t9 λt10=>
 zag t10
 (zah 1 t0 λt12=>
 zah 1 t1 λt14=>
 zac .lss false t12 t14 λt15=>
 zag t15
 (K (.int .i64 (-1)) H)
 (K (.int .i64 1) H))
 (zah 1 t0 λt17=>
 zac .sub false t17 (.int .i64 1) λt18=>
 zAT t0 t1 t18 H K)
theorem zPq{t0 t1 t5:AV}{H:zaa}{K:Kt}(Inv:Nat→AV→zaa→Prop)(n:Nat)(h0:HSc H→Inv n t5 H)(round:Rd1 (λt5=>zng t0 t1 t5) (λt5=>λH Kb6=>zi4 t0 t1 t5 H K Kb6) H Inv):zAT t0 t1 t5 H K:=
 lp1 (M:=znf) zPr t5 (by kernel_rfl) Inv n h0 round
theorem zPs{t0 t1:AV}{H:zaa}{K:Kt}(h:HSc H→zne t0 t1 H K):ACalls tP zh9 [t0,t1] H K:=
 zan (M:=znf) Tryz.func83 (c:=zsX) (by kernel_rfl) (λhs=>Eq.mpr (by kernel_rfl) (h hs))
def zlq:Nat→List Bool
 |2=>rl false [0,1,2,1,11]
 |_=>[]
noncomputable def zqJ:Code:=Tryz.f117.body.getD .skip
noncomputable def zH9:List ResultVar:=Tryz.f117.results.toList
def zlr(t0 t3:AV):List AV:=t0::ux 2 (t3::ux 11 [])
def zH7:List Bool:=zlq 2
noncomputable def zH5:Code:=zaq [1,1,0,0,0] zqJ
def zH4(K:Kt):AExit→List AV→zaa→Prop:=zar tP zlq [1,1,0,0] zqJ (zaB tP zH9 K)
def zls(t0 t3:AV)(H:zaa)(K:Kt):Prop:=ALoop tP zH5 (zH4 K) (zlr t0 t3) H
def zqI(t0 t3:AV)(H:zaa)(K:Kt)(Kb2:Lt):Prop:=
 zac .gtr false t0 (.int .u64 0) λt5=>
 zag t5
 (zac .rem false t0 (.int .u64 1000000000) λt10=>
 zbJ .u32 t10 λt11=>
 zas 1 [(.int .u32 0)] 1 [(0,t11)] λt12=>
 zax zbX 1 4 t3 t12 H λt13 H=>
 zac .quo false t0 (.int .u64 1000000000) λt7=>
 Kb2 (zlr t7 t13) H)
 (K t3 H)
def zxL(t0:AV)(H:zaa)(K:Kt):Prop:=
 zls t0 .snil H K
theorem zH6{t0 t3:AV}{H:zaa}{K:Kt}(Inv:Nat→AV→AV→zaa→Prop)(n:Nat)(h0:HSc H→Inv n t0 t3 H)(round:Rd2 (λt0=>λt3=>zlr t0 t3) (λt0=>λt3=>λH Kb2=>zqI t0 t3 H K Kb2) H Inv):zls t0 t3 H K:=
 lp2 (M:=zlq) zH7 t0 t3 (by kernel_rfl) Inv n h0 round
theorem zH8{t0:AV}{H:zaa}{K:Kt}(h:HSc H→zxL t0 H K):ACalls tP zjQ [t0] H K:=
 zan (M:=zlq) Tryz.func117 (c:=zqJ) (by kernel_rfl) (λhs=>Eq.mpr (by kernel_rfl) (h hs))
def zHy(_:Nat):List Bool:=[]
noncomputable def zHz:Code:=Tryz.f108.body.getD .skip
def zqx(t0:AV)(H:zaa)(K:Kt):Prop:=
 zaw t0 H λt1 H=>
 zay [(.bool false),.snil,.snil] H λt2 H=>
 zaf 1 t1 λt8=>
 zae false 1 t8 H λt9=>
 zah 1 t9 λt10=>
 zac .eql false t10 (.int .i64 0) λt11=>
 zag t11
 (zas 1 [(.int .u32 0)] 1 [(0,(.int .u32 1))] λt12=>
 zao [(.bool false),.snil,.snil] [(0,1),(1,1),(2,1)] [(2,t12)] λt13=>
 zak 3 t2 t13 H λH=>
 zae true 3 t2 H λr0=>
 K r0 H)
 (zaf 2 t1 λt14=>
 zae false 1 t14 H λt15=>
 ACalls tP zjX [t15] H λt16 H=>
 zag t16
 (zae true 3 t1 H λt17=>
 zak 3 t2 t17 H λH=>
 zae true 3 t2 H λr0=>
 K r0 H)
 (zaf 1 t1 λt18=>
 zae false 1 t18 H λt19=>
 zaf 2 t1 λt20=>
 zae false 1 t20 H λt21=>
 ACalls tP zEd [t19,t21] H λt22 H=>
 ACalls tP zjX [t22] H λt24 H=>
 zag t24
 (zae true 3 t1 H λt25=>
 zak 3 t2 t25 H λH=>
 zae true 3 t2 H λr0=>
 K r0 H)
 (zaf 1 t1 λt27=>
 zae false 1 t27 H λt28=>
 ACalls tP zvu [t28,t22] H λt30 H=>
 zaN t30 0 λt31=>
 zaN t30 1 λt32=>
 zaf 2 t1 λt34=>
 zae false 1 t34 H λt35=>
 ACalls tP zvu [t35,t22] H λt37 H=>
 zaN t37 0 λt38=>
 zaN t37 1 λt39=>
 zaf 0 t1 λt40=>
 zae false 1 t40 H λt41=>
 zao [(.bool false),.snil,.snil] [(0,1),(1,1),(2,1)] [(0,t41),(1,t31),(2,t38)] λt44=>
 zak 3 t2 t44 H λH=>
 zae true 3 t2 H λr0=>
 K r0 H)))
theorem zHA{t0:AV}{H:zaa}{K:Kt}(h:HSc H→zqx t0 H K):ACalls tP zoP [t0] H K:=
 zan (M:=zHy) Tryz.func108 (c:=zHz) (by kernel_rfl) (λhs=>Eq.mpr (by kernel_rfl) (h hs))
def zlc:Nat→List Bool
 |300000=>rl false [0,1]
 |300001=>rl false [0,1]
 |300002=>rl false [0,1]
 |300003=>rl false [0,1]
 |4=>rl false [0,1,2,2,7,2,27]
 |_=>[]
noncomputable def zqw:Code:=Tryz.f107.body.getD .skip
noncomputable def zHx:List ResultVar:=Tryz.f107.results.toList
def zle(t0 t3 t4 t12 t13:AV):List AV:=t0::ux 2 (t3::t4::ux 7 (t12::t13::ux 27 []))
def zHv:List Bool:=zlc 4
noncomputable def zHt:Code:=zaq [1,1,1,0,1,0,0] zqw
def zHs(K:Kt):AExit→List AV→zaa→Prop:=zar tP zlc [1,1,1,0,1,0] zqw (zaB tP zHx K)
def zxE(t0 t3 t4 t12 t13:AV)(H:zaa)(K:Kt):Prop:=ALoop tP zHt (zHs K) (zle t0 t3 t4 t12 t13) H
def zlf(t3:AV)(H:zaa)(K:Kt):Prop:=
 ACalls tP zgx [t3] H λt40 H=>
 K t40 H
def zld(t0 t3 t4 t12 t13:AV)(H:zaa)(K:Kt)(Kb4:Lt):Prop:=
 zac .lss false t13 t12 λt14=>
 zag t14
 (zaj 1 t0 t13 λt18=>
 zae false 1 t18 H λt19=>
 zbJ .u64 t19 λt20=>
 zac .add false t20 t4 λt22=>
 zac .rem false t22 (.int .u64 1000000000) λt25=>
 zbJ .u32 t25 λt26=>
 zas 1 [(.int .u32 0)] 1 [(0,t26)] λt27=>
 zax zbX 1 4 t3 t27 H λt28 H=>
 zac .quo false t22 (.int .u64 1000000000) λt30=>
 zac .add false t13 (.int .i64 1) λt31=>
 Kb4 (zle t0 t28 t30 t12 t31) H)
 (zac .gtr false t4 (.int .u64 0) λt33=>
 zag t33
 (zbJ .u32 t4 λt36=>
 zas 1 [(.int .u32 0)] 1 [(0,t36)] λt37=>
 zax zbX 1 4 t3 t37 H λt38 H=>
 zlf t38 H K)
 (zlf t3 H K))
def zxD(t0:AV)(H:zaa)(K:Kt):Prop:=
 zah 1 t0 λt8=>
 zac .add false t8 (.int .i64 1) λt9=>
 zep zbX 1 4 t9 H λt10 H=>
 zah 1 t0 λt12=>
 zxE t0 t10 (.int .u64 0) t12 (.int .i64 0) H K
theorem zHu{t0 t3 t4 t12 t13:AV}{H:zaa}{K:Kt}(Inv:Nat→AV→AV→AV→zaa→Prop)(n:Nat)(h0:HSc H→Inv n t3 t4 t13 H)(round:Rd3 (λt3=>λt4=>λt13=>zle t0 t3 t4 t12 t13) (λt3=>λt4=>λt13=>λH Kb4=>zld t0 t3 t4 t12 t13 H K Kb4) H Inv):zxE t0 t3 t4 t12 t13 H K:=
 lp3 (M:=zlc) zHv t3 t4 t13 (by kernel_rfl) Inv n h0 round
theorem zHw{t0:AV}{H:zaa}{K:Kt}(h:HSc H→zxD t0 H K):ACalls tP zhP [t0] H K:=
 zan (M:=zlc) Tryz.func107 (c:=zqw) (by kernel_rfl) (λhs=>Eq.mpr (by kernel_rfl) (h hs))
def zln:Nat→List Bool
 |2=>rl false [0,1,2,1,17]
 |_=>[]
noncomputable def zqH:Code:=Tryz.f116.body.getD .skip
noncomputable def zH3:List ResultVar:=Tryz.f116.results.toList
def zlp(t0 t3:AV):List AV:=t0::ux 2 (t3::ux 17 [])
def zH1:List Bool:=zln 2
noncomputable def zHZ:Code:=zaq [1,1,0,0,0] zqH
def zHY(K:Kt):AExit→List AV→zaa→Prop:=zar tP zln [1,1,0,0] zqH (zaB tP zH3 K)
def zxK(t0 t3:AV)(H:zaa)(K:Kt):Prop:=ALoop tP zHZ (zHY K) (zlp t0 t3) H
def zlo(t0 t3:AV)(H:zaa)(K:Kt)(Kb2:Lt):Prop:=
 zac .gtr false t3 (.int .i64 0) λt7=>
 zab t7 true H (λK'=>K' t0 H) λt9 H=>
 zab t7 true H (λK'=>K' t3 H) λt10 H=>
 zab t7 true H (λK'=>zac .sub false t10 (.int .i64 1) (K' · H)) λt11 H=>
 zab t7 true H (λK'=>zaj 1 t9 t11 (K' · H)) λt12 H=>
 zab t7 true H (λK'=>zae false 1 t12 H (K' · H)) λt13 H=>
 zab t7 true H (λK'=>zac .eql false t13 (.int .u32 0) (K' · H)) λt14 H=>
 zai t7 t14 (.bool false) λt15=>
 zag t15
 (zac .sub false t3 (.int .i64 1) λt17=>
 Kb2 (zlp t0 t17) H)
 (za7 1 1 t0 none (some t3) λt20=>
 K t20 H)
def zxJ(t0:AV)(H:zaa)(K:Kt):Prop:=
 zah 1 t0 λt5=>
 zxK t0 t5 H K
theorem zH0{t0 t3:AV}{H:zaa}{K:Kt}(Inv:Nat→AV→zaa→Prop)(n:Nat)(h0:HSc H→Inv n t3 H)(round:Rd1 (λt3=>zlp t0 t3) (λt3=>λH Kb2=>zlo t0 t3 H K Kb2) H Inv):zxK t0 t3 H K:=
 lp1 (M:=zln) zH1 t3 (by kernel_rfl) Inv n h0 round
theorem zH2{t0:AV}{H:zaa}{K:Kt}(h:HSc H→zxJ t0 H K):ACalls tP zgx [t0] H K:=
 zan (M:=zln) Tryz.func116 (c:=zqH) (by kernel_rfl) (λhs=>Eq.mpr (by kernel_rfl) (h hs))
def zl1:Nat→List Bool
 |300000=>rl false [0,1]
 |300001=>rl false [0,1]
 |300002=>rl false [0,1]
 |300003=>rl false [0,1]
 |300004=>rl false [0,1]
 |6=>rl false [0,2,3,2,14,2,33]
 |_=>[]
noncomputable def zrB:Code:=Tryz.f156.body.getD .skip
noncomputable def zKx:List ResultVar:=Tryz.f156.results.toList
def zl2(t0 t1 t5 t6 t21 t22:AV):List AV:=t0::t1::ux 3 (t5::t6::ux 14 (t21::t22::ux 33 []))
def zKv:List Bool:=zl1 6
noncomputable def zKt:Code:=zaq [1,1,1,1,0,1,0,0] zrB
def zKs(K:Kt):AExit→List AV→zaa→Prop:=zar tP zl1 [1,1,1,1,0,1,0] zrB (zaB tP zKx K)
def zyM(t0 t1 t5 t6 t21 t22:AV)(H:zaa)(K:Kt):Prop:=ALoop tP zKt (zKs K) (zl2 t0 t1 t5 t6 t21 t22) H
def zl4(t0 t1 t5 t8 t21 t22:AV)(H:zaa)(K:Kt)(Kb6:Lt):Prop:=
 zac .quo false t8 (.int .u32 1000000000) λt42=>
 zac .rem false t8 (.int .u32 1000000000) λt45=>
 zas 1 [(.int .u32 0)] 1 [(0,t45)] λt46=>
 zax zbX 1 4 t5 t46 H λt47 H=>
 zac .add false t22 (.int .i64 1) λt48=>
 Kb6 (zl2 t0 t1 t47 t42 t21 t48) H
def zl5(t5:AV)(H:zaa)(K:Kt):Prop:=
 K t5 H
def ziD(t0 t1 t5 t6 t21 t22:AV)(H:zaa)(K:Kt)(Kb6:Lt):Prop:=
 zac .lss false t22 t21 λt23=>
 zag t23
 (zaj 1 t0 t22 λt27=>
 zae false 1 t27 H λt28=>
 zac .add false t28 t6 λt30=>
 zah 1 t1 λt33=>
 zac .lss false t22 t33 λt34=>
 zag t34
 (zaj 1 t1 t22 λt38=>
 zae false 1 t38 H λt39=>
 zac .add false t30 t39 λt40=>
 zl4 t0 t1 t5 t40 t21 t22 H K Kb6)
 (zl4 t0 t1 t5 t30 t21 t22 H K Kb6))
 (zac .gtr false t6 (.int .u32 0) λt50=>
 zag t50
 (zas 1 [(.int .u32 0)] 1 [(0,t6)] λt53=>
 zax zbX 1 4 t5 t53 H λt54 H=>
 zl5 t54 H K)
 (zl5 t5 H K))
def zl3(t0 t1:AV)(H:zaa)(K:Kt):Prop:=
 zah 1 t0 λt17=>
 zac .add false t17 (.int .i64 1) λt18=>
 zep zbX 1 4 t18 H λt19 H=>
 zah 1 t0 λt21=>
 zyM t0 t1 t19 (.int .u32 0) t21 (.int .i64 0) H K
def zrA(t0 t1:AV)(H:zaa)(K:Kt):Prop:=
 zah 1 t0 λt10=>
 zah 1 t1 λt12=>
 zac .lss false t10 t12 λt13=>
 zag t13
 (zl3 t1 t0 H K)
 (zl3 t0 t1 H K)
theorem zKu{t0 t1 t5 t6 t21 t22:AV}{H:zaa}{K:Kt}(Inv:Nat→AV→AV→AV→zaa→Prop)(n:Nat)(h0:HSc H→Inv n t5 t6 t22 H)(round:Rd3 (λt5=>λt6=>λt22=>zl2 t0 t1 t5 t6 t21 t22) (λt5=>λt6=>λt22=>λH Kb6=>ziD t0 t1 t5 t6 t21 t22 H K Kb6) H Inv):zyM t0 t1 t5 t6 t21 t22 H K:=
 lp3 (M:=zl1) zKv t5 t6 t22 (by kernel_rfl) Inv n h0 round
theorem zKw{t0 t1:AV}{H:zaa}{K:Kt}(h:HSc H→zrA t0 t1 H K):ACalls tP zo3 [t0,t1] H K:=
 zan (M:=zl1) Tryz.func156 (c:=zrB) (by kernel_rfl) (λhs=>Eq.mpr (by kernel_rfl) (h hs))
def zKp(_:Nat):List Bool:=[]
noncomputable def zKq:Code:=Tryz.f153.body.getD .skip
def zl0(t0:AV)(H:zaa)(K:Kt):Prop:=
 zah 1 t0 λt4=>
 zac .eql false t4 (.int .i64 1) λt5=>
 zab t5 true H (λK'=>K' t0 H) λt7 H=>
 zab t5 true H (λK'=>zaj 1 t7 (.int .i64 0) (K' · H)) λt8 H=>
 zab t5 true H (λK'=>zae false 1 t8 H (K' · H)) λt9 H=>
 zab t5 true H (λK'=>zac .eql false t9 (.int .u32 1) (K' · H)) λt10 H=>
 zai t5 t10 (.bool false) λt11=>
 K t11 H
theorem zKr{t0:AV}{H:zaa}{K:Kt}(h:HSc H→zl0 t0 H K):ACalls tP zjX [t0] H K:=
 zan (M:=zKp) Tryz.func153 (c:=zKq) (by kernel_rfl) (λhs=>Eq.mpr (by kernel_rfl) (h hs))
def zPB(_:Nat):List Bool:=[]
noncomputable def zPC:Code:=Tryz.f85.body.getD .skip
def zAY(t0:AV)(H:zaa)(K:Kt):Prop:=
 zaw t0 H λt1 H=>
 zae true 3 t1 H λt3=>
 ACalls tP zd6 [t3] H λt4 H=>
 ACalls tP zh8 [t4] H λt5 H=>
 K t5 H
theorem zPD{t0:AV}{H:zaa}{K:Kt}(h:HSc H→zAY t0 H K):ACalls tP ze9 [t0] H K:=
 zan (M:=zPB) Tryz.func85 (c:=zPC) (by kernel_rfl) (λhs=>Eq.mpr (by kernel_rfl) (h hs))
end Go.Proofs.YtaifokkaaahdoaaGreatDoor

namespace Go.Proofs.YtaifokkaaahdoaaGreatDoor
open Go Go.Abs
set_option maxRecDepth 100000
end Go.Proofs.YtaifokkaaahdoaaGreatDoor

namespace Go.Abs
def zau:List Nat→Nat
 |[]=>0
 |x::l=>x+1000000000*zau l
def lim(n:Nat):List Nat:=if _h:n=0 then [] else n % 1000000000::lim (n / 1000000000)
termination_by n
decreasing_by exact Nat.div_lt_self (by omega) (by decide)
@[simp] theorem zDP:lim 0=[]:=by rw[lim];rfl
theorem zc2{n:Nat}(h:n≠0):lim n=n % 1000000000::lim (n / 1000000000):=by rw[lim,dif_neg h]
theorem zc3(n:Nat):zau (lim n)=n:=by
 induction n using Nat.strongRecOn with
 |_ n ih=>
  by_cases h:n=0
  ·subst h;simp[zau]
  ·rw[zc2 h,zau,ih _ (Nat.div_lt_self (by omega) (by decide))];exact Nat.mod_add_div n 1000000000
theorem zdH(n:Nat):∀x∈lim n,x<1000000000:=by
 induction n using Nat.strongRecOn with
 |_ n ih=>
  by_cases h:n=0
  ·subst h;simp
  ·rw[zc2 h];intro x hx;rcases List.mem_cons.1 hx with rfl | hx
   ·exact Nat.mod_lt _ (by decide)
   ·exact ih _ (Nat.div_lt_self (by omega) (by decide)) x hx
theorem lim_nil{n:Nat}:lim n=[]↔n=0:=by
 by_cases h:n=0
 ·simp[h]
 ·rw[zc2 h];simp[h]
def zbM:List Nat→List Nat
 |[]=>[]
 |x::l=>if x=0∧zbM l=[] then [] else x::zbM l
theorem zhK:∀ (a b:List Nat),zau (a++b)=zau a+1000000000 ^ a.length*zau b
 |[],b=>by simp[zau]
 |x::a,b=>by simp only[List.cons_append,zau,zhK a b,List.length_cons,Nat.pow_succ];grind
theorem zkI:∀ (l:List Nat),(∀ x∈l,x<1000000000)→zbM l=lim (zau l)
 |[],_=>by simp[zbM,zau]
 |x::l,h=>by
  have hx:=h x (by simp);have ih:=zkI l (λy hy=>h y (by simp[hy]));rw[zbM,zau,ih];have e1:(x+1000000000*zau l) % 1000000000=x:=by rw[Nat.add_mul_mod_self_left,Nat.mod_eq_of_lt hx]
  have e2:(x+1000000000*zau l) / 1000000000=zau l:=by rw[Nat.add_mul_div_left _ _ (by decide),Nat.div_eq_of_lt hx];omega
  by_cases h0:x=0∧lim (zau l)=[]
  ·rw[if_pos h0];have:=lim_nil.1 h0.2;rw[this,h0.1];simp
  ·rw[if_neg h0];have:x+1000000000*zau l≠0:=by
    intro h1;refine h0 ⟨by omega,lim_nil.2 ?_⟩;have:1000000000*zau l=0:=by omega
    rcases Nat.mul_eq_zero.1 this with h2|h2
    ·cases h2
    ·exact h2
   rw[zc2 this,e1,e2]
theorem zgw:∀ (l:List Nat),(∀ x∈l,x<1000000000)→zau l<1000000000 ^ l.length
 |[],_=>by simp[zau]
 |x::l,h=>by have hx:=h x (by simp);have ih:=zgw l (λy hy=>h y (by simp[hy]));simp only[zau,List.length_cons,Nat.pow_succ];have:1000000000*(zau l+1)≤1000000000*1000000000 ^ l.length:=Nat.mul_le_mul_left _ ih;rw[Nat.mul_comm (1000000000 ^ l.length)];rw[Nat.mul_succ]at this;omega
theorem zdo{n k:Nat}(h:n<1000000000 ^ k):(lim n).length≤k:=by
 induction k generalizing n with
 | zero => have : n = 0 := by simp at h; omega
           subst this;simp
 |succ k ih=>
  by_cases h0:n=0
  ·subst h0;simp
  ·rw[zc2 h0,List.length_cons];have:=ih (n:=n / 1000000000) (Nat.div_lt_of_lt_mul (by rw[Nat.pow_succ,Nat.mul_comm]at h;exact h));omega
theorem zvc{n:Nat}(h:n≠0):1000000000 ^ ((lim n).length-1)≤n:=by
 induction n using Nat.strongRecOn with
 |_ n ih=>
  rw[zc2 h,List.length_cons,Nat.add_sub_cancel];by_cases h1:n / 1000000000=0
  ·rw[h1];simp;omega
  ·have:=ih (n / 1000000000) (Nat.div_lt_self (by omega) (by decide)) h1;have hl:0<(lim (n / 1000000000)).length:=by rw[zc2 h1];simp
   have e:(lim (n / 1000000000)).length=(lim (n / 1000000000)).length-1+1:=by omega
   rw[e,Nat.pow_succ];calc _≤(n / 1000000000)*1000000000:=Nat.mul_le_mul_right _ this
    _≤n:=Nat.div_mul_le_self _ _
theorem zDO{n:Nat}(h0:n≠0)(h:n<1000000000):lim n=[n]:=by rw[zc2 h0,Nat.mod_eq_of_lt h,Nat.div_eq_of_lt h];simp
theorem zoG:∀ (l:List Nat) (j:Nat) (x:Nat) (h:j<l.length),zau (l.set j x)+l[j]*1000000000 ^ j=zau l+x*1000000000 ^ j
 |[],j,x,h=>by simp at h
 |y::l,0,x,h=>by simp[zau];omega
 |y::l,j+1,x,h=>by have:=zoG l j x (by simpa using h);simp only[List.set_cons_succ,zau,List.getElem_cons_succ,Nat.pow_succ];grind
theorem zhM(l:List Nat)(i:Nat)(h:i<l.length):zau (l.take (i+1))=zau (l.take i)+l[i]*1000000000 ^ i:=by rw[List.take_succ_eq_append_getElem h,zhK];simp[zau,Nat.min_eq_left (Nat.le_of_lt h)];exact Nat.mul_comm _ _
theorem zD8(n:Nat):zau (List.replicate n 0)=0:=by
 induction n with
 |zero=>rfl
 |succ n ih=>rw[List.replicate_succ,zau,ih]
theorem zvn{a b:Nat}(h:(lim a).length<(lim b).length):a<b:=by
 by_cases hb:b=0
 ·subst hb;simp at h
 ·have h1:=zvc hb;have h2:=zgw (lim a) (zdH a);rw[zc3]at h2;exact Nat.lt_of_lt_of_le h2 (Nat.le_trans (Nat.pow_le_pow_right (by decide) (by omega)) h1)
end Go.Abs
namespace Go.Abs
open Go Go.RowKit
def zap(l:List Nat):List (List AV):=l.map λ(n:Nat)=>[AV.int .u32 (n:Int)]
@[simp] theorem zUn(l:List Nat):(zap l).length=l.length:=by simp[zap]
theorem zGv(l:List Nat)(n:Nat):(zap l).take n=zap (l.take n):=by simp[zap,List.map_take]
theorem zUm{l:List Nat}{i:Nat}(h:i<l.length):(zap l)[i]?.getD []=[.int .u32 ((l[i]:Nat):Int)]:=by simp[zap,h]
@[simp] theorem zUl{l:List Nat}{i:Nat}(h:i<(zap l).length):(zap l)[i]=[.int .u32 (((l[i]'(by simpa using h)):Nat):Int)]:=by simp[zap]
theorem zim(l:List Nat):∀c∈zap l,c.length=1:=by intro c hc;simp only[zap,List.mem_map]at hc;obtain⟨n,_,rfl⟩:=hc;rfl
theorem zGa{L:List Nat}{n:Nat}(hn:0<n)(h:n≤L.length)(h0:L[n-1]=0):zbM (L.take n)=zbM (L.take (n-1)):=by
 obtain⟨m,rfl⟩:∃m,n=m+1:=⟨n-1,by omega⟩;simp only[Nat.add_sub_cancel]at h0 ⊢;rw[List.take_succ_eq_append_getElem (by omega),h0];generalize L.take m=A;induction A with
 |nil=>simp[zbM]
 |cons a A ih=>rw[List.cons_append,zbM,zbM,ih]
theorem zF9{L:List Nat}{n:Nat}(hn:0<n)(h:n≤L.length)(h0:L[n-1]≠0):zbM (L.take n)=L.take n:=by
 obtain⟨m,rfl⟩:∃m,n=m+1:=⟨n-1,by omega⟩;simp only[Nat.add_sub_cancel]at h0;rw[List.take_succ_eq_append_getElem (by omega)];generalize hx:L[m]=x at h0;generalize L.take m=A;induction A with
 |nil=>simp[zbM,h0]
 |cons a A ih=>rw[List.cons_append,zbM,ih,if_neg];rintro⟨_,h⟩;simp at h
theorem zgY{n:Nat}(h:n<4294967296):IntKind.u32.wrap (n:Int)=n:=IntWalk.u32_in _ ⟨by omega,by omega⟩
theorem zcV{n:Nat}(h:n<18446744073709551616):IntKind.u64.wrap (n:Int)=n:=IntWalk.u64_in _ ⟨by omega,by omega⟩
theorem zBN{k:AV→Prop}(b:Bool)(j:IntKind)(m n:Nat)(hn:n≠0):zac .rem b (.int j m) (.int j n) k=k (.int j ((m % n:Nat):Int)):=by simp only[zca,ne_eq,Int.natCast_eq_zero,hn,not_false_eq_true,true_and];rfl
theorem zBM{k:AV→Prop}(b:Bool)(j:IntKind)(m n:Nat)(hn:n≠0):zac .quo b (.int j m) (.int j n) k=k (.int j (j.wrap ((m / n:Nat):Int))):=by simp only[zca,ne_eq,Int.natCast_eq_zero,hn,not_false_eq_true,true_and];rfl
theorem ztA{k:AV→Prop}(b:Bool)(j:IntKind)(m:Nat):zac .rem b (.int j m) (.int j 1000000000) k=k (.int j ((m % 1000000000:Nat):Int)):=zBN b j m 1000000000 (by decide)
theorem ztz{k:AV→Prop}(b:Bool)(j:IntKind)(m:Nat):zac .quo b (.int j m) (.int j 1000000000) k=k (.int j (j.wrap ((m / 1000000000:Nat):Int))):=zBM b j m 1000000000 (by decide)
theorem zBL{k:AV→Prop}(b:Bool){m:Nat}(h:m<18446744073709551616):zac .quo b (.int .u64 m) (.int .u64 1000000000) k=k (.int .u64 ((m / 1000000000:Nat):Int)):=by rw[ztz,zcV (by have:=Nat.div_le_self m 1000000000;omega)]
theorem zBK{k:AV→Prop}(b:Bool){m:Nat}(h:m<4294967296):zac .quo b (.int .u32 m) (.int .u32 1000000000) k=k (.int .u32 ((m / 1000000000:Nat):Int)):=by rw[ztz,zgY (by have:=Nat.div_le_self m 1000000000;omega)]
theorem zvs(m:Nat):m % 1000000000<1000000000:=Nat.mod_lt _ (by decide)
theorem sN(l:List Nat)(x:Nat):zap l++[[AV.int .u32 (x:Int)]]=zap (l++[x]):=by simp[zap]
theorem zn6(s:Nat)(h:s<18446744073709551616):∃ x c:Nat,x<1000000000∧s=x+1000000000*c∧IntKind.u32.wrap (x:Int)=x ∧
  (∀(b:Bool) (k:AV→Prop),zac .rem b (.int .u64 s) (.int .u64 1000000000) k=k (.int .u64 x))∧∀(b:Bool) (k:AV→Prop),zac .quo b (.int .u64 s) (.int .u64 1000000000) k=k (.int .u64 c):=
 ⟨s % 1000000000,s / 1000000000,zvs s,by omega,zgY (by omega),λb k=>ztA b .u64 s,λb k=>zBL b h⟩
theorem zCY(s:Nat)(h:s<4294967296):∃ x c:Nat,x<1000000000∧s=x+1000000000*c ∧
  (∀(b:Bool) (k:AV→Prop),zac .rem b (.int .u32 s) (.int .u32 1000000000) k=k (.int .u32 x))∧∀(b:Bool) (k:AV→Prop),zac .quo b (.int .u32 s) (.int .u32 1000000000) k=k (.int .u32 c):=
 ⟨s % 1000000000,s / 1000000000,zvs s,by omega,λb k=>ztA b .u32 s,λb k=>zBK b h⟩
theorem wi(i:Nat)(h:i<1000000000):IntKind.i64.wrap ((i:Int)+1)=((i+1:Nat):Int):=by rw[zav (by omega) (by omega)];omega
theorem zwN:∀ l:List Nat,(zbM l).length≤l.length∧((zbM l).length=l.length→zbM l=l)
 |[]=>by simp[zbM]
 |x::l=>by
  obtain⟨h1,h2⟩:=zwN l;rw[zbM];split
  ·simp
  ·simp only[List.length_cons];exact⟨by omega,λh=>by rw[h2 (by omega)]⟩
theorem zvb{n k:Nat}(h:1000000000 ^ k≤n):k<(lim n).length:=by have h1:=zgw (lim n) (zdH n);rw[zc3]at h1;refine Nat.lt_of_not_le λh2=>?_;have:=Nat.pow_le_pow_right (show 0<1000000000 by omega) h2;omega
theorem zt3{R:List Nat}(hR:∀x∈R,x<1000000000)(h:R.length≤(lim (zau R)).length):R=lim (zau R):=by have h1:=zkI R hR;obtain⟨h2,h3⟩:=zwN R;rw[←h1,h3 (by rw[h1]at h2 ⊢;omega)]
end Go.Abs
namespace Go.Proofs.YtaifokkaaahdoaaGreatDoor
open Go Go.Abs
end Go.Proofs.YtaifokkaaahdoaaGreatDoor
namespace Go.Abs
open Go Go.RowKit
variable {P:Program} {B:Nat} {w:World} {G:Gh} {H:zaa}
theorem HRel.frz(h:HRel B w G H){id:Nat}{cs:List AV}(hH:H[id]?=some (.cells cs)):
  ∃G',Ext B w G w G'∧HRel B w G' (H.set id .dead)∧∃b,G.μ[id]?=some (.blk b)∧G'.L b=cs.length∧∃(vs:Array Value) (e:TypeId),w.heap[b]?=some (.cells vs e (0,0))∧All2 (ARel w G) vs.toList cs:=by
 have hlt:id<G.μ.length:=by rw[h.len];exact(List.getElem?_eq_some_iff.1 hH).1
 obtain⟨gi,hgi⟩:∃gi,G.μ[id]?=some gi:=⟨_,List.getElem?_eq_getElem hlt⟩;have hok:=h.ok id _ _ hH hgi;cases gi with
 |gap=>exact hok.elim
 |own v s n=>exact hok.elim
 |blk b=>
  obtain⟨hB,hL,vs,e,hw,hcs⟩:=hok;have hl:vs.size=cs.length:=by simpa using hcs.length
  have he:Ext B w G w ⟨λx=>if x=b then cs.length else G.L x,G.μ⟩:=
   ⟨DR.same (Nat.le_refl _) rfl,Below.refl _ _,λx=>by by_cases hx:x=b <;> simp[hx,hL],λ_ _ _=>rfl,λ_ gi h=>⟨gi,h,gi.le_refl⟩⟩
  refine⟨_,he,⟨by simp[h.len],?_,h.dist,λx hx=>?_,h.lt,h.base⟩,b,hgi,by simp,vs,e,hw,hcs⟩
  ·intro id' ab gi h1 h2;by_cases hid:id'=id
   ·subst hid;rw[List.getElem?_set_self (List.getElem?_eq_some_iff.1 hH).1]at h1;cases h1;have h2:G.μ[id']?=some gi:=h2;rw[hgi]at h2;cases h2;exact⟨vs,e,(0,0),hw,by simp[hl]⟩
   ·rw[List.getElem?_set_ne (λh=>hid h.symm)]at h1;refine(h.ok id' ab gi h1 h2).keep he (λx hx=>⟨rfl,?_⟩);have:¬x=b:=λhxb=>hid (h.dist id' id gi _ b h2 hgi (by rw[hx,hxb]) rfl);simp[this]
  ·have:=h.lt id _ b hgi rfl;have h3:¬ x=b:=by omega
   simp[h3,h.fresh x hx]
inductive FzA (id off len cap:Nat) (es:List (List AV)):AV→AV→Prop
 |refl (a:AV):FzA id off len cap es a a
 |ms:FzA id off len cap es (.ms id off len cap) (.sl es .none)
inductive FzT (id off len cap:Nat) (es:List (List AV)):AV→AV→Prop
 |one {a b:AV} (h:FzA id off len cap es a b):FzT id off len cap es a b
 |agg {asx bs:List AV} (h:All2 (FzA id off len cap es) asx bs):FzT id off len cap es (.agg asx) (.agg bs)
theorem FzA.rel{id off len cap size:Nat}{cs:List AV}{es:List (List AV)}(hfit:off+len*size≤cs.length)(hp:plain ((cs.drop off).take (len*size))=some es.flatten)(hlen:es.length=len)(hsz:∀c∈es,c.length=size)(hcap:len≤cap){G':Gh}(hE:Ext B w G w G'){b:Nat}(hμ:G.μ[id]?=some (.blk b))(hLb:G'.L b=cs.length){vs0:Array Value}{e:TypeId}(hw:w.heap[b]?=some (.cells vs0 e (0,0)))(hcs:All2 (ARel w G) vs0.toList cs){v:Value}{a b':AV}(hab:FzA id off len cap es a b')(hr:ARel w G v a):ARel w G' v b':=by
 cases hab with
 |refl a=>exact hE.arel hr
 |ms=>
  obtain⟨b2,hb2,rfl⟩:=hr;rw[hμ]at hb2;cases hb2;show DRel w G'.L _ _;subst hlen;by_cases hne:es=[]
  ·subst hne;exact .slE _ _
  ·have hl:=hcs.length;have hd:=zez ((hcs.drop off).take (es.length*size)) hp;refine DRel.of_flat_at (zs:=(vs0.toList.drop off).take (es.length*size)) hsz hne hcap (by rw[hLb];exact hfit) (hd.mono λ_ _=>hE.drel) ?_;intro j u hj;rw[List.getElem?_take]at hj;split at hj
   ·simp only[World.cell?,hw];simpa using hj
   ·cases hj
theorem znG{R R':Value→AV→Prop}{S:AV→AV→Prop}(h:∀v a b,S a b→R v a→R' v b){vs:List Value}{asx bs:List AV}(hr:All2 R vs asx)(hs:All2 S asx bs):All2 R' vs bs:=
 All2.of_get (hr.length.trans hs.length) λi x y hx hy=>by obtain⟨a,ha,hxa⟩:=All2.get' hr hx;obtain⟨y',hy',hay⟩:=All2.get' hs ha;rw[hy]at hy';cases hy';exact h _ _ _ hay hxa
theorem ACalls.frz{f:FuncId}{args args':List AV}{K:Kt}(id off len cap size:Nat)(cs:List AV)(es:List (List AV))(hH:H[id]?=some (.cells cs))(hfit:off+len*size≤cs.length)(hp:plain ((cs.drop off).take (len*size))=some es.flatten)(hlen:es.length=len)(hsz:∀c∈es,c.length=size)(hcap:len≤cap)(ha:All2 (FzT id off len cap es) args args')(h:ACalls P f args' (H.set id .dead) K):ACalls P f args H K:=by
 intro B w G vs hR hv;obtain⟨G',hE,hR',b,hμ,hLb,vs0,e,hw,hcs⟩:=hR.frz hH;have h1:∀v a b,FzA id off len cap es a b→ARel w G v a→ARel w G' v b:=λv a b' hab hr=>FzA.rel hfit hp hlen hsz hcap hE hμ hLb hw hcs hab hr;have h2:∀v a b,FzT id off len cap es a b→TRel w G v a→TRel w G' v b:=by
  intro v a b' hab hr;cases hab with
  |one hab=>
   cases hab with
   |refl a=>exact hE.trel hr
   |ms=>exact TRel.of_v (VRel.of_a (h1 _ _ _ .ms hr))
  |agg hab=>obtain⟨us,hu,hr⟩:=hr;exact⟨us,hu,znG h1 hr hab⟩
 refine(h B w G' vs hR' (znG h2 hv ha)).mono λe w' ⟨v,r,H',G'',k1,k2,k3,k4,k5⟩=>⟨v,r,H',G'',k1,hE.trans k2,k3,k4,k5⟩
theorem AWp.frz{c:Code}{Q:AExit→List AV→zaa→Prop}{F:List AV}(id off len cap size:Nat)(cs:List AV)(es:List (List AV))(id2:Nat)(cs2 cs2':List AV)(hH:H[id]?=some (.cells cs))(hfit:off+len*size≤cs.length)(hp:plain ((cs.drop off).take (len*size))=some es.flatten)(hlen:es.length=len)(hsz:∀c∈es,c.length=size)(hcap:len≤cap)(hne:id≠id2)(hH2:H[id2]?=some (.cells cs2))(ha:All2 (FzA id off len cap es) cs2 cs2')(h:AWp P c Q F ((H.set id .dead).set id2 (.cells cs2'))):AWp P c Q F H:=by
 intro B w G a hR hF hd;obtain⟨G',hE,hR',b,hμ,hLb,vs0,e,hw,hcs⟩:=hR.frz hH;have h1:∀v a b,FzA id off len cap es a b→ARel w G v a→ARel w G' v b:=λv a b' hab hr=>FzA.rel hfit hp hlen hsz hcap hE hμ hLb hw hcs hab hr;have hlt2:id2<G.μ.length:=by rw[hR.len];exact(List.getElem?_eq_some_iff.1 hH2).1
 have hH2':(H.set id .dead)[id2]?=some (.cells cs2):=by rw[List.getElem?_set_ne hne];exact hH2
 have hR2:HRel B w G' ((H.set id .dead).set id2 (.cells cs2')):=by
  refine⟨by simp[hR'.len],?_,hR'.dist,hR'.fresh,hR'.lt,hR'.base⟩;intro i ab gi k1 k2;by_cases hi:i=id2
  ·subst hi;rw[List.getElem?_set_self (List.getElem?_eq_some_iff.1 hH2').1]at k1;cases k1;have hok:=hR'.ok i _ _ hH2' k2;have hgi:G.μ[i]?=some gi:=by
    obtain⟨gi0,hgi0⟩:∃gi0,G.μ[i]?=some gi0:=⟨_,List.getElem?_eq_getElem hlt2⟩;have hok0:=hR.ok i _ _ hH2 hgi0;obtain⟨gi1,hg1,hle⟩:=hE.ids i gi0 hgi0;rw[k2]at hg1;cases hg1;cases gi0 with
    | blk x=>cases gi with
     |blk y=>obtain rfl:x=y:=hle;exact hgi0
     |own v s n=>exact hle.elim
     |gap=>exact hle.elim
    |own v s n=>exact hok0.elim
    |gap=>exact hok0.elim
   have hok0:=hR.ok i _ _ hH2 hgi;cases gi with
   |blk x=>obtain⟨k3,k4,vs,e',k5,k6⟩:=hok;obtain⟨_,_,vs1,e1,k7,k8⟩:=hok0;rw[k5]at k7;cases k7;exact⟨k3,k4,vs,e',k5,znG h1 k8 ha⟩
   |own v s n=>exact hok.elim
   |gap=>exact hok.elim
  ·rw[List.getElem?_set_ne (λh=>hi h.symm)]at k1;exact hR'.ok i ab gi k1 k2
 refine wp_mono (h B w G' a hR2 (hF.ext hE) hd) λe a' w' hp=>?_;obtain⟨F',H',G'',e',rfl,k1,k2,k3,k4,k5⟩:=hp;exact⟨F',H',G'',e',rfl,hE.trans k1,k2,k3,k4,k5⟩
end Go.Abs
namespace Go.Abs
open Go Go.RowKit
variable {P:Program} {B:Nat} {w:World} {G:Gh} {H:zaa}
inductive OutW (H:zaa) (n:Nat):AV→AV→Prop
 |one {a b:AV} (h:OutV H n a b):OutW H n a b
 | rows (id e m:Nat) (cs:List AV) (rs:List (List (List AV))) (hid:n≤id) (hH:H[id]?=some (.vec e 1 m cs)) (hm:rs.length=m)
   (hall:All2 (OutV H n) cs (rs.map λr=>.sl r .none)):OutW H n (.ov id m) (.sl (rs.map λr=>[.sl r .none]) .none)
theorem OutW.vrel(hH:HRel B w G H){n:Nat}{v:Value}{a b:AV}(h:OutW H n a b)(hr:TRel w G v a):VRel w (G.cut w n) v b:=by
 cases h with
 |one h=>exact h.vrel hH hr
 |rows id e m cs rs hid hHid hm hall=>
  obtain⟨⟨a,cap0,rfl,_⟩,v',s0,n',hμ,_,heq⟩:=hr;obtain⟨rfl,rfl,⟨xs,hown,hcs⟩,_⟩:=hH.ok id _ _ hHid hμ;obtain rfl:=heq rfl;subst hm;show DRel w (G.cut w n).L _ _;by_cases hne:rs=[]
  ·subst hne;exact .slE _ _
  ·have hown2:=hown;obtain⟨hl,hrow⟩:=hown2;have hd:All2 (DRel w (G.cut w n).L) xs (rs.map λr=>AV.sl r .none):=All2.of_get (hcs.length.trans hall.length) λi x y hx hy=>by
    obtain⟨a,ha,hxa⟩:=All2.get' hcs hx;obtain⟨y',hy',hay⟩:=All2.get' hall ha;rw[hy]at hy';cases hy';obtain⟨r,hr,rfl⟩:∃r,rs[i]?=some r∧AV.sl r .none=y:=by simpa using hy
    exact hay.vrel hH (TRel.of_v (VRel.of_a hxa))
   rcases hrow with ⟨h1,h2⟩|⟨g,cap,cur,h1,h2,h3,h4,h5,h6,h7⟩
   ·cases rs <;> simp_all
   ·simp at h1;obtain⟨rfl,rfl⟩:=h1;obtain⟨_,_,_,hcell⟩:=zdJ hown;have hfl:∀l:List (List (List AV)),(l.map λr=>[AV.sl r .none]).flatten=l.map λr=>AV.sl r .none:=by
     intro l;induction l with
     |nil=>rfl
     |cons r l ih=>simp[ih]
    have:=DRel.of_flat_at (w:=w) (L:=(G.cut w n).L) (g:=g) (off:=0) (size:=1) (cap:=cap0) (es:=rs.map λr=>[AV.sl r .none]) (zs:=xs) (by simp) (by simpa using hne) (by simpa using h4) ?_ (by rw[hfl rs];exact hd) ?_
    ·simpa using this
    ·have:(G.cut w n).L g=cur.size:=by simp only[Gh.cut];rw[if_pos (cut_dropped.2 ⟨id,_,hid,hμ,rfl⟩),h3]
     rw[this,h6];simpa using h4
    ·intro j u hj;rw[Nat.zero_add,hcell j (by rw[←hl];exact(List.getElem?_eq_some_iff.1 hj).1)];exact hj
inductive OutT2 (H:zaa) (n:Nat):AV→AV→Prop
 |one {a b:AV} (h:OutW H n a b):OutT2 H n a b
 |tup {asx bs:List AV} (h:All2 (OutW H n) asx bs):OutT2 H n (.tup asx) (.tup bs)
def zBy(n:Nat)(K:AV→zaa→Prop)(r:AV)(H':zaa):Prop:=∃r2 H2 J,H'=H2++J∧n≤H2.length∧HSc H2∧OutT2 H' H2.length r r2∧K r2 H2
theorem Out.two{n:Nat}{K:AV→zaa→Prop}{r:AV}(h:Out n K r H):zBy n K r H:=by
 obtain⟨r2,H2,J,hJ,hn,hsc,ho,hk⟩:=h;refine⟨r2,H2,J,hJ,hn,hsc,?_,hk⟩;cases ho with
 |one h=>exact .one (.one h)
 |tup h=>exact .tup (All2.of_get h.length λi x y hx hy=>by
   obtain⟨y',hy',hay⟩:=All2.get' h hx;rw[hy]at hy';cases hy';exact .one hay)
end Go.Abs
namespace Go.Abs
open Go Go.RowKit
variable {P:Program} {B:Nat} {w:World} {G:Gh} {H:zaa}
theorem zEG(h:HRel B w G H)(e size:Nat):TRel w ⟨G.L,G.μ++[.own (.slice none 0 0) size 0]⟩ (.slice none 0 0) (.ov H.length 0):=by refine⟨⟨none,0,rfl,λh=>absurd h (by omega),Nat.le_refl _⟩,.slice none 0 0,size,0,?_,Nat.le_refl _,λ_=>rfl⟩;rw[←h.len];simp
theorem ALoop.vec{c:Code}{Q:AExit→List AV→zaa→Prop}{F:List AV}(i e size:Nat)(hi:F[i]?=some .snil)(h:ALoop P c Q (F.set i (.ov H.length 0)) (H++[.vec e size 0 []])):ALoop P c Q F H:=by
 intro B w G a hH hF hd;obtain⟨hE,hH'⟩:=hH.newVec e size;have hF':FRel w ⟨G.L,G.μ++[.own (.slice none 0 0) size 0]⟩ a.tmps (F.set i (.ov H.length 0)):=by
  unfold FRel;obtain⟨v,h1,h2⟩:=All2.get hF hi;have h2:v=.slice none 0 0:=h2;subst h2;have hset:a.tmps.toList=a.tmps.toList.set i (.slice none 0 0):=by
   apply List.ext_getElem?;intro k;by_cases hk:k=i
   ·subst hk;rw[List.getElem?_set_self (List.getElem?_eq_some_iff.1 h1).1];exact h1
   ·rw[List.getElem?_set_ne (λh=>hk h.symm)]
  rw[hset];exact All2.set i (hF.ext hE) (zEG hH e size)
 refine wp_mono (h B w _ a hH' hF' hd) λe a' w' hp=>?_;obtain⟨F'',H'',G'',e'',rfl,k1,k2,k3,k4,k5⟩:=hp;exact⟨F'',H'',G'',e'',rfl,hE.trans k1,k2,k3,k4,k5⟩
theorem zxp{vs:List Value}:∀ {cs cs':List AV},All2 WkA cs cs'→∀ {vs:List Value},All2 (ARel w G) vs cs→All2 (ARel w G) vs cs'
 |[],[],_,_,hv=>hv
 |x::cs,x'::cs',hw,[],hv=>hv.elim
 |x::cs,x'::cs',hw,v::vs,hv=>⟨hw.1.arel hv.1,zxp (vs:=[]) hw.2 hv.2⟩
 |[],_::_,hw,_,_=>hw.elim
 |_::_,[],hw,_,_=>hw.elim
theorem ALoop.reCell{c:Code}{Q:AExit→List AV→zaa→Prop}{F:List AV}{id:Nat}{cs:List AV}(cs':List AV)(hid:H[id]?=some (.cells cs))(hw:All2 WkA cs cs')(h:ALoop P c Q F (H.set id (.cells cs'))):ALoop P c Q F H:=by intro B w G a hH hF hd;exact h B w G a (hH.reCell hid λvs hv=>zxp (vs:=[]) hw hv) hF hd
theorem HRel.frzV(h:HRel B w G H){id e size n:Nat}{cs:List AV}(hH:H[id]?=some (.vec e size n cs)){es:List (List AV)}(hp:plain cs=some es.flatten)(hlen:es.length=n)(hsz:∀ c∈es,c.length=size):
  ∃G',Ext B w G w G'∧HRel B w G' (H.set id .dead)∧∀v,ARel w G v (.ov id n)→DRel w G'.L v (.sl es .none):=by
 have hlt:id<G.μ.length:=by rw[h.len];exact(List.getElem?_eq_some_iff.1 hH).1
 obtain⟨gi,hgi⟩:∃gi,G.μ[id]?=some gi:=⟨_,List.getElem?_eq_getElem hlt⟩;have hok:=h.ok id _ _ hH hgi;cases gi with
 |gap=>exact hok.elim
 |blk b=>exact hok.elim
 |own v0 s0 n0=>
  obtain⟨rfl,rfl,⟨xs,hown,hcs⟩,hL0⟩:=hok;have hown2:=hown;obtain⟨hl,hrow⟩:=hown2;rcases hrow with ⟨h1,h2⟩|⟨g,cap,cur,h1,hB,hw,hcap,hcm,hcz,htk⟩
  ·subst h1;refine⟨G,Ext.refl _ _ _,⟨by simp[h.len],?_,h.dist,h.fresh,h.lt,h.base⟩,?_⟩
   ·intro id' ab gi k1 k2;by_cases hid:id'=id
    ·subst hid;rw[List.getElem?_set_self (List.getElem?_eq_some_iff.1 hH).1]at k1;cases k1;rw[hgi]at k2;cases k2;exactλb hb=>by simp[Value.ownBlock]at hb
    ·rw[List.getElem?_set_ne (λh=>hid h.symm)]at k1;exact h.ok id' ab gi k1 k2
   ·intro v hv;obtain⟨⟨a,cap0,rfl,_⟩,v',s',n',hμ,_,heq⟩:=hv;have hes:es=[]:=List.eq_nil_of_length_eq_zero (by omega);subst hes;subst hlen;exact .slE _ _
  ·subst h1;have hLg:G.L g=0:=hL0 g rfl;have he:Ext B w G w ⟨λx=>if x=g then cur.size else G.L x,G.μ⟩:=
    ⟨DR.same (Nat.le_refl _) rfl,Below.refl _ _,λx=>by by_cases hx:x=g <;> simp[hx,hLg],λ_ _ _=>rfl,λ_ gi h=>⟨gi,h,gi.le_refl⟩⟩
   refine⟨_,he,⟨by simp[h.len],?_,h.dist,λx hx=>?_,h.lt,h.base⟩,?_⟩
   ·intro id' ab gi k1 k2;by_cases hid:id'=id
    ·subst hid;rw[List.getElem?_set_self (List.getElem?_eq_some_iff.1 hH).1]at k1;cases k1;have k2:G.μ[id']?=some gi:=k2;rw[hgi]at k2;cases k2;intro b hb;simp[Value.ownBlock]at hb;subst hb;exact⟨cur,e,_,hw,by simp⟩
    ·rw[List.getElem?_set_ne (λh=>hid h.symm)]at k1;refine(h.ok id' ab gi k1 k2).keep he (λx hx=>⟨rfl,?_⟩);have:¬x=g:=λhxb=>hid (h.dist id' id gi _ g k2 hgi (by rw[hx,hxb]) rfl);simp[this]
   ·have:=h.lt id _ g hgi rfl;have h3:¬ x=g:=by omega
    simp[h3,h.fresh x hx]
   ·intro v hv;obtain⟨⟨a,cap0,rfl,_⟩,v',s',n',hμ,_,heq⟩:=hv;rw[hgi]at hμ;simp only[Option.some.injEq,GI.own.injEq]at hμ;obtain⟨rfl,rfl,rfl⟩:=hμ;have hvv:=heq rfl;simp only[Value.slice.injEq,true_and]at hvv;obtain⟨rfl,rfl⟩:=hvv;subst hlen;by_cases hes:es=[]
    ·subst hes;exact .slE _ _
    ·obtain⟨_,_,_,hcell⟩:=zdJ hown;refine DRel.of_flat_at (zs:=xs) hsz hes hcap ?_ ((zez hcs hp).mono λ_ _=>he.drel) ?_
     ·simp only[if_true];rw[hcz,Nat.zero_add];exact Nat.mul_le_mul_right _ hcap
     ·intro j u hj;rw[Nat.zero_add,hcell j (by rw[←hl];exact(List.getElem?_eq_some_iff.1 hj).1)];exact hj
theorem ACalls.frzV{f:FuncId}{x:AV}{K:Kt}(id e size n:Nat)(cs:List AV)(es:List (List AV))(hH:H[id]?=some (.vec e size n cs))(hp:plain cs=some es.flatten)(hlen:es.length=n)(hsz:∀c∈es,c.length=size)(h:ACalls P f [.agg [x,.sl es .none]] (H.set id .dead) K):ACalls P f [.agg [x,.ov id n]] H K:=by
 intro B w G vs hR hv;obtain⟨G',hE,hR',hd⟩:=hR.frzV hH hp hlen hsz;refine(h B w G' vs hR' ?_).mono λe w' ⟨v,r,H',G'',k1,k2,k3,k4,k5⟩=>⟨v,r,H',G'',k1,hE.trans k2,k3,k4,k5⟩;generalize vs.toList=l at *
 match l,hv with
 |[v],⟨⟨us,hu,h1⟩,_⟩=>
  refine⟨⟨us,hu,?_⟩,trivial⟩;generalize us.toList=m at *
  match m,h1 with
  |[a,b],⟨h2,h3,_⟩=>exact⟨hE.arel h2,hd b h3,trivial⟩
end Go.Abs
namespace Go.Proofs.YtaifokkaaahdoaaGreatDoor
open Go Go.Abs
theorem zhL(A:List Nat)(x:Nat):zau (A++[x])=zau A+1000000000 ^ A.length*x:=by rw[zhK];simp[zau]
theorem zvo{A B:List Nat}(hl:A.length=B.length)(hA:∀x∈A,x<1000000000)(i:Nat)(hi:i<A.length)(hd:A.drop (i+1)=B.drop (i+1))(hlt:A[i]<B[i]'(by omega)):zau A<zau B:=by
 have e1:∀(l:List Nat) (h:i<l.length),zau l=zau (l.take i)+1000000000 ^ i*(l[i]+1000000000*zau (l.drop (i+1))):=by
  intro l h
  conv=>lhs;rw[←List.take_append_drop i l,zhK,List.drop_eq_getElem_cons h,zau]
  rw[List.length_take,Nat.min_eq_left (by omega)]
 rw[e1 A hi,e1 B (by omega),hd];have h1:=zgw (A.take i) (λx hx=>hA x (List.mem_of_mem_take hx));rw[List.length_take,Nat.min_eq_left (by omega)]at h1;generalize hZ:zau (B.drop (i+1))=Z;generalize A[i]=a at hlt ⊢;generalize B[i]=b at hlt ⊢;have h2:1000000000 ^ i*(a+1000000000*Z+1)≤1000000000 ^ i*(b+1000000000*Z):=Nat.mul_le_mul_left _ (by omega);rw[Nat.mul_succ]at h2;omega
def zbS(a b:Nat):Int:=if a<b then -1 else if b<a then 1 else 0
def us(l:List Nat):List AV:=l.map λ(n:Nat)=>AV.int .u32 (n:Int)
@[simp] theorem zUo(l:List Nat):(us l).length=l.length:=by simp[us]
theorem zqf(l:List Nat):(zap l).flatten=us l:=by induction l with
 |nil=>rfl
 |cons x l ih=>simp only[zap,us,List.map_cons,List.flatten_cons]at ih ⊢;rw[ih];rfl
theorem zkZ:∀ (l:List Nat),plain (us l)=some (us l)
 |[]=>rfl
 |x::l=>by simp only[us,List.map_cons,plain,AV.pd];rw[show plain (List.map (λn:Nat=>AV.int .u32 (n:Int)) l)=some (us l) from zkZ l];rfl
theorem zGy(l:List Nat)(i:Nat)(h:i<l.length):(us l)[i]?=some (.int .u32 ((l[i]:Nat):Int)):=by simp[us,h]
theorem zGz(l:List Nat)(i x:Nat)(h:i<l.length):(us l).take i++[AV.int .u32 (x:Int)]++(us l).drop (i+1)=us (l.set i x):=by simp only[us,←List.map_take,←List.map_drop];rw[List.set_eq_take_append_cons_drop,if_pos h];simp
theorem zGA(n:Nat):List.replicate n (AV.int .u32 0)=us (List.replicate n 0):=by simp[us]
theorem zBE{k:AV→Prop}(l:List Nat)(i:Nat)(h:i<l.length):zbp false 1 i (us l) k=k (.int .u32 ((l[i]:Nat):Int)):=by simp[zbp,zGy l i h]
theorem zvD(L:List Nat)(hL:L.length≤1000000)(H:zaa)(K:Kt)(hK:K (.sl (zap (zbM L)) .none) H):
  ACalls tP zgx [.sl (zap L) .none] H K:=by
 refine ACalls.out (zH2 λhs=>?_);simp[zxJ];refine zH0 (Inv:=λq t3 H'=>∃n:Nat,n≤L.length∧n=q∧t3=.int .i64 n∧H'=H∧zbM L=zbM (L.take n)) L.length ?_ ?_
 ·intro _;exact⟨L.length,by omega,rfl,by simp,rfl,by simp⟩
 ·rintro q t3 H' ⟨n,hn,rfl,rfl,rfl,hst⟩ hsc' hlen hsF Kb hKb;have hone:∀ (l:List Nat),l=zbM L→Out (List.length H') K (AV.sl (zap l) .none) H':=λl hl=>Out.one0 hs (.atom (.sl _ _)) rfl rfl (by rw[hl];exact hK);by_cases h0:n=0
  ·subst h0;simp[zlo];exact⟨zim L,hone [] (by simpa[zbM]using hst.symm)⟩
  ·have hw:IntKind.i64.wrap ((n:Int)-1)=((n-1:Nat):Int):=by rw[zav (by omega) (by omega)];omega
   have hlt:n-1<L.length:=by omega
   by_cases hz:L[n-1]=0
   ·simp[zlo,show 0<n by omega,hw,hlt,hz];exact hKb _ _ ⟨n-1,by omega,Back.here (by simp) hs (by simp[zlp,AV.sc,AV.scA,AV.scB,AV.scV]) ⟨_,rfl,n-1,by omega,rfl,rfl,rfl,by rw[hst,zGa (by omega) hn hz]⟩⟩
   ·have hzb:(((L[n-1]:Nat):Int) == 0)=false:=by simp;omega
    simp[zlo,show 0<n by omega,hw,hlt,hzb];refine⟨⟨hn,zim L⟩,?_⟩;rw[zGv];exact hone _ (by rw[hst,zF9 (by omega) hn hz])
theorem zDb(n:Nat)(hn:n<18446744073709551616)(H:zaa)(K:Kt)(hK:K (.sl (zap (lim n)) .none) H):
  ACalls tP zjQ [.int .u64 n] H K:=by
 refine ACalls.out (zH8 λhs=>?_);unfold zxL zls;refine ALoop.own 3 zbX 1 rfl ?_;show zls (.int .u64 n) (.sl [] (.own H.length)) (H++[.perm zbX 1 0]) (Out H.length K);refine zH6 (Inv:=λq t0 t3 H'=>∃ (m:Nat) (A:List Nat),m=q∧t0=.int .u64 m∧t3=.sl (zap A) (.own H.length)∧lim n=A++lim m∧m<18446744073709551616 ∧
  H'=H++[.perm zbX 1 A.length]) n ?_ ?_
 ·intro _;exact⟨n,[],rfl,rfl,rfl,by simp,hn,rfl⟩
 ·rintro q t0 t3 H' ⟨m,A,rfl,rfl,rfl,hA,hm,rfl⟩ hsc' hlen hsF Kb hKb;by_cases h0:m=0
  ·subst h0;simp[zqI];exact Out.one hs (.atom (.sl _ _)) rfl rfl (by simpa[hA]using hK)
  ·have hlA:A.length+1≤1000:=by have h1:=congrArg List.length hA;have h2:=zdo (n:=n) (k:=3) (by omega);rw[zc2 h0]at h1;simp at h1;omega
   obtain⟨x,c,hx1,hx2,hx3,e1,e2⟩:=zn6 m hm;simp only[zqI];simp[show 0<m by omega,e1,e2,hx3,zas,zbh,plain,AV.pd,zax,zbc,za2];refine⟨⟨by omega,by omega⟩,?_⟩;rw[sN];refine hKb _ _ ⟨c,by omega,Back.here (by simp) (hs.append (by simp[AB.sc])) (by simp[zlr,ux,AV.sc,AV.scA,AV.scB,AV.scV]) ⟨_,_,rfl,c,A++[x],rfl,rfl,rfl,?_,by omega,by simp⟩⟩;rw[hA,zc2 h0,show m % 1000000000=x by omega,show m / 1000000000=c by omega];simp
theorem _root_.Go.Abs.ACalls.frzV1{P:Program}{H:zaa}{f:FuncId}{K:Kt}(id e size n:Nat)(cs:List AV)(es:List (List AV))(hH:H[id]?=some (.vec e size n cs))(hp:plain cs=some es.flatten)(hlen:es.length=n)(hsz:∀c∈es,c.length=size)(h:ACalls P f [.sl es .none] (H.set id .dead) K):ACalls P f [.ov id n] H K:=by
 intro B w G vs hR hv;obtain⟨G',hE,hR',hd⟩:=hR.frzV hH hp hlen hsz;refine(h B w G' vs hR' ?_).mono λe w' ⟨v,r,H',G'',k1,k2,k3,k4,k5⟩=>⟨v,r,H',G'',k1,hE.trans k2,k3,k4,k5⟩;generalize vs.toList=l at *
 match l,hv with
 |[v],⟨h1,_⟩=>exact⟨hd v h1,trivial⟩
theorem zGn(L:List Nat)(hL:∀ x∈L,x<1000000000)(hl:L.length≤100000){id:Nat}{H:zaa}{K:Kt}(hid:H[id]?=some (.vec zbX 1 L.length (us L)))(hK:K (.sl (zap (lim (zau L))) .none) (H.set id .dead)):
  ACalls tP zgx [.ov id L.length] H K:=by
 refine ACalls.frzV1 id zbX 1 L.length (us L) (zap L) hid (by rw[zqf,zkZ]) (by simp) (zim L) ?_;refine zvD L (by omega) _ _ ?_;rw[zkI L hL];exact hK
theorem zGm(L:List Nat)(hL:∀ x∈L,x<1000000000)(hl:L.length≤100000){id:Nat}{H:zaa}{K:Kt}(hid:H[id]?=some (.cells (us L)))(hK:K (.sl (zap (lim (zau L))) .none) (H.set id .dead)):
  ACalls tP zgx [.ms id 0 L.length L.length] H K:=by
 refine ACalls.frz id 0 L.length L.length 1 (us L) (zap L) hid (by simp) ?_ (by simp) (zim L) (Nat.le_refl _) (args':=[.sl (zap L) .none]) ⟨.one .ms,trivial⟩ ?_
 ·rw[List.drop_zero,List.take_of_length_le (by simp),zqf,zkZ]
 ·refine zvD L (by omega) _ _ ?_;rw[zkI L hL];exact hK
theorem zpq(L:List Nat)(h32:∀ x∈L,x<4294967296)(hL:L.length≤50000)(H:zaa)(K:Kt)(hK:K (.sl (zap (lim (zau L))) .none) H):
  ACalls tP zhP [.sl (zap L) .none] H K:=by
 refine ACalls.out (zHw λhs=>?_);have hsc:∀A:List Nat,HSc (H++[.vec zbX 1 A.length (us A)]):=λA=>hs.append (by simp[AB.sc,us,AV.scA,AV.scB]);simp[zxD,wi L.length (by omega)];refine⟨⟨by omega,by omega,by omega⟩,?_⟩;have hend:∀A:List Nat,(∀x∈A,x<1000000000)→zau A=zau L→A.length≤100000→zlf (.ov H.length A.length) (H++[.vec zbX 1 A.length (us A)]) (Out H.length K):=by intro A hA he hl;unfold zlf;refine zGn A hA hl (by simp) ?_;rw[he];simp;exact Out.one hs (.atom (.sl _ _)) rfl rfl hK
 refine zHu (Inv:=λq t3 t4 t13 H'=>∃ (i c:Nat) (A:List Nat),i≤L.length∧L.length-i=q∧t13=.int .i64 i∧t4=.int .u64 c∧t3=.ov H.length A.length∧A.length=i∧(∀ x∈A,x<1000000000)∧c≤5 ∧
  zau A+1000000000 ^ i*c=zau (L.take i)∧H'=H++[.vec zbX 1 A.length (us A)]) L.length ?_ ?_
 ·intro _;exact⟨0,0,[],by omega,rfl,rfl,rfl,rfl,rfl,by simp,by omega,by simp[zau],rfl⟩
 ·rintro q t3 t4 t13 H' ⟨i,c,A,hi,rfl,rfl,rfl,rfl,hAl,hA,hc,hv,rfl⟩ hsc' hlen hsF Kb hKb;by_cases hlt:i<L.length
  ·have hx:=h32 L[i] (List.getElem_mem hlt);have w1:IntKind.u64.wrap ((L[i]:Nat):Int)=L[i]:=zcV (by omega);obtain⟨s,hs1⟩:∃ s,s=L[i]+c:=⟨_,rfl⟩;have w2:IntKind.u64.wrap (((L[i]:Nat):Int)+(c:Int))=(s:Int):=by rw[hs1,←Int.natCast_add];exact zcV (by omega)
   obtain⟨x,c',hx1,hx2,hx3,e1,e2⟩:=zn6 s (by omega);simp only[zld];simp[hlt,w1,w2,e1,e2,hx3,zas,zbh,plain,AV.pd,zax,zbc,za2,wi i (by omega)];refine⟨⟨by omega,by omega⟩,?_⟩;have e3:us A++[AV.int .u32 (x:Int)]=us (A++[x]):=by simp[us]
   rw[e3];refine hKb _ _ ⟨L.length-(i+1),by omega,Back.here (by simp) (by simpa using hsc (A++[x])) (by simp[zle,ux,AV.sc,AV.scA,AV.scB,AV.scV]) ⟨_,_,_,rfl,i+1,c',A++[x],by omega,rfl,rfl,rfl,by simp,by simp[hAl],?_,by omega,?_,by simp⟩⟩
   ·intro y hy;rcases List.mem_append.1 hy with hy | hy
    ·exact hA y hy
    ·simp at hy;omega
   ·rw[zhL,zhM L i hlt,←hv,hAl,Nat.pow_succ];grind
  ·obtain rfl:i=L.length:=by omega
   rw[List.take_length]at hv;by_cases h0:c=0
   ·subst h0;simp[zld];exact hend A hA (by simpa using hv) (by omega)
   ·simp only[zld];simp[show 0<c by omega,zgY (show c<4294967296 by omega),zas,zbh,plain,AV.pd,zax,zbc,za2];refine⟨⟨by omega,by omega⟩,?_⟩;have e3:us A++[AV.int .u32 (c:Int)]=us (A++[c]):=by simp[us]
    rw[e3];have:=hend (A++[c]) (λy hy=>by
     rcases List.mem_append.1 hy with hy|hy
     ·exact hA y hy
     ·simp at hy;omega) (by rw[zhL,hAl];exact hv) (by simp;omega)
    simpa using this
end Go.Proofs.YtaifokkaaahdoaaGreatDoor
