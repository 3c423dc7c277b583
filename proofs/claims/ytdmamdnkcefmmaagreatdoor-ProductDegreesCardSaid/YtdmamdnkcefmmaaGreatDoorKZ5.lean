import Derived.Test.YtdmamdnkcefmmaaGreatDoorKNum
import Derived.Test.YtdmamdnkcefmmaaGreatDoorProg
import Derived.KernelRfl
import Derived.Test.YtdmamdnkcefmmaaGreatDoorKMF
import Derived.Test.YtdmamdnkcefmmaaGreatDoorKI7
set_option linter.unusedSimpArgs false
set_option linter.unusedVariables false
set_option maxRecDepth 8000
namespace Go.Proofs.YtdmamdnkcefmmaaGreatDoor
open Go Go.Abs
set_option maxRecDepth 100000
def zQy (_:Nat):List Bool:=[]
noncomputable def zQz:Code:=Tryz.f61.body.getD .skip
def zAS (t0:AV) (H:zaa) (K:Kt):Prop:=
 zay [(.bool false),.snil,.snil] H fun t2 H=>
 zab .lss false t0 (.int .i64 0) fun t4=>
 ACalls tP zgX [t0] H fun t6 H=>
 zau 1 [(.int .u32 0)] 1 [(0,(.int .u32 1))] fun t7=>
 zas [(.bool false),.snil,.snil] [(0,1),(1,1),(2,1)] [(0,t4),(1,t6),(2,t7)] fun t8=>
 ACalls tP zeA [t8] H fun t9 H=>
 zan 3 t2 t9 H fun H=>
 zae true 3 t2 H fun r0=>
 K r0 H
theorem zQA {t0:AV} {H:zaa} {K:Kt} (h:HSc H→zAS t0 H K):ACalls tP zde [t0] H K:=
 zao (M:=zQy) Tryz.func61 (c:=zQz) (by kernel_rfl) (fun hs=>Eq.mpr (by kernel_rfl) (h hs))
def zQB (_:Nat):List Bool:=[]
noncomputable def zQC:Code:=Tryz.f70.body.getD .skip
def zsB (t0 t1:AV) (H:zaa) (K:Kt):Prop:=
 zav t0 H fun t2 H=>
 zav t1 H fun t3 H=>
 zay [(.bool false),.snil,.snil] H fun t4 H=>
 zad H (fun K'=>zal true 3 t2 H (K' · H)) fun t7=>
 zaF H (fun H K'=>ACalls tP zd7 [t7] H K') fun t8=>
 zad H (fun K'=>zal true 3 t3 H (K' · H)) fun t9=>
 zaF H (fun H K'=>ACalls tP zd7 [t9] H K') fun t10=>
 zay [(.bool false),.snil,.snil] H fun t5 H=>
 zay [(.bool false),.snil,.snil] H fun t6 H=>
 zan 3 t5 t8 H fun H=>
 zan 3 t6 t10 H fun H=>
 zad H (fun K'=>zaf 0 t5 (K' · H)) fun t11=>
 zad H (fun K'=>zal false 1 t11 H (K' · H)) fun t12=>
 zad H (fun K'=>zaf 0 t6 (K' · H)) fun t13=>
 zad H (fun K'=>zal false 1 t13 H (K' · H)) fun t14=>
 zad H (fun K'=>zab .neq true t12 t14 (K' · H)) fun t15=>
 zad H (fun K'=>zaf 1 t5 (K' · H)) fun t16=>
 zad H (fun K'=>zal false 1 t16 H (K' · H)) fun t17=>
 zad H (fun K'=>zaf 1 t6 (K' · H)) fun t18=>
 zad H (fun K'=>zal false 1 t18 H (K' · H)) fun t19=>
 zaF H (fun H K'=>ACalls tP zdt [t17,t19] H K') fun t20=>
 zad H (fun K'=>zaf 2 t5 (K' · H)) fun t21=>
 zad H (fun K'=>zal false 1 t21 H (K' · H)) fun t22=>
 zad H (fun K'=>zaf 2 t6 (K' · H)) fun t23=>
 zad H (fun K'=>zal false 1 t23 H (K' · H)) fun t24=>
 zaF H (fun H K'=>ACalls tP zdt [t22,t24] H K') fun t25=>
 zad H (fun K'=>zas [(.bool false),.snil,.snil] [(0,1),(1,1),(2,1)] [(0,t15),(1,t20),(2,t25)] (K' · H)) fun t26=>
 zaF H (fun H K'=>ACalls tP zeA [t26] H K') fun t27=>
 zan 3 t4 t27 H fun H=>
 zae true 3 t4 H fun r0=>
 K r0 H
theorem zAT {t0 t1:AV} {H:zaa} {K:Kt} (h:HSc H→zsB t0 t1 H K):ACalls tP zfb [t0,t1] H K:=
 zao (M:=zQB) Tryz.func70 (c:=zQC) (by kernel_rfl) (fun hs=>Eq.mpr (by kernel_rfl) (h hs))
def zQ7 (_:Nat):List Bool:=[]
noncomputable def zQ8:Code:=Tryz.f77.body.getD .skip
def zA3 (t0 t1:AV) (H:zaa) (K:Kt):Prop:=
 zav t0 H fun t2 H=>
 zav t1 H fun t3 H=>
 zay [(.bool false),.snil,.snil] H fun t4 H=>
 zad H (fun K'=>zal true 3 t2 H (K' · H)) fun t5=>
 zaF H (fun H K'=>ACalls tP zd7 [t5] H K') fun t6=>
 zad H (fun K'=>zal true 3 t3 H (K' · H)) fun t7=>
 zaF H (fun H K'=>ACalls tP zd7 [t7] H K') fun t8=>
 zaF H (fun H K'=>ACalls tP zn1 [t6,t8] H K') fun t9=>
 zaF H (fun H K'=>ACalls tP zeA [t9] H K') fun t10=>
 zan 3 t4 t10 H fun H=>
 zae true 3 t4 H fun r0=>
 K r0 H
theorem zQ9 {t0 t1:AV} {H:zaa} {K:Kt} (h:HSc H→zA3 t0 t1 H K):ACalls tP zoL [t0,t1] H K:=
 zao (M:=zQ7) Tryz.func77 (c:=zQ8) (by kernel_rfl) (fun hs=>Eq.mpr (by kernel_rfl) (h hs))
def zHB (_:Nat):List Bool:=[]
noncomputable def zHC:Code:=Tryz.f113.body.getD .skip
def zxP (t0:AV) (H:zaa) (K:Kt):Prop:=
 zab .lss false t0 (.int .i64 0) fun t4=>
 zag t4
 (za0 .u64 t0 fun t6=>
 aUn .neg t6 fun t7=>
 ACalls tP zfS [t7] H fun t8 H=>
 K t8 H)
 (za0 .u64 t0 fun t10=>
 ACalls tP zfS [t10] H fun t11 H=>
 K t11 H)
theorem zHD {t0:AV} {H:zaa} {K:Kt} (h:HSc H→zxP t0 H K):ACalls tP zgX [t0] H K:=
 zao (M:=zHB) Tryz.func113 (c:=zHC) (by kernel_rfl) (fun hs=>Eq.mpr (by kernel_rfl) (h hs))
def zHE (_:Nat):List Bool:=[]
noncomputable def zHF:Code:=Tryz.f114.body.getD .skip
def zp2 (t0:AV) (H:zaa) (K:Kt):Prop:=
 zav t0 H fun t1 H=>
 zay [(.bool false),.snil,.snil] H fun t2 H=>
 zae true 3 t1 H fun t4=>
 ACalls tP ziv [t4] H fun t5 H=>
 zay [(.bool false),.snil,.snil] H fun t3 H=>
 zan 3 t3 t5 H fun H=>
 zaf 0 t3 fun t6=>
 zae false 1 t6 H fun t7=>
 zaf 1 t3 fun t8=>
 zae false 1 t8 H fun t9=>
 zaf 2 t3 fun t10=>
 zae false 1 t10 H fun t11=>
 zas [(.bool false),.snil,.snil] [(0,1),(1,1),(2,1)] [(0,t7),(1,t9),(2,t11)] fun t12=>
 zan 3 t2 t12 H fun H=>
 zae true 3 t2 H fun r0=>
 K r0 H
theorem zxQ {t0:AV} {H:zaa} {K:Kt} (h:HSc H→zp2 t0 H K):ACalls tP zeA [t0] H K:=
 zao (M:=zHE) Tryz.func114 (c:=zHF) (by kernel_rfl) (fun hs=>Eq.mpr (by kernel_rfl) (h hs))
def zHG (_:Nat):List Bool:=[]
noncomputable def zHH:Code:=Tryz.f120.body.getD .skip
def zp3 (t0:AV) (H:zaa) (K:Kt):Prop:=
 zav t0 H fun t1 H=>
 zay [(.bool false),.snil,.snil] H fun t2 H=>
 zad H (fun K'=>zaf 1 t1 (K' · H)) fun t5=>
 zad H (fun K'=>zal false 1 t5 H (K' · H)) fun t6=>
 zaF H (fun H K'=>ACalls tP ziw [t6] H K') fun t7=>
 zad H (fun K'=>zaf 2 t1 (K' · H)) fun t8=>
 zad H (fun K'=>zal false 1 t8 H (K' · H)) fun t9=>
 zaF H (fun H K'=>ACalls tP ziw [t9] H K') fun t10=>
 zad H (fun K'=>K' t7 H) fun t3=>
 zad H (fun K'=>K' t10 H) fun t4=>
 zah 1 t3 fun t12=>
 zab .eql false t12 (.int .i64 0) fun t13=>
 zac t13 false H (fun K'=>K' t4 H) fun t15 H=>
 zac t13 false H (fun K'=>zah 1 t15 (K' · H)) fun t16 H=>
 zac t13 false H (fun K'=>zab .eql false t16 (.int .i64 0) (K' · H)) fun t17 H=>
 zaj t13 (.bool true) t17 fun t18=>
 zag t18
 (zau 1 [(.int .u32 0)] 1 [(0,(.int .u32 1))] fun t19=>
 zas [(.bool false),.snil,.snil] [(0,1),(1,1),(2,1)] [(2,t19)] fun t20=>
 zan 3 t2 t20 H fun H=>
 zae true 3 t2 H fun r0=>
 K r0 H)
 (zaf 0 t1 fun t21=>
 zae false 1 t21 H fun t22=>
 zas [(.bool false),.snil,.snil] [(0,1),(1,1),(2,1)] [(0,t22),(1,t3),(2,t4)] fun t25=>
 zan 3 t2 t25 H fun H=>
 zae true 3 t2 H fun r0=>
 K r0 H)
theorem zxR {t0:AV} {H:zaa} {K:Kt} (h:HSc H→zp3 t0 H K):ACalls tP zd7 [t0] H K:=
 zao (M:=zHG) Tryz.func120 (c:=zHH) (by kernel_rfl) (fun hs=>Eq.mpr (by kernel_rfl) (h hs))
def zfo:Nat→List Bool
 | 5=>rl false [0,2,3,1,19,2,50]
 | 9=>rl false [0,2,3,3,17,2,3,2,45]
 | _=>[]
noncomputable def zp6:Code:=Tryz.f121.body.getD .skip
noncomputable def zHO:List ResultVar:=Tryz.f121.results.toList
def zj5 (t0 t1 t5 t25 t26:AV):List AV:=t0::t1::ux 3 (t5::ux 19 (t25::t26::ux 50 []))
def zxV:List Bool:=zfo 5
noncomputable def zp7:Code:=zaq [1,1,1,0,1,0,0] zp6
def zxS (K:Kt):AExit→List AV→zaa→Prop:=zar tP zfo [1,1,1,0,1,0] zp6 (zax tP zHO K)
def zxT (t0 t1 t5 t25 t26:AV) (H:zaa) (K:Kt):Prop:=ALoop tP zp7 (zxS K) (zj5 t0 t1 t5 t25 t26) H
def zhB (t0 t1 t5 t6 t7 t25 t26 t30 t31:AV):List AV:=t0::t1::ux 3 (t5::t6::t7::ux 17 (t25::t26::ux 3 (t30::t31::ux 45 [])))
def zHM:List Bool:=zfo 9
noncomputable def zHJ:Code:=zaq [1,1,0,0,1,1,0,1,0,0] zp7
def zHI (K:Kt) (Kb5:Lt):AExit→List AV→zaa→Prop:=zar tP zfo [1,1,0,0,1,1,0,1,0] zp7 (zb0 zxV Kb5 (zxS K))
def zxU (t0 t1 t5 t6 t7 t25 t26 t30 t31:AV) (H:zaa) (K:Kt) (Kb5:Lt):Prop:=ALoop tP zHJ (zHI K Kb5) (zhB t0 t1 t5 t6 t7 t25 t26 t30 t31) H
def zp5 (t0 t1 t5 t6 t7 t25 t26 t30 t31:AV) (H:zaa) (K:Kt) (Kb5:Lt) (Kb9:Lt):Prop:=
 zab .lss false t31 t30 fun t32=>
 zag t32
 (zad H (fun K'=>K' t0 H) fun t34=>
 zad H (fun K'=>K' t6 H) fun t35=>
 zad H (fun K'=>zai 1 t34 t35 (K' · H)) fun t36=>
 zad H (fun K'=>zal false 1 t36 H (K' · H)) fun t37=>
 zad H (fun K'=>za0 .u64 t37 (K' · H)) fun t38=>
 zad H (fun K'=>K' t1 H) fun t39=>
 zad H (fun K'=>K' t31 H) fun t40=>
 zad H (fun K'=>zai 1 t39 t40 (K' · H)) fun t41=>
 zad H (fun K'=>zal false 1 t41 H (K' · H)) fun t42=>
 zad H (fun K'=>za0 .u64 t42 (K' · H)) fun t43=>
 zad H (fun K'=>zab .mul false t38 t43 (K' · H)) fun t44=>
 zad H (fun K'=>K' t5 H) fun t45=>
 zad H (fun K'=>K' t6 H) fun t46=>
 zad H (fun K'=>K' t31 H) fun t47=>
 zad H (fun K'=>zab .add false t46 t47 (K' · H)) fun t48=>
 zad H (fun K'=>zai 1 t45 t48 (K' · H)) fun t49=>
 zad H (fun K'=>zal false 1 t49 H (K' · H)) fun t50=>
 zad H (fun K'=>za0 .u64 t50 (K' · H)) fun t51=>
 zad H (fun K'=>zab .add false t44 t51 (K' · H)) fun t52=>
 zad H (fun K'=>K' t7 H) fun t53=>
 zad H (fun K'=>zab .add false t52 t53 (K' · H)) fun t54=>
 zad H (fun K'=>K' t54 H) fun t9=>
 zab .add false t6 t31 fun t58=>
 zab .rem false t9 (.int .u64 1000000000) fun t60=>
 za0 .u32 t60 fun t61=>
 zai 1 t5 t58 fun t62=>
 zan 1 t62 t61 H fun H=>
 zab .quo false t9 (.int .u64 1000000000) fun t64=>
 zab .add false t31 (.int .i64 1) fun t65=>
 Kb9 (zhB t0 t1 t5 t6 t64 t25 t26 t30 t65) H)
 (zah 1 t1 fun t69=>
 zab .add false t6 t69 fun t70=>
 za0 .u32 t7 fun t72=>
 zai 1 t5 t70 fun t73=>
 zan 1 t73 t72 H fun H=>
 zab .add false t26 (.int .i64 1) fun t74=>
 Kb5 (zj5 t0 t1 t5 t25 t74) H)
def zp4 (t0 t1 t5 t25 t26:AV) (H:zaa) (K:Kt) (Kb5:Lt):Prop:=
 zab .lss false t26 t25 fun t27=>
 zag t27
 (zah 1 t1 fun t30=>
 zxU t0 t1 t5 t26 (.int .u64 0) t25 t26 t30 (.int .i64 0) H K Kb5)
 (ACalls tP ze6 [t5] H fun t76 H=>
 K t76 H)
def zj4 (t0 t1:AV) (H:zaa) (K:Kt):Prop:=
 zah 1 t0 fun t11=>
 zab .eql false t11 (.int .i64 0) fun t12=>
 zac t12 false H (fun K'=>K' t1 H) fun t14 H=>
 zac t12 false H (fun K'=>zah 1 t14 (K' · H)) fun t15 H=>
 zac t12 false H (fun K'=>zab .eql false t15 (.int .i64 0) (K' · H)) fun t16 H=>
 zaj t12 (.bool true) t16 fun t17=>
 zag t17
 (K .snil H)
 (zah 1 t0 fun t19=>
 zah 1 t1 fun t21=>
 zab .add false t19 t21 fun t22=>
 zbh 4 [(.int .u32 0)] t22 t22 H fun t23 H=>
 zah 1 t0 fun t25=>
 zxT t0 t1 t23 t25 (.int .i64 0) H K)
theorem zHL {t0 t1 t5 t6 t7 t25 t26 t30 t31:AV} {H:zaa} {K:Kt} {Kb5:Lt} (Inv:Nat→AV→AV→zaa→Prop) (n:Nat) (h0:HSc H→Inv n t7 t31 H)
  (round:Rd2 (fun t7=>fun t31=>zhB t0 t1 t5 t6 t7 t25 t26 t30 t31) (fun t7=>fun t31=>fun H Kb9=>zp5 t0 t1 t5 t6 t7 t25 t26 t30 t31 H K Kb5 Kb9) H Inv):zxU t0 t1 t5 t6 t7 t25 t26 t30 t31 H K Kb5:=
 lp2 (M:=zfo) zHM t7 t31 (by kernel_rfl) Inv n h0 round
theorem zHK {t0 t1 t5 t25 t26:AV} {H:zaa} {K:Kt} (Inv:Nat→AV→zaa→Prop) (n:Nat) (h0:HSc H→Inv n t26 H)
  (round:Rd1 (fun t26=>zj5 t0 t1 t5 t25 t26) (fun t26=>fun H Kb5=>zp4 t0 t1 t5 t25 t26 H K Kb5) H Inv):zxT t0 t1 t5 t25 t26 H K:=
 lp1 (M:=zfo) zxV t26 (by kernel_rfl) Inv n h0 round
theorem zHN {t0 t1:AV} {H:zaa} {K:Kt} (h:HSc H→zj4 t0 t1 H K):ACalls tP zdt [t0,t1] H K:=
 zao (M:=zfo) Tryz.func121 (c:=zp6) (by kernel_rfl) (fun hs=>Eq.mpr (by kernel_rfl) (h hs))
def zId (_:Nat):List Bool:=[]
noncomputable def zIe:Code:=Tryz.f129.body.getD .skip
def zx3 (t0 t1:AV) (H:zaa) (K:Kt):Prop:=
 zav t0 H fun t2 H=>
 zav t1 H fun t3 H=>
 zay [(.bool false),.snil,.snil] H fun t4 H=>
 zad H (fun K'=>zaf 1 t2 (K' · H)) fun t8=>
 zad H (fun K'=>zal false 1 t8 H (K' · H)) fun t9=>
 zad H (fun K'=>zaf 2 t3 (K' · H)) fun t10=>
 zad H (fun K'=>zal false 1 t10 H (K' · H)) fun t11=>
 zaF H (fun H K'=>ACalls tP zdt [t9,t11] H K') fun t12=>
 zad H (fun K'=>zaf 1 t3 (K' · H)) fun t13=>
 zad H (fun K'=>zal false 1 t13 H (K' · H)) fun t14=>
 zad H (fun K'=>zaf 2 t2 (K' · H)) fun t15=>
 zad H (fun K'=>zal false 1 t15 H (K' · H)) fun t16=>
 zaF H (fun H K'=>ACalls tP zdt [t14,t16] H K') fun t17=>
 zad H (fun K'=>K' t12 H) fun t5=>
 zad H (fun K'=>K' t17 H) fun t6=>
 zaf 2 t2 fun t18=>
 zae false 1 t18 H fun t19=>
 zaf 2 t3 fun t20=>
 zae false 1 t20 H fun t21=>
 ACalls tP zdt [t19,t21] H fun t22 H=>
 zaf 0 t2 fun t23=>
 zae false 1 t23 H fun t24=>
 zaf 0 t3 fun t25=>
 zae false 1 t25 H fun t26=>
 zab .eql true t24 t26 fun t27=>
 zag t27
 (zad H (fun K'=>zaf 0 t2 (K' · H)) fun t28=>
 zad H (fun K'=>zal false 1 t28 H (K' · H)) fun t29=>
 zad H (fun K'=>K' t5 H) fun t30=>
 zad H (fun K'=>K' t6 H) fun t31=>
 zaF H (fun H K'=>ACalls tP zoj [t30,t31] H K') fun t32=>
 zad H (fun K'=>K' t22 H) fun t33=>
 zad H (fun K'=>zas [(.bool false),.snil,.snil] [(0,1),(1,1),(2,1)] [(0,t29),(1,t32),(2,t33)] (K' · H)) fun t34=>
 zan 3 t4 t34 H fun H=>
 zae true 3 t4 H fun r0=>
 K r0 H)
 (ACalls tP ziz [t5,t6] H fun t37 H=>
 zab .geq false t37 (.int .i64 0) fun t38=>
 zag t38
 (zad H (fun K'=>zaf 0 t2 (K' · H)) fun t39=>
 zad H (fun K'=>zal false 1 t39 H (K' · H)) fun t40=>
 zad H (fun K'=>K' t5 H) fun t41=>
 zad H (fun K'=>K' t6 H) fun t42=>
 zaF H (fun H K'=>ACalls tP zvo [t41,t42] H K') fun t43=>
 zad H (fun K'=>K' t22 H) fun t44=>
 zad H (fun K'=>zas [(.bool false),.snil,.snil] [(0,1),(1,1),(2,1)] [(0,t40),(1,t43),(2,t44)] (K' · H)) fun t45=>
 zan 3 t4 t45 H fun H=>
 zae true 3 t4 H fun r0=>
 K r0 H)
 (zad H (fun K'=>zaf 0 t3 (K' · H)) fun t46=>
 zad H (fun K'=>zal false 1 t46 H (K' · H)) fun t47=>
 zad H (fun K'=>K' t6 H) fun t48=>
 zad H (fun K'=>K' t5 H) fun t49=>
 zaF H (fun H K'=>ACalls tP zvo [t48,t49] H K') fun t50=>
 zad H (fun K'=>K' t22 H) fun t51=>
 zad H (fun K'=>zas [(.bool false),.snil,.snil] [(0,1),(1,1),(2,1)] [(0,t47),(1,t50),(2,t51)] (K' · H)) fun t52=>
 zan 3 t4 t52 H fun H=>
 zae true 3 t4 H fun r0=>
 K r0 H))
theorem zIf {t0 t1:AV} {H:zaa} {K:Kt} (h:HSc H→zx3 t0 t1 H K):ACalls tP zn1 [t0,t1] H K:=
 zao (M:=zId) Tryz.func129 (c:=zIe) (by kernel_rfl) (fun hs=>Eq.mpr (by kernel_rfl) (h hs))
def zIq (_:Nat):List Bool:=[]
noncomputable def zIr:Code:=Tryz.f132.body.getD .skip
def zqg (t0:AV) (H:zaa) (K:Kt):Prop:=
 zav t0 H fun t1 H=>
 zaf 1 t1 fun t4=>
 zae false 1 t4 H fun t5=>
 zah 1 t5 fun t6=>
 zab .eql false t6 (.int .i64 0) fun t7=>
 zag t7
 (K (.int .i64 0) H)
 (zaf 0 t1 fun t9=>
 zae false 1 t9 H fun t10=>
 zag t10
 (K (.int .i64 (-1)) H)
 (K (.int .i64 1) H))
theorem zIs {t0:AV} {H:zaa} {K:Kt} (h:HSc H→zqg t0 H K):ACalls tP zn4 [t0] H K:=
 zao (M:=zIq) Tryz.func132 (c:=zIr) (by kernel_rfl) (fun hs=>Eq.mpr (by kernel_rfl) (h hs))
def zlc:Nat→List Bool
 | 6=>rl false [0,2,3,1,37]
 | _=>[]
noncomputable def zre:Code:=Tryz.f172.body.getD .skip
noncomputable def zLC:List ResultVar:=Tryz.f172.results.toList
def zld (t0 t1 t5:AV):List AV:=t0::t1::ux 3 (t5::ux 37 [])
def zLA:List Bool:=zlc 6
noncomputable def zLy:Code:=zaq [1,1,0,1,0,0] zre
def zLx (K:Kt):AExit→List AV→zaa→Prop:=zar tP zlc [1,1,0,1,0] zre (zax tP zLC K)
def zzk (t0 t1 t5:AV) (H:zaa) (K:Kt):Prop:=ALoop tP zLy (zLx K) (zld t0 t1 t5) H
def zhK (t0 t1 t5:AV) (H:zaa) (K:Kt) (Kb6:Lt):Prop:=
 zab .geq false t5 (.int .i64 0) fun t20=>
 zag t20
 (zad H (fun K'=>K' t0 H) fun t24=>
 zad H (fun K'=>K' t5 H) fun t25=>
 zad H (fun K'=>zai 1 t24 t25 (K' · H)) fun t26=>
 zad H (fun K'=>zal false 1 t26 H (K' · H)) fun t27=>
 zad H (fun K'=>K' t1 H) fun t28=>
 zad H (fun K'=>K' t5 H) fun t29=>
 zad H (fun K'=>zai 1 t28 t29 (K' · H)) fun t30=>
 zad H (fun K'=>zal false 1 t30 H (K' · H)) fun t31=>
 zad H (fun K'=>zab .lss false t27 t31 (K' · H)) fun t32=>
 zad H (fun K'=>K' t32 H) fun t23=>
 zag t23
 (K (.int .i64 (-1)) H)
 (zad H (fun K'=>K' t0 H) fun t34=>
 zad H (fun K'=>K' t5 H) fun t35=>
 zad H (fun K'=>zai 1 t34 t35 (K' · H)) fun t36=>
 zad H (fun K'=>zal false 1 t36 H (K' · H)) fun t37=>
 zad H (fun K'=>K' t1 H) fun t38=>
 zad H (fun K'=>K' t5 H) fun t39=>
 zad H (fun K'=>zai 1 t38 t39 (K' · H)) fun t40=>
 zad H (fun K'=>zal false 1 t40 H (K' · H)) fun t41=>
 zad H (fun K'=>zab .gtr false t37 t41 (K' · H)) fun t42=>
 zad H (fun K'=>K' t42 H) fun t33=>
 zag t33
 (K (.int .i64 1) H)
 (zab .sub false t5 (.int .i64 1) fun t22=>
 Kb6 (zld t0 t1 t22) H)))
 (K (.int .i64 0) H)
def zlb (t0 t1:AV) (H:zaa) (K:Kt):Prop:=
 zah 1 t0 fun t7=>
 zah 1 t1 fun t9=>
 zab .neq false t7 t9 fun t10=>
 zag t10
 (zah 1 t0 fun t12=>
 zah 1 t1 fun t14=>
 zab .lss false t12 t14 fun t15=>
 zag t15
 (K (.int .i64 (-1)) H)
 (K (.int .i64 1) H))
 (zah 1 t0 fun t17=>
 zab .sub false t17 (.int .i64 1) fun t18=>
 zzk t0 t1 t18 H K)
theorem zLz {t0 t1 t5:AV} {H:zaa} {K:Kt} (Inv:Nat→AV→zaa→Prop) (n:Nat) (h0:HSc H→Inv n t5 H)
  (round:Rd1 (fun t5=>zld t0 t1 t5) (fun t5=>fun H Kb6=>zhK t0 t1 t5 H K Kb6) H Inv):zzk t0 t1 t5 H K:=
 lp1 (M:=zlc) zLA t5 (by kernel_rfl) Inv n h0 round
theorem zLB {t0 t1:AV} {H:zaa} {K:Kt} (h:HSc H→zlb t0 t1 H K):ACalls tP ziz [t0,t1] H K:=
 zao (M:=zlc) Tryz.func172 (c:=zre) (by kernel_rfl) (fun hs=>Eq.mpr (by kernel_rfl) (h hs))
def zkI:Nat→List Bool
 | 2=>rl false [0,1,2,1,11]
 | _=>[]
noncomputable def zqE:Code:=Tryz.f152.body.getD .skip
noncomputable def zJM:List ResultVar:=Tryz.f152.results.toList
def zkJ (t0 t3:AV):List AV:=t0::ux 2 (t3::ux 11 [])
def zJK:List Bool:=zkI 2
noncomputable def zJI:Code:=zaq [1,1,0,0,0] zqE
def zJH (K:Kt):AExit→List AV→zaa→Prop:=zar tP zkI [1,1,0,0] zqE (zax tP zJM K)
def zkK (t0 t3:AV) (H:zaa) (K:Kt):Prop:=ALoop tP zJI (zJH K) (zkJ t0 t3) H
def zqD (t0 t3:AV) (H:zaa) (K:Kt) (Kb2:Lt):Prop:=
 zab .gtr false t0 (.int .u64 0) fun t5=>
 zag t5
 (zab .rem false t0 (.int .u64 1000000000) fun t10=>
 za0 .u32 t10 fun t11=>
 zau 1 [(.int .u32 0)] 1 [(0,t11)] fun t12=>
 zaw zbd 1 4 t3 t12 H fun t13 H=>
 zab .quo false t0 (.int .u64 1000000000) fun t7=>
 Kb2 (zkJ t7 t13) H)
 (K t3 H)
def zyr (t0:AV) (H:zaa) (K:Kt):Prop:=
 zkK t0 .snil H K
theorem zJJ {t0 t3:AV} {H:zaa} {K:Kt} (Inv:Nat→AV→AV→zaa→Prop) (n:Nat) (h0:HSc H→Inv n t0 t3 H)
  (round:Rd2 (fun t0=>fun t3=>zkJ t0 t3) (fun t0=>fun t3=>fun H Kb2=>zqD t0 t3 H K Kb2) H Inv):zkK t0 t3 H K:=
 lp2 (M:=zkI) zJK t0 t3 (by kernel_rfl) Inv n h0 round
theorem zJL {t0:AV} {H:zaa} {K:Kt} (h:HSc H→zyr t0 H K):ACalls tP zfS [t0] H K:=
 zao (M:=zkI) Tryz.func152 (c:=zqE) (by kernel_rfl) (fun hs=>Eq.mpr (by kernel_rfl) (h hs))
def zJN (_:Nat):List Bool:=[]
noncomputable def zJO:Code:=Tryz.f153.body.getD .skip
def zkL (t0:AV) (H:zaa) (K:Kt):Prop:=
 zav t0 H fun t1 H=>
 zay [(.bool false),.snil,.snil] H fun t2 H=>
 zaf 1 t1 fun t8=>
 zae false 1 t8 H fun t9=>
 zah 1 t9 fun t10=>
 zab .eql false t10 (.int .i64 0) fun t11=>
 zag t11
 (zau 1 [(.int .u32 0)] 1 [(0,(.int .u32 1))] fun t12=>
 zas [(.bool false),.snil,.snil] [(0,1),(1,1),(2,1)] [(2,t12)] fun t13=>
 zan 3 t2 t13 H fun H=>
 zae true 3 t2 H fun r0=>
 K r0 H)
 (zaf 2 t1 fun t14=>
 zae false 1 t14 H fun t15=>
 ACalls tP ziF [t15] H fun t16 H=>
 zag t16
 (zae true 3 t1 H fun t17=>
 zan 3 t2 t17 H fun H=>
 zae true 3 t2 H fun r0=>
 K r0 H)
 (zaf 1 t1 fun t18=>
 zae false 1 t18 H fun t19=>
 zaf 2 t1 fun t20=>
 zae false 1 t20 H fun t21=>
 ACalls tP zon [t19,t21] H fun t22 H=>
 ACalls tP ziF [t22] H fun t24 H=>
 zag t24
 (zae true 3 t1 H fun t25=>
 zan 3 t2 t25 H fun H=>
 zae true 3 t2 H fun r0=>
 K r0 H)
 (zaf 1 t1 fun t27=>
 zae false 1 t27 H fun t28=>
 ACalls tP zg1 [t28,t22] H fun t30 H=>
 zaz t30 0 fun t31=>
 zaz t30 1 fun t32=>
 zaf 2 t1 fun t34=>
 zae false 1 t34 H fun t35=>
 ACalls tP zg1 [t35,t22] H fun t37 H=>
 zaz t37 0 fun t38=>
 zaz t37 1 fun t39=>
 zaf 0 t1 fun t40=>
 zae false 1 t40 H fun t41=>
 zas [(.bool false),.snil,.snil] [(0,1),(1,1),(2,1)] [(0,t41),(1,t31),(2,t38)] fun t44=>
 zan 3 t2 t44 H fun H=>
 zae true 3 t2 H fun r0=>
 K r0 H)))
theorem zys {t0:AV} {H:zaa} {K:Kt} (h:HSc H→zkL t0 H K):ACalls tP ziv [t0] H K:=
 zao (M:=zJN) Tryz.func153 (c:=zJO) (by kernel_rfl) (fun hs=>Eq.mpr (by kernel_rfl) (h hs))
def zkM:Nat→List Bool
 | 300000=>rl false [0,1]
 | 300001=>rl false [0,1]
 | 300002=>rl false [0,1]
 | 300003=>rl false [0,1]
 | 4=>rl false [0,1,2,2,7,2,27]
 | _=>[]
noncomputable def zqF:Code:=Tryz.f157.body.getD .skip
noncomputable def zJU:List ResultVar:=Tryz.f157.results.toList
def zkO (t0 t3 t4 t12 t13:AV):List AV:=t0::ux 2 (t3::t4::ux 7 (t12::t13::ux 27 []))
def zJS:List Bool:=zkM 4
noncomputable def zJQ:Code:=zaq [1,1,1,0,1,0,0] zqF
def zJP (K:Kt):AExit→List AV→zaa→Prop:=zar tP zkM [1,1,1,0,1,0] zqF (zax tP zJU K)
def zyu (t0 t3 t4 t12 t13:AV) (H:zaa) (K:Kt):Prop:=ALoop tP zJQ (zJP K) (zkO t0 t3 t4 t12 t13) H
def zkP (t3:AV) (H:zaa) (K:Kt):Prop:=
 ACalls tP ze6 [t3] H fun t40 H=>
 K t40 H
def zkN (t0 t3 t4 t12 t13:AV) (H:zaa) (K:Kt) (Kb4:Lt):Prop:=
 zab .lss false t13 t12 fun t14=>
 zag t14
 (zai 1 t0 t13 fun t18=>
 zae false 1 t18 H fun t19=>
 za0 .u64 t19 fun t20=>
 zab .add false t20 t4 fun t22=>
 zab .rem false t22 (.int .u64 1000000000) fun t25=>
 za0 .u32 t25 fun t26=>
 zau 1 [(.int .u32 0)] 1 [(0,t26)] fun t27=>
 zaw zbd 1 4 t3 t27 H fun t28 H=>
 zab .quo false t22 (.int .u64 1000000000) fun t30=>
 zab .add false t13 (.int .i64 1) fun t31=>
 Kb4 (zkO t0 t28 t30 t12 t31) H)
 (zab .gtr false t4 (.int .u64 0) fun t33=>
 zag t33
 (za0 .u32 t4 fun t36=>
 zau 1 [(.int .u32 0)] 1 [(0,t36)] fun t37=>
 zaw zbd 1 4 t3 t37 H fun t38 H=>
 zkP t38 H K)
 (zkP t3 H K))
def zyt (t0:AV) (H:zaa) (K:Kt):Prop:=
 zah 1 t0 fun t8=>
 zab .add false t8 (.int .i64 1) fun t9=>
 zep zbd 1 4 t9 H fun t10 H=>
 zah 1 t0 fun t12=>
 zyu t0 t10 (.int .u64 0) t12 (.int .i64 0) H K
theorem zJR {t0 t3 t4 t12 t13:AV} {H:zaa} {K:Kt} (Inv:Nat→AV→AV→AV→zaa→Prop) (n:Nat) (h0:HSc H→Inv n t3 t4 t13 H)
  (round:Rd3 (fun t3=>fun t4=>fun t13=>zkO t0 t3 t4 t12 t13) (fun t3=>fun t4=>fun t13=>fun H Kb4=>zkN t0 t3 t4 t12 t13 H K Kb4) H Inv):zyu t0 t3 t4 t12 t13 H K:=
 lp3 (M:=zkM) zJS t3 t4 t13 (by kernel_rfl) Inv n h0 round
theorem zJT {t0:AV} {H:zaa} {K:Kt} (h:HSc H→zyt t0 H K):ACalls tP ziw [t0] H K:=
 zao (M:=zkM) Tryz.func157 (c:=zqF) (by kernel_rfl) (fun hs=>Eq.mpr (by kernel_rfl) (h hs))
def zkQ:Nat→List Bool
 | 2=>rl false [0,1,2,1,17]
 | _=>[]
noncomputable def zqG:Code:=Tryz.f158.body.getD .skip
noncomputable def zJ0:List ResultVar:=Tryz.f158.results.toList
def zkS (t0 t3:AV):List AV:=t0::ux 2 (t3::ux 17 [])
def zJY:List Bool:=zkQ 2
noncomputable def zJW:Code:=zaq [1,1,0,0,0] zqG
def zJV (K:Kt):AExit→List AV→zaa→Prop:=zar tP zkQ [1,1,0,0] zqG (zax tP zJ0 K)
def zyw (t0 t3:AV) (H:zaa) (K:Kt):Prop:=ALoop tP zJW (zJV K) (zkS t0 t3) H
def zkR (t0 t3:AV) (H:zaa) (K:Kt) (Kb2:Lt):Prop:=
 zab .gtr false t3 (.int .i64 0) fun t7=>
 zac t7 true H (fun K'=>K' t0 H) fun t9 H=>
 zac t7 true H (fun K'=>K' t3 H) fun t10 H=>
 zac t7 true H (fun K'=>zab .sub false t10 (.int .i64 1) (K' · H)) fun t11 H=>
 zac t7 true H (fun K'=>zai 1 t9 t11 (K' · H)) fun t12 H=>
 zac t7 true H (fun K'=>zae false 1 t12 H (K' · H)) fun t13 H=>
 zac t7 true H (fun K'=>zab .eql false t13 (.int .u32 0) (K' · H)) fun t14 H=>
 zaj t7 t14 (.bool false) fun t15=>
 zag t15
 (zab .sub false t3 (.int .i64 1) fun t17=>
 Kb2 (zkS t0 t17) H)
 (zaN 1 1 t0 none (some t3) fun t20=>
 K t20 H)
def zyv (t0:AV) (H:zaa) (K:Kt):Prop:=
 zah 1 t0 fun t5=>
 zyw t0 t5 H K
theorem zJX {t0 t3:AV} {H:zaa} {K:Kt} (Inv:Nat→AV→zaa→Prop) (n:Nat) (h0:HSc H→Inv n t3 H)
  (round:Rd1 (fun t3=>zkS t0 t3) (fun t3=>fun H Kb2=>zkR t0 t3 H K Kb2) H Inv):zyw t0 t3 H K:=
 lp1 (M:=zkQ) zJY t3 (by kernel_rfl) Inv n h0 round
theorem zJZ {t0:AV} {H:zaa} {K:Kt} (h:HSc H→zyv t0 H K):ACalls tP ze6 [t0] H K:=
 zao (M:=zkQ) Tryz.func158 (c:=zqG) (by kernel_rfl) (fun hs=>Eq.mpr (by kernel_rfl) (h hs))
def zk6:Nat→List Bool
 | 300000=>rl false [0,1]
 | 300001=>rl false [0,1]
 | 300002=>rl false [0,1]
 | 300003=>rl false [0,1]
 | 300004=>rl false [0,1]
 | 6=>rl false [0,2,3,2,14,2,33]
 | _=>[]
noncomputable def zrd:Code:=Tryz.f171.body.getD .skip
noncomputable def zLv:List ResultVar:=Tryz.f171.results.toList
def zk7 (t0 t1 t5 t6 t21 t22:AV):List AV:=t0::t1::ux 3 (t5::t6::ux 14 (t21::t22::ux 33 []))
def zLt:List Bool:=zk6 6
noncomputable def zLr:Code:=zaq [1,1,1,1,0,1,0,0] zrd
def zLq (K:Kt):AExit→List AV→zaa→Prop:=zar tP zk6 [1,1,1,1,0,1,0] zrd (zax tP zLv K)
def zzj (t0 t1 t5 t6 t21 t22:AV) (H:zaa) (K:Kt):Prop:=ALoop tP zLr (zLq K) (zk7 t0 t1 t5 t6 t21 t22) H
def zk9 (t0 t1 t5 t8 t21 t22:AV) (H:zaa) (K:Kt) (Kb6:Lt):Prop:=
 zab .quo false t8 (.int .u32 1000000000) fun t42=>
 zab .rem false t8 (.int .u32 1000000000) fun t45=>
 zau 1 [(.int .u32 0)] 1 [(0,t45)] fun t46=>
 zaw zbd 1 4 t5 t46 H fun t47 H=>
 zab .add false t22 (.int .i64 1) fun t48=>
 Kb6 (zk7 t0 t1 t47 t42 t21 t48) H
def zla (t5:AV) (H:zaa) (K:Kt):Prop:=
 K t5 H
def zhJ (t0 t1 t5 t6 t21 t22:AV) (H:zaa) (K:Kt) (Kb6:Lt):Prop:=
 zab .lss false t22 t21 fun t23=>
 zag t23
 (zai 1 t0 t22 fun t27=>
 zae false 1 t27 H fun t28=>
 zab .add false t28 t6 fun t30=>
 zah 1 t1 fun t33=>
 zab .lss false t22 t33 fun t34=>
 zag t34
 (zai 1 t1 t22 fun t38=>
 zae false 1 t38 H fun t39=>
 zab .add false t30 t39 fun t40=>
 zk9 t0 t1 t5 t40 t21 t22 H K Kb6)
 (zk9 t0 t1 t5 t30 t21 t22 H K Kb6))
 (zab .gtr false t6 (.int .u32 0) fun t50=>
 zag t50
 (zau 1 [(.int .u32 0)] 1 [(0,t6)] fun t53=>
 zaw zbd 1 4 t5 t53 H fun t54 H=>
 zla t54 H K)
 (zla t5 H K))
def zk8 (t0 t1:AV) (H:zaa) (K:Kt):Prop:=
 zah 1 t0 fun t17=>
 zab .add false t17 (.int .i64 1) fun t18=>
 zep zbd 1 4 t18 H fun t19 H=>
 zah 1 t0 fun t21=>
 zzj t0 t1 t19 (.int .u32 0) t21 (.int .i64 0) H K
def zrc (t0 t1:AV) (H:zaa) (K:Kt):Prop:=
 zah 1 t0 fun t10=>
 zah 1 t1 fun t12=>
 zab .lss false t10 t12 fun t13=>
 zag t13
 (zk8 t1 t0 H K)
 (zk8 t0 t1 H K)
theorem zLs {t0 t1 t5 t6 t21 t22:AV} {H:zaa} {K:Kt} (Inv:Nat→AV→AV→AV→zaa→Prop) (n:Nat) (h0:HSc H→Inv n t5 t6 t22 H)
  (round:Rd3 (fun t5=>fun t6=>fun t22=>zk7 t0 t1 t5 t6 t21 t22) (fun t5=>fun t6=>fun t22=>fun H Kb6=>zhJ t0 t1 t5 t6 t21 t22 H K Kb6) H Inv):zzj t0 t1 t5 t6 t21 t22 H K:=
 lp3 (M:=zk6) zLt t5 t6 t22 (by kernel_rfl) Inv n h0 round
theorem zLu {t0 t1:AV} {H:zaa} {K:Kt} (h:HSc H→zrc t0 t1 H K):ACalls tP zoj [t0,t1] H K:=
 zao (M:=zk6) Tryz.func171 (c:=zrd) (by kernel_rfl) (fun hs=>Eq.mpr (by kernel_rfl) (h hs))
def zMv (_:Nat):List Bool:=[]
noncomputable def zMw:Code:=Tryz.f197.body.getD .skip
def zlw (t0:AV) (H:zaa) (K:Kt):Prop:=
 zah 1 t0 fun t4=>
 zab .eql false t4 (.int .i64 1) fun t5=>
 zac t5 true H (fun K'=>K' t0 H) fun t7 H=>
 zac t5 true H (fun K'=>zai 1 t7 (.int .i64 0) (K' · H)) fun t8 H=>
 zac t5 true H (fun K'=>zae false 1 t8 H (K' · H)) fun t9 H=>
 zac t5 true H (fun K'=>zab .eql false t9 (.int .u32 1) (K' · H)) fun t10 H=>
 zaj t5 t10 (.bool false) fun t11=>
 K t11 H
theorem zMx {t0:AV} {H:zaa} {K:Kt} (h:HSc H→zlw t0 H K):ACalls tP ziF [t0] H K:=
 zao (M:=zMv) Tryz.func197 (c:=zMw) (by kernel_rfl) (fun hs=>Eq.mpr (by kernel_rfl) (h hs))
def zfw:Nat→List Bool
 | 1=>rl false [0,2,47]
 | 5=>rl false [5,1,1,1,41]
 | _=>[]
noncomputable def zru:Code:=Tryz.f198.body.getD .skip
noncomputable def zME:List ResultVar:=Tryz.f198.results.toList
def zrw (t0 t1:AV):List AV:=t0::t1::ux 47 []
def zzF:List Bool:=zfw 1
noncomputable def zrv:Code:=zaq [1,0,0,0] zru
def zzC (K:Kt):AExit→List AV→zaa→Prop:=zar tP zfw [1,0,0] zru (zax tP zME K)
def zzD (t0 t1:AV) (H:zaa) (K:Kt):Prop:=ALoop tP zrv (zzC K) (zrw t0 t1) H
def zlx (t5 t7:AV):List AV:=ux 5 (t5::ux 1 (t7::ux 41 []))
def zMC:List Bool:=zfw 5
noncomputable def zMz:Code:=zaq [1,0,0,1,0,1,1,0,0,0] zrv
def zMy (K:Kt) (Kb1:Lt):AExit→List AV→zaa→Prop:=zar tP zfw [1,0,0,1,0,1,1,0,0] zrv (zb0 zzF Kb1 (zzC K))
def zzE (t5 t7:AV) (H:zaa) (K:Kt) (Kb1:Lt):Prop:=ALoop tP zMz (zMy K Kb1) (zlx t5 t7) H
def zrt (t5 t7:AV) (H:zaa) (K:Kt) (Kb1:Lt) (Kb5:Lt):Prop:=
 zab .gtr false t7 (.int .u64 0) fun t33=>
 zag t33
 (zad H (fun K'=>K' t7 H) fun t34=>
 zad H (fun K'=>K' t5 H) fun t35=>
 zad H (fun K'=>K' t7 H) fun t36=>
 zad H (fun K'=>zab .rem false t35 t36 (K' · H)) fun t37=>
 zad H (fun K'=>K' t34 H) fun t5=>
 zad H (fun K'=>K' t37 H) fun t7=>
 Kb5 (zlx t5 t7) H)
 (ACalls tP zfS [t5] H fun t39 H=>
 K t39 H)
def zrs (t0 t1:AV) (H:zaa) (K:Kt) (Kb1:Lt):Prop:=
 zah 1 t1 fun t12=>
 zab .gtr false t12 (.int .i64 0) fun t13=>
 zag t13
 (zah 1 t0 fun t15=>
 zab .leq false t15 (.int .i64 2) fun t16=>
 zac t16 true H (fun K'=>K' t1 H) fun t18 H=>
 zac t16 true H (fun K'=>zah 1 t18 (K' · H)) fun t19 H=>
 zac t16 true H (fun K'=>zab .leq false t19 (.int .i64 2) (K' · H)) fun t20 H=>
 zaj t16 t20 (.bool false) fun t21=>
 zag t21
 (ACalls tP ziK [t0] H fun t24 H=>
 zaz t24 0 fun t25=>
 zaz t24 1 fun t26=>
 ACalls tP ziK [t1] H fun t29 H=>
 zaz t29 0 fun t30=>
 zaz t29 1 fun t31=>
 zzE t25 t30 H K Kb1)
 (ACalls tP zg1 [t0,t1] H fun t43 H=>
 zaz t43 0 fun t44=>
 zaz t43 1 fun t45=>
 Kb1 (zrw t1 t45) H))
 (K t0 H)
def zzB (t0 t1:AV) (H:zaa) (K:Kt):Prop:=
 zzD t0 t1 H K
theorem zMB {t5 t7:AV} {H:zaa} {K:Kt} {Kb1:Lt} (Inv:Nat→AV→AV→zaa→Prop) (n:Nat) (h0:HSc H→Inv n t5 t7 H)
  (round:Rd2 (fun t5=>fun t7=>zlx t5 t7) (fun t5=>fun t7=>fun H Kb5=>zrt t5 t7 H K Kb1 Kb5) H Inv):zzE t5 t7 H K Kb1:=
 lp2 (M:=zfw) zMC t5 t7 (by kernel_rfl) Inv n h0 round
theorem zMA {t0 t1:AV} {H:zaa} {K:Kt} (Inv:Nat→AV→AV→zaa→Prop) (n:Nat) (h0:HSc H→Inv n t0 t1 H)
  (round:Rd2 (fun t0=>fun t1=>zrw t0 t1) (fun t0=>fun t1=>fun H Kb1=>zrs t0 t1 H K Kb1) H Inv):zzD t0 t1 H K:=
 lp2 (M:=zfw) zzF t0 t1 (by kernel_rfl) Inv n h0 round
theorem zMD {t0 t1:AV} {H:zaa} {K:Kt} (h:HSc H→zzB t0 t1 H K):ACalls tP zon [t0,t1] H K:=
 zao (M:=zfw) Tryz.func198 (c:=zru) (by kernel_rfl) (fun hs=>Eq.mpr (by kernel_rfl) (h hs))
def zzH:Nat→List Bool
 | 12=>rl false [8,6,77]
 | _=>[]
noncomputable def zrx:Code:=Tryz.f199.body.getD .skip
noncomputable def zMK:List ResultVar:=Tryz.f199.results.toList
def zMH (t8 t9 t10 t11 t12 t13:AV):List AV:=ux 8 (t8::t9::t10::t11::t12::t13::ux 77 [])
noncomputable def zMG:Code:=zaq [1,1,1,1,1,1,1,1,0,1,0,0] zrx
def zMF (K:Kt):AExit→List AV→zaa→Prop:=zar tP zzH [1,1,1,1,1,1,1,1,0,1,0] zrx (zax tP zMK K)
def zMI (t8 t9 t10 t11 t12 t13:AV) (H:zaa) (K:Kt):Prop:=ALoop tP zMG (zMF K) (zMH t8 t9 t10 t11 t12 t13) H
def zzG (t0 t1:AV) (H:zaa) (K:Kt):Prop:=
 ACalls tP ziz [t0,t1] H fun t18 H=>
 zab .lss false t18 (.int .i64 0) fun t19=>
 zag t19
 (zaw zbd 1 4 .snil t0 H fun t21 H=>
 zaC [.snil,t21] (K · H))
 (zah 1 t1 fun t23=>
 zab .eql false t23 (.int .i64 1) fun t24=>
 zag t24
 (zai 1 t1 (.int .i64 0) fun t28=>
 zae false 1 t28 H fun t29=>
 za0 .u64 t29 fun t30=>
 ACalls tP zos [t0,t30] H fun t31 H=>
 zaz t31 0 fun t32=>
 zaz t31 1 fun t33=>
 ACalls tP zfS [t33] H fun t36 H=>
 zaC [t32,t36] (K · H))
 (zah 1 t1 fun t38=>
 zab .sub false t38 (.int .i64 1) fun t41=>
 zai 1 t1 t41 fun t42=>
 zae false 1 t42 H fun t43=>
 za0 .u64 t43 fun t44=>
 zab .add false t44 (.int .u64 1) fun t45=>
 zab .quo false (.int .u64 1000000000) t45 fun t46=>
 ACalls tP zvr [t0,t46] H fun t49 H=>
 ACalls tP zvr [t1,t46] H fun t52 H=>
 zaN 1 1 t52 none (some t38) fun t54=>
 zah 1 t0 fun t56=>
 zab .sub false t56 t38 fun t58=>
 zab .add false t58 (.int .i64 1) fun t59=>
 zbh 4 [(.int .u32 0)] t59 t59 H fun t60 H=>
 zah 1 t0 fun t62=>
 zab .sub false t62 t38 fun t64=>
 zMI t38 t46 t49 t54 t60 t64 H K))
theorem zMJ {t0 t1:AV} {H:zaa} {K:Kt} (h:HSc H→zzG t0 t1 H K):ACalls tP zg1 [t0,t1] H K:=
 zao (M:=zzH) Tryz.func199 (c:=zrx) (by kernel_rfl) (fun hs=>Eq.mpr (by kernel_rfl) (h hs))
def zNq (_:Nat):List Bool:=[]
noncomputable def zNr:Code:=Tryz.f216.body.getD .skip
def zzR (t0 t1:AV) (H:zaa) (K:Kt):Prop:=
 zay [(.bool false),.snil,.snil] H fun t4 H=>
 zab .eql false t1 (.int .i64 0) fun t6=>
 zag t6
 (ACalls tP zde [(.int .i64 0)] H fun t7 H=>
 zan 3 t4 t7 H fun H=>
 zae true 3 t4 H fun r0=>
 K r0 H)
 (zab .lss false t0 (.int .i64 0) fun t9=>
 zab .lss false t1 (.int .i64 0) fun t11=>
 zab .neq true t9 t11 fun t12=>
 ACalls tP zgX [t0] H fun t14 H=>
 ACalls tP zgX [t1] H fun t16 H=>
 zas [(.bool false),.snil,.snil] [(0,1),(1,1),(2,1)] [(0,t12),(1,t14),(2,t16)] fun t17=>
 ACalls tP zeA [t17] H fun t18 H=>
 zan 3 t4 t18 H fun H=>
 zae true 3 t4 H fun r0=>
 K r0 H)
theorem zNs {t0 t1:AV} {H:zaa} {K:Kt} (h:HSc H→zzR t0 t1 H K):ACalls tP zoq [t0,t1] H K:=
 zao (M:=zNq) Tryz.func216 (c:=zNr) (by kernel_rfl) (fun hs=>Eq.mpr (by kernel_rfl) (h hs))
def zlG:Nat→List Bool
 | 3=>rl false [0,1,3,1,3,2,22]
 | _=>[]
noncomputable def zrN:Code:=Tryz.f223.body.getD .skip
noncomputable def zNC:List ResultVar:=Tryz.f223.results.toList
def zlH (t0 t4 t8 t9:AV):List AV:=t0::ux 3 (t4::ux 3 (t8::t9::ux 22 []))
def zNA:List Bool:=zlG 3
noncomputable def zNy:Code:=zaq [1,1,0,1,0,0] zrN
def zNx (K:Kt):AExit→List AV→zaa→Prop:=zar tP zlG [1,1,0,1,0] zrN (zax tP zNC K)
def zzU (t0 t4 t8 t9:AV) (H:zaa) (K:Kt):Prop:=ALoop tP zNy (zNx K) (zlH t0 t4 t8 t9) H
def zrM (t0 t4 t8 t9:AV) (H:zaa) (K:Kt) (Kb3:Lt):Prop:=
 zab .lss false t9 t8 fun t10=>
 zag t10
 (zah 1 t0 fun t14=>
 zab .sub false t14 (.int .i64 1) fun t15=>
 zab .sub false t15 t9 fun t17=>
 zai 1 t0 t17 fun t18=>
 zae false 1 t18 H fun t19=>
 za0 .u64 t19 fun t20=>
 zab .sub false (.int .u64 18446744073709551615) t20 fun t23=>
 zab .quo false t23 (.int .u64 1000000000) fun t24=>
 zab .gtr false t4 t24 fun t25=>
 zag t25
 (zaC [(.int .u64 0),(.bool false)] (K · H))
 (zab .mul false t4 (.int .u64 1000000000) fun t27=>
 zab .add false t27 t20 fun t29=>
 zab .add false t9 (.int .i64 1) fun t30=>
 Kb3 (zlH t0 t29 t8 t30) H))
 (zaC [t4,(.bool true)] (K · H))
def zzT (t0:AV) (H:zaa) (K:Kt):Prop:=
 zah 1 t0 fun t8=>
 zzU t0 (.int .u64 0) t8 (.int .i64 0) H K
theorem zNz {t0 t4 t8 t9:AV} {H:zaa} {K:Kt} (Inv:Nat→AV→AV→zaa→Prop) (n:Nat) (h0:HSc H→Inv n t4 t9 H)
  (round:Rd2 (fun t4=>fun t9=>zlH t0 t4 t8 t9) (fun t4=>fun t9=>fun H Kb3=>zrM t0 t4 t8 t9 H K Kb3) H Inv):zzU t0 t4 t8 t9 H K:=
 lp2 (M:=zlG) zNA t4 t9 (by kernel_rfl) Inv n h0 round
theorem zNB {t0:AV} {H:zaa} {K:Kt} (h:HSc H→zzT t0 H K):ACalls tP ziK [t0] H K:=
 zao (M:=zlG) Tryz.func223 (c:=zrN) (by kernel_rfl) (fun hs=>Eq.mpr (by kernel_rfl) (h hs))
def zlI:Nat→List Bool
 | 4=>rl false [0,2,4,3,32]
 | _=>[]
noncomputable def zrP:Code:=Tryz.f224.body.getD .skip
noncomputable def zNI:List ResultVar:=Tryz.f224.results.toList
def zlJ (t0 t1 t6 t7 t8:AV):List AV:=t0::t1::ux 4 (t6::t7::t8::ux 32 [])
def zNG:List Bool:=zlI 4
noncomputable def zNE:Code:=zaq [1,1,1,0,1,0,0] zrP
def zND (K:Kt):AExit→List AV→zaa→Prop:=zar tP zlI [1,1,1,0,1,0] zrP (zax tP zNI K)
def zzW (t0 t1 t6 t7 t8:AV) (H:zaa) (K:Kt):Prop:=ALoop tP zNE (zND K) (zlJ t0 t1 t6 t7 t8) H
def zrO (t0 t1 t6 t7 t8:AV) (H:zaa) (K:Kt) (Kb4:Lt):Prop:=
 zab .geq false t8 (.int .i64 0) fun t17=>
 zag t17
 (zab .mul false t7 (.int .u64 1000000000) fun t21=>
 zai 1 t0 t8 fun t24=>
 zae false 1 t24 H fun t25=>
 za0 .u64 t25 fun t26=>
 zab .add false t21 t26 fun t27=>
 zab .quo false t27 t1 fun t32=>
 za0 .u32 t32 fun t33=>
 zai 1 t6 t8 fun t34=>
 zan 1 t34 t33 H fun H=>
 zab .rem false t27 t1 fun t37=>
 zab .sub false t8 (.int .i64 1) fun t19=>
 Kb4 (zlJ t0 t1 t6 t37 t19) H)
 (ACalls tP ze6 [t6] H fun t39 H=>
 zaC [t39,t7] (K · H))
def zzV (t0 t1:AV) (H:zaa) (K:Kt):Prop:=
 zah 1 t0 fun t11=>
 zbh 4 [(.int .u32 0)] t11 t11 H fun t12 H=>
 zah 1 t0 fun t14=>
 zab .sub false t14 (.int .i64 1) fun t15=>
 zzW t0 t1 t12 (.int .u64 0) t15 H K
theorem zNF {t0 t1 t6 t7 t8:AV} {H:zaa} {K:Kt} (Inv:Nat→AV→AV→zaa→Prop) (n:Nat) (h0:HSc H→Inv n t7 t8 H)
  (round:Rd2 (fun t7=>fun t8=>zlJ t0 t1 t6 t7 t8) (fun t7=>fun t8=>fun H Kb4=>zrO t0 t1 t6 t7 t8 H K Kb4) H Inv):zzW t0 t1 t6 t7 t8 H K:=
 lp2 (M:=zlI) zNG t7 t8 (by kernel_rfl) Inv n h0 round
theorem zNH {t0 t1:AV} {H:zaa} {K:Kt} (h:HSc H→zzV t0 t1 H K):ACalls tP zos [t0,t1] H K:=
 zao (M:=zlI) Tryz.func224 (c:=zrP) (by kernel_rfl) (fun hs=>Eq.mpr (by kernel_rfl) (h hs))
def zRn (_:Nat):List Bool:=[]
noncomputable def zRo:Code:=Tryz.f80.body.getD .skip
def zBc (t0:AV) (H:zaa) (K:Kt):Prop:=
 zav t0 H fun t1 H=>
 zae true 3 t1 H fun t3=>
 ACalls tP zd7 [t3] H fun t4 H=>
 ACalls tP zn4 [t4] H fun t5 H=>
 K t5 H
theorem zRp {t0:AV} {H:zaa} {K:Kt} (h:HSc H→zBc t0 H K):ACalls tP ziZ [t0] H K:=
 zao (M:=zRn) Tryz.func80 (c:=zRo) (by kernel_rfl) (fun hs=>Eq.mpr (by kernel_rfl) (h hs))
def zlg:Nat→List Bool
 | 3=>rl false [0,1,3,2,2,2,16]
 | _=>[]
noncomputable def zrh:Code:=Tryz.f175.body.getD .skip
noncomputable def zLO:List ResultVar:=Tryz.f175.results.toList
def zli (t0 t4 t5 t8 t9:AV):List AV:=t0::ux 3 (t4::t5::ux 2 (t8::t9::ux 16 []))
def zLM:List Bool:=zlg 3
noncomputable def zLK:Code:=zaq [1,1,0,1,0,0] zrh
def zLJ (K:Kt):AExit→List AV→zaa→Prop:=zar tP zlg [1,1,0,1,0] zrh (zax tP zLO K)
def zzo (t0 t4 t5 t8 t9:AV) (H:zaa) (K:Kt):Prop:=ALoop tP zLK (zLJ K) (zli t0 t4 t5 t8 t9) H
def zlh (t0 t4 t5 t8 t9:AV) (H:zaa) (K:Kt) (Kb3:Lt):Prop:=
 zab .lss false t9 t8 fun t10=>
 zag t10
 (zab .eql false t0 t9 fun t14=>
 zag t14
 (ACalls tP zde [(.int .i64 0)] H fun t15 H=>
 zan 3 t4 t15 H fun H=>
 zae true 3 t4 H fun r0=>
 K r0 H)
 (zad H (fun K'=>zal true 3 t5 H (K' · H)) fun t16=>
 zad H (fun K'=>K' t0 H) fun t17=>
 zad H (fun K'=>K' t9 H) fun t18=>
 zad H (fun K'=>zab .sub false t17 t18 (K' · H)) fun t19=>
 zad H (fun K'=>K' t9 H) fun t20=>
 zad H (fun K'=>zab .add false t20 (.int .i64 1) (K' · H)) fun t21=>
 zaF H (fun H K'=>ACalls tP zoq [t19,t21] H K') fun t22=>
 zaF H (fun H K'=>ACalls tP zfb [t16,t22] H K') fun t23=>
 zan 3 t5 t23 H fun H=>
 zab .add false t9 (.int .i64 1) fun t24=>
 Kb3 (zli t0 t4 t5 t8 t24) H))
 (zae true 3 t5 H fun t25=>
 zan 3 t4 t25 H fun H=>
 zae true 3 t4 H fun r0=>
 K r0 H)
def zzn (t0 t1:AV) (H:zaa) (K:Kt):Prop:=
 zay [(.bool false),.snil,.snil] H fun t4 H=>
 ACalls tP zde [(.int .i64 1)] H fun t7 H=>
 zay [(.bool false),.snil,.snil] H fun t5 H=>
 zan 3 t5 t7 H fun H=>
 zzo t0 t4 t5 t1 (.int .i64 0) H K
theorem zLL {t0 t4 t5 t8 t9:AV} {H:zaa} {K:Kt} (Inv:Nat→AV→zaa→Prop) (n:Nat) (h0:HSc H→Inv n t9 H)
  (round:Rd1 (fun t9=>zli t0 t4 t5 t8 t9) (fun t9=>fun H Kb3=>zlh t0 t4 t5 t8 t9 H K Kb3) H Inv):zzo t0 t4 t5 t8 t9 H K:=
 lp1 (M:=zlg) zLM t9 (by kernel_rfl) Inv n h0 round
theorem zLN {t0 t1:AV} {H:zaa} {K:Kt} (h:HSc H→zzn t0 t1 H K):ACalls tP ziA [t0,t1] H K:=
 zao (M:=zlg) Tryz.func175 (c:=zrh) (by kernel_rfl) (fun hs=>Eq.mpr (by kernel_rfl) (h hs))
end Go.Proofs.YtdmamdnkcefmmaaGreatDoor
namespace Go.Proofs.YtdmamdnkcefmmaaGreatDoor
open Go Go.Abs
theorem zvu (L:List Nat) (hL:L.length≤1000000) (H:zaa) (K:Kt) (hK:K (.sl (zam (zbr L)) .none) H) :
  ACalls tP ze6 [.sl (zam L) .none] H K:=by
 refine ACalls.out (zJZ fun hs=>?_)
 simp[zyv]
 refine zJX (Inv:=fun q t3 H'=>∃ n:Nat,n≤L.length∧n=q∧t3=.int .i64 n∧H'=H∧zbr L=zbr (L.take n)) L.length ?_ ?_
 ·intro _;exact⟨L.length,by omega,rfl,by simp,rfl,by simp⟩
 ·rintro q t3 H' ⟨n,hn,rfl,rfl,rfl,hst⟩ hsc' hlen hsF Kb hKb
  have hone:∀ (l:List Nat),l=zbr L→Out (List.length H') K (AV.sl (zam l) .none) H':=fun l hl=>Out.one0 hs (.atom (.sl _ _)) rfl rfl (by rw[hl];exact hK)
  by_cases h0:n=0
  ·subst h0
   simp[zkR]
   exact⟨zdQ L,hone [] (by simpa[zbr]using hst.symm)⟩
  ·have hw:IntKind.i64.wrap ((n:Int)-1)=((n-1:Nat):Int):=by rw[zat (by omega) (by omega)];omega
   have hlt:n-1<L.length:=by omega
   by_cases hz:L[n-1]=0
   ·simp[zkR,show 0<n by omega,hw,hlt,hz]
    exact hKb _ _ ⟨n-1,by omega,Back.here (by simp) hs (by simp[zkS,AV.sc,AV.scA,AV.scB,AV.scV]) ⟨_,rfl,n-1,by omega,rfl,rfl,rfl,by rw[hst,zwF (by omega) hn hz]⟩⟩
   ·have hzb:(((L[n-1]:Nat):Int) == 0)=false:=by simp;omega
    simp[zkR,show 0<n by omega,hw,hlt,hzb]
    refine⟨⟨hn,zdQ L⟩,?_⟩
    rw[zxg]
    exact hone _ (by rw[hst,zwD (by omega) hn hz])
theorem znC (n:Nat) (hn:n<18446744073709551616) (H:zaa) (K:Kt) (hK:K (.sl (zam (lim n)) .none) H) :
  ACalls tP zfS [.int .u64 n] H K:=by
 refine ACalls.out (zJL fun hs=>?_)
 unfold zyr zkK
 refine ALoop.own 3 zbd 1 rfl ?_
 show zkK (.int .u64 n) (.sl [] (.own H.length)) (H++[.perm zbd 1 0]) (Out H.length K)
 refine zJJ (Inv:=fun q t0 t3 H'=>∃ (m:Nat) (A:List Nat),m=q∧t0=.int .u64 m∧t3=.sl (zam A) (.own H.length)∧lim n=A++lim m∧m<18446744073709551616 ∧
  H'=H++[.perm zbd 1 A.length]) n ?_ ?_
 ·intro _;exact⟨n,[],rfl,rfl,rfl,by simp,hn,rfl⟩
 ·rintro q t0 t3 H' ⟨m,A,rfl,rfl,rfl,hA,hm,rfl⟩ hsc' hlen hsF Kb hKb
  by_cases h0:m=0
  ·subst h0
   simp[zqD]
   exact Out.one hs (.atom (.sl _ _)) rfl rfl (by simpa[hA]using hK)
  ·have hlA:A.length+1≤1000:=by
    have h1:=congrArg List.length hA
    have h2:=zbK (n:=n) (k:=3) (by omega)
    rw[zb3 h0]at h1
    simp at h1
    omega
   obtain⟨x,c,hx1,hx2,hx3,e1,e2⟩:=zgE m hm
   simp only[zqD]
   simp[show 0<m by omega,e1,e2,hx3,zau,zaR,plain,AV.pd,zaw,zaK,zaG]
   refine⟨⟨by omega,by omega⟩,?_⟩
   rw[sN]
   refine hKb _ _ ⟨c,by omega,Back.here (by simp) (hs.append (by simp[AB.sc])) (by simp[zkJ,ux,AV.sc,AV.scA,AV.scB,AV.scV]) ⟨_,_,rfl,c,A++[x],rfl,rfl,rfl,?_,by omega,by simp⟩⟩
   rw[hA,zb3 h0,show m % 1000000000=x by omega,show m / 1000000000=c by omega];simp
theorem _root_.Go.Abs.ACalls.frzV1 {P:Program} {H:zaa} {f:FuncId} {K:Kt} (id e size n:Nat) (cs:List AV) (es:List (List AV)) (hH:H[id]?=some (.vec e size n cs)) (hp:plain cs=some es.flatten) (hlen:es.length=n) (hsz:∀ c∈es,c.length=size)
  (h:ACalls P f [.sl es .none] (H.set id .dead) K):ACalls P f [.ov id n] H K:=by
 intro B w G vs hR hv
 obtain⟨G',hE,hR',hd⟩:=hR.frzV hH hp hlen hsz
 refine (h B w G' vs hR' ?_).mono fun e w' ⟨v,r,H',G'',k1,k2,k3,k4,k5⟩=>⟨v,r,H',G'',k1,hE.trans k2,k3,k4,k5⟩
 generalize vs.toList=l at *
 match l,hv with
 | [v],⟨h1,_⟩=>exact⟨hd v h1,trivial⟩
theorem zGo (L:List Nat) (hL:∀ x∈L,x<1000000000) (hl:L.length≤100000) {id:Nat} {H:zaa} {K:Kt} (hid:H[id]?=some (.vec zbd 1 L.length (us L))) (hK:K (.sl (zam (lim (zap L))) .none) (H.set id .dead)) :
  ACalls tP ze6 [.ov id L.length] H K:=by
 refine ACalls.frzV1 id zbd 1 L.length (us L) (zam L) hid (by rw[zjI,zhy]) (by simp) (zdQ L) ?_
 refine zvu L (by omega) _ _ ?_
 rw[zfh L hL];exact hK
theorem zw3 (L:List Nat) (hL:∀ x∈L,x<1000000000) (hl:L.length≤100000) {id:Nat} {H:zaa} {K:Kt} (hid:H[id]?=some (.cells (us L))) (hK:K (.sl (zam (lim (zap L))) .none) (H.set id .dead)) :
  ACalls tP ze6 [.ms id 0 L.length L.length] H K:=by
 refine ACalls.frz id 0 L.length L.length 1 (us L) (zam L) hid (by simp) ?_ (by simp) (zdQ L) (Nat.le_refl _) (args':=[.sl (zam L) .none]) ⟨.one .ms,trivial⟩ ?_
 ·rw[List.drop_zero,List.take_of_length_le (by simp),zjI,zhy]
 ·refine zvu L (by omega) _ _ ?_
  rw[zfh L hL];exact hK
theorem zi7 (L:List Nat) (h32:∀ x∈L,x<4294967296) (hL:L.length≤50000) (H:zaa) (K:Kt) (hK:K (.sl (zam (lim (zap L))) .none) H) :
  ACalls tP ziw [.sl (zam L) .none] H K:=by
 refine ACalls.out (zJT fun hs=>?_)
 have hsc:∀ A:List Nat,HSc (H++[.vec zbd 1 A.length (us A)]):=fun A=>hs.append (by simp[AB.sc,us,AV.scA,AV.scB])
 simp[zyt,wi L.length (by omega)]
 refine⟨⟨by omega,by omega,by omega⟩,?_⟩
 have hend:∀ A:List Nat,(∀ x∈A,x<1000000000)→zap A=zap L→A.length≤100000→zkP (.ov H.length A.length) (H++[.vec zbd 1 A.length (us A)]) (Out H.length K):=by
  intro A hA he hl
  unfold zkP
  refine zGo A hA hl (by simp) ?_
  rw[he]
  simp
  exact Out.one hs (.atom (.sl _ _)) rfl rfl hK
 refine zJR (Inv:=fun q t3 t4 t13 H'=>∃ (i c:Nat) (A:List Nat),i≤L.length∧L.length-i=q∧t13=.int .i64 i∧t4=.int .u64 c∧t3=.ov H.length A.length∧A.length=i∧(∀ x∈A,x<1000000000)∧c≤5 ∧
  zap A+1000000000 ^ i*c=zap (L.take i)∧H'=H++[.vec zbd 1 A.length (us A)]) L.length ?_ ?_
 ·intro _;exact⟨0,0,[],by omega,rfl,rfl,rfl,rfl,rfl,by simp,by omega,by simp[zap],rfl⟩
 ·rintro q t3 t4 t13 H' ⟨i,c,A,hi,rfl,rfl,rfl,rfl,hAl,hA,hc,hv,rfl⟩ hsc' hlen hsF Kb hKb
  by_cases hlt:i<L.length
  ·have hx:=h32 L[i] (List.getElem_mem hlt)
   have w1:IntKind.u64.wrap ((L[i]:Nat):Int)=L[i]:=zbz (by omega)
   obtain⟨s,hs1⟩:∃ s,s=L[i]+c:=⟨_,rfl⟩
   have w2:IntKind.u64.wrap (((L[i]:Nat):Int)+(c:Int))=(s:Int):=by rw[hs1,←Int.natCast_add];exact zbz (by omega)
   obtain⟨x,c',hx1,hx2,hx3,e1,e2⟩:=zgE s (by omega)
   simp only[zkN]
   simp[hlt,w1,w2,e1,e2,hx3,zau,zaR,plain,AV.pd,zaw,zaK,zaG,wi i (by omega)]
   refine⟨⟨by omega,by omega⟩,?_⟩
   have e3:us A++[AV.int .u32 (x:Int)]=us (A++[x]):=by simp[us]
   rw[e3]
   refine hKb _ _ ⟨L.length-(i+1),by omega,Back.here (by simp) (by simpa using hsc (A++[x])) (by simp[zkO,ux,AV.sc,AV.scA,AV.scB,AV.scV]) ⟨_,_,_,rfl,i+1,c',A++[x],by omega,rfl,rfl,rfl,by simp,by simp[hAl],?_,by omega,?_,by simp⟩⟩
   ·intro y hy
    rcases List.mem_append.1 hy with hy | hy
    ·exact hA y hy
    ·simp at hy;omega
   ·rw[ze3,zfP L i hlt,←hv,hAl,Nat.pow_succ]
    grind
  ·obtain rfl:i=L.length:=by omega
   rw[List.take_length]at hv
   by_cases h0:c=0
   ·subst h0
    simp[zkN]
    exact hend A hA (by simpa using hv) (by omega)
   ·simp only[zkN]
    simp[show 0<c by omega,zdR (show c<4294967296 by omega),zau,zaR,plain,AV.pd,zaw,zaK,zaG]
    refine⟨⟨by omega,by omega⟩,?_⟩
    have e3:us A++[AV.int .u32 (c:Int)]=us (A++[c]):=by simp[us]
    rw[e3]
    have:=hend (A++[c]) (fun y hy=>by
     rcases List.mem_append.1 hy with hy | hy
     ·exact hA y hy
     ·simp at hy;omega) (by rw[ze3,hAl];exact hv) (by simp;omega)
    simpa using this
theorem zxm (O:List Nat) (i x:Nat) (h:i<O.length):List.take i (us O)++AV.int .u32 (x:Int)::List.drop (i+1) (us O)=us (O.set i x):=by rw[←zxk O i x h];simp
theorem zws {O:List Nat} (hO:∀ x∈O,x<1000000000) {i x:Nat} (hx:x<1000000000):∀ y∈O.set i x,y<1000000000:=by
 intro y hy
 rcases List.mem_or_eq_of_mem_set hy with hy | rfl
 ·exact hO y hy
 ·exact hx
theorem zDH {O:List Nat} {j:Nat} (h:zap O<1000000000 ^ j):O.getD j 0=0:=by
 by_cases hj:j<O.length
 ·have e:zap O=zap (O.take j)+1000000000 ^ j*(O[j]+1000000000*zap (O.drop (j+1))):=by
   conv=>lhs;rw[←List.take_append_drop j O,zgR,List.drop_eq_getElem_cons hj,zap]
   rw[List.length_take,Nat.min_eq_left (by omega)]
  rw[List.getD_eq_getElem?_getD,List.getElem?_eq_getElem hj,Option.getD_some]
  refine Nat.eq_zero_of_not_pos fun hp=>?_
  have h2:1000000000 ^ j*1≤1000000000 ^ j*(O[j]+1000000000*zap (O.drop (j+1))):=Nat.mul_le_mul_left _ (by omega)
  omega
 ·simp[List.getD_eq_getElem?_getD,show O.length≤j by omega]
theorem zDT (A B:List Nat) (lA:∀ x∈A,x<1000000000) (lB:∀ x∈B,x<1000000000) (ha:A.length≤1000) (hb:B.length≤1000) (H:zaa) (K:Kt)
  (hK:K (.sl (zam (lim (zap A*zap B))) .none) H) :
  ACalls tP zdt [.sl (zam A) .none,.sl (zam B) .none] H K:=by
 refine ACalls.out (zHN fun hs=>?_)
 by_cases hA0:A=[]
 ·subst hA0
  simp[zj4,zap]at hK ⊢
  exact Out.one0 hs (.atom .snil) rfl rfl (by simpa[zam]using hK)
 by_cases hB0:B=[]
 ·subst hB0
  have hAb:((A.length:Int) == 0)=false:=by
   have:A.length≠0:=fun h=>hA0 (List.eq_nil_of_length_eq_zero h)
   generalize A.length=q at this
   simp;omega
  simp[zj4,zap,hAb,hA0]at hK ⊢
  exact Out.one0 hs (.atom .snil) rfl rfl (by simpa[zam]using hK)
 have hAl0:A.length≠0:=fun h=>hA0 (List.eq_nil_of_length_eq_zero h)
 have hBl0:B.length≠0:=fun h=>hB0 (List.eq_nil_of_length_eq_zero h)
 have hAb:((A.length:Int) == 0)=false:=by
  generalize A.length=q at hAl0
  simp;omega
 have hBb:((B.length:Int) == 0)=false:=by
  generalize B.length=q at hBl0
  simp;omega
 have hw:IntKind.i64.wrap ((A.length:Int)+B.length)=((A.length+B.length:Nat):Int):=by rw[zat (by omega) (by omega)];omega
 simp[zj4,hAb,hBb,hA0,hB0,hw,zbh]
 have hN:((A.length:Int)+B.length).toNat=A.length+B.length:=by omega
 rw[hN,zpG]
 refine⟨⟨by omega,by omega,by omega⟩,?_⟩
 have hsc:∀ O:List Nat,HSc (H++[.cells (us O)]):=fun O=>hs.append (by simp[AB.sc,us,AV.scA,AV.scB])
 have hBlt:=zey B lB
 refine zHK (Inv:=fun q t26 H'=>∃ (i:Nat) (O:List Nat),i≤A.length∧A.length-i=q∧t26=.int .i64 i∧O.length=A.length+B.length∧(∀ x∈O,x<1000000000)∧zap O=zap (A.take i)*zap B∧H'=H++[.cells (us O)]) A.length ?_ ?_
 ·intro _;exact⟨0,_,by omega,rfl,rfl,by simp,by simp,by rw[zDI];simp[zap],rfl⟩
 ·rintro q t26 H' ⟨i,O,hi,rfl,rfl,hOl,hO,hv,rfl⟩ hsc' hlen hsF Kb hKb
  by_cases hlt:i<A.length
  ·have hxa:=lA A[i] (List.getElem_mem hlt)
   have hAl:=zey (A.take i) (fun y hy=>lA y (List.mem_of_mem_take hy))
   rw[List.length_take,Nat.min_eq_left (by omega)]at hAl
   have hO0:O.getD (i+B.length) 0=0:=by
    refine zDH ?_
    rw[hv,Nat.pow_add]
    exact Nat.mul_lt_mul'' hAl hBlt
   simp[zp4,hlt]
   refine zHL (Inv:=fun q t7 t31 H'=>∃ (k c:Nat) (R:List Nat),k≤B.length∧B.length-k=q∧t31=.int .i64 k∧t7=.int .u64 c∧R.length=A.length+B.length∧(∀ x∈R,x<1000000000)∧c<1000000000∧R.getD (i+B.length) 0=0 ∧
    zap R+c*1000000000 ^ (i+k)=zap O+A[i]*zap (B.take k)*1000000000 ^ i∧H'=H++[.cells (us R)]) B.length ?_ ?_
   ·intro _;exact⟨0,0,O,by omega,rfl,rfl,rfl,hOl,hO,by omega,hO0,by simp[zap],rfl⟩
   ·rintro q t7 t31 H' ⟨k,c,R,hk,rfl,rfl,rfl,hRl,hR,hc,hR0,hr,rfl⟩ hsc'' hlen' hsF' Kb2 hKb2
    by_cases hkb:k<B.length
    ·have hik:IntKind.i64.wrap ((i:Int)+k)=((i+k:Nat):Int):=by rw[zat (by omega) (by omega)];omega
     have hR2:i+k<R.length:=by omega
     have hxb:=lB B[k] (List.getElem_mem hkb)
     have hxr:=hR R[i+k] (List.getElem_mem hR2)
     have eT:((i:Int)+k).toNat=i+k:=by omega
     have w1:IntKind.u64.wrap ((R[i+k]:Nat):Int)=R[i+k]:=zbz (by omega)
     have w2:IntKind.u64.wrap ((A[i]:Nat):Int)=A[i]:=zbz (by omega)
     have w3:IntKind.u64.wrap ((B[k]:Nat):Int)=B[k]:=zbz (by omega)
     have hmul:A[i]*B[k]≤999999999*999999999:=Nat.mul_le_mul (by omega) (by omega)
     obtain⟨m,hm⟩:∃ m,m=A[i]*B[k]:=⟨_,rfl⟩
     have w4:IntKind.u64.wrap (((A[i]:Nat):Int)*(B[k]:Nat))=(m:Int):=by rw[hm,←Int.natCast_mul];exact zbz (by omega)
     obtain⟨s1,hs1⟩:∃ s,s=m+R[i+k]:=⟨_,rfl⟩
     have w5:IntKind.u64.wrap ((m:Int)+(R[i+k]:Nat))=(s1:Int):=by rw[hs1,←Int.natCast_add];exact zbz (by omega)
     obtain⟨s,hs2⟩:∃ s,s=s1+c:=⟨_,rfl⟩
     have w6:IntKind.u64.wrap ((s1:Int)+(c:Int))=(s:Int):=by rw[hs2,←Int.natCast_add];exact zbz (by omega)
     obtain⟨x,c',hx1,hx2,hx3,e1,e2⟩:=zgE s (by omega)
     have hnext:Kb2 (zhB (.sl (zam A) .none) (.sl (zam B) .none) (.ms H.length 0 (A.length+B.length) (A.length+B.length)) (.int .i64 i) (.int .u64 c') (.int .i64 A.length) (.int .i64 i) (.int .i64 B.length) (.int .i64 ((k:Int)+1))) (H++[.cells (us (R.set (i+k) x))]):=by
      have hls:=znP R (i+k) x hR2
      have hb1:=zfP B k hkb
      refine hKb2 _ _ ⟨B.length-(k+1),by omega,Back.here (by simp) (hsc _) (by simp[zhB,ux,AV.sc,AV.scA,AV.scB,AV.scV]) ⟨_,_,rfl,k+1,c',R.set (i+k) x,by omega,rfl,by simp,rfl,by simp[hRl],zws hR hx1,?_,?_,?_,rfl⟩⟩
      ·refine Nat.lt_of_not_le fun h=>?_
       have:=Nat.mul_le_mul_left 1000000000 h
       omega
      ·rw[List.getD_eq_getElem?_getD,List.getElem?_set_ne (by omega),←List.getD_eq_getElem?_getD];exact hR0
      ·rw[hb1,show i+(k+1)=i+k+1 by omega,Nat.pow_succ]
       rw[Nat.pow_add]at hr hls ⊢
       rw[hs2,hs1,hm]at hx2
       clear e1 e2 hx3 hKb hKb2 hsc' hsc'' hsF hsF' hBlt hK hs hR0 hO0 w1 w2 w3 w4 w5 w6
       generalize zap (R.set (i+k) x)=vS at *
       generalize R[i+k]=r at *
       generalize A[i]=a at *
       generalize B[k]=b at *
       generalize zap (List.take k B)=T at *
       generalize 1000000000 ^ i=P at *
       generalize 1000000000 ^ k=Q at *
       generalize zap R=vR at *
       generalize zap O=vO at *
       grind
     simp only[zp5]
     simp[hkb,hlt,hik,eT,w1,w2,w3,w4]
     refine⟨⟨by omega,by omega⟩,?_⟩
     rw[zBY R _ hR2]
     simp[w1,w5,w6,e1,e2,hx3,hik,eT,wi k (by omega),zxm R (i+k) x hR2]
     exact⟨⟨by omega,by omega⟩,by omega,hnext⟩
    ·obtain rfl:k=B.length:=by omega
     have hib:IntKind.i64.wrap ((i:Int)+B.length)=((i+B.length:Nat):Int):=by rw[zat (by omega) (by omega)];omega
     have eT:((i:Int)+B.length).toNat=i+B.length:=by omega
     have hR2:i+B.length<R.length:=by omega
     have hls:=znP R (i+B.length) c hR2
     rw[List.getD_eq_getElem?_getD,List.getElem?_eq_getElem hR2,Option.getD_some]at hR0
     rw[hR0]at hls
     simp only[zp5]
     simp[hib,eT,zdR (show c<4294967296 by omega),wi i (by omega),zxm R (i+B.length) c hR2]
     refine⟨⟨by omega,hlt⟩,by omega,?_⟩
     refine hKb _ _ ⟨A.length-(i+1),by omega,Back.here (by simp) (hsc _) (by simp[zj5,ux,AV.sc,AV.scA,AV.scB,AV.scV]) ⟨_,rfl,i+1,R.set (i+B.length) c,by omega,rfl,rfl,by simp[hRl],zws hR hc,?_,rfl⟩⟩
     rw[List.take_of_length_le (Nat.le_refl _)]at hr
     rw[zfP A i hlt]
     rw[hv]at hr
     clear hKb hKb2 hsc' hsc'' hsF hsF' hBlt hK hs hO0 hsc
     grind
  ·obtain rfl:i=A.length:=by omega
   rw[List.take_length]at hv
   simp[zp4]
   rw[←hOl]
   refine zw3 O hO (by omega) (by simp) ?_
   rw[hv]
   simp
   exact Out.one hs (.atom (.sl _ _)) rfl rfl hK
theorem znL (L:List Nat) (hL:L.length≤100000) (H:zaa) (K:Kt) (hK:K (.bool (decide (L=[1]))) H):ACalls tP ziF [.sl (zam L) .none] H K:=by
 refine ACalls.out (zMx fun hs=>?_)
 have hO:∀ b,b=decide (L=[1])→Out H.length K (.bool b) H:=fun b hb=>Out.bool (J:=[]) (by simp) (Nat.le_refl _) hs (by rw[hb];exact hK)
 match L with
 | []=>simp[zlw];exact hO false (by simp)
 | [x]=>
  simp[zlw,zam]
  refine hO _ ?_
  by_cases h:x=1
  ·subst h;rfl
  ·have hb:((x:Int) == 1)=false:=by simp;omega
   rw[hb];simp[h]
 | x::y::l=>
  have hb:((l.length:Int)+1+1 == 1)=false:=by simp;omega
  simp[zlw,hb]
  exact hO false (by simp)
theorem zDG (neg:Bool) (n:Nat) (hn:(lim n).length≤1000) (H:zaa) (K:Kt) (hK:K (.agg (zak (if neg=true then -(n:Int) else n))) H) :
  ACalls tP ziv [.agg [.bool neg,.sl (zam (lim n)) .none,.sl (zam [1]) .none]] H K:=by
 refine ACalls.out (zys fun hs=>?_)
 by_cases h0:n=0
 ·subst h0
  have e0:(if neg=true then -((0:Nat):Int) else ((0:Nat):Int))=0:=by cases neg <;> rfl
  have e1:zak 0=[.bool false,.sl [] .none,.sl [[.int .u32 1]] .none]:=by simp[zak,zam]
  rw[e0,e1]at hK
  simp[zkL,zau,zaR,plain,AV.pd,zas,zaH,zcK,Nat.add_assoc]
  exact Out.one hs (WkV.agg (ds:=[.bool false,.sl [] .none,.sl [[.int .u32 1]] .none]) ⟨.refl _,.snil,.sl _ _,trivial⟩) rfl (by simp[AV.scV,AV.scA,AV.scB]) hK
 ·have hp:0<(lim n).length:=by rw[zb3 h0];simp
  have hb:(((lim n).length:Int) == 0)=false:=by
   generalize (lim n).length=q at hp
   simp;omega
  have e1:zak (if neg=true then -(n:Int) else n)=[.bool neg,.sl (zam (lim n)) .none,.sl (zam [1]) .none]:=by
   cases neg
   ·simp[zak]
   ·simp[zak];omega
  rw[e1]at hK
  simp[zkL,hb,Nat.add_assoc]
  refine znL [1] (by simp) _ _ ?_
  simp[Nat.add_assoc]
  exact Out.one hs (WkV.agg (ds:=[.bool neg,.sl (zam (lim n)) .none,.sl (zam [1]) .none]) ⟨.refl _,.sl _ _,.sl _ _,trivial⟩) rfl (by simp[AV.scV,AV.scA,AV.scB]) hK
theorem zjt (neg:Bool) (n:Nat) (hn:(lim n).length≤1000) {z:Int} (hz:(if neg=true then -(n:Int) else n)=z) (H:zaa) (K:Kt) (hK:K (.agg (zak z)) H) :
  ACalls tP zeA [.agg [.bool neg,.sl (zam (lim n)) .none,.sl (zam [1]) .none]] H K:=by
 refine ACalls.out (zxQ fun hs=>?_)
 simp[zp2,Nat.add_assoc]
 refine zDG neg n hn _ _ ?_
 rw[hz]
 simp[zak,zas,zaH,zcK,AV.known,Nat.add_assoc]
 exact zdf hs hK
theorem zfO (z:Int) (hz:(lim z.natAbs).length≤1000) (H:zaa) (K:Kt) (hK:K (.agg (zak z)) H):ACalls tP zd7 [.agg (zak z)] H K:=by
 refine ACalls.out (zxR fun hs=>?_)
 simp[zp3,zak,Nat.add_assoc]
 refine zaE (.sl (zam (lim z.natAbs)) .none) (fun J=>zi7 _ (zgQ _) (by omega) _ _ (by rw[zbC];exact⟨rfl,rfl⟩)) ?_
 refine zaE (.sl (zam [1]) .none) (fun J=>zi7 [1] (by simp) (by simp) _ _ (by simp[zap,zdK])) ?_
 by_cases h0:z=0
 ·subst h0
  have e1:zak 0=[.bool false,.sl [] .none,.sl [[.int .u32 1]] .none]:=by simp[zak,zam]
  rw[e1]at hK
  simp[zau,zaR,plain,AV.pd,zas,zaH,zcK,Nat.add_assoc]
  exact Out.one hs (WkV.agg (ds:=[.bool false,.sl [] .none,.sl [[.int .u32 1]] .none]) ⟨.refl _,.snil,.sl _ _,trivial⟩) rfl (by simp[AV.scV,AV.scA,AV.scB]) hK
 ·have hp:0<(lim z.natAbs).length:=by rw[zb3 (by omega)];simp
  have hb:(((lim z.natAbs).length:Int) == 0)=false:=by
   generalize (lim z.natAbs).length=q at hp
   simp;omega
  simp[hb,zas,zaH,zcK,AV.known,Nat.add_assoc]
  exact zdf hs hK
theorem znR (n:Nat) (hn:n<9223372036854775808) (H:zaa) (K:Kt) (hK:K (.sl (zam (lim n)) .none) H):ACalls tP zgX [.int .i64 n] H K:=by
 refine ACalls.out (zHD fun hs=>?_)
 have w1:IntKind.u64.wrap (n:Int)=n:=zbz (by omega)
 have h0:¬ ((n:Int)<0):=by omega
 simp[zxP,h0,w1]
 refine znC n (by omega) _ _ ?_
 exact Out.one0 hs (.atom (.sl _ _)) rfl rfl hK
theorem zel (n:Nat) (hn:n<9223372036854775808) (H:zaa) (K:Kt) (hK:K (.agg (zak n)) H):ACalls tP zde [.int .i64 n] H K:=by
 refine ACalls.out (zQA fun hs=>?_)
 have h0:decide ((n:Int)<0)=false:=by simp
 have hl:=zbK (n:=n) (k:=3) (by omega)
 simp[zAS,Nat.add_assoc]
 refine znR n hn _ _ ?_
 simp[h0,zau,zaR,plain,AV.pd,zas,zaH,zcK,AV.known,Nat.add_assoc]
 refine ACalls.wk (args':=[.agg [.bool false,.sl (zam (lim n)) .none,.sl (zam [1]) .none]]) (zjt false n (by omega) (z:=n) (by simp) _ _ ?_) ⟨.agg ⟨.refl _,.refl _,.sl _ _,trivial⟩,trivial⟩
 simp[zhl,Nat.add_assoc]
 exact zdf hs hK
theorem zgV (a b:Nat) (ha:a<1000000000 ^ 30) (hb:b<1000000000 ^ 30) (H:zaa) (K:Kt) (hK:K (.sl (zam (lim (a*b))) .none) H):ACalls tP zdt [.sl (zam (lim a)) .none,.sl (zam (lim b)) .none] H K:=by
 have h1:=zbK ha
 have h2:=zbK hb
 refine zDT (lim a) (lim b) (zcb a) (zcb b) (by omega) (by omega) _ _ ?_
 rw[zbC,zbC];exact hK
theorem zvf (H:zaa) (K:Kt) (hK:K (.sl (zam [1]) .none) H):ACalls tP zdt [.sl (zam [1]) .none,.sl (zam [1]) .none] H K:=by
 have:=zgV 1 1 zi8 zi8 H K (by rw[Nat.mul_one,zdK];exact hK)
 rwa [zdK]at this
theorem zmq (a b:Int) (ha:Sm a) (hb:Sm b) (H:zaa) (K:Kt) (hK:K (.agg (zak (a*b))) H):ACalls tP zfb [.agg (zak a),.agg (zak b)] H K:=by
 refine ACalls.out (zAT fun hs=>?_)
 have la:=ha.len
 have lb:=hb.len
 have hm:=zbK (zDS ha hb)
 simp[zsB,zak,Nat.add_assoc]
 refine zaE (.agg (zak a)) (fun J=>zfO a (by omega) _ _ ⟨rfl,rfl⟩) ?_
 refine zaE (.agg (zak b)) (fun J=>zfO b (by omega) _ _ ⟨rfl,rfl⟩) ?_
 simp[zak,AV.known,Nat.add_assoc]
 refine zaE (.sl (zam (lim (a.natAbs*b.natAbs))) .none) (fun J=>zgV _ _ ha hb _ _ ⟨rfl,rfl⟩) ?_
 refine zaE (.sl (zam [1]) .none) (fun J=>zvf _ _ ⟨rfl,rfl⟩) ?_
 simp[zas,zaH,zcK,AV.known,Nat.add_assoc]
 refine zaE (.agg (zak (a*b))) (fun J=>zjt _ _ (by omega) (zE5 a b) _ _ ⟨rfl,rfl⟩) ?_
 simp[Nat.add_assoc]
 exact zdf hs hK
theorem zCJ (a b:Nat) (ha:(lim a).length≤1000) (hb:(lim b).length≤1000) (H:zaa) (K:Kt) (hK:K (.int .i64 (zca a b)) H) :
  ACalls tP ziz [.sl (zam (lim a)) .none,.sl (zam (lim b)) .none] H K:=by
 refine ACalls.out (zLB fun hs=>?_)
 have hO:∀ r,r=zca a b→Out H.length K (.int .i64 r) H:=fun r hr=>Out.int (J:=[]) (by simp) (Nat.le_refl _) hs (by rw[hr];exact hK)
 have lA:=zcb a
 have lB:=zcb b
 have vA:=zbC a
 have vB:=zbC b
 by_cases hne:(lim a).length=(lim b).length
 ·simp[zlb,hne]
  generalize hLA:lim a=A at *
  generalize hLB:lim b=B at *
  have hstart:IntKind.i64.wrap ((B.length:Int)-1)=(B.length:Int)-1:=zat (by omega) (by omega)
  rw[hstart]
  refine zLz (Inv:=fun q t5 H'=>∃ i:Nat,i≤B.length∧i=q∧t5=.int .i64 ((i:Int)-1)∧H'=H∧A.drop i=B.drop i) B.length ?_ ?_
  ·intro _;exact⟨B.length,by omega,rfl,rfl,rfl,by rw[List.drop_of_length_le (by omega),List.drop_of_length_le (by omega)]⟩
  ·rintro q t5 H' ⟨i,hi,rfl,rfl,rfl,hd⟩ hsc' hlen hsF Kb hKb
   by_cases h0:i=0
   ·subst h0
    simp[zhK]
    refine hO _ ?_
    simp at hd
    rw[←vA,←vB,hd]
    simp[zca]
   ·obtain⟨j,rfl⟩:∃ j,i=j+1:=⟨i-1,by omega⟩
    have hja:j<A.length:=by omega
    have hjb:j<B.length:=by omega
    have ej:((j+1:Nat):Int)-1=(j:Int):=by omega
    have hstep:IntKind.i64.wrap ((j:Int)-1)=(j:Int)-1:=zat (by omega) (by omega)
    rw[ej]
    rcases Nat.lt_trichotomy A[j] B[j] with h | h | h
    ·have:=zik hne lA j hja hd h
     simp[zhK,hja,hjb,h]
     exact hO _ (by rw[←vA,←vB];simp[zca,this])
    ·simp[zhK,hja,hjb,h,hstep]
     refine hKb _ _ ⟨j,by omega,Back.here (by simp) hs (by simp[zld,ux,AV.sc,AV.scA,AV.scB,AV.scV]) ⟨_,rfl,j,by omega,rfl,rfl,rfl,?_⟩⟩
     rw[List.drop_eq_getElem_cons hja,List.drop_eq_getElem_cons hjb,hd,h]
    ·have:=zik hne.symm lB j hjb hd.symm h
     simp[zhK,hja,hjb,h,Nat.le_of_lt h,Nat.not_lt.2 (Nat.le_of_lt h)]
     exact hO _ (by rw[←vA,←vB];simp[zca,this,Nat.not_lt.2 (Nat.le_of_lt this)])
 ·have hnb:(((lim a).length:Int) != ((lim b).length:Int))=true:=by simp;omega
  by_cases hlt:(lim a).length<(lim b).length
  ·have:=zij hlt
   simp[zlb,hnb,hlt]
   exact hO (-1) (by simp[zca,this])
  ·have:=zij (show (lim b).length<(lim a).length by omega)
   simp[zlb,hnb,hlt]
   exact hO 1 (by simp[zca,this,Nat.not_lt.2 (Nat.le_of_lt this)])
theorem zC1 (A:List Nat) (lA:∀ x∈A,x<1000000000) (ha:A.length≤1000) (d:Nat) (hd0:0<d) (hd:d<4294967296) (hdB:d≤1000000000) (H:zaa) (K:Kt)
  (hK:K (.tup [.sl (zam (lim (zap A / d))) .none,.int .u64 ((zap A % d:Nat):Int)]) H) :
  ACalls tP zos [.sl (zam A) .none,.int .u64 d] H K:=by
 refine ACalls.out (zNH fun hs=>?_)
 have hst:IntKind.i64.wrap ((A.length:Int)-1)=(A.length:Int)-1:=zat (by omega) (by omega)
 simp[zzV,zbh,hst]
 rw[zpG]
 refine⟨⟨by omega,by omega⟩,?_⟩
 have hsc:∀ O:List Nat,HSc (H++[.cells (us O)]):=fun O=>hs.append (by simp[AB.sc,us,AV.scA,AV.scB])
 refine zNF (Inv:=fun q t7 t8 H'=>∃ (i r:Nat) (O:List Nat),i≤A.length∧i=q∧t8=.int .i64 ((i:Int)-1)∧t7=.int .u64 r∧r<d∧O.length=A.length∧(∀ x∈O,x<1000000000) ∧
  zap (A.drop i)=d*zap (O.drop i)+r∧H'=H++[.cells (us O)]) A.length ?_ ?_
 ·intro _;exact⟨A.length,0,_,by omega,rfl,rfl,rfl,by omega,by simp,by simp,by simp[zap],rfl⟩
 ·rintro q t7 t8 H' ⟨i,r,O,hi,rfl,rfl,rfl,hr,hOl,hO,hv,rfl⟩ hsc' hlen hsF Kb hKb
  by_cases h0:i=0
  ·subst h0
   simp[zrO]
   rw[List.drop_zero,List.drop_zero]at hv
   rw[←hOl]
   refine zw3 O hO (by omega) (by simp) ?_
   have e1:zap A / d=zap O:=by rw[hv,Nat.mul_add_div hd0,Nat.div_eq_of_lt hr];simp
   have e2:zap A % d=r:=by rw[hv,Nat.mul_add_mod,Nat.mod_eq_of_lt hr]
   rw[e1,e2]at hK
   simp
   exact⟨⟨rfl,rfl⟩,Out.tup (bs:=[.sl (zam (lim (zap O))) .none,.int .u64 (r:Int)]) hs hK ⟨slV,za3 rfl rfl,trivial⟩⟩
  ·obtain⟨j,rfl⟩:∃ j,i=j+1:=⟨i-1,by omega⟩
   have hja:j<A.length:=by omega
   have hjO:j<O.length:=by omega
   have hxa:=lA A[j] (List.getElem_mem hja)
   have ej:((j+1:Nat):Int)-1=(j:Int):=by omega
   have hstep:IntKind.i64.wrap ((j:Int)-1)=(j:Int)-1:=zat (by omega) (by omega)
   have hrB:r*1000000000≤1000000000*1000000000:=Nat.mul_le_mul_right _ (by omega)
   obtain⟨m,hm⟩:∃ m,m=r*1000000000:=⟨_,rfl⟩
   have w1:IntKind.u64.wrap ((r:Int)*1000000000)=(m:Int):=by rw[show (r:Int)*1000000000=(m:Int) by omega];exact zbz (by omega)
   have w2:IntKind.u64.wrap ((A[j]:Nat):Int)=A[j]:=zbz (by omega)
   obtain⟨s,hs1⟩:∃ s,s=m+A[j]:=⟨_,rfl⟩
   have w3:IntKind.u64.wrap ((m:Int)+(A[j]:Nat))=(s:Int):=by rw[hs1,←Int.natCast_add];exact zbz (by omega)
   obtain⟨x,c,hx1,hx2,e1,e2⟩:=znw s d hd0 (by omega)
   have hcB:c<1000000000:=by
    refine Nat.lt_of_not_le fun h=>?_
    have h1:d*1000000000≤d*c:=Nat.mul_le_mul_left _ h
    have h2:r*1000000000+1000000000≤d*1000000000:=by
     rw[←Nat.succ_mul];exact Nat.mul_le_mul_right _ hr
    omega
   have w4:IntKind.u32.wrap (c:Int)=c:=zdR (by omega)
   rw[ej]
   simp only[zrO]
   simp[hja,w1,w2,w3,e1,e2,w4,hstep,zxl O j c hjO,hOl]
   refine⟨by omega,hKb _ _ ⟨j,by omega,Back.here (by simp) (hsc _) (by simp[zlJ,ux,AV.sc,AV.scA,AV.scB,AV.scV]) ⟨_,_,rfl,j,x,O.set j c,by omega,rfl,rfl,rfl,hx1,by simp[hOl],zwr hO hcB,?_,rfl⟩⟩⟩
   rw[zgS A j hja,zgS (O.set j c) j (by simpa using hjO),List.getElem_set_self,List.drop_set_of_lt (by omega),hv]
   rw[hs1,hm]at hx2
   generalize zap (O.drop (j+1))=Z at *
   grind
theorem zut (a b:Nat) (ha:(lim a).length≤1000) (hb0:0<b) (hb:b<1000000000) (H:zaa) (K:Kt)
  (hK:K (.tup [.sl (zam (lim (a / b))) .none,.sl (zam (lim (a % b))) .none]) H) :
  ACalls tP zg1 [.sl (zam (lim a)) .none,.sl (zam (lim b)) .none] H K:=by
 refine ACalls.out (zMJ fun hs=>?_)
 have hlb:lim b=[b]:=ze2 (by omega) hb
 simp only[zzG]
 refine zCJ a b ha (by rw[hlb];simp) _ _ ?_
 have hcz:(zca a b<0)↔a<b:=by
  unfold zca
  split
  ·simp;assumption
  ·split <;> simp <;> omega
 by_cases hlt:a<b
 ·simp[hcz,hlt]
  rw[Nat.div_eq_of_lt hlt,Nat.mod_eq_of_lt hlt,zu3]at hK
  simp[zaw,zaK,zaG]
  refine⟨zdQ _,⟨by omega,by omega⟩,⟨rfl,rfl⟩,?_⟩
  exact Out.tup (bs:=[.sl (zam []) .none,.sl (zam (lim a)) .none]) hs hK ⟨zdy,slV,trivial⟩
 ·have w1:IntKind.u64.wrap (b:Int)=b:=zbz (by omega)
  have hm:a % b<b:=Nat.mod_lt _ hb0
  simp[hcz,hlt,hlb,w1]
  refine zC1 (lim a) (zcb a) ha b hb0 (by omega) (by omega) _ _ ?_
  rw[zbC]
  simp
  refine znC (a % b) (by omega) _ _ ?_
  refine⟨⟨rfl,rfl⟩,?_⟩
  exact Out.tup0 (bs:=[.sl (zam (lim (a / b))) .none,.sl (zam (lim (a % b))) .none]) hs hK ⟨slV,slV,trivial⟩
theorem zxt (n:Nat) (hn:n<1000000000000000000) (H:zaa) (K:Kt) (hK:K (.tup [.int .u64 n,.bool true]) H):ACalls tP ziK [.sl (zam (lim n)) .none] H K:=by
 refine ACalls.out (zNB fun hs=>?_)
 have hl2:(lim n).length≤2:=zbK (by omega)
 have lA:=zcb n
 have vA:=zbC n
 generalize lim n=L at *
 simp[zzT]
 refine zNz (Inv:=fun q t4 t9 H'=>∃ i:Nat,i≤L.length∧L.length-i=q∧t9=.int .i64 i∧t4=.int .u64 ((zap (L.drop (L.length-i)):Nat):Int)∧H'=H) L.length ?_ ?_
 ·intro _;exact⟨0,by omega,rfl,rfl,by simp[zap],rfl⟩
 ·rintro q t4 t9 H' ⟨i,hi,rfl,rfl,rfl,rfl⟩ hsc' hlen hsF Kb hKb
  by_cases hlt:i<L.length
  ·have w1:IntKind.i64.wrap ((L.length:Int)-1)=((L.length-1:Nat):Int):=by rw[zat (by omega) (by omega)];omega
   have w2:IntKind.i64.wrap (((L.length-1:Nat):Int)-i)=((L.length-1-i:Nat):Int):=by rw[zat (by omega) (by omega)];omega
   have hj:L.length-1-i<L.length:=by omega
   have hx:=lA L[L.length-1-i] (List.getElem_mem hj)
   obtain⟨x,hx0⟩:∃ x,x=L[L.length-1-i]:=⟨_,rfl⟩
   have w3:IntKind.u64.wrap ((L[L.length-1-i]:Nat):Int)=(x:Int):=by rw[←hx0];exact zbz (by omega)
   have hdr:=zgS L (L.length-1-i) hj
   rw[show L.length-1-i+1=L.length-i by omega,←hx0]at hdr
   have hsm:zap (L.drop (L.length-i))<1000000000:=by
    have h1:=zey (L.drop (L.length-i)) (fun y hy=>lA y (List.mem_of_mem_drop hy))
    have h2:(L.drop (L.length-i)).length≤1:=by simp;omega
    have h3:1000000000 ^ (L.drop (L.length-i)).length≤1000000000 ^ 1:=Nat.pow_le_pow_right (by omega) h2
    omega
   have hnext:zap (L.drop (L.length-(i+1)))=zap (L.drop (L.length-i))*1000000000+x:=by
    rw[show L.length-(i+1)=L.length-1-i by omega,hdr];omega
   generalize hW:zap (L.drop (L.length-i))=W at *
   have w4:IntKind.u64.wrap (18446744073709551615-(x:Int))=((18446744073709551615-x:Nat):Int):=by
    rw[show (18446744073709551615:Int)-x=((18446744073709551615-x:Nat):Int) by omega];exact zbz (by omega)
   obtain⟨y,hy0⟩:∃ y,y=18446744073709551615-x:=⟨_,rfl⟩
   rw[←hy0]at w4
   obtain⟨r,c,hr1,hr2,hr3,e1,e2⟩:=zgE y (by omega)
   have hc:¬ (c<W):=by omega
   have w5:IntKind.u64.wrap ((W:Int)*1000000000)=((W*1000000000:Nat):Int):=by
    rw[show (W:Int)*1000000000=((W*1000000000:Nat):Int) by omega];exact zbz (by omega)
   obtain⟨m,hm0⟩:∃ m,m=W*1000000000:=⟨_,rfl⟩
   rw[←hm0]at w5
   obtain⟨s,hs0⟩:∃ s,s=m+x:=⟨_,rfl⟩
   have w6:IntKind.u64.wrap ((m:Int)+x)=(s:Int):=by rw[hs0,←Int.natCast_add];exact zbz (by omega)
   simp only[zrM]
   simp[hlt,w1,w2,hj,w3,w4,e2,hc,w5,w6,wi i (by omega)]
   exact hKb _ _ ⟨L.length-(i+1),by omega,Back.here (by simp) hs (by simp[zlH,ux,AV.sc,AV.scA,AV.scB,AV.scV]) ⟨_,_,rfl,i+1,by omega,rfl,rfl,by rw[hnext,hs0,hm0],rfl⟩⟩
  ·obtain rfl:i=L.length:=by omega
   rw[Nat.sub_self,List.drop_zero,vA]
   simp[zrM]
   exact⟨⟨rfl,rfl⟩,Out.tup0 (bs:=[.int .u64 (n:Int),.bool true]) hs hK ⟨za3 rfl rfl,za3 rfl rfl,trivial⟩⟩
theorem zDd (a b:Nat) (ha:a<1000000000000000000) (hb:b<1000000000000000000) (H:zaa) (K:Kt) (hK:K (.sl (zam (lim (Nat.gcd a b))) .none) H) :
  ACalls tP zon [.sl (zam (lim a)) .none,.sl (zam (lim b)) .none] H K:=by
 refine ACalls.out (zMD fun hs=>?_)
 have la:(lim a).length≤2:=zbK (by omega)
 have lb:(lim b).length≤2:=zbK (by omega)
 unfold zzB
 refine zMA (Inv:=fun q t0 t1 H'=>t0=.sl (zam (lim a)) .none∧t1=.sl (zam (lim b)) .none∧H'=H) 0 ?_ ?_
 ·intro _;exact⟨rfl,rfl,rfl⟩
 ·rintro q t0 t1 H' ⟨rfl,rfl,rfl⟩ hsc' hlen hsF Kb hKb
  by_cases h0:b=0
  ·subst h0
   rw[Nat.gcd_zero_right]at hK
   simp[zrs]
   exact Out.one0 hs (.atom (.sl _ _)) rfl rfl hK
  ·have hp:0<(lim b).length:=by rw[zb3 h0];simp
   have hla:decide (((lim a).length:Int)≤2)=true:=by simp;omega
   have hlb:decide (((lim b).length:Int)≤2)=true:=by simp;omega
   simp[zrs,hp,hla,hlb]
   refine zxt a ha _ _ ?_
   simp
   refine zxt b hb _ _ ?_
   simp
   refine zMB (Inv:=fun q t5 t7 H2=>∃ x y:Nat,y=q∧t5=.int .u64 x∧t7=.int .u64 y∧x<1000000000000000000∧y<1000000000000000000∧Nat.gcd x y=Nat.gcd a b∧H2=H') b ?_ ?_
   ·intro _;exact⟨a,b,rfl,rfl,rfl,ha,hb,rfl,rfl⟩
   ·rintro q t5 t7 H2 ⟨x,y,rfl,rfl,rfl,hx,hy,hg,rfl⟩ hsc2 hlen2 hsF2 Kb2 hKb2
    by_cases hy0:y=0
    ·subst hy0
     rw[Nat.gcd_zero_right]at hg
     subst hg
     simp[zrt]
     refine znC _ (by omega) _ _ ?_
     exact Out.one0 hs (.atom (.sl _ _)) rfl rfl hK
    ·obtain⟨r,c,hr1,hr2,e1,_⟩:=znw x y (by omega) (by omega)
     simp only[zrt]
     simp[show 0<y by omega,e1]
     refine hKb2 _ _ ⟨r,by omega,Back.here (by simp) hs (by simp[zlx,ux,AV.sc,AV.scA,AV.scB,AV.scV]) ⟨_,_,rfl,y,r,rfl,rfl,rfl,hy,by omega,?_,rfl⟩⟩
     have hrx:r=x % y:=by rw[hr2,Nat.add_mul_mod_self_left,Nat.mod_eq_of_lt hr1]
     rw[←hg,hrx,Nat.gcd_comm x y,Nat.gcd_rec y x,Nat.gcd_comm]
end Go.Proofs.YtdmamdnkcefmmaaGreatDoor
