import Derived.Test.YtjkkonpjecoieaaGreatKNum
import Derived.Test.YtjkkonpjecoieaaGreatProg
import Derived.KernelRfl
import Derived.Test.YtjkkonpjecoieaaGreatAbsQ1
import Derived.Test.YtjkkonpjecoieaaGreatAbsO3
set_option linter.unusedSimpArgs false
set_option linter.unusedVariables false
namespace Go.Proofs.YtjkkonpjecoieaaGreat
open Go Go.Abs
set_option maxRecDepth 100000
def zMX (_:Nat):List Bool:=[]
noncomputable def zMY:Code:=Tryz.f20.body.getD .skip
def zAv (t0:AV) (H:zaa) (K:Kt):Prop:=
 zaw [(.bool false),.snil,.snil] H fun t2 H=>
 zac .lss false t0 (.int .i64 0) fun t4=>
 zag t4
 (zac .add false t0 (.int .i64 1) fun t6=>
 aUn .neg t6 fun t7=>
 zbG .u64 t7 fun t8=>
 zac .add false t8 (.int .u64 1) fun t9=>
 ACalls tP zhL [t9] H fun t10 H=>
 zaB 1 [(.int .u32 0)] 1 [(0,(.int .u32 1))] fun t11=>
 ACalls tP zde [(.bool true),t10,t11] H fun t12 H=>
 zam 3 t2 t12 H fun H=>
 zae true 3 t2 H fun r0=>
 K r0 H)
 (zbG .u64 t0 fun t14=>
 ACalls tP zhL [t14] H fun t15 H=>
 zaB 1 [(.int .u32 0)] 1 [(0,(.int .u32 1))] fun t16=>
 ACalls tP zde [(.bool false),t15,t16] H fun t17 H=>
 zam 3 t2 t17 H fun H=>
 zae true 3 t2 H fun r0=>
 K r0 H)
theorem zMZ {t0:AV} {H:zaa} {K:Kt} (h:HSc H→zAv t0 H K):ACalls tP zb3 [t0] H K:=
 zan (M:=zMX) Tryz.func20 (c:=zMY) (by kernel_rfl) (fun hs=>Eq.mpr (by kernel_rfl) (h hs))
def zM3 (_:Nat):List Bool:=[]
noncomputable def zM4:Code:=Tryz.f21.body.getD .skip
def zAD (t0 t1:AV) (H:zaa) (K:Kt):Prop:=
 zao t0 H fun t2 H=>
 zao t1 H fun t3 H=>
 zaw [(.bool false),.snil,.snil] H fun t4 H=>
 zad H (fun K'=>zal true 3 t2 H (K' · H)) fun t5=>
 zaE H (fun H K'=>ACalls tP zdH [t5] H K') fun t6=>
 zad H (fun K'=>zal true 3 t3 H (K' · H)) fun t7=>
 zaE H (fun H K'=>ACalls tP zdH [t7] H K') fun t8=>
 zam 3 t2 t6 H fun H=>
 zam 3 t3 t8 H fun H=>
 zad H (fun K'=>zaf 0 t2 (K' · H)) fun t9=>
 zad H (fun K'=>zal false 1 t9 H (K' · H)) fun t10=>
 zad H (fun K'=>zaf 0 t3 (K' · H)) fun t11=>
 zad H (fun K'=>zal false 1 t11 H (K' · H)) fun t12=>
 zad H (fun K'=>zac .neq true t10 t12 (K' · H)) fun t13=>
 zad H (fun K'=>zaf 1 t2 (K' · H)) fun t14=>
 zad H (fun K'=>zal false 1 t14 H (K' · H)) fun t15=>
 zad H (fun K'=>zaf 1 t3 (K' · H)) fun t16=>
 zad H (fun K'=>zal false 1 t16 H (K' · H)) fun t17=>
 zaE H (fun H K'=>ACalls tP zdf [t15,t17] H K') fun t18=>
 zad H (fun K'=>zaf 2 t2 (K' · H)) fun t19=>
 zad H (fun K'=>zal false 1 t19 H (K' · H)) fun t20=>
 zad H (fun K'=>zaf 2 t3 (K' · H)) fun t21=>
 zad H (fun K'=>zal false 1 t21 H (K' · H)) fun t22=>
 zaE H (fun H K'=>ACalls tP zdf [t20,t22] H K') fun t23=>
 zaE H (fun H K'=>ACalls tP zde [t13,t18,t23] H K') fun t24=>
 zam 3 t4 t24 H fun H=>
 zae true 3 t4 H fun r0=>
 K r0 H
theorem zM5 {t0 t1:AV} {H:zaa} {K:Kt} (h:HSc H→zAD t0 t1 H K):ACalls tP zdd [t0,t1] H K:=
 zan (M:=zM3) Tryz.func21 (c:=zM4) (by kernel_rfl) (fun hs=>Eq.mpr (by kernel_rfl) (h hs))
def zNn (_:Nat):List Bool:=[]
noncomputable def zNo:Code:=Tryz.f22.body.getD .skip
def zAF (t0 t1:AV) (H:zaa) (K:Kt):Prop:=
 zao t0 H fun t2 H=>
 zao t1 H fun t3 H=>
 zaw [(.bool false),.snil,.snil] H fun t4 H=>
 zad H (fun K'=>zal true 3 t2 H (K' · H)) fun t8=>
 zaE H (fun H K'=>ACalls tP zdH [t8] H K') fun t9=>
 zad H (fun K'=>zal true 3 t3 H (K' · H)) fun t10=>
 zaE H (fun H K'=>ACalls tP zdH [t10] H K') fun t11=>
 zam 3 t2 t9 H fun H=>
 zam 3 t3 t11 H fun H=>
 zad H (fun K'=>zaf 1 t2 (K' · H)) fun t12=>
 zad H (fun K'=>zal false 1 t12 H (K' · H)) fun t13=>
 zad H (fun K'=>zaf 2 t3 (K' · H)) fun t14=>
 zad H (fun K'=>zal false 1 t14 H (K' · H)) fun t15=>
 zaE H (fun H K'=>ACalls tP zdf [t13,t15] H K') fun t16=>
 zad H (fun K'=>zaf 1 t3 (K' · H)) fun t17=>
 zad H (fun K'=>zal false 1 t17 H (K' · H)) fun t18=>
 zad H (fun K'=>zaf 2 t2 (K' · H)) fun t19=>
 zad H (fun K'=>zal false 1 t19 H (K' · H)) fun t20=>
 zaE H (fun H K'=>ACalls tP zdf [t18,t20] H K') fun t21=>
 zad H (fun K'=>K' t16 H) fun t5=>
 zad H (fun K'=>K' t21 H) fun t6=>
 zaf 2 t2 fun t22=>
 zae false 1 t22 H fun t23=>
 zaf 2 t3 fun t24=>
 zae false 1 t24 H fun t25=>
 ACalls tP zdf [t23,t25] H fun t26 H=>
 zaf 0 t2 fun t27=>
 zae false 1 t27 H fun t28=>
 zaf 0 t3 fun t29=>
 zae false 1 t29 H fun t30=>
 zac .eql true t28 t30 fun t31=>
 zag t31
 (zad H (fun K'=>zaf 0 t2 (K' · H)) fun t32=>
 zad H (fun K'=>zal false 1 t32 H (K' · H)) fun t33=>
 zad H (fun K'=>K' t5 H) fun t34=>
 zad H (fun K'=>K' t6 H) fun t35=>
 zaE H (fun H K'=>ACalls tP zpK [t34,t35] H K') fun t36=>
 zad H (fun K'=>K' t26 H) fun t37=>
 zaE H (fun H K'=>ACalls tP zde [t33,t36,t37] H K') fun t38=>
 zam 3 t4 t38 H fun H=>
 zae true 3 t4 H fun r0=>
 K r0 H)
 (ACalls tP zjG [t5,t6] H fun t41 H=>
 zac .geq false t41 (.int .i64 0) fun t42=>
 zag t42
 (zad H (fun K'=>zaf 0 t2 (K' · H)) fun t43=>
 zad H (fun K'=>zal false 1 t43 H (K' · H)) fun t44=>
 zad H (fun K'=>K' t5 H) fun t45=>
 zad H (fun K'=>K' t6 H) fun t46=>
 zaE H (fun H K'=>ACalls tP zhM [t45,t46] H K') fun t47=>
 zad H (fun K'=>K' t26 H) fun t48=>
 zaE H (fun H K'=>ACalls tP zde [t44,t47,t48] H K') fun t49=>
 zam 3 t4 t49 H fun H=>
 zae true 3 t4 H fun r0=>
 K r0 H)
 (zad H (fun K'=>zaf 0 t3 (K' · H)) fun t50=>
 zad H (fun K'=>zal false 1 t50 H (K' · H)) fun t51=>
 zad H (fun K'=>K' t6 H) fun t52=>
 zad H (fun K'=>K' t5 H) fun t53=>
 zaE H (fun H K'=>ACalls tP zhM [t52,t53] H K') fun t54=>
 zad H (fun K'=>K' t26 H) fun t55=>
 zaE H (fun H K'=>ACalls tP zde [t51,t54,t55] H K') fun t56=>
 zam 3 t4 t56 H fun H=>
 zae true 3 t4 H fun r0=>
 K r0 H))
theorem zNp {t0 t1:AV} {H:zaa} {K:Kt} (h:HSc H→zAF t0 t1 H K):ACalls tP zfs [t0,t1] H K:=
 zan (M:=zNn) Tryz.func22 (c:=zNo) (by kernel_rfl) (fun hs=>Eq.mpr (by kernel_rfl) (h hs))
def zmZ:Nat→List Bool
 | 2=>rl false [0,1,2,1,11]
 | _=>[]
noncomputable def ztI:Code:=Tryz.f57.body.getD .skip
noncomputable def zQM:List ResultVar:=Tryz.f57.results.toList
def zm0 (t0 t3:AV):List AV:=t0::ux 2 (t3::ux 11 [])
def zQK:List Bool:=zmZ 2
noncomputable def zQI:Code:=zap [1,1,0,0,0] ztI
def zQH (K:Kt):AExit→List AV→zaa→Prop:=zaq tP zmZ [1,1,0,0] ztI (zaA tP zQM K)
def zm1 (t0 t3:AV) (H:zaa) (K:Kt):Prop:=ALoop tP zQI (zQH K) (zm0 t0 t3) H
def ztH (t0 t3:AV) (H:zaa) (K:Kt) (Kb2:Lt):Prop:=
 zac .gtr false t0 (.int .u64 0) fun t5=>
 zag t5
 (zac .rem false t0 (.int .u64 1000000000) fun t8=>
 zbG .u32 t8 fun t9=>
 zaB 1 [(.int .u32 0)] 1 [(0,t9)] fun t10=>
 zax zcD 1 4 t3 t10 H fun t11 H=>
 zac .quo false t0 (.int .u64 1000000000) fun t13=>
 Kb2 (zm0 t13 t11) H)
 (K t3 H)
def zBZ (t0:AV) (H:zaa) (K:Kt):Prop:=
 zm1 t0 .snil H K
theorem zQJ {t0 t3:AV} {H:zaa} {K:Kt} (Inv:Nat→AV→AV→zaa→Prop) (n:Nat) (h0:HSc H→Inv n t0 t3 H)
  (round:Rd2 (fun t0=>fun t3=>zm0 t0 t3) (fun t0=>fun t3=>fun H Kb2=>ztH t0 t3 H K Kb2) H Inv):zm1 t0 t3 H K:=
 lp2 (M:=zmZ) zQK t0 t3 (by kernel_rfl) Inv n h0 round
theorem zQL {t0:AV} {H:zaa} {K:Kt} (h:HSc H→zBZ t0 H K):ACalls tP zhL [t0] H K:=
 zan (M:=zmZ) Tryz.func57 (c:=ztI) (by kernel_rfl) (fun hs=>Eq.mpr (by kernel_rfl) (h hs))
def zQN (_:Nat):List Bool:=[]
noncomputable def zQO:Code:=Tryz.f58.body.getD .skip
def zB1 (t0:AV) (H:zaa) (K:Kt):Prop:=
 zao t0 H fun t1 H=>
 zaw [(.bool false),.snil,.snil] H fun t2 H=>
 zaf 0 t1 fun t3=>
 zae false 1 t3 H fun t4=>
 zaf 1 t1 fun t5=>
 zae false 1 t5 H fun t6=>
 zaf 2 t1 fun t7=>
 zae false 1 t7 H fun t8=>
 ACalls tP zde [t4,t6,t8] H fun t9 H=>
 zam 3 t2 t9 H fun H=>
 zae true 3 t2 H fun r0=>
 K r0 H
theorem zQP {t0:AV} {H:zaa} {K:Kt} (h:HSc H→zB1 t0 H K):ACalls tP zdH [t0] H K:=
 zan (M:=zQN) Tryz.func58 (c:=zQO) (by kernel_rfl) (fun hs=>Eq.mpr (by kernel_rfl) (h hs))
def zfS:Nat→List Bool
 | 3=>rl false [0,2,3,2,63]
 | 7=>rl false [0,2,3,4,61]
 | _=>[]
noncomputable def ztK:Code:=Tryz.f59.body.getD .skip
noncomputable def zQW:List ResultVar:=Tryz.f59.results.toList
def zm3 (t0 t1 t5 t6:AV):List AV:=t0::t1::ux 3 (t5::t6::ux 63 [])
def zB6:List Bool:=zfS 3
noncomputable def ztL:Code:=zap [1,1,0,1,0,0] ztK
def zB3 (K:Kt):AExit→List AV→zaa→Prop:=zaq tP zfS [1,1,0,1,0] ztK (zaA tP zQW K)
def zB4 (t0 t1 t5 t6:AV) (H:zaa) (K:Kt):Prop:=ALoop tP ztL (zB3 K) (zm3 t0 t1 t5 t6) H
def zm4 (t0 t1 t5 t6 t7 t8:AV):List AV:=t0::t1::ux 3 (t5::t6::t7::t8::ux 61 [])
def zQU:List Bool:=zfS 7
noncomputable def zQR:Code:=zap [1,0,0,1,1,0,0] ztL
def zQQ (K:Kt) (Kb3:Lt):AExit→List AV→zaa→Prop:=zaq tP zfS [1,0,0,1,1,0] ztL (zbD zB6 Kb3 (zB3 K))
def zB5 (t0 t1 t5 t6 t7 t8:AV) (H:zaa) (K:Kt) (Kb3:Lt):Prop:=ALoop tP zQR (zQQ K Kb3) (zm4 t0 t1 t5 t6 t7 t8) H
def zm5 (t0 t1 t5 t6 t7 t8:AV) (H:zaa) (K:Kt) (Kb3:Lt) (Kb7:Lt):Prop:=
 zac .add false t6 t8 fun t61=>
 zac .rem false t7 (.int .u64 1000000000) fun t63=>
 zbG .u32 t63 fun t64=>
 zai 1 t5 t61 fun t65=>
 zam 1 t65 t64 H fun H=>
 zac .quo false t7 (.int .u64 1000000000) fun t67=>
 zac .add false t8 (.int .i64 1) fun t31=>
 Kb7 (zm4 t0 t1 t5 t6 t67 t31) H
def zm2 (t0 t1 t5 t6 t7 t8:AV) (H:zaa) (K:Kt) (Kb3:Lt) (Kb7:Lt):Prop:=
 zah 1 t1 fun t24=>
 zac .lss false t8 t24 fun t25=>
 zab t25 false H (fun K'=>K' t7 H) fun t27 H=>
 zab t25 false H (fun K'=>zac .gtr false t27 (.int .u64 0) (K' · H)) fun t28 H=>
 zaj t25 (.bool true) t28 fun t29=>
 zag t29
 (zac .add false t6 t8 fun t36=>
 zai 1 t5 t36 fun t37=>
 zae false 1 t37 H fun t38=>
 zbG .u64 t38 fun t39=>
 zac .add false t7 t39 fun t40=>
 zah 1 t1 fun t43=>
 zac .lss false t8 t43 fun t44=>
 zag t44
 (zad H (fun K'=>K' t40 H) fun t45=>
 zad H (fun K'=>K' t0 H) fun t46=>
 zad H (fun K'=>K' t6 H) fun t47=>
 zad H (fun K'=>zai 1 t46 t47 (K' · H)) fun t48=>
 zad H (fun K'=>zal false 1 t48 H (K' · H)) fun t49=>
 zad H (fun K'=>zbG .u64 t49 (K' · H)) fun t50=>
 zad H (fun K'=>K' t1 H) fun t51=>
 zad H (fun K'=>K' t8 H) fun t52=>
 zad H (fun K'=>zai 1 t51 t52 (K' · H)) fun t53=>
 zad H (fun K'=>zal false 1 t53 H (K' · H)) fun t54=>
 zad H (fun K'=>zbG .u64 t54 (K' · H)) fun t55=>
 zad H (fun K'=>zac .mul false t50 t55 (K' · H)) fun t56=>
 zad H (fun K'=>zac .add false t45 t56 (K' · H)) fun t57=>
 zad H (fun K'=>K' t57 H) fun t7=>
 zm5 t0 t1 t5 t6 t7 t8 H K Kb3 Kb7)
 (zm5 t0 t1 t5 t6 t40 t8 H K Kb3 Kb7))
 (zac .add false t6 (.int .i64 1) fun t21=>
 Kb3 (zm3 t0 t1 t5 t21) H)
def ztJ (t0 t1 t5 t6:AV) (H:zaa) (K:Kt) (Kb3:Lt):Prop:=
 zah 1 t0 fun t18=>
 zac .lss false t6 t18 fun t19=>
 zag t19
 (zB5 t0 t1 t5 t6 (.int .u64 0) (.int .i64 0) H K Kb3)
 (ACalls tP zeP [t5] H fun t69 H=>
 K t69 H)
def zB2 (t0 t1:AV) (H:zaa) (K:Kt):Prop:=
 zah 1 t0 fun t10=>
 zah 1 t1 fun t12=>
 zac .add false t10 t12 fun t13=>
 zac .add false t13 (.int .i64 1) fun t14=>
 zbr 4 [(.int .u32 0)] t14 t14 H fun t15 H=>
 zB4 t0 t1 t15 (.int .i64 0) H K
theorem zQT {t0 t1 t5 t6 t7 t8:AV} {H:zaa} {K:Kt} {Kb3:Lt} (Inv:Nat→AV→AV→zaa→Prop) (n:Nat) (h0:HSc H→Inv n t7 t8 H)
  (round:Rd2 (fun t7=>fun t8=>zm4 t0 t1 t5 t6 t7 t8) (fun t7=>fun t8=>fun H Kb7=>zm2 t0 t1 t5 t6 t7 t8 H K Kb3 Kb7) H Inv):zB5 t0 t1 t5 t6 t7 t8 H K Kb3:=
 lp2 (M:=zfS) zQU t7 t8 (by kernel_rfl) Inv n h0 round
theorem zQS {t0 t1 t5 t6:AV} {H:zaa} {K:Kt} (Inv:Nat→AV→zaa→Prop) (n:Nat) (h0:HSc H→Inv n t6 H)
  (round:Rd1 (fun t6=>zm3 t0 t1 t5 t6) (fun t6=>fun H Kb3=>ztJ t0 t1 t5 t6 H K Kb3) H Inv):zB4 t0 t1 t5 t6 H K:=
 lp1 (M:=zfS) zB6 t6 (by kernel_rfl) Inv n h0 round
theorem zQV {t0 t1:AV} {H:zaa} {K:Kt} (h:HSc H→zB2 t0 t1 H K):ACalls tP zdf [t0,t1] H K:=
 zan (M:=zfS) Tryz.func59 (c:=ztK) (by kernel_rfl) (fun hs=>Eq.mpr (by kernel_rfl) (h hs))
def zm6:Nat→List Bool
 | 4=>rl false [0,2,3,3,46]
 | _=>[]
noncomputable def ztM:Code:=Tryz.f60.body.getD .skip
noncomputable def zQ3:List ResultVar:=Tryz.f60.results.toList
def zm7 (t0 t1 t5 t6 t7:AV):List AV:=t0::t1::ux 3 (t5::t6::t7::ux 46 [])
def zQ1:List Bool:=zm6 4
noncomputable def zQZ:Code:=zap [1,1,1,0,1,0,0] ztM
def zQY (K:Kt):AExit→List AV→zaa→Prop:=zaq tP zm6 [1,1,1,0,1,0] ztM (zaA tP zQ3 K)
def zm9 (t0 t1 t5 t6 t7:AV) (H:zaa) (K:Kt):Prop:=ALoop tP zQZ (zQY K) (zm7 t0 t1 t5 t6 t7) H
def zm8 (t0 t1 t5 t7 t8:AV) (H:zaa) (K:Kt) (Kb4:Lt):Prop:=
 zac .quo false t8 (.int .u32 1000000000) fun t47=>
 zac .rem false t8 (.int .u32 1000000000) fun t50=>
 zaB 1 [(.int .u32 0)] 1 [(0,t50)] fun t51=>
 zax zcD 1 4 t5 t51 H fun t52 H=>
 zac .add false t7 (.int .i64 1) fun t24=>
 Kb4 (zm7 t0 t1 t52 t47 t24) H
def zgT (t0 t1 t5 t7 t8:AV) (H:zaa) (K:Kt) (Kb4:Lt):Prop:=
 zah 1 t1 fun t38=>
 zac .lss false t7 t38 fun t39=>
 zag t39
 (zai 1 t1 t7 fun t43=>
 zae false 1 t43 H fun t44=>
 zac .add false t8 t44 fun t45=>
 zm8 t0 t1 t5 t7 t45 H K Kb4)
 (zm8 t0 t1 t5 t7 t8 H K Kb4)
def zgS (t0 t1 t5 t6 t7:AV) (H:zaa) (K:Kt) (Kb4:Lt):Prop:=
 zah 1 t0 fun t11=>
 zac .lss false t7 t11 fun t12=>
 zab t12 false H (fun K'=>K' t7 H) fun t14 H=>
 zab t12 false H (fun K'=>K' t1 H) fun t15 H=>
 zab t12 false H (fun K'=>zah 1 t15 (K' · H)) fun t16 H=>
 zab t12 false H (fun K'=>zac .lss false t14 t16 (K' · H)) fun t17 H=>
 zaj t12 (.bool true) t17 fun t18=>
 zab t18 false H (fun K'=>K' t6 H) fun t20 H=>
 zab t18 false H (fun K'=>zac .gtr false t20 (.int .u32 0) (K' · H)) fun t21 H=>
 zaj t18 (.bool true) t21 fun t22=>
 zag t22
 (zah 1 t0 fun t28=>
 zac .lss false t7 t28 fun t29=>
 zag t29
 (zai 1 t0 t7 fun t33=>
 zae false 1 t33 H fun t34=>
 zac .add false t6 t34 fun t35=>
 zgT t0 t1 t5 t7 t35 H K Kb4)
 (zgT t0 t1 t5 t7 t6 H K Kb4))
 (K t5 H)
def zB7 (t0 t1:AV) (H:zaa) (K:Kt):Prop:=
 zm9 t0 t1 .snil (.int .u32 0) (.int .i64 0) H K
theorem zQ0 {t0 t1 t5 t6 t7:AV} {H:zaa} {K:Kt} (Inv:Nat→AV→AV→AV→zaa→Prop) (n:Nat) (h0:HSc H→Inv n t5 t6 t7 H)
  (round:Rd3 (fun t5=>fun t6=>fun t7=>zm7 t0 t1 t5 t6 t7) (fun t5=>fun t6=>fun t7=>fun H Kb4=>zgS t0 t1 t5 t6 t7 H K Kb4) H Inv):zm9 t0 t1 t5 t6 t7 H K:=
 lp3 (M:=zm6) zQ1 t5 t6 t7 (by kernel_rfl) Inv n h0 round
theorem zQ2 {t0 t1:AV} {H:zaa} {K:Kt} (h:HSc H→zB7 t0 t1 H K):ACalls tP zpK [t0,t1] H K:=
 zan (M:=zm6) Tryz.func60 (c:=ztM) (by kernel_rfl) (fun hs=>Eq.mpr (by kernel_rfl) (h hs))
def znb:Nat→List Bool
 | 6=>rl false [0,2,3,1,35]
 | _=>[]
noncomputable def ztN:Code:=Tryz.f61.body.getD .skip
noncomputable def zRa:List ResultVar:=Tryz.f61.results.toList
def znc (t0 t1 t5:AV):List AV:=t0::t1::ux 3 (t5::ux 35 [])
def zQ8:List Bool:=znb 6
noncomputable def zQ6:Code:=zap [1,1,0,1,0,0] ztN
def zQ5 (K:Kt):AExit→List AV→zaa→Prop:=zaq tP znb [1,1,0,1,0] ztN (zaA tP zRa K)
def zB8 (t0 t1 t5:AV) (H:zaa) (K:Kt):Prop:=ALoop tP zQ6 (zQ5 K) (znc t0 t1 t5) H
def ziv (t0 t1 t5:AV) (H:zaa) (K:Kt) (Kb6:Lt):Prop:=
 zac .geq false t5 (.int .i64 0) fun t20=>
 zag t20
 (zad H (fun K'=>K' t0 H) fun t23=>
 zad H (fun K'=>K' t5 H) fun t24=>
 zad H (fun K'=>zai 1 t23 t24 (K' · H)) fun t25=>
 zad H (fun K'=>zal false 1 t25 H (K' · H)) fun t26=>
 zad H (fun K'=>K' t1 H) fun t27=>
 zad H (fun K'=>K' t5 H) fun t28=>
 zad H (fun K'=>zai 1 t27 t28 (K' · H)) fun t29=>
 zad H (fun K'=>zal false 1 t29 H (K' · H)) fun t30=>
 zad H (fun K'=>zac .lss false t26 t30 (K' · H)) fun t31=>
 zag t31
 (K (.int .i64 (-1)) H)
 (zad H (fun K'=>K' t0 H) fun t32=>
 zad H (fun K'=>K' t5 H) fun t33=>
 zad H (fun K'=>zai 1 t32 t33 (K' · H)) fun t34=>
 zad H (fun K'=>zal false 1 t34 H (K' · H)) fun t35=>
 zad H (fun K'=>K' t1 H) fun t36=>
 zad H (fun K'=>K' t5 H) fun t37=>
 zad H (fun K'=>zai 1 t36 t37 (K' · H)) fun t38=>
 zad H (fun K'=>zal false 1 t38 H (K' · H)) fun t39=>
 zad H (fun K'=>zac .gtr false t35 t39 (K' · H)) fun t40=>
 zag t40
 (K (.int .i64 1) H)
 (zac .sub false t5 (.int .i64 1) fun t22=>
 Kb6 (znc t0 t1 t22) H)))
 (K (.int .i64 0) H)
def zna (t0 t1:AV) (H:zaa) (K:Kt):Prop:=
 zah 1 t0 fun t7=>
 zah 1 t1 fun t9=>
 zac .neq false t7 t9 fun t10=>
 zag t10
 (zah 1 t0 fun t12=>
 zah 1 t1 fun t14=>
 zac .lss false t12 t14 fun t15=>
 zag t15
 (K (.int .i64 (-1)) H)
 (K (.int .i64 1) H))
 (zah 1 t0 fun t17=>
 zac .sub false t17 (.int .i64 1) fun t18=>
 zB8 t0 t1 t18 H K)
theorem zQ7 {t0 t1 t5:AV} {H:zaa} {K:Kt} (Inv:Nat→AV→zaa→Prop) (n:Nat) (h0:HSc H→Inv n t5 H)
  (round:Rd1 (fun t5=>znc t0 t1 t5) (fun t5=>fun H Kb6=>ziv t0 t1 t5 H K Kb6) H Inv):zB8 t0 t1 t5 H K:=
 lp1 (M:=znb) zQ8 t5 (by kernel_rfl) Inv n h0 round
theorem zQ9 {t0 t1:AV} {H:zaa} {K:Kt} (h:HSc H→zna t0 t1 H K):ACalls tP zjG [t0,t1] H K:=
 zan (M:=znb) Tryz.func61 (c:=ztN) (by kernel_rfl) (fun hs=>Eq.mpr (by kernel_rfl) (h hs))
def znd:Nat→List Bool
 | 4=>rl false [0,2,3,3,48]
 | _=>[]
noncomputable def ztO:Code:=Tryz.f62.body.getD .skip
noncomputable def zRg:List ResultVar:=Tryz.f62.results.toList
def ziw (t0 t1 t5 t6 t7:AV):List AV:=t0::t1::ux 3 (t5::t6::t7::ux 48 [])
def zRe:List Bool:=znd 4
noncomputable def zRc:Code:=zap [1,1,1,0,1,0,0] ztO
def zRb (K:Kt):AExit→List AV→zaa→Prop:=zaq tP znd [1,1,1,0,1,0] ztO (zaA tP zRg K)
def zCb (t0 t1 t5 t6 t7:AV) (H:zaa) (K:Kt):Prop:=ALoop tP zRc (zRb K) (ziw t0 t1 t5 t6 t7) H
def ztP (t0 t1 t5 t6 t7:AV) (H:zaa) (K:Kt) (Kb4:Lt):Prop:=
 zac .add false t7 (.int .i64 1) fun t17=>
 Kb4 (ziw t0 t1 t5 t6 t17) H
def znf (t0 t1 t5 t6 t7:AV) (H:zaa) (K:Kt) (Kb4:Lt):Prop:=
 ztP t0 t1 t5 t6 t7 H K Kb4
def zix (t0 t1 t5 t7 t8:AV) (H:zaa) (K:Kt) (Kb4:Lt):Prop:=
 zai 1 t0 t7 fun t31=>
 zae false 1 t31 H fun t32=>
 zac .geq false t32 t8 fun t34=>
 zag t34
 (zai 1 t0 t7 fun t39=>
 zae false 1 t39 H fun t40=>
 zac .sub false t40 t8 fun t42=>
 zai 1 t5 t7 fun t43=>
 zam 1 t43 t42 H fun H=>
 znf t0 t1 t5 (.int .u32 0) t7 H K Kb4)
 (zai 1 t0 t7 fun t48=>
 zae false 1 t48 H fun t49=>
 zac .add false t49 (.int .u32 1000000000) fun t50=>
 zac .sub false t50 t8 fun t52=>
 zai 1 t5 t7 fun t53=>
 zam 1 t53 t52 H fun H=>
 znf t0 t1 t5 (.int .u32 1) t7 H K Kb4)
def zne (t0 t1 t5 t6 t7:AV) (H:zaa) (K:Kt) (Kb4:Lt):Prop:=
 zah 1 t0 fun t14=>
 zac .lss false t7 t14 fun t15=>
 zag t15
 (zah 1 t1 fun t21=>
 zac .lss false t7 t21 fun t22=>
 zag t22
 (zai 1 t1 t7 fun t26=>
 zae false 1 t26 H fun t27=>
 zac .add false t6 t27 fun t28=>
 zix t0 t1 t5 t7 t28 H K Kb4)
 (zix t0 t1 t5 t7 t6 H K Kb4))
 (ACalls tP zeP [t5] H fun t55 H=>
 K t55 H)
def zCa (t0 t1:AV) (H:zaa) (K:Kt):Prop:=
 zah 1 t0 fun t10=>
 zbr 4 [(.int .u32 0)] t10 t10 H fun t11 H=>
 zCb t0 t1 t11 (.int .u32 0) (.int .i64 0) H K
theorem zRd {t0 t1 t5 t6 t7:AV} {H:zaa} {K:Kt} (Inv:Nat→AV→AV→zaa→Prop) (n:Nat) (h0:HSc H→Inv n t6 t7 H)
  (round:Rd2 (fun t6=>fun t7=>ziw t0 t1 t5 t6 t7) (fun t6=>fun t7=>fun H Kb4=>zne t0 t1 t5 t6 t7 H K Kb4) H Inv):zCb t0 t1 t5 t6 t7 H K:=
 lp2 (M:=znd) zRe t6 t7 (by kernel_rfl) Inv n h0 round
theorem zRf {t0 t1:AV} {H:zaa} {K:Kt} (h:HSc H→zCa t0 t1 H K):ACalls tP zhM [t0,t1] H K:=
 zan (M:=znd) Tryz.func62 (c:=ztO) (by kernel_rfl) (fun hs=>Eq.mpr (by kernel_rfl) (h hs))
def zRD (_:Nat):List Bool:=[]
noncomputable def zRE:Code:=Tryz.f66.body.getD .skip
def zCg (t0:AV) (H:zaa) (K:Kt):Prop:=
 zao t0 H fun t1 H=>
 zae true 3 t1 H fun t3=>
 ACalls tP zdH [t3] H fun t4 H=>
 zam 3 t1 t4 H fun H=>
 zaf 1 t1 fun t6=>
 zae false 1 t6 H fun t7=>
 zah 1 t7 fun t8=>
 zac .eql false t8 (.int .i64 0) fun t9=>
 zag t9
 (K (.int .i64 0) H)
 (zaf 0 t1 fun t11=>
 zae false 1 t11 H fun t12=>
 zag t12
 (K (.int .i64 (-1)) H)
 (K (.int .i64 1) H))
theorem zRF {t0:AV} {H:zaa} {K:Kt} (h:HSc H→zCg t0 H K):ACalls tP zfv [t0] H K:=
 zan (M:=zRD) Tryz.func66 (c:=zRE) (by kernel_rfl) (fun hs=>Eq.mpr (by kernel_rfl) (h hs))
def zRG (_:Nat):List Bool:=[]
noncomputable def zRH:Code:=Tryz.f67.body.getD .skip
def zCh (t0 t1:AV) (H:zaa) (K:Kt):Prop:=
 zao t0 H fun t2 H=>
 zao t1 H fun t3 H=>
 zaw [(.bool false),.snil,.snil] H fun t4 H=>
 zad H (fun K'=>zal true 3 t2 H (K' · H)) fun t5=>
 zad H (fun K'=>zal true 3 t3 H (K' · H)) fun t6=>
 zaE H (fun H K'=>ACalls tP zo7 [t6] H K') fun t7=>
 zaE H (fun H K'=>ACalls tP zfs [t5,t7] H K') fun t8=>
 zam 3 t4 t8 H fun H=>
 zae true 3 t4 H fun r0=>
 K r0 H
theorem zRI {t0 t1:AV} {H:zaa} {K:Kt} (h:HSc H→zCh t0 t1 H K):ACalls tP zjI [t0,t1] H K:=
 zan (M:=zRG) Tryz.func67 (c:=zRH) (by kernel_rfl) (fun hs=>Eq.mpr (by kernel_rfl) (h hs))
def zkw:Nat→List Bool
 | 4=>rl false [0,1,2,3,30]
 | _=>[]
noncomputable def zqR:Code:=Tryz.f103.body.getD .skip
noncomputable def zHp:List ResultVar:=Tryz.f103.results.toList
def zky (t0 t3 t4 t5:AV):List AV:=t0::ux 2 (t3::t4::t5::ux 30 [])
def zHn:List Bool:=zkw 4
noncomputable def zHl:Code:=zap [1,1,1,0,1,0,0] zqR
def zHk (K:Kt):AExit→List AV→zaa→Prop:=zaq tP zkw [1,1,1,0,1,0] zqR (zaA tP zHp K)
def zkA (t0 t3 t4 t5:AV) (H:zaa) (K:Kt):Prop:=ALoop tP zHl (zHk K) (zky t0 t3 t4 t5) H
def zkz (t3:AV) (H:zaa) (K:Kt):Prop:=
 ACalls tP zeP [t3] H fun t35 H=>
 K t35 H
def zkx (t0 t3 t4 t5:AV) (H:zaa) (K:Kt) (Kb4:Lt):Prop:=
 zah 1 t0 fun t8=>
 zac .lss false t5 t8 fun t9=>
 zag t9
 (zai 1 t0 t5 fun t15=>
 zae false 1 t15 H fun t16=>
 zbG .u64 t16 fun t17=>
 zac .add false t4 t17 fun t18=>
 zac .rem false t18 (.int .u64 1000000000) fun t21=>
 zbG .u32 t21 fun t22=>
 zaB 1 [(.int .u32 0)] 1 [(0,t22)] fun t23=>
 zax zcD 1 4 t3 t23 H fun t24 H=>
 zac .quo false t18 (.int .u64 1000000000) fun t26=>
 zac .add false t5 (.int .i64 1) fun t11=>
 Kb4 (zky t0 t24 t26 t11) H)
 (zac .gtr false t4 (.int .u64 0) fun t28=>
 zag t28
 (zbG .u32 t4 fun t31=>
 zaB 1 [(.int .u32 0)] 1 [(0,t31)] fun t32=>
 zax zcD 1 4 t3 t32 H fun t33 H=>
 zkz t33 H K)
 (zkz t3 H K))
def zyC (t0:AV) (H:zaa) (K:Kt):Prop:=
 zkA t0 .snil (.int .u64 0) (.int .i64 0) H K
theorem zHm {t0 t3 t4 t5:AV} {H:zaa} {K:Kt} (Inv:Nat→AV→AV→AV→zaa→Prop) (n:Nat) (h0:HSc H→Inv n t3 t4 t5 H)
  (round:Rd3 (fun t3=>fun t4=>fun t5=>zky t0 t3 t4 t5) (fun t3=>fun t4=>fun t5=>fun H Kb4=>zkx t0 t3 t4 t5 H K Kb4) H Inv):zkA t0 t3 t4 t5 H K:=
 lp3 (M:=zkw) zHn t3 t4 t5 (by kernel_rfl) Inv n h0 round
theorem zHo {t0:AV} {H:zaa} {K:Kt} (h:HSc H→zyC t0 H K):ACalls tP zje [t0] H K:=
 zan (M:=zkw) Tryz.func103 (c:=zqR) (by kernel_rfl) (fun hs=>Eq.mpr (by kernel_rfl) (h hs))
def zkB:Nat→List Bool
 | 1=>rl false [0,2,17]
 | _=>[]
noncomputable def zqT:Code:=Tryz.f104.body.getD .skip
noncomputable def zHv:List ResultVar:=Tryz.f104.results.toList
def zkC (t0 t1:AV):List AV:=t0::t1::ux 17 []
def zHt:List Bool:=zkB 1
noncomputable def zHr:Code:=zap [1,0,0,0] zqT
def zHq (K:Kt):AExit→List AV→zaa→Prop:=zaq tP zkB [1,0,0] zqT (zaA tP zHv K)
def zyF (t0 t1:AV) (H:zaa) (K:Kt):Prop:=ALoop tP zHr (zHq K) (zkC t0 t1) H
def zqS (t0 t1:AV) (H:zaa) (K:Kt) (Kb1:Lt):Prop:=
 zah 1 t1 fun t8=>
 zac .gtr false t8 (.int .i64 0) fun t9=>
 zag t9
 (ACalls tP zhw [t0,t1] H fun t13 H=>
 zay t13 0 fun t14=>
 zay t13 1 fun t15=>
 Kb1 (zkC t1 t15) H)
 (K t0 H)
def zyE (t0 t1:AV) (H:zaa) (K:Kt):Prop:=
 zyF t0 t1 H K
theorem zHs {t0 t1:AV} {H:zaa} {K:Kt} (Inv:Nat→AV→AV→zaa→Prop) (n:Nat) (h0:HSc H→Inv n t0 t1 H)
  (round:Rd2 (fun t0=>fun t1=>zkC t0 t1) (fun t0=>fun t1=>fun H Kb1=>zqS t0 t1 H K Kb1) H Inv):zyF t0 t1 H K:=
 lp2 (M:=zkB) zHt t0 t1 (by kernel_rfl) Inv n h0 round
theorem zHu {t0 t1:AV} {H:zaa} {K:Kt} (h:HSc H→zyE t0 t1 H K):ACalls tP zo3 [t0,t1] H K:=
 zan (M:=zkB) Tryz.func104 (c:=zqT) (by kernel_rfl) (fun hs=>Eq.mpr (by kernel_rfl) (h hs))
def zkD:Nat→List Bool
 | 2=>rl false [0,1,2,1,18]
 | _=>[]
noncomputable def zqW:Code:=Tryz.f106.body.getD .skip
noncomputable def zHI:List ResultVar:=Tryz.f106.results.toList
def zkF (t0 t3:AV):List AV:=t0::ux 2 (t3::ux 18 [])
def zHG:List Bool:=zkD 2
noncomputable def zHE:Code:=zap [1,1,0,0,0] zqW
def zHD (K:Kt):AExit→List AV→zaa→Prop:=zaq tP zkD [1,1,0,0] zqW (zaA tP zHI K)
def zyJ (t0 t3:AV) (H:zaa) (K:Kt):Prop:=ALoop tP zHE (zHD K) (zkF t0 t3) H
def zkE (t0 t3:AV) (H:zaa) (K:Kt) (Kb2:Lt):Prop:=
 zac .gtr false t3 (.int .i64 0) fun t7=>
 zab t7 true H (fun K'=>K' t0 H) fun t9 H=>
 zab t7 true H (fun K'=>K' t3 H) fun t10 H=>
 zab t7 true H (fun K'=>zac .sub false t10 (.int .i64 1) (K' · H)) fun t11 H=>
 zab t7 true H (fun K'=>zai 1 t9 t11 (K' · H)) fun t12 H=>
 zab t7 true H (fun K'=>zae false 1 t12 H (K' · H)) fun t13 H=>
 zab t7 true H (fun K'=>zac .eql false t13 (.int .u32 0) (K' · H)) fun t14 H=>
 zaj t7 t14 (.bool false) fun t15=>
 zag t15
 (zac .sub false t3 (.int .i64 1) fun t17=>
 Kb2 (zkF t0 t17) H)
 (zaJ 1 1 t0 none (some t3) fun t20=>
 zax zcD 1 4 .snil t20 H fun t21 H=>
 K t21 H)
def zyI (t0:AV) (H:zaa) (K:Kt):Prop:=
 zah 1 t0 fun t5=>
 zyJ t0 t5 H K
theorem zHF {t0 t3:AV} {H:zaa} {K:Kt} (Inv:Nat→AV→zaa→Prop) (n:Nat) (h0:HSc H→Inv n t3 H)
  (round:Rd1 (fun t3=>zkF t0 t3) (fun t3=>fun H Kb2=>zkE t0 t3 H K Kb2) H Inv):zyJ t0 t3 H K:=
 lp1 (M:=zkD) zHG t3 (by kernel_rfl) Inv n h0 round
theorem zHH {t0:AV} {H:zaa} {K:Kt} (h:HSc H→zyI t0 H K):ACalls tP zeP [t0] H K:=
 zan (M:=zkD) Tryz.func106 (c:=zqW) (by kernel_rfl) (fun hs=>Eq.mpr (by kernel_rfl) (h hs))
def zlj:Nat→List Bool
 | 4=>rl false [0,2,4,3,31]
 | _=>[]
noncomputable def zrF:Code:=Tryz.f145.body.getD .skip
noncomputable def zJR:List ResultVar:=Tryz.f145.results.toList
def zlk (t0 t1 t6 t7 t8:AV):List AV:=t0::t1::ux 4 (t6::t7::t8::ux 31 [])
def zJP:List Bool:=zlj 4
noncomputable def zJN:Code:=zap [1,1,1,0,1,0,0] zrF
def zJM (K:Kt):AExit→List AV→zaa→Prop:=zaq tP zlj [1,1,1,0,1,0] zrF (zaA tP zJR K)
def zzo (t0 t1 t6 t7 t8:AV) (H:zaa) (K:Kt):Prop:=ALoop tP zJN (zJM K) (zlk t0 t1 t6 t7 t8) H
def zrE (t0 t1 t6 t7 t8:AV) (H:zaa) (K:Kt) (Kb4:Lt):Prop:=
 zac .geq false t8 (.int .i64 0) fun t16=>
 zag t16
 (zac .mul false t7 (.int .u64 1000000000) fun t20=>
 zai 1 t0 t8 fun t23=>
 zae false 1 t23 H fun t24=>
 zbG .u64 t24 fun t25=>
 zac .add false t20 t25 fun t26=>
 zac .quo false t26 t1 fun t31=>
 zbG .u32 t31 fun t32=>
 zai 1 t6 t8 fun t33=>
 zam 1 t33 t32 H fun H=>
 zac .rem false t26 t1 fun t36=>
 zac .sub false t8 (.int .i64 1) fun t18=>
 Kb4 (zlk t0 t1 t6 t36 t18) H)
 (ACalls tP zeP [t6] H fun t38 H=>
 zaI [t38,t7] (K · H))
def zzn (t0 t1:AV) (H:zaa) (K:Kt):Prop:=
 zah 1 t0 fun t10=>
 zbr 4 [(.int .u32 0)] t10 t10 H fun t11 H=>
 zah 1 t0 fun t13=>
 zac .sub false t13 (.int .i64 1) fun t14=>
 zzo t0 t1 t11 (.int .u64 0) t14 H K
theorem zJO {t0 t1 t6 t7 t8:AV} {H:zaa} {K:Kt} (Inv:Nat→AV→AV→zaa→Prop) (n:Nat) (h0:HSc H→Inv n t7 t8 H)
  (round:Rd2 (fun t7=>fun t8=>zlk t0 t1 t6 t7 t8) (fun t7=>fun t8=>fun H Kb4=>zrE t0 t1 t6 t7 t8 H K Kb4) H Inv):zzo t0 t1 t6 t7 t8 H K:=
 lp2 (M:=zlj) zJP t7 t8 (by kernel_rfl) Inv n h0 round
theorem zJQ {t0 t1:AV} {H:zaa} {K:Kt} (h:HSc H→zzn t0 t1 H K):ACalls tP zpe [t0,t1] H K:=
 zan (M:=zlj) Tryz.func145 (c:=zrF) (by kernel_rfl) (fun hs=>Eq.mpr (by kernel_rfl) (h hs))
def zIq (_:Nat):List Bool:=[]
noncomputable def zIr:Code:=Tryz.f112.body.getD .skip
def zy0 (t0:AV) (H:zaa) (K:Kt):Prop:=
 zao t0 H fun t1 H=>
 zaw [(.bool false),.snil,.snil] H fun t2 H=>
 zaf 0 t1 fun t3=>
 zae false 1 t3 H fun t4=>
 aUn .not t4 fun t5=>
 zaf 1 t1 fun t6=>
 zae false 1 t6 H fun t7=>
 zaf 2 t1 fun t8=>
 zae false 1 t8 H fun t9=>
 ACalls tP zde [t5,t7,t9] H fun t10 H=>
 zam 3 t2 t10 H fun H=>
 zae true 3 t2 H fun r0=>
 K r0 H
theorem zIs {t0:AV} {H:zaa} {K:Kt} (h:HSc H→zy0 t0 H K):ACalls tP zo7 [t0] H K:=
 zan (M:=zIq) Tryz.func112 (c:=zIr) (by kernel_rfl) (fun hs=>Eq.mpr (by kernel_rfl) (h hs))
def zJ9 (_:Nat):List Bool:=[]
noncomputable def zKa:Code:=Tryz.f150.body.getD .skip
def zzs (t0 t1:AV) (H:zaa) (K:Kt):Prop:=
 zao t0 H fun t2 H=>
 zao t1 H fun t3 H=>
 zaw [(.bool false),.snil,.snil] H fun t4 H=>
 zad H (fun K'=>zal true 3 t2 H (K' · H)) fun t6=>
 zaE H (fun H K'=>ACalls tP zdH [t6] H K') fun t7=>
 zad H (fun K'=>zal true 3 t3 H (K' · H)) fun t8=>
 zaE H (fun H K'=>ACalls tP zdH [t8] H K') fun t9=>
 zam 3 t2 t7 H fun H=>
 zam 3 t3 t9 H fun H=>
 zaf 1 t3 fun t10=>
 zae false 1 t10 H fun t11=>
 zah 1 t11 fun t12=>
 zac .eql false t12 (.int .i64 0) fun t13=>
 zag t13
 (ACalls tP zb3 [(.int .i64 0)] H fun t14 H=>
 zam 3 t4 t14 H fun H=>
 zae true 3 t4 H fun r0=>
 zaI [r0,(.bool false)] (K · H))
 (zad H (fun K'=>zaf 0 t2 (K' · H)) fun t15=>
 zad H (fun K'=>zal false 1 t15 H (K' · H)) fun t16=>
 zad H (fun K'=>zaf 0 t3 (K' · H)) fun t17=>
 zad H (fun K'=>zal false 1 t17 H (K' · H)) fun t18=>
 zad H (fun K'=>zac .neq true t16 t18 (K' · H)) fun t19=>
 zad H (fun K'=>zaf 1 t2 (K' · H)) fun t20=>
 zad H (fun K'=>zal false 1 t20 H (K' · H)) fun t21=>
 zad H (fun K'=>zaf 2 t3 (K' · H)) fun t22=>
 zad H (fun K'=>zal false 1 t22 H (K' · H)) fun t23=>
 zaE H (fun H K'=>ACalls tP zdf [t21,t23] H K') fun t24=>
 zad H (fun K'=>zaf 2 t2 (K' · H)) fun t25=>
 zad H (fun K'=>zal false 1 t25 H (K' · H)) fun t26=>
 zad H (fun K'=>zaf 1 t3 (K' · H)) fun t27=>
 zad H (fun K'=>zal false 1 t27 H (K' · H)) fun t28=>
 zaE H (fun H K'=>ACalls tP zdf [t26,t28] H K') fun t29=>
 zaE H (fun H K'=>ACalls tP zde [t19,t24,t29] H K') fun t30=>
 zam 3 t4 t30 H fun H=>
 zad H (fun K'=>K' (.bool true) H) fun t5=>
 zae true 3 t4 H fun r0=>
 zaI [r0,t5] (K · H))
theorem zKb {t0 t1:AV} {H:zaa} {K:Kt} (h:HSc H→zzs t0 t1 H K):ACalls tP zjm [t0,t1] H K:=
 zan (M:=zJ9) Tryz.func150 (c:=zKa) (by kernel_rfl) (fun hs=>Eq.mpr (by kernel_rfl) (h hs))
def zQD (_:Nat):List Bool:=[]
noncomputable def zQE:Code:=Tryz.f56.body.getD .skip
def zmY (t0 t1 t2 t6:AV) (H:zaa) (K:Kt):Prop:=
 zaz [(.bool false),.snil,.snil] [(0,1),(1,1),(2,1)] [(0,t0),(1,t1),(2,t2)] fun t49=>
 zam 3 t6 t49 H fun H=>
 zae true 3 t6 H fun r0=>
 K r0 H
def zBY (t0 t1 t2:AV) (H:zaa) (K:Kt):Prop:=
 zaw [(.bool false),.snil,.snil] H fun t6 H=>
 ACalls tP zje [t1] H fun t9 H=>
 ACalls tP zje [t2] H fun t11 H=>
 zah 1 t9 fun t13=>
 zac .eql false t13 (.int .i64 0) fun t14=>
 zab t14 false H (fun K'=>K' t11 H) fun t16 H=>
 zab t14 false H (fun K'=>zah 1 t16 (K' · H)) fun t17 H=>
 zab t14 false H (fun K'=>zac .eql false t17 (.int .i64 0) (K' · H)) fun t18 H=>
 zaj t14 (.bool true) t18 fun t19=>
 zag t19
 (zaB 1 [(.int .u32 0)] 1 [(0,(.int .u32 1))] fun t20=>
 zaz [(.bool false),.snil,.snil] [(0,1),(1,1),(2,1)] [(2,t20)] fun t21=>
 zam 3 t6 t21 H fun H=>
 zae true 3 t6 H fun r0=>
 K r0 H)
 (ACalls tP zo3 [t9,t11] H fun t24 H=>
 zah 1 t24 fun t26=>
 zac .neq false t26 (.int .i64 1) fun t27=>
 zab t27 false H (fun K'=>K' t24 H) fun t29 H=>
 zab t27 false H (fun K'=>zai 1 t29 (.int .i64 0) (K' · H)) fun t30 H=>
 zab t27 false H (fun K'=>zae false 1 t30 H (K' · H)) fun t31 H=>
 zab t27 false H (fun K'=>zac .neq false t31 (.int .u32 1) (K' · H)) fun t32 H=>
 zaj t27 (.bool true) t32 fun t33=>
 zag t33
 (ACalls tP zhw [t9,t24] H fun t37 H=>
 zay t37 0 fun t38=>
 zay t37 1 fun t39=>
 ACalls tP zhw [t11,t24] H fun t43 H=>
 zay t43 0 fun t44=>
 zay t43 1 fun t45=>
 zmY t0 t38 t44 t6 H K)
 (zmY t0 t9 t11 t6 H K))
theorem zQF {t0 t1 t2:AV} {H:zaa} {K:Kt} (h:HSc H→zBY t0 t1 t2 H K):ACalls tP zde [t0,t1,t2] H K:=
 zan (M:=zQD) Tryz.func56 (c:=zQE) (by kernel_rfl) (fun hs=>Eq.mpr (by kernel_rfl) (h hs))
def zyH:Nat→List Bool
 | 9=>rl false [0,2,6,3,79]
 | 13=>rl false [0,2,6,4,78]
 | 16=>rl false [0,2,6,4,78]
 | _=>[]
noncomputable def zqU:Code:=Tryz.f105.body.getD .skip
noncomputable def zHC:List ResultVar:=Tryz.f105.results.toList
def zHz (t0 t1 t8 t9 t10:AV):List AV:=t0::t1::ux 6 (t8::t9::t10::ux 79 [])
noncomputable def zHy:Code:=zap [1,1,1,1,1,0,1,0,0] zqU
def zHx (K:Kt):AExit→List AV→zaa→Prop:=zaq tP zyH [1,1,1,1,1,0,1,0] zqU (zaA tP zHC K)
def zHA (t0 t1 t8 t9 t10:AV) (H:zaa) (K:Kt):Prop:=ALoop tP zHy (zHx K) (zHz t0 t1 t8 t9 t10) H
def zyG (t0 t1:AV) (H:zaa) (K:Kt):Prop:=
 ACalls tP zjG [t0,t1] H fun t14 H=>
 zac .lss false t14 (.int .i64 0) fun t15=>
 zag t15
 (ACalls tP zeP [t0] H fun t17 H=>
 zaI [.snil,t17] (K · H))
 (zah 1 t1 fun t19=>
 zac .eql false t19 (.int .i64 1) fun t20=>
 zag t20
 (zai 1 t1 (.int .i64 0) fun t24=>
 zae false 1 t24 H fun t25=>
 zbG .u64 t25 fun t26=>
 ACalls tP zpe [t0,t26] H fun t27 H=>
 zay t27 0 fun t28=>
 zay t27 1 fun t29=>
 ACalls tP zhL [t29] H fun t32 H=>
 zaI [t28,t32] (K · H))
 (zah 1 t0 fun t34=>
 zbr 4 [(.int .u32 0)] t34 t34 H fun t35 H=>
 zah 1 t0 fun t37=>
 zac .sub false t37 (.int .i64 1) fun t38=>
 zHA t0 t1 t35 .snil t38 H K))
theorem zHB {t0 t1:AV} {H:zaa} {K:Kt} (h:HSc H→zyG t0 t1 H K):ACalls tP zhw [t0,t1] H K:=
 zan (M:=zyH) Tryz.func105 (c:=zqU) (by kernel_rfl) (fun hs=>Eq.mpr (by kernel_rfl) (h hs))
end Go.Proofs.YtjkkonpjecoieaaGreat
namespace Go.Abs
open Go Go.RowKit
def zat (l:List Nat):List (List AV):=l.map fun (n:Nat)=>[AV.int .u32 (n:Int)]
@[simp] theorem zXF (l:List Nat):(zat l).length=l.length:=by simp[zat]
theorem zGW (l:List Nat) (n:Nat):(zat l).take n=zat (l.take n):=by simp[zat,List.map_take]
theorem zXE {l:List Nat} {i:Nat} (h:i<l.length):(zat l)[i]?.getD []=[.int .u32 ((l[i]:Nat):Int)]:=by simp[zat,h]
@[simp] theorem zXD {l:List Nat} {i:Nat} (h:i<(zat l).length):(zat l)[i]=[.int .u32 (((l[i]'(by simpa using h)):Nat):Int)]:=by simp[zat]
theorem zkp (l:List Nat):∀ c∈zat l,c.length=1:=by
 intro c hc
 simp only[zat,List.mem_map]at hc
 obtain⟨n,_,rfl⟩:=hc
 rfl
theorem zGC {L:List Nat} {n:Nat} (hn:0<n) (h:n≤L.length) (h0:L[n-1]=0):zbW (L.take n)=zbW (L.take (n-1)):=by
 obtain⟨m,rfl⟩:∃ m,n=m+1:=⟨n-1,by omega⟩
 simp only[Nat.add_sub_cancel]at h0 ⊢
 rw[List.take_succ_eq_append_getElem (by omega),h0]
 generalize L.take m=A
 induction A with
 | nil=>simp[zbW]
 | cons a A ih=>rw[List.cons_append,zbW,zbW,ih]
theorem zGB {L:List Nat} {n:Nat} (hn:0<n) (h:n≤L.length) (h0:L[n-1]≠0):zbW (L.take n)=L.take n:=by
 obtain⟨m,rfl⟩:∃ m,n=m+1:=⟨n-1,by omega⟩
 simp only[Nat.add_sub_cancel]at h0
 rw[List.take_succ_eq_append_getElem (by omega)]
 generalize hx:L[m]=x at h0
 generalize L.take m=A
 induction A with
 | nil=>simp[zbW,h0]
 | cons a A ih=>
  rw[List.cons_append,zbW,ih,if_neg]
  rintro⟨_,h⟩
  simp at h
theorem zdi {n:Nat} (h:n<4294967296):IntKind.u32.wrap (n:Int)=n:=IntWalk.u32_in _ ⟨by omega,by omega⟩
theorem zcA {n:Nat} (h:n<18446744073709551616):IntKind.u64.wrap (n:Int)=n:=IntWalk.u64_in _ ⟨by omega,by omega⟩
theorem zuX {k:AV→Prop} (b:Bool) (j:IntKind) (m n:Nat) (hn:n≠0):zac .rem b (.int j m) (.int j n) k=k (.int j ((m % n:Nat):Int)):=by
 simp only[zcn,ne_eq,Int.natCast_eq_zero,hn,not_false_eq_true,true_and]
 rfl
theorem zuW {k:AV→Prop} (b:Bool) (j:IntKind) (m n:Nat) (hn:n≠0):zac .quo b (.int j m) (.int j n) k=k (.int j (j.wrap ((m / n:Nat):Int))):=by
 simp only[zcn,ne_eq,Int.natCast_eq_zero,hn,not_false_eq_true,true_and]
 rfl
theorem zob {k:AV→Prop} (b:Bool) (j:IntKind) (m:Nat):zac .rem b (.int j m) (.int j 1000000000) k=k (.int j ((m % 1000000000:Nat):Int)):=zuX b j m 1000000000 (by decide)
theorem zuU {k:AV→Prop} (b:Bool) (j:IntKind) (m:Nat):zac .quo b (.int j m) (.int j 1000000000) k=k (.int j (j.wrap ((m / 1000000000:Nat):Int))):=zuW b j m 1000000000 (by decide)
theorem zuV {k:AV→Prop} (b:Bool) {m:Nat} (h:m<18446744073709551616):zac .quo b (.int .u64 m) (.int .u64 1000000000) k=k (.int .u64 ((m / 1000000000:Nat):Int)):=by
 rw[zuU,zcA (by have:=Nat.div_le_self m 1000000000;omega)]
theorem zDa {k:AV→Prop} (b:Bool) {m:Nat} (h:m<4294967296):zac .quo b (.int .u32 m) (.int .u32 1000000000) k=k (.int .u32 ((m / 1000000000:Nat):Int)):=by
 rw[zuU,zdi (by have:=Nat.div_le_self m 1000000000;omega)]
theorem zC4 {k:AV→Prop} (j:IntKind) {m:Nat} (h:m<4294967296):zbG .u32 (.int j m) k=k (.int .u32 m):=by rw[zC5,zdi h]
theorem zo1 (m:Nat):m % 1000000000<1000000000:=Nat.mod_lt _ (by decide)
theorem zD3 {m:Nat} (h:m≠0):m / 1000000000<m:=Nat.div_lt_self (by omega) (by decide)
theorem sN (l:List Nat) (x:Nat):zat l++[[AV.int .u32 (x:Int)]]=zat (l++[x]):=by simp[zat]
theorem zvE (s:Nat) (h:s<18446744073709551616):∃ x c:Nat,x<1000000000∧s=x+1000000000*c∧IntKind.u32.wrap (x:Int)=x ∧
  (∀ (b:Bool) (k:AV→Prop),zac .rem b (.int .u64 s) (.int .u64 1000000000) k=k (.int .u64 x))∧∀ (b:Bool) (k:AV→Prop),zac .quo b (.int .u64 s) (.int .u64 1000000000) k=k (.int .u64 c):=
 ⟨s % 1000000000,s / 1000000000,zo1 s,by omega,zdi (by omega),fun b k=>zob b .u64 s,fun b k=>zuV b h⟩
theorem zD4 (s:Nat) (h:s<4294967296):∃ x c:Nat,x<1000000000∧s=x+1000000000*c ∧
  (∀ (b:Bool) (k:AV→Prop),zac .rem b (.int .u32 s) (.int .u32 1000000000) k=k (.int .u32 x))∧∀ (b:Bool) (k:AV→Prop),zac .quo b (.int .u32 s) (.int .u32 1000000000) k=k (.int .u32 c):=
 ⟨s % 1000000000,s / 1000000000,zo1 s,by omega,fun b k=>zob b .u32 s,fun b k=>zDa b h⟩
theorem zD5 (s d:Nat) (hd:0<d) (h:s<18446744073709551616):∃ x c:Nat,x<d∧s=x+d*c ∧
  (∀ (b:Bool) (k:AV→Prop),zac .rem b (.int .u64 s) (.int .u64 d) k=k (.int .u64 x))∧∀ (b:Bool) (k:AV→Prop),zac .quo b (.int .u64 s) (.int .u64 d) k=k (.int .u64 c):=
 ⟨s % d,s / d,Nat.mod_lt _ hd,(Nat.mod_add_div s d).symm,fun b k=>zuX b .u64 s d (by omega),fun b k=>by rw[zuW b .u64 s d (by omega),zcA (by have:=Nat.div_le_self s d;omega)]⟩
theorem wi (i:Nat) (h:i<1000000000):IntKind.i64.wrap ((i:Int)+1)=((i+1:Nat):Int):=by rw[zau (by omega) (by omega)];omega
theorem wd (i:Nat) (h:i<1000000000) (h0:0<i):IntKind.i64.wrap ((i:Int)-1)=((i-1:Nat):Int):=by rw[zau (by omega) (by omega)];omega
theorem zxL:∀ l:List Nat,(zbW l).length≤l.length∧((zbW l).length=l.length→zbW l=l)
 | []=>by simp[zbW]
 | x::l=>by
  obtain⟨h1,h2⟩:=zxL l
  rw[zbW]
  split
  ·simp
  ·simp only[List.length_cons]
   exact⟨by omega,fun h=>by rw[h2 (by omega)]⟩
theorem zwd {n k:Nat} (h:1000000000 ^ k≤n):k<(lim n).length:=by
 have h1:=zeK (lim n) (zcW n)
 rw[zcj]at h1
 refine Nat.lt_of_not_le fun h2=>?_
 have:=Nat.pow_le_pow_right (show 0<1000000000 by omega) h2
 omega
theorem zDG {R:List Nat} (hR:∀ x∈R,x<1000000000) (h:R.length≤(lim (zas R)).length):R=lim (zas R):=by
 have h1:=zh8 R hR
 obtain⟨h2,h3⟩:=zxL R
 rw[←h1,h3 (by rw[h1]at h2 ⊢;omega)]
end Go.Abs
namespace Go.Proofs.YtjkkonpjecoieaaGreat
open Go Go.Abs
set_option maxRecDepth 8000
theorem zqX (L:List Nat) (hL:L.length≤1000000) (H:zaa) (K:Kt) (hK:K (.sl (zat (zbW L)) .none) H) :
  ACalls tP zeP [.sl (zat L) .none] H K:=by
 refine ACalls.out (zHH fun hs=>?_)
 simp[zyI]
 refine zHF (Inv:=fun q t3 H'=>∃ n:Nat,n≤L.length∧n=q∧t3=.int .i64 n∧H'=H∧zbW L=zbW (L.take n)) L.length ?_ ?_
 ·intro _;exact⟨L.length,by omega,rfl,by simp,rfl,by simp⟩
 ·rintro q t3 H' ⟨n,hn,rfl,rfl,rfl,hst⟩ hsc' hlen hsF Kb hKb
  have hone:∀ (l:List Nat) (J:zaa),l=zbW L→Out (List.length H') K (AV.sl (zat l) (Tok.own (List.length H'))) (H'++J):=fun l J hl=>Out.one hs (.atom (.sl _ _)) rfl rfl (by rw[hl];exact hK)
  by_cases h0:n=0
  ·subst h0
   simp[zkE,zax,zaY,zaM]
   exact⟨zkp L,hone [] _ (by simpa[zbW]using hst.symm)⟩
  ·have hw:IntKind.i64.wrap ((n:Int)-1)=((n-1:Nat):Int):=by rw[zau (by omega) (by omega)];omega
   have hlt:n-1<L.length:=by omega
   by_cases hz:L[n-1]=0
   ·simp[zkE,show 0<n by omega,hw,hlt,hz]
    exact hKb _ _ ⟨n-1,by omega,Back.here (by simp) hs (by simp[zkF,AV.sc,AV.scA,AV.scB,AV.scV]) ⟨_,rfl,n-1,by omega,rfl,rfl,rfl,by rw[hst,zGC (by omega) hn hz]⟩⟩
   ·have hzb:(((L[n-1]:Nat):Int) == 0)=false:=by simp;omega
    simp[zkE,show 0<n by omega,hw,hlt,hzb,zax,zaY,zaM]
    refine⟨⟨hn,zkp L⟩,fun c hc=>zkp L c (List.mem_of_mem_take hc),⟨by omega,by omega⟩,?_⟩
    rw[zGW]
    exact hone _ _ (by rw[hst,zGB (by omega) hn hz])
end Go.Proofs.YtjkkonpjecoieaaGreat
namespace Go.Proofs.YtjkkonpjecoieaaGreat
open Go Go.Abs
set_option maxRecDepth 8000
theorem zB0 (n:Nat) (hn:n<18446744073709551616) (H:zaa) (K:Kt) (hK:K (.sl (zat (lim n)) .none) H) :
  ACalls tP zhL [.int .u64 n] H K:=by
 refine ACalls.out (zQL fun hs=>?_)
 unfold zBZ zm1
 refine ALoop.own 3 zcD 1 rfl ?_
 show zm1 (.int .u64 n) (.sl [] (.own H.length)) (H++[.perm zcD 1 0]) (Out H.length K)
 refine zQJ (Inv:=fun q t0 t3 H'=>∃ (m:Nat) (A:List Nat),m=q∧t0=.int .u64 m∧t3=.sl (zat A) (.own H.length)∧lim n=A++lim m∧m<18446744073709551616 ∧
  H'=H++[.perm zcD 1 A.length]) n ?_ ?_
 ·intro _;exact⟨n,[],rfl,rfl,rfl,by simp,hn,rfl⟩
 ·rintro q t0 t3 H' ⟨m,A,rfl,rfl,rfl,hA,hm,rfl⟩ hsc' hlen hsF Kb hKb
  by_cases h0:m=0
  ·subst h0
   simp[ztH]
   exact Out.one hs (.atom (.sl _ _)) rfl rfl (by simpa[hA]using hK)
  ·have hq:=zo1 m
   have hd:=zD3 h0
   have hlA:A.length+1≤1000:=by
    have h1:=congrArg List.length hA
    have h2:=zfo (n:=n) (k:=3) (by omega)
    rw[zdw h0]at h1
    simp at h1
    omega
   simp only[ztH,zob,zuV false hm,zC4 .u64 (show m % 1000000000<4294967296 by omega)]
   simp[show 0<m by omega,zaB,zbf,zaF,AV.pd,zax,zaY,zaM]
   refine⟨⟨by omega,by omega⟩,?_⟩
   have e1:((m:Int) / 1000000000)=((m / 1000000000:Nat):Int):=rfl
   have e2:((m:Int) % 1000000000)=((m % 1000000000:Nat):Int):=rfl
   rw[e1,e2,sN]
   refine hKb _ _ ⟨m / 1000000000,hd,Back.here (by simp) (hs.append (by simp[AB.sc])) (by simp[zm0,ux,AV.sc,AV.scA,AV.scB,AV.scV]) ⟨_,_,rfl,m / 1000000000,A++[m % 1000000000],rfl,rfl,rfl,?_,by omega,by simp⟩⟩
   rw[hA,zdw h0];simp
theorem zi9 (A:List Nat) (x:Nat):zas (A++[x])=zas A+1000000000 ^ A.length*x:=by rw[zi8];simp[zas]
theorem zyD (L:List Nat) (h32:∀ x∈L,x<4294967296) (hL:L.length≤100000) (H:zaa) (K:Kt) (hK:K (.sl (zat (lim (zas L))) .none) H) :
  ACalls tP zje [.sl (zat L) .none] H K:=by
 refine ACalls.out (zHo fun hs=>?_)
 unfold zyC zkA
 refine ALoop.own 3 zcD 1 rfl ?_
 show zkA (.sl (zat L) .none) (.sl [] (.own H.length)) (.int .u64 0) (.int .i64 0) (H++[.perm zcD 1 0]) (Out H.length K)
 have hend:∀ A:List Nat,(∀ x∈A,x<1000000000)→zas A=zas L→A.length≤200000→zkz (.sl (zat A) (.own H.length)) (H++[.perm zcD 1 A.length]) (Out H.length K):=by
  intro A hA he hl
  unfold zkz
  refine ACalls.wk (args':=[.sl (zat A) .none]) (zqX A (by omega) _ _ ?_) ⟨.atom (.sl _ _),trivial⟩
  rw[zh8 A hA,he]
  exact Out.one hs (.atom (.sl _ _)) rfl rfl hK
 refine zHm (Inv:=fun q t3 t4 t5 H'=>∃ (i c:Nat) (A:List Nat),i≤L.length∧L.length-i=q∧t5=.int .i64 i∧t4=.int .u64 c∧t3=.sl (zat A) (.own H.length)∧A.length=i∧(∀ x∈A,x<1000000000)∧c≤5 ∧
  zas A+1000000000 ^ i*c=zas (L.take i)∧H'=H++[.perm zcD 1 A.length]) L.length ?_ ?_
 ·intro _;exact⟨0,0,[],by omega,rfl,rfl,rfl,rfl,rfl,by simp,by omega,by simp[zas],rfl⟩
 ·rintro q t3 t4 t5 H' ⟨i,c,A,hi,rfl,rfl,rfl,rfl,hAl,hA,hc,hv,rfl⟩ hsc' hlen hsF Kb hKb
  by_cases hlt:i<L.length
  ·have hx:=h32 L[i] (List.getElem_mem hlt)
   have w1:IntKind.u64.wrap ((L[i]:Nat):Int)=L[i]:=zcA (by omega)
   obtain⟨s,hs1⟩:∃ s,s=c+L[i]:=⟨_,rfl⟩
   have w2:IntKind.u64.wrap ((c:Int)+(L[i]:Nat))=(s:Int):=by rw[hs1,←Int.natCast_add];exact zcA (by omega)
   obtain⟨x,c',hx1,hx2,hx3,e1,e2⟩:=zvE s (by omega)
   simp only[zkx]
   simp[hlt,w1,w2,e1,e2,hx3,zaB,zbf,zaF,AV.pd,zax,zaY,zaM,wi i (by omega)]
   refine⟨⟨by omega,by omega⟩,?_⟩
   rw[sN]
   refine hKb _ _ ⟨L.length-(i+1),by omega,Back.here (by simp) (hs.append (by simp[AB.sc])) (by simp[zky,ux,AV.sc,AV.scA,AV.scB,AV.scV]) ⟨_,_,_,rfl,i+1,c',A++[x],by omega,rfl,rfl,rfl,rfl,by simp[hAl],?_,by omega,?_,by simp⟩⟩
   ·intro y hy
    rcases List.mem_append.1 hy with hy | hy
    ·exact hA y hy
    ·simp at hy;omega
   ·rw[zi9,zeL L i hlt,←hv,hAl,Nat.pow_succ]
    grind
  ·obtain rfl:i=L.length:=by omega
   rw[List.take_length]at hv
   by_cases h0:c=0
   ·subst h0
    simp[zkx]
    exact hend A hA (by simpa using hv) (by omega)
   ·simp only[zkx]
    simp[show 0<c by omega,zdi (show c<4294967296 by omega),zaB,zbf,zaF,AV.pd,zax,zaY,zaM]
    refine⟨⟨by omega,by omega⟩,?_⟩
    rw[sN]
    have:=hend (A++[c]) (fun y hy=>by
     rcases List.mem_append.1 hy with hy | hy
     ·exact hA y hy
     ·simp at hy;omega) (by rw[zi9,hAl];exact hv) (by simp;omega)
    simpa using this
theorem zwi {A B:List Nat} (hl:A.length=B.length) (hA:∀ x∈A,x<1000000000) (i:Nat) (hi:i<A.length) (hd:A.drop (i+1)=B.drop (i+1)) (hlt:A[i]<B[i]'(by omega)):zas A<zas B:=by
 have e1:∀ (l:List Nat) (h:i<l.length),zas l=zas (l.take i)+1000000000 ^ i*(l[i]+1000000000*zas (l.drop (i+1))):=by
  intro l h
  conv=>lhs;rw[←List.take_append_drop i l,zi8,List.drop_eq_getElem_cons h,zas]
  rw[List.length_take,Nat.min_eq_left (by omega)]
 rw[e1 A hi,e1 B (by omega),hd]
 have h1:=zeK (A.take i) (fun x hx=>hA x (List.mem_of_mem_take hx))
 rw[List.length_take,Nat.min_eq_left (by omega)]at h1
 generalize hZ:zas (B.drop (i+1))=Z
 generalize A[i]=a at hlt ⊢
 generalize B[i]=b at hlt ⊢
 have h2:1000000000 ^ i*(a+1000000000*Z+1)≤1000000000 ^ i*(b+1000000000*Z):=Nat.mul_le_mul_left _ (by omega)
 rw[Nat.mul_succ]at h2
 omega
def zdF (a b:Nat):Int:=if a<b then -1 else if b<a then 1 else 0
theorem zB9 (a b:Nat) (ha:(lim a).length≤1000) (hb:(lim b).length≤1000) (H:zaa) (K:Kt) (hK:K (.int .i64 (zdF a b)) H) :
  ACalls tP zjG [.sl (zat (lim a)) .none,.sl (zat (lim b)) .none] H K:=by
 refine ACalls.out (zQ9 fun hs=>?_)
 have hO:∀ r,r=zdF a b→Out H.length K (.int .i64 r) H:=fun r hr=>Out.int (J:=[]) (by simp) (Nat.le_refl _) hs (by rw[hr];exact hK)
 have lA:=zcW a
 have lB:=zcW b
 have vA:=zcj a
 have vB:=zcj b
 by_cases hne:(lim a).length=(lim b).length
 ·simp[zna,hne]
  generalize hLA:lim a=A at *
  generalize hLB:lim b=B at *
  have hstart:IntKind.i64.wrap ((B.length:Int)-1)=(B.length:Int)-1:=zau (by omega) (by omega)
  rw[hstart]
  refine zQ7 (Inv:=fun q t5 H'=>∃ i:Nat,i≤B.length∧i=q∧t5=.int .i64 ((i:Int)-1)∧H'=H∧A.drop i=B.drop i) B.length ?_ ?_
  ·intro _;exact⟨B.length,by omega,rfl,rfl,rfl,by rw[List.drop_of_length_le (by omega),List.drop_of_length_le (by omega)]⟩
  ·rintro q t5 H' ⟨i,hi,rfl,rfl,rfl,hd⟩ hsc' hlen hsF Kb hKb
   by_cases h0:i=0
   ·subst h0
    simp[ziv]
    refine hO _ ?_
    simp at hd
    rw[←vA,←vB,hd]
    simp[zdF]
   ·obtain⟨j,rfl⟩:∃ j,i=j+1:=⟨i-1,by omega⟩
    have hja:j<A.length:=by omega
    have hjb:j<B.length:=by omega
    have ej:((j+1:Nat):Int)-1=(j:Int):=by omega
    have hstep:IntKind.i64.wrap ((j:Int)-1)=(j:Int)-1:=zau (by omega) (by omega)
    rw[ej]
    rcases Nat.lt_trichotomy A[j] B[j] with h | h | h
    ·have:=zwi hne lA j hja hd h
     simp[ziv,hja,hjb,h]
     exact hO _ (by rw[←vA,←vB];simp[zdF,this])
    ·simp[ziv,hja,hjb,h,hstep]
     refine hKb _ _ ⟨j,by omega,Back.here (by simp) hs (by simp[znc,ux,AV.sc,AV.scA,AV.scB,AV.scV]) ⟨_,rfl,j,by omega,rfl,rfl,rfl,?_⟩⟩
     rw[List.drop_eq_getElem_cons hja,List.drop_eq_getElem_cons hjb,hd,h]
    ·have:=zwi hne.symm lB j hjb hd.symm h
     simp[ziv,hja,hjb,h,Nat.le_of_lt h,Nat.not_lt.2 (Nat.le_of_lt h)]
     exact hO _ (by rw[←vA,←vB];simp[zdF,this,Nat.not_lt.2 (Nat.le_of_lt this)])
 ·have hnb:(((lim a).length:Int) != ((lim b).length:Int))=true:=by simp;omega
  by_cases hlt:(lim a).length<(lim b).length
  ·have:=zoY hlt
   simp[zna,hnb,hlt]
   exact hO (-1) (by simp[zdF,this])
  ·have:=zoY (show (lim b).length<(lim a).length by omega)
   simp[zna,hnb,hlt]
   exact hO 1 (by simp[zdF,this,Nat.not_lt.2 (Nat.le_of_lt this)])
theorem zQ4 (A B:List Nat) (lA:∀ x∈A,x<1000000000) (lB:∀ x∈B,x<1000000000) (ha:A.length≤1000) (hb:B.length≤1000) (H:zaa) (K:Kt)
  (cA:lim (zas A)=A) (cB:lim (zas B)=B) (hK:K (.sl (zat (lim (zas A+zas B))) .none) H) :
  ACalls tP zpK [.sl (zat A) .none,.sl (zat B) .none] H K:=by
 refine ACalls.out (zQ2 fun hs=>?_)
 unfold zB7 zm9
 refine ALoop.own 5 zcD 1 rfl ?_
 show zm9 (.sl (zat A) .none) (.sl (zat B) .none) (.sl [] (.own H.length)) (.int .u32 0) (.int .i64 0) (H++[.perm zcD 1 0]) (Out H.length K)
 refine zQ0 (Inv:=fun q t5 t6 t7 H'=>∃ (i c:Nat) (R:List Nat),2002-i=q∧i≤1001∧t7=.int .i64 i∧t6=.int .u32 c∧t5=.sl (zat R) (.own H.length)∧R.length=i∧(∀ x∈R,x<1000000000)∧c≤1 ∧
  (max A.length B.length<i→c=0∧1000000000 ^ (i-1)≤zas R)∧zas R+1000000000 ^ i*c=zas (A.take i)+zas (B.take i)∧H'=H++[.perm zcD 1 R.length]) 2002 ?_ ?_
 ·intro _;exact⟨0,0,[],rfl,by omega,rfl,rfl,rfl,rfl,by simp,by omega,by omega,by simp[zas],rfl⟩
 ·rintro q t5 t6 t7 H' ⟨i,c,R,rfl,hi,rfl,rfl,rfl,hRl,hR,hc,hmx,hv,rfl⟩ hsc' hlen hsF Kb hKb
  have hbit:∀ (s:Nat),s≤2*999999999+1→i≤1000→s+1000000000 ^ 0*0=c+(if h:i<A.length then A[i] else 0)+(if h:i<B.length then B[i] else 0)→(max A.length B.length<i+1→s=1) →
    zm8 (.sl (zat A) .none) (.sl (zat B) .none) (.sl (zat R) (.own H.length)) (.int .i64 i) (.int .u32 s) (H++[.perm zcD 1 R.length]) (Out H.length K) Kb:=by
   intro s hs1 hi2 hs2 hs3
   obtain⟨x,c',hx1,hx2,e1,e2⟩:=zD4 s (by omega)
   simp only[zm8]
   simp[e1,e2,zaB,zbf,zaF,AV.pd,zax,zaY,zaM,wi i (by omega)]
   refine⟨⟨by omega,by omega⟩,?_⟩
   rw[sN]
   have tk:∀ L:List Nat,zas (L.take (i+1))=zas (L.take i)+(if h:i<L.length then L[i] else 0)*1000000000 ^ i:=by
    intro L
    by_cases h:i<L.length
    ·rw[dif_pos h,zeL L i h]
    ·rw[dif_neg h,List.take_of_length_le (by omega),List.take_of_length_le (by omega)];simp
   refine hKb _ _ ⟨2002-(i+1),by omega,Back.here (by simp) (hs.append (by simp[AB.sc])) (by simp[zm7,ux,AV.sc,AV.scA,AV.scB,AV.scV]) ⟨_,_,_,rfl,i+1,c',R++[x],rfl,by omega,rfl,rfl,rfl,by simp[hRl],?_,by omega,?_,?_,by simp⟩⟩
   ·intro y hy
    rcases List.mem_append.1 hy with hy | hy
    ·exact hR y hy
    ·simp at hy;omega
   ·intro h
    have:=hs3 h
    refine⟨by omega,?_⟩
    obtain rfl:x=1:=by omega
    rw[zi9,hRl,Nat.add_sub_cancel]
    omega
   ·rw[zi9,tk A,tk B,hRl,Nat.pow_succ]
    simp only[Nat.pow_zero,Nat.mul_zero,Nat.add_zero]at hs2
    generalize (if h:i<A.length then A[i] else 0)=u at *
    generalize (if h:i<B.length then B[i] else 0)=v at *
    grind
  by_cases hA:i<A.length
  ·have hxa:=lA A[i] (List.getElem_mem hA)
   by_cases hB:i<B.length
   ·have hxb:=lB B[i] (List.getElem_mem hB)
    obtain⟨s1,hs1⟩:∃ s,s=c+A[i]:=⟨_,rfl⟩
    have w1:IntKind.u32.wrap ((c:Int)+(A[i]:Nat))=(s1:Int):=by rw[hs1,←Int.natCast_add];exact zdi (by omega)
    obtain⟨s2,hs2⟩:∃ s,s=s1+B[i]:=⟨_,rfl⟩
    have w2:IntKind.u32.wrap ((s1:Int)+(B[i]:Nat))=(s2:Int):=by rw[hs2,←Int.natCast_add];exact zdi (by omega)
    simp[zgS,zgT,hA,hB,w1,w2]
    exact hbit s2 (by omega) (by omega) (by simp[hA,hB];omega) (by omega)
   ·obtain⟨s1,hs1⟩:∃ s,s=c+A[i]:=⟨_,rfl⟩
    have w1:IntKind.u32.wrap ((c:Int)+(A[i]:Nat))=(s1:Int):=by rw[hs1,←Int.natCast_add];exact zdi (by omega)
    simp[zgS,zgT,hA,hB,w1]
    exact hbit s1 (by omega) (by omega) (by simp[hA,hB];omega) (by omega)
  ·by_cases hB:i<B.length
   ·have hxb:=lB B[i] (List.getElem_mem hB)
    obtain⟨s2,hs2⟩:∃ s,s=c+B[i]:=⟨_,rfl⟩
    have w2:IntKind.u32.wrap ((c:Int)+(B[i]:Nat))=(s2:Int):=by rw[hs2,←Int.natCast_add];exact zdi (by omega)
    simp[zgS,zgT,hA,hB,w2]
    exact hbit s2 (by omega) (by omega) (by simp[hA,hB];omega) (by omega)
   ·by_cases h0:c=0
    ·subst h0
     simp[zgS,hA,hB]
     rw[List.take_of_length_le (by omega),List.take_of_length_le (by omega)]at hv
     have hv':zas R=zas A+zas B:=by simpa using hv
     rw[←hv']at hK
     have hcan:R=lim (zas R):=by
      refine zDG hR ?_
      by_cases hm:max A.length B.length<i
      ·have:=zwd (hmx hm).2
       omega
      ·by_cases hi0:i=0
       ·omega
       ·have hmm:i=max A.length B.length:=by omega
        have hge:1000000000 ^ (i-1)≤zas R:=by
         by_cases hAB:B.length≤A.length
         ·have:i=A.length:=by omega
          have h3:=zoW (n:=zas A) (by intro h;have hl0:=congrArg List.length cA;rw[h]at hl0;simp at hl0;omega)
          rw[cA,←this]at h3
          omega
         ·have:i=B.length:=by omega
          have h3:=zoW (n:=zas B) (by intro h;have hl0:=congrArg List.length cB;rw[h]at hl0;simp at hl0;omega)
          rw[cB,←this]at h3
          omega
        have:=zwd hge
        omega
     rw[←hcan]at hK
     exact Out.one hs (.atom (.sl _ _)) rfl rfl hK
    ·have:i≤1000:=by
      refine Nat.le_of_not_lt fun h=>?_
      exact h0 (hmx (by omega)).1
     simp[zgS,zgT,hA,hB,show 0<c by omega]
     exact hbit c (by omega) this (by simp[hA,hB]) (by omega)
def us (l:List Nat):List AV:=l.map fun (n:Nat)=>AV.int .u32 (n:Int)
@[simp] theorem zXG (l:List Nat):(us l).length=l.length:=by simp[us]
theorem zGY (l:List Nat):(zat l).flatten=us l:=by induction l with
 | nil=>rfl
 | cons x l ih=>simp only[zat,us,List.map_cons,List.flatten_cons]at ih ⊢;rw[ih];rfl
theorem zyn:∀ (l:List Nat),zaF (us l)=some (us l)
 | []=>rfl
 | x::l=>by simp only[us,List.map_cons,zaF,AV.pd];rw[show zaF (List.map (fun n:Nat=>AV.int .u32 (n:Int)) l)=some (us l) from zyn l];rfl
theorem zGZ (l:List Nat) (i:Nat) (h:i<l.length):(us l)[i]?=some (.int .u32 ((l[i]:Nat):Int)):=by simp[us,h]
theorem zyo (l:List Nat) (i x:Nat) (h:i<l.length):(us l).take i++[AV.int .u32 (x:Int)]++(us l).drop (i+1)=us (l.set i x):=by
 simp only[us,←List.map_take,←List.map_drop]
 rw[List.set_eq_take_append_cons_drop,if_pos h]
 simp
theorem zqL (n:Nat):List.replicate n (AV.int .u32 0)=us (List.replicate n 0):=by simp[us]
theorem zuQ {k:AV→Prop} (l:List Nat) (i:Nat) (h:i<l.length):zbi false 1 i (us l) k=k (.int .u32 ((l[i]:Nat):Int)):=by
 simp[zbi,zGZ l i h]
theorem zoA (L:List Nat) (hL:∀ x∈L,x<1000000000) (hl:L.length≤100000) {id:Nat} {H:zaa} {K:Kt} (hid:H[id]?=some (.cells (us L))) (hK:K (.sl (zat (lim (zas L))) .none) (H.set id .dead)) :
  ACalls tP zeP [.ms id 0 L.length L.length] H K:=by
 refine ACalls.frz id 0 L.length L.length 1 (us L) (zat L) hid (by simp) ?_ (by simp) (zkp L) (Nat.le_refl _) (args':=[.sl (zat L) .none]) ⟨.one .ms,trivial⟩ ?_
 ·rw[List.drop_zero,List.take_of_length_le (by simp),zGY,zyn]
 ·refine zqX L (by omega) _ _ ?_
  rw[zh8 L hL];exact hK
theorem zQX (A B:List Nat) (lA:∀ x∈A,x<1000000000) (lB:∀ x∈B,x<1000000000) (ha:A.length≤1000) (hb:B.length≤1000) (H:zaa) (K:Kt)
  (hK:K (.sl (zat (lim (zas A*zas B))) .none) H) :
  ACalls tP zdf [.sl (zat A) .none,.sl (zat B) .none] H K:=by
 refine ACalls.out (zQV fun hs=>?_)
 have hw:IntKind.i64.wrap (IntKind.i64.wrap ((A.length:Int)+B.length)+1)=((A.length+B.length+1:Nat):Int):=by
  rw[zau (n:=(A.length:Int)+B.length) (by omega) (by omega),zau (by omega) (by omega)];omega
 simp[zB2,hw,zbr]
 have hN:((A.length:Int)+B.length+1).toNat=A.length+B.length+1:=by omega
 rw[hN,zqL]
 refine⟨⟨by omega,by omega,by omega⟩,?_⟩
 have hsc:∀ O:List Nat,HSc (H++[.cells (us O)]):=fun O=>hs.append (by simp[AB.sc,us,AV.scA,AV.scB])
 have hBlt:=zeK B lB
 refine zQS (Inv:=fun q t6 H'=>∃ (i:Nat) (O:List Nat),i≤A.length∧A.length-i=q∧t6=.int .i64 i∧O.length=A.length+B.length+1∧(∀ x∈O,x<1000000000)∧zas O=zas (A.take i)*zas B∧H'=H++[.cells (us O)]) A.length ?_ ?_
 ·intro _;exact⟨0,_,by omega,rfl,rfl,by simp,by simp,by rw[zEx];simp[zas],rfl⟩
 ·rintro q t6 H' ⟨i,O,hi,rfl,rfl,hOl,hO,hv,rfl⟩ hsc' hlen hsF Kb hKb
  by_cases hlt:i<A.length
  ·have hxa:=lA A[i] (List.getElem_mem hlt)
   simp[ztJ,hlt]
   refine zQT (Inv:=fun q t7 t8 H'=>∃ (k c:Nat) (R:List Nat),k≤B.length+1∧B.length+1-k=q∧t8=.int .i64 k∧t7=.int .u64 c∧R.length=A.length+B.length+1∧(∀ x∈R,x<1000000000)∧c<1000000000∧(B.length<k→c=0) ∧
    zas R+c*1000000000 ^ (i+k)=zas O+A[i]*zas (B.take k)*1000000000 ^ i∧H'=H++[.cells (us R)]) (B.length+1) ?_ ?_
   ·intro _;exact⟨0,0,O,by omega,rfl,rfl,rfl,hOl,hO,by omega,by omega,by simp[zas],rfl⟩
   ·rintro q t7 t8 H' ⟨k,c,R,hk,rfl,rfl,rfl,hRl,hR,hc,hmx,hr,rfl⟩ hsc'' hlen' hsF' Kb2 hKb2
    have hik:IntKind.i64.wrap ((i:Int)+k)=((i+k:Nat):Int):=by rw[zau (by omega) (by omega)];omega
    have hstep:∀ s:Nat,s<1000000000*1000000000→(hR2:i+k<R.length)→k≤B.length→s=c+R[i+k]+A[i]*(if h:k<B.length then B[k] else 0) →
      zm5 (.sl (zat A) .none) (.sl (zat B) .none) (.ms H.length 0 (A.length+B.length+1) (A.length+B.length+1)) (.int .i64 i) (.int .u64 s) (.int .i64 k) (H++[.cells (us R)]) (Out H.length K) Kb Kb2:=by
     intro s hs1 hR2 hkB hs2
     obtain⟨x,c',hx1,hx2,hx3,e1,e2⟩:=zvE s (by omega)
     have hlt2:i+k<A.length+B.length+1:=by omega
     have hset:=zyo R (i+k) x hR2
     simp only[zm5]
     simp[hik,e1,e2,hx3,wi k (by omega),hlt2]
     have eT:((i:Int)+k).toNat=i+k:=by omega
     rw[eT]
     refine⟨⟨by omega,by omega⟩,by omega,?_⟩
     have hset':List.take (i+k) (us R)++AV.int .u32 (x:Int)::List.drop (i+k+1) (us R)=us (R.set (i+k) x):=by rw[←hset];simp
     rw[hset']
     have hb1:zas (B.take (k+1))=zas (B.take k)+(if h:k<B.length then B[k] else 0)*1000000000 ^ k:=by
      by_cases h:k<B.length
      ·rw[dif_pos h,zeL B k h]
      ·rw[dif_neg h,List.take_of_length_le (by omega),List.take_of_length_le (by omega)];simp
     have hls:=zwj R (i+k) x hR2
     have hmain:zas (R.set (i+k) x)+c'*1000000000 ^ (i+(k+1))=zas O+A[i]*zas (B.take (k+1))*1000000000 ^ i:=by
      rw[hb1,show i+(k+1)=i+k+1 by omega,Nat.pow_succ]
      rw[Nat.pow_add]at hr hls ⊢
      rw[hs2]at hx2
      clear hset hset' e1 e2 hx3 hs2 hb1 hKb hKb2 hsc' hsc'' hsF hsF' hBlt hK hs
      generalize (if h:k<B.length then B[k] else 0)=b at *
      generalize zas (R.set (i+k) x)=vS at *
      generalize R[i+k]=r at *
      generalize A[i]=a at *
      generalize zas (List.take k B)=T at *
      generalize 1000000000 ^ i=P at *
      generalize 1000000000 ^ k=Q at *
      generalize zas R=vR at *
      generalize zas O=vO at *
      grind
     have hc1:c'<1000000000:=by
      refine Nat.lt_of_not_le fun h=>?_
      have:=Nat.mul_le_mul_left 1000000000 h
      omega
     refine hKb2 _ _ ⟨B.length+1-(k+1),by omega,Back.here (by simp) (hsc _) (by simp[zm4,ux,AV.sc,AV.scA,AV.scB,AV.scV]) ⟨_,_,rfl,k+1,c',R.set (i+k) x,by omega,rfl,by simp,rfl,by simp[hRl],?_,hc1,?_,hmain,rfl⟩⟩
     ·intro y hy
      rcases List.mem_or_eq_of_mem_set hy with hy | rfl
      ·exact hR y hy
      ·exact hx1
     ·intro hkl
      obtain rfl:k=B.length:=by omega
      have htot:zas O+A[i]*zas (B.take (B.length+1))*1000000000 ^ i=zas (A.take (i+1))*zas B:=by
       rw[List.take_of_length_le (by omega),zeL A i hlt,hv]
       grind
      rw[htot]at hmain
      have hAl:=zeK (A.take (i+1)) (fun y hy=>lA y (List.mem_of_mem_take hy))
      rw[List.length_take,Nat.min_eq_left (by omega)]at hAl
      have hp:=Nat.mul_lt_mul'' hAl hBlt
      rw[←Nat.pow_add]at hp
      refine Nat.eq_zero_of_not_pos fun hpos=>?_
      have h3:1*1000000000 ^ (i+(B.length+1))≤c'*1000000000 ^ (i+(B.length+1)):=Nat.mul_le_mul_right _ hpos
      rw[show i+1+B.length=i+(B.length+1) by omega]at hp
      omega
    by_cases hkb:k<B.length
    ·have hR2:i+k<R.length:=by omega
     have hxb:=lB B[k] (List.getElem_mem hkb)
     have hxr:=hR R[i+k] (List.getElem_mem hR2)
     have eT:((i:Int)+k).toNat=i+k:=by omega
     have w1:IntKind.u64.wrap ((R[i+k]:Nat):Int)=R[i+k]:=zcA (by omega)
     have w2:IntKind.u64.wrap ((A[i]:Nat):Int)=A[i]:=zcA (by omega)
     have w3:IntKind.u64.wrap ((B[k]:Nat):Int)=B[k]:=zcA (by omega)
     have hmul:A[i]*B[k]≤999999999*999999999:=Nat.mul_le_mul (by omega) (by omega)
     obtain⟨m,hm⟩:∃ m,m=A[i]*B[k]:=⟨_,rfl⟩
     have w4:IntKind.u64.wrap (((A[i]:Nat):Int)*(B[k]:Nat))=(m:Int):=by rw[hm,←Int.natCast_mul];exact zcA (by omega)
     obtain⟨s1,hs1⟩:∃ s,s=c+R[i+k]:=⟨_,rfl⟩
     have w5:IntKind.u64.wrap ((c:Int)+(R[i+k]:Nat))=(s1:Int):=by rw[hs1,←Int.natCast_add];exact zcA (by omega)
     obtain⟨s2,hs2⟩:∃ s,s=s1+m:=⟨_,rfl⟩
     have w6:IntKind.u64.wrap ((s1:Int)+(m:Int))=(s2:Int):=by rw[hs2,←Int.natCast_add];exact zcA (by omega)
     have:=hstep s2 (by omega) hR2 (by omega) (by rw[hs2,hs1,hm,dif_pos hkb])
     simp[zm2,hkb,hik,eT,w2,w3,w4]
     refine⟨⟨by omega,by omega⟩,?_⟩
     rw[zuQ R _ hR2]
     simp[w1,w2,w3,w4,w5,w6,hlt,hkb]
     exact this
    ·by_cases h0:c=0
     ·subst h0
      simp[zm2,hkb,wi i (by omega)]
      refine hKb _ _ ⟨A.length-(i+1),by omega,Back.here (by simp) (hsc _) (by simp[zm3,ux,AV.sc,AV.scA,AV.scB,AV.scV]) ⟨_,rfl,i+1,R,by omega,rfl,rfl,hRl,hR,?_,rfl⟩⟩
      rw[List.take_of_length_le (by omega)]at hr
      rw[zeL A i hlt]
      rw[hv]at hr
      grind
     ·have hk2:k=B.length:=by
       refine Nat.le_antisymm (Nat.le_of_not_lt fun h=>h0 (hmx h)) (by omega)
      have hR2:i+k<R.length:=by omega
      have hxr:=hR R[i+k] (List.getElem_mem hR2)
      have eT:((i:Int)+k).toNat=i+k:=by omega
      have w1:IntKind.u64.wrap ((R[i+k]:Nat):Int)=R[i+k]:=zcA (by omega)
      obtain⟨s1,hs1⟩:∃ s,s=c+R[i+k]:=⟨_,rfl⟩
      have w5:IntKind.u64.wrap ((c:Int)+(R[i+k]:Nat))=(s1:Int):=by rw[hs1,←Int.natCast_add];exact zcA (by omega)
      have:=hstep s1 (by omega) hR2 (by omega) (by rw[hs1,dif_neg hkb];omega)
      simp[zm2,hkb,hik,eT,show 0<c by omega]
      refine⟨⟨by omega,by omega⟩,?_⟩
      rw[zuQ R _ hR2]
      simp[w1,w5]
      exact this
  ·obtain rfl:i=A.length:=by omega
   rw[List.take_length]at hv
   simp[ztJ]
   rw[←hOl]
   refine zoA O hO (by omega) (by simp) ?_
   rw[hv]
   simp
   exact Out.one hs (.atom (.sl _ _)) rfl rfl hK
theorem zqK (O:List Nat) (i x:Nat) (h:i<O.length):List.take i (us O)++AV.int .u32 (x:Int)::List.drop (i+1) (us O)=us (O.set i x):=by rw[←zyo O i x h];simp
theorem zxB {O:List Nat} (hO:∀ x∈O,x<1000000000) {i x:Nat} (hx:x<1000000000):∀ y∈O.set i x,y<1000000000:=by
 intro y hy
 rcases List.mem_or_eq_of_mem_set hy with hy | rfl
 ·exact hO y hy
 ·exact hx
theorem zRh (A B:List Nat) (lA:∀ x∈A,x<1000000000) (lB:∀ x∈B,x<1000000000) (ha:A.length≤1000) (hb:B.length≤A.length) (hle:zas B≤zas A) (H:zaa) (K:Kt)
  (hK:K (.sl (zat (lim (zas A-zas B))) .none) H) :
  ACalls tP zhM [.sl (zat A) .none,.sl (zat B) .none] H K:=by
 refine ACalls.out (zRf fun hs=>?_)
 simp[zCa,zbr]
 rw[zqL]
 refine⟨⟨by omega,by omega⟩,?_⟩
 have hsc:∀ O:List Nat,HSc (H++[.cells (us O)]):=fun O=>hs.append (by simp[AB.sc,us,AV.scA,AV.scB])
 have tk:∀ i,zas (B.take (i+1))=zas (B.take i)+(if h:i<B.length then B[i] else 0)*1000000000 ^ i:=by
  intro i
  by_cases h:i<B.length
  ·rw[dif_pos h,zeL B i h]
  ·rw[dif_neg h,List.take_of_length_le (by omega),List.take_of_length_le (by omega)];simp
 refine zRd (Inv:=fun q t6 t7 H'=>∃ (i w:Nat) (O:List Nat),i≤A.length∧A.length-i=q∧t7=.int .i64 i∧t6=.int .u32 w∧w≤1∧O.length=A.length∧(∀ x∈O,x<1000000000) ∧
  zas (O.take i)+zas (B.take i)=zas (A.take i)+w*1000000000 ^ i∧H'=H++[.cells (us O)]) A.length ?_ ?_
 ·intro _;exact⟨0,0,_,by omega,rfl,rfl,rfl,by omega,by simp,by simp,by simp[zas],rfl⟩
 ·rintro q t6 t7 H' ⟨i,w,O,hi,rfl,rfl,rfl,hw,hOl,hO,hv,rfl⟩ hsc' hlen hsF Kb hKb
  by_cases hlt:i<A.length
  ·have hxa:=lA A[i] (List.getElem_mem hlt)
   have hOi:i<O.length:=by omega
   have hstep:∀ s:Nat,s≤1000000000→s=w+(if h:i<B.length then B[i] else 0) →
     zix (.sl (zat A) .none) (.sl (zat B) .none) (.ms H.length 0 A.length A.length) (.int .i64 i) (.int .u32 s) (H++[.cells (us O)]) (Out H.length K) Kb:=by
    intro s hs1 hs2
    have hpw:1000000000 ^ (i+1)=1000000000 ^ i*1000000000:=Nat.pow_succ ..
    have fin:∀ (x w':Nat),x<1000000000→w'≤1→x+s=A[i]+w'*1000000000 →
      Kb (ziw (.sl (zat A) .none) (.sl (zat B) .none) (.ms H.length 0 A.length A.length) (.int .u32 w') (.int .i64 ((i:Int)+1))) (H++[.cells (us (O.set i x))]):=by
     intro x w' hx hw' he
     refine hKb _ _ ⟨A.length-(i+1),by omega,Back.here (by simp) (hsc _) (by simp[ziw,ux,AV.sc,AV.scA,AV.scB,AV.scV]) ⟨_,_,rfl,i+1,w',O.set i x,by omega,rfl,by simp,rfl,hw',by simp[hOl],zxB hO hx,?_,rfl⟩⟩
     rw[zeL (O.set i x) i (by simpa using hOi),tk i,zeL A i hlt,List.take_set_of_le (Nat.le_refl _),List.getElem_set_self,hpw]
     generalize (if h:i<B.length then B[i] else 0)=b at *
     grind
    by_cases hge:s≤A[i]
    ·have w1:IntKind.u32.wrap (((A[i]:Nat):Int)-(s:Int))=((A[i]-s:Nat):Int):=by rw[←Int.natCast_sub hge];exact zdi (by omega)
     obtain⟨x,hx⟩:∃ x,x=A[i]-s:=⟨_,rfl⟩
     rw[←hx]at w1
     have:=fin x 0 (by omega) (by omega) (by omega)
     simp only[zix,znf,ztP]
     simp[hlt,hge,w1,wi i (by omega),zqK O i x hOi,hOl]
     exact⟨by omega,by simpa using this⟩
    ·have w1:IntKind.u32.wrap (((A[i]:Nat):Int)+1000000000)=((A[i]+1000000000:Nat):Int):=by
      rw[show ((A[i]:Nat):Int)+1000000000=((A[i]+1000000000:Nat):Int) by omega];exact zdi (by omega)
     obtain⟨x,hx⟩:∃ x,x=A[i]+1000000000-s:=⟨_,rfl⟩
     have w2:IntKind.u32.wrap (((A[i]:Nat):Int)+1000000000-(s:Int))=(x:Int):=by
      rw[show ((A[i]:Nat):Int)+1000000000-(s:Int)=(x:Int) by omega];exact zdi (by omega)
     have:=fin x 1 (by omega) (by omega) (by omega)
     simp only[zix,znf,ztP]
     simp[hlt,hge,w1,w2,wi i (by omega),zqK O i x hOi,hOl]
     exact⟨by omega,by simpa using this⟩
   by_cases hB:i<B.length
   ·have hxb:=lB B[i] (List.getElem_mem hB)
    obtain⟨s,hs1⟩:∃ s,s=w+B[i]:=⟨_,rfl⟩
    have w1:IntKind.u32.wrap ((w:Int)+(B[i]:Nat))=(s:Int):=by rw[hs1,←Int.natCast_add];exact zdi (by omega)
    have:=hstep s (by omega) (by rw[hs1,dif_pos hB])
    simp[zne,hlt,hB,w1]
    exact this
   ·have:=hstep w (by omega) (by rw[dif_neg hB];rfl)
    simp[zne,hlt,hB]
    exact this
  ·obtain rfl:i=A.length:=by omega
   rw[List.take_length,List.take_of_length_le (by omega),List.take_of_length_le (by omega)]at hv
   have hOlt:=zeK O hO
   rw[hOl]at hOlt
   have hw0:w=0:=by
    refine Nat.eq_zero_of_not_pos fun h=>?_
    have:w=1:=by omega
    subst this
    omega
   subst hw0
   simp[zne]
   rw[←hOl]
   refine zoA O hO (by omega) (by simp) ?_
   rw[show zas O=zas A-zas B by omega]
   simp
   exact Out.one hs (.atom (.sl _ _)) rfl rfl hK
theorem zJS (A:List Nat) (lA:∀ x∈A,x<1000000000) (ha:A.length≤1000) (d:Nat) (hd0:0<d) (hd:d<4294967296) (hdB:d≤1000000000) (H:zaa) (K:Kt)
  (hK:K (.tup [.sl (zat (lim (zas A / d))) .none,.int .u64 ((zas A % d:Nat):Int)]) H) :
  ACalls tP zpe [.sl (zat A) .none,.int .u64 d] H K:=by
 refine ACalls.out (zJQ fun hs=>?_)
 have hst:IntKind.i64.wrap ((A.length:Int)-1)=(A.length:Int)-1:=zau (by omega) (by omega)
 simp[zzn,zbr,hst]
 rw[zqL]
 refine⟨⟨by omega,by omega⟩,?_⟩
 have hsc:∀ O:List Nat,HSc (H++[.cells (us O)]):=fun O=>hs.append (by simp[AB.sc,us,AV.scA,AV.scB])
 refine zJO (Inv:=fun q t7 t8 H'=>∃ (i r:Nat) (O:List Nat),i≤A.length∧i=q∧t8=.int .i64 ((i:Int)-1)∧t7=.int .u64 r∧r<d∧O.length=A.length∧(∀ x∈O,x<1000000000) ∧
  zas (A.drop i)=d*zas (O.drop i)+r∧H'=H++[.cells (us O)]) A.length ?_ ?_
 ·intro _;exact⟨A.length,0,_,by omega,rfl,rfl,rfl,by omega,by simp,by simp,by simp[zas],rfl⟩
 ·rintro q t7 t8 H' ⟨i,r,O,hi,rfl,rfl,rfl,hr,hOl,hO,hv,rfl⟩ hsc' hlen hsF Kb hKb
  by_cases h0:i=0
  ·subst h0
   simp[zrE]
   rw[List.drop_zero,List.drop_zero]at hv
   rw[←hOl]
   refine zoA O hO (by omega) (by simp) ?_
   have e1:zas A / d=zas O:=by rw[hv,Nat.mul_add_div hd0,Nat.div_eq_of_lt hr];simp
   have e2:zas A % d=r:=by rw[hv,Nat.mul_add_mod,Nat.mod_eq_of_lt hr]
   rw[e1,e2]at hK
   simp
   exact⟨⟨rfl,rfl⟩,Out.tup (bs:=[.sl (zat (lim (zas O))) .none,.int .u64 (r:Int)]) hs hK ⟨slV,za4 rfl rfl,trivial⟩⟩
  ·obtain⟨j,rfl⟩:∃ j,i=j+1:=⟨i-1,by omega⟩
   have hja:j<A.length:=by omega
   have hjO:j<O.length:=by omega
   have hxa:=lA A[j] (List.getElem_mem hja)
   have ej:((j+1:Nat):Int)-1=(j:Int):=by omega
   have hstep:IntKind.i64.wrap ((j:Int)-1)=(j:Int)-1:=zau (by omega) (by omega)
   have hrB:r*1000000000≤1000000000*1000000000:=Nat.mul_le_mul_right _ (by omega)
   obtain⟨m,hm⟩:∃ m,m=r*1000000000:=⟨_,rfl⟩
   have w1:IntKind.u64.wrap ((r:Int)*1000000000)=(m:Int):=by rw[show (r:Int)*1000000000=(m:Int) by omega];exact zcA (by omega)
   have w2:IntKind.u64.wrap ((A[j]:Nat):Int)=A[j]:=zcA (by omega)
   obtain⟨s,hs1⟩:∃ s,s=m+A[j]:=⟨_,rfl⟩
   have w3:IntKind.u64.wrap ((m:Int)+(A[j]:Nat))=(s:Int):=by rw[hs1,←Int.natCast_add];exact zcA (by omega)
   obtain⟨x,c,hx1,hx2,e1,e2⟩:=zD5 s d hd0 (by omega)
   have hcB:c<1000000000:=by
    refine Nat.lt_of_not_le fun h=>?_
    have h1:d*1000000000≤d*c:=Nat.mul_le_mul_left _ h
    have h2:r*1000000000+1000000000≤d*1000000000:=by
     rw[←Nat.succ_mul];exact Nat.mul_le_mul_right _ hr
    omega
   have w4:IntKind.u32.wrap (c:Int)=c:=zdi (by omega)
   rw[ej]
   simp only[zrE]
   simp[hja,w1,w2,w3,e1,e2,w4,hstep,zqK O j c hjO,hOl]
   refine⟨by omega,hKb _ _ ⟨j,by omega,Back.here (by simp) (hsc _) (by simp[zlk,ux,AV.sc,AV.scA,AV.scB,AV.scV]) ⟨_,_,rfl,j,x,O.set j c,by omega,rfl,rfl,rfl,hx1,by simp[hOl],zxB hO hcB,?_,rfl⟩⟩⟩
   rw[zwh A j hja,zwh (O.set j c) j (by simpa using hjO),List.getElem_set_self,List.drop_set_of_lt (by omega),hv]
   rw[hs1,hm]at hx2
   generalize zas (O.drop (j+1))=Z at *
   grind
end Go.Proofs.YtjkkonpjecoieaaGreat
