import Derived.Test.YtkdmpbhbmmhijaaKNum
import Derived.Test.YtkdmpbhbmmhijaaProg
import Derived.KernelRfl
set_option linter.unusedVariables false
namespace Go.Proofs.Ytkdmpbhbmmhijaa
open Go Go.Abs
set_option maxRecDepth 100000
def zlC : Nat → List Bool
 | 5=>rl false [1,2,2,1,24]
 | _=>[]
noncomputable def zq0 : Code:=Try.f65.body.getD .skip
noncomputable def zL0 : List ResultVar:=Try.f65.results.toList
def zlD (t1 t2 t5 : AV) : List AV:=ux 1 (t1 :: t2 :: ux 2 (t5 :: ux 24 []))
def zLY : List Bool:=zlC 5
noncomputable def zLW : Code:=zan [1,1,1,0,1,0,0] zq0
def zLV (K : Kt) : AExit → List AV → zaa → Prop:=zao tP zlC [1,1,1,0,1,0] zq0 (zau tP zL0 K)
def zxZ (t1 t2 t5 : AV) (H : zaa) (K : Kt) : Prop:=ALoop tP zLW (zLV K) (zlD t1 t2 t5) H
def zqZ (t1 t2 t5 : AV) (H : zaa) (K : Kt) (Kb5 : Lt) : Prop:=
 zaf 2 t2 fun t16=>
 zae false 1 t16 H fun t17=>
 zaj 1 t17 fun t18=>
 zad .lss false t5 t18 fun t19=>
 zag t19
 (zaf 2 t2 fun t22=>
 zae false 1 t22 H fun t23=>
 zai 3 t23 t5 fun t25=>
 zae true 3 t25 H fun t26=>
 ACalls tP zg6 [t26,t1] H fun t28 H=>
 aUn .not t28 fun t29=>
 zag t29
 (K (.bool false) H)
 (zad .add false t5 (.int .i64 1) fun t21=>
 Kb5 (zlD t1 t2 t21) H))
 (K (.bool true) H)
def zxY (t0 t1 : AV) (H : zaa) (K : Kt) : Prop:=
 zaF t0 H fun t2 H=>
 za9 t1 fun t7=>
 zae false 1 t7 H fun t8=>
 zad .sub false t8 (.int .i64 1) fun t9=>
 za9 t1 fun t10=>
 zar 1 t10 t9 H fun H=>
 za9 t1 fun t12=>
 zae false 1 t12 H fun t13=>
 zad .lss false t13 (.int .i64 0) fun t14=>
 zag t14
 (K (.bool false) H)
 (zxZ t1 t2 (.int .i64 0) H K)
theorem zLX {t1 t2 t5 : AV} {H : zaa} {K : Kt} (Inv : Nat → AV → zaa → Prop) (n : Nat) (h0 : HSc H → Inv n t5 H)
  (round : Rd1 (fun t5=>zlD t1 t2 t5) (fun t5=>fun H Kb5=>zqZ t1 t2 t5 H K Kb5) H Inv) : zxZ t1 t2 t5 H K:=
 lp1 (M:=zlC) zLY t5 (by kernel_rfl) Inv n h0 round
theorem zLZ {t0 t1 : AV} {H : zaa} {K : Kt} (h : HSc H → zxY t0 t1 H K) : ACalls tP zg6 [t0,t1] H K:=
 zax (M:=zlC) Try.func65 (c:=zq0) (by kernel_rfl) (fun hs=>Eq.mpr (by kernel_rfl) (h hs))
def zIk (_ : Nat) : List Bool:=[]
noncomputable def zIl : Code:=Try.f40.body.getD .skip
def zws (t0 : AV) (H : zaa) (K : Kt) : Prop:=
 zaF t0 H fun t1 H=>
 zaA [(.int .i64 0)] H fun t3 H=>
 zar 1 t3 (.int .i64 250) H fun H=>
 zae true 3 t1 H fun t4=>
 ACalls tP zg6 [t4,t3] H fun t5 H=>
 K t5 H
theorem zIm {t0 : AV} {H : zaa} {K : Kt} (h : HSc H → zws t0 H K) : ACalls tP zg5 [t0] H K:=
 zax (M:=zIk) Try.func40 (c:=zIl) (by kernel_rfl) (fun hs=>Eq.mpr (by kernel_rfl) (h hs))
def zkt : Nat → List Bool
 | 2=>rl false [0,2,3,1,21]
 | _=>[]
noncomputable def zpQ : Code:=Try.f39.body.getD .skip
noncomputable def zIi : List ResultVar:=Try.f39.results.toList
def zkv (t0 t1 t5 : AV) : List AV:=t0 :: t1 :: ux 3 (t5 :: ux 21 [])
def zIg : List Bool:=zkt 2
noncomputable def zIe : Code:=zan [1,0,1,0,0] zpQ
def zId (K : Kt) : AExit → List AV → zaa → Prop:=zao tP zkt [1,0,1,0] zpQ (zau tP zIi K)
def zwr (t0 t1 t5 : AV) (H : zaa) (K : Kt) : Prop:=ALoop tP zIe (zId K) (zkv t0 t1 t5) H
def zku (t0 t1 t5 : AV) (H : zaa) (K : Kt) (Kb2 : Lt) : Prop:=
 zaj 1 t0 fun t8=>
 zad .lss false t5 t8 fun t9=>
 zab t9 true H (fun K'=>K' t5 H) fun t11 H=>
 zab t9 true H (fun K'=>K' t1 H) fun t12 H=>
 zab t9 true H (fun K'=>zad .leq false t11 t12 (K' · H)) fun t13 H=>
 zah t9 t13 (.bool false) fun t14=>
 zag t14
 (zai 3 t0 t5 fun t19=>
 zae true 3 t19 H fun t20=>
 ACalls tP zg5 [t20] H fun t21 H=>
 aUn .not t21 fun t22=>
 zag t22
 (K (.bool false) H)
 (zad .add false t5 (.int .i64 1) fun t16=>
 Kb2 (zkv t0 t1 t16) H))
 (zaj 1 t0 fun t24=>
 zad .leq false t24 t1 fun t26=>
 K t26 H)
def zwq (t0 t1 : AV) (H : zaa) (K : Kt) : Prop:=
 zwr t0 t1 (.int .i64 0) H K
theorem zIf {t0 t1 t5 : AV} {H : zaa} {K : Kt} (Inv : Nat → AV → zaa → Prop) (n : Nat) (h0 : HSc H → Inv n t5 H)
  (round : Rd1 (fun t5=>zkv t0 t1 t5) (fun t5=>fun H Kb2=>zku t0 t1 t5 H K Kb2) H Inv) : zwr t0 t1 t5 H K:=
 lp1 (M:=zkt) zIg t5 (by kernel_rfl) Inv n h0 round
theorem zIh {t0 t1 : AV} {H : zaa} {K : Kt} (h : HSc H → zwq t0 t1 H K) : ACalls tP znr [t0,t1] H K:=
 zax (M:=zkt) Try.func39 (c:=zpQ) (by kernel_rfl) (fun hs=>Eq.mpr (by kernel_rfl) (h hs))
def zd0 : Nat → List Bool
 | 4=>rl false [13,3,43]
 | 9=>rl false [13,3,14,3,26]
 | 15=>rl false [7,1,5,3,14,3,14,3,9]
 | _=>[]
noncomputable def zpN : Code:=Try.f38.body.getD .skip
noncomputable def zIb : List ResultVar:=Try.f38.results.toList
def zhy (t13 t14 t15 : AV) : List AV:=ux 13 (t13 :: t14 :: t15 :: ux 43 [])
def zwo : List Bool:=zd0 4
noncomputable def zpO : Code:=zan [1,1,0,1,0,0] zpN
def zwj (K : Kt) : AExit → List AV → zaa → Prop:=zao tP zd0 [1,1,0,1,0] zpN (zau tP zIb K)
def zwm (t13 t14 t15 : AV) (H : zaa) (K : Kt) : Prop:=ALoop tP zpO (zwj K) (zhy t13 t14 t15) H
def zks (t13 t14 t15 t30 t31 t32 : AV) : List AV:=ux 13 (t13 :: t14 :: t15 :: ux 14 (t30 :: t31 :: t32 :: ux 26 []))
def zwp : List Bool:=zd0 9
noncomputable def zpP : Code:=zan [1,1,0,0,1,1,1,0,0] zpO
def zwk (K : Kt) (Kb4 : Lt) : AExit → List AV → zaa → Prop:=zao tP zd0 [1,1,0,0,1,1,1,0] zpO (zbj zwo Kb4 (zwj K))
def zwn (t13 t14 t15 t30 t31 t32 : AV) (H : zaa) (K : Kt) (Kb4 : Lt) : Prop:=ALoop tP zpP (zwk K Kb4) (zks t13 t14 t15 t30 t31 t32) H
def zkr (t7 t13 t14 t15 t30 t31 t32 t47 t48 t49 : AV) : List AV:=ux 7 (t7 :: ux 5 (t13 :: t14 :: t15 :: ux 14 (t30 :: t31 :: t32 :: ux 14 (t47 :: t48 :: t49 :: ux 9 []))))
def zH9 : List Bool:=zd0 15
noncomputable def zH5 : Code:=zan [1,1,0,0,1,1,1,1,0,0] zpP
def zH4 (K : Kt) (Kb4 : Lt) (Kb9 : Lt) : AExit → List AV → zaa → Prop:=zao tP zd0 [1,1,0,0,1,1,1,1,0] zpP (zbj zwp Kb9 (zwk K Kb4))
def zwl (t7 t13 t14 t15 t30 t31 t32 t47 t48 t49 : AV) (H : zaa) (K : Kt) (Kb4 : Lt) (Kb9 : Lt) : Prop:=ALoop tP zH5 (zH4 K Kb4 Kb9) (zkr t7 t13 t14 t15 t30 t31 t32 t47 t48 t49) H
def zpK (t7 t13 t14 t15 t30 t31 t32 t47 t48 t49 : AV) (H : zaa) (K : Kt) (Kb4 : Lt) (Kb9 : Lt) (Kb15 : Lt) : Prop:=
 zad .lss false t49 t48 fun t50=>
 zag t50
 (zai 3 t47 t49 fun t51=>
 zae true 3 t51 H fun t52=>
 zaA [(.int .i64 0),(.int .i64 0),.snil] H fun t9 H=>
 zar 3 t9 t52 H fun H=>
 zae true 3 t9 H fun t53=>
 ACalls tP zg6 [t53,t7] H fun t54 H=>
 aUn .not t54 fun t55=>
 zag t55
 (K (.bool false) H)
 (zad .add false t49 (.int .i64 1) fun t56=>
 Kb15 (zkr t7 t13 t14 t15 t30 t31 t32 t47 t48 t56) H))
 (zad .add false t32 (.int .i64 1) fun t57=>
 Kb9 (zks t13 t14 t15 t30 t31 t57) H)
def zpM (t13 t14 t15 t30 t31 t32 : AV) (H : zaa) (K : Kt) (Kb4 : Lt) (Kb9 : Lt) : Prop:=
 zad .lss false t32 t31 fun t33=>
 zag t33
 (zai 2 t30 t32 fun t34=>
 zae true 2 t34 H fun t35=>
 zaA [(.str []),.snil] H fun t6 H=>
 zar 2 t6 t35 H fun H=>
 zaf 0 t6 fun t36=>
 zae false 1 t36 H fun t37=>
 zaj 0 t37 fun t38=>
 zad .gtr false t38 (.int .i64 40) fun t39=>
 zab t39 false H (fun K'=>zaf 1 t6 (K' · H)) fun t41 H=>
 zab t39 false H (fun K'=>zae false 1 t41 H (K' · H)) fun t42 H=>
 zab t39 false H (fun K'=>zaj 1 t42 (K' · H)) fun t43 H=>
 zab t39 false H (fun K'=>zad .gtr false t43 (.int .i64 8) (K' · H)) fun t44 H=>
 zah t39 (.bool true) t44 fun t45=>
 zag t45
 (K (.bool false) H)
 (zaA [(.int .i64 0)] H fun t7 H=>
 zar 1 t7 (.int .i64 20) H fun H=>
 zaf 1 t6 fun t46=>
 zae false 1 t46 H fun t47=>
 zaj 1 t47 fun t48=>
 zwl t7 t13 t14 t15 t30 t31 t32 t47 t48 (.int .i64 0) H K Kb4 Kb9))
 (zad .add false t15 (.int .i64 1) fun t58=>
 Kb4 (zhy t13 t14 t58) H)
def zpL (t13 t14 t15 : AV) (H : zaa) (K : Kt) (Kb4 : Lt) : Prop:=
 zad .lss false t15 t14 fun t16=>
 zag t16
 (zai 3 t13 t15 fun t17=>
 zae true 3 t17 H fun t18=>
 zaA [(.str []),(.int .i64 0),.snil] H fun t4 H=>
 zar 3 t4 t18 H fun H=>
 zaf 0 t4 fun t19=>
 zae false 1 t19 H fun t20=>
 zaj 0 t20 fun t21=>
 zad .gtr false t21 (.int .i64 40) fun t22=>
 zab t22 false H (fun K'=>zaf 2 t4 (K' · H)) fun t24 H=>
 zab t22 false H (fun K'=>zae false 1 t24 H (K' · H)) fun t25 H=>
 zab t22 false H (fun K'=>zaj 1 t25 (K' · H)) fun t26 H=>
 zab t22 false H (fun K'=>zad .gtr false t26 (.int .i64 10) (K' · H)) fun t27 H=>
 zah t22 (.bool true) t27 fun t28=>
 zag t28
 (K (.bool false) H)
 (zaf 2 t4 fun t29=>
 zae false 1 t29 H fun t30=>
 zaj 1 t30 fun t31=>
 zwn t13 t14 t15 t30 t31 (.int .i64 0) H K Kb4))
 (K (.bool true) H)
def zpJ (t0 : AV) (H : zaa) (K : Kt) : Prop:=
 zaj 1 t0 fun t11=>
 zad .gtr false t11 (.int .i64 14) fun t12=>
 zag t12
 (K (.bool false) H)
 (zaj 1 t0 fun t14=>
 zwm t0 t14 (.int .i64 0) H K)
theorem zH6 {t7 t13 t14 t15 t30 t31 t32 t47 t48 t49 : AV} {H : zaa} {K : Kt} {Kb4 : Lt} {Kb9 : Lt} (Inv : Nat → AV → zaa → Prop) (n : Nat) (h0 : HSc H → Inv n t49 H)
  (round : Rd1 (fun t49=>zkr t7 t13 t14 t15 t30 t31 t32 t47 t48 t49) (fun t49=>fun H Kb15=>zpK t7 t13 t14 t15 t30 t31 t32 t47 t48 t49 H K Kb4 Kb9 Kb15) H Inv) : zwl t7 t13 t14 t15 t30 t31 t32 t47 t48 t49 H K Kb4 Kb9:=
 lp1 (M:=zd0) zH9 t49 (by kernel_rfl) Inv n h0 round
theorem zH8 {t13 t14 t15 t30 t31 t32 : AV} {H : zaa} {K : Kt} {Kb4 : Lt} (Inv : Nat → AV → zaa → Prop) (n : Nat) (h0 : HSc H → Inv n t32 H)
  (round : Rd1 (fun t32=>zks t13 t14 t15 t30 t31 t32) (fun t32=>fun H Kb9=>zpM t13 t14 t15 t30 t31 t32 H K Kb4 Kb9) H Inv) : zwn t13 t14 t15 t30 t31 t32 H K Kb4:=
 lp1 (M:=zd0) zwp t32 (by kernel_rfl) Inv n h0 round
theorem zH7 {t13 t14 t15 : AV} {H : zaa} {K : Kt} (Inv : Nat → AV → zaa → Prop) (n : Nat) (h0 : HSc H → Inv n t15 H)
  (round : Rd1 (fun t15=>zhy t13 t14 t15) (fun t15=>fun H Kb4=>zpL t13 t14 t15 H K Kb4) H Inv) : zwm t13 t14 t15 H K:=
 lp1 (M:=zd0) zwo t15 (by kernel_rfl) Inv n h0 round
theorem zIa {t0 : AV} {H : zaa} {K : Kt} (h : HSc H → zpJ t0 H K) : ACalls tP znq [t0] H K:=
 zax (M:=zd0) Try.func38 (c:=zpN) (by kernel_rfl) (fun hs=>Eq.mpr (by kernel_rfl) (h hs))
def zMh (_ : Nat) : List Bool:=[]
noncomputable def zMi : Code:=Try.f70.body.getD .skip
def zx7 (t0 t1 t2 : AV) (H : zaa) (K : Kt) : Prop:=
 zaF t1 H fun t4 H=>
 zaL [.snil,(.int .i64 0),(.int .i64 0)] [(0,1),(1,1),(2,1)] [(0,t0),(1,t2),(2,(.int .i64 200))] fun t10=>
 zaF t10 H fun t11 H=>
 zae true 3 t4 H fun t13=>
 ACalls tP ziS [t11,t13] H fun t14 H=>
 K t14 H
theorem zMj {t0 t1 t2 : AV} {H : zaa} {K : Kt} (h : HSc H → zx7 t0 t1 t2 H K) : ACalls tP zfZ [t0,t1,t2] H K:=
 zax (M:=zMh) Try.func70 (c:=zMi) (by kernel_rfl) (fun hs=>Eq.mpr (by kernel_rfl) (h hs))
def zer : Nat → List Bool
 | 171022=>rl false [2,2,16,1,53,1,34]
 | 150010=>rl false [2,2,1,2,13,2,87]
 | 100007=>rl false [2,2,1,2,13,1,88]
 | 100002=>rl false [2,2,105]
 | _=>[]
noncomputable def zes : Code:=Try.f88.body.getD .skip
noncomputable def zl7 : List ResultVar:=Try.f88.results.toList
def zgB (t2 t3 t5 t6 : AV) (H : zaa) (K : Kt) : Prop:=
 zaf 0 t3 fun t79=>
 zae false 1 t79 H fun t80=>
 zad .neq false t80 (.int .i64 4) fun t81=>
 zab t81 true H (fun K'=>zaf 0 t3 (K' · H)) fun t83 H=>
 zab t81 true H (fun K'=>zae false 1 t83 H (K' · H)) fun t84 H=>
 zab t81 true H (fun K'=>zad .neq false t84 (.int .i64 5) (K' · H)) fun t85 H=>
 zah t81 t85 (.bool false) fun t86=>
 zab t86 true H (fun K'=>zaf 1 t3 (K' · H)) fun t88 H=>
 zab t86 true H (fun K'=>zae false 1 t88 H (K' · H)) fun t89 H=>
 zab t86 true H (fun K'=>zad .neq false t89 (.int .i64 0) (K' · H)) fun t90 H=>
 zah t86 t90 (.bool false) fun t91=>
 zag t91
 (K (.bool false) H)
 (zaf 2 t3 fun t92=>
 zae false 1 t92 H fun t93=>
 zaj 1 t93 fun t94=>
 zad .lss false t94 t5 fun t96=>
 zab t96 false H (fun K'=>zaf 2 t3 (K' · H)) fun t98 H=>
 zab t96 false H (fun K'=>zae false 1 t98 H (K' · H)) fun t99 H=>
 zab t96 false H (fun K'=>zaj 1 t99 (K' · H)) fun t100 H=>
 zab t96 false H (fun K'=>K' t6 H) fun t101 H=>
 zab t96 false H (fun K'=>zad .gtr false t100 t101 (K' · H)) fun t102 H=>
 zah t96 (.bool true) t102 fun t103=>
 zag t103
 (K (.bool false) H)
 (zaf 2 t3 fun t104=>
 zae false 1 t104 H fun t105=>
 zcN ziw [t2] fun t106=>
 ACalls tP zfc [t105,t106] H fun t107 H=>
 aUn .not t107 fun t108=>
 K t108 H))
def zdr (t2 t3 t5 t6 : AV) (H : zaa) (K : Kt) : Prop:=
 zgB t2 t3 t5 t6 H K
noncomputable def zN6 : Code:=zan [1,1,1,1,0,1,0,1,1,1,1,1,1,1,1,1] zes
def zN5 (K : Kt) : AExit → List AV → zaa → Prop:=zao tP zer [1,1,1,1,0,1,0,1,1,1,1,1,1,1,1,1] zes (zau tP zl7 K)
def zrA (t2 t3 t20 t74 : AV) (H : zaa) (K : Kt) : Prop:=AWp tP zN6 (zN5 K) (ux 2 (t2 :: t3 :: ux 16 (t20 :: ux 53 (t74 :: ux 34 [])))) H
def zl6 (t2 t3 t20 t74 : AV) (H : zaa) (K : Kt) : Prop:=
 zag t74
 (zdr t2 t3 (.int .i64 1) (.int .i64 1) H K)
 (zad .eql false t20 (.int .i64 9) fun t78=>
 zag t78
 (zdr t2 t3 (.int .i64 1) (.int .i64 7) H K)
 (K (.bool false) H))
noncomputable def zN4 : Code:=zan [1,1,1,1,0,1,0,1] zes
def zN3 (K : Kt) : AExit → List AV → zaa → Prop:=zao tP zer [1,1,1,1,0,1,0,1] zes (zau tP zl7 K)
def zl5 (t2 t3 t5 t6 t20 t21 : AV) (H : zaa) (K : Kt) : Prop:=AWp tP zN4 (zN3 K) (ux 2 (t2 :: t3 :: ux 1 (t5 :: t6 :: ux 13 (t20 :: t21 :: ux 87 [])))) H
def zdF (t2 t3 t5 t6 t20 t21 : AV) (H : zaa) (K : Kt) : Prop:=
 zag t21
 (zdr t2 t3 t5 t6 H K)
 (zad .eql false t20 (.int .i64 4) fun t26=>
 zag t26
 (zac H (fun K'=>zaf 1 t3 (K' · H)) fun t27=>
 zac H (fun K'=>zak false 1 t27 H (K' · H)) fun t28=>
 zac H (fun K'=>zad .lss false t28 (.int .i64 0) (K' · H)) fun t29=>
 zac H (fun K'=>K' t29 H) fun t30=>
 zab t30 false H (fun K'=>zac H (fun K''=>zaf 1 t3 (K'' · H)) (K' · H)) fun t31 H=>
 zab t30 false H (fun K'=>zac H (fun K''=>zak false 1 t31 H (K'' · H)) (K' · H)) fun t32 H=>
 zab t30 false H (fun K'=>zac H (fun K''=>zak false 1 t2 H (K'' · H)) (K' · H)) fun t33 H=>
 zab t30 false H (fun K'=>zac H (fun K''=>za9 t33 (K'' · H)) (K' · H)) fun t34 H=>
 zab t30 false H (fun K'=>zac H (fun K''=>zaf 1 t34 (K'' · H)) (K' · H)) fun t35 H=>
 zab t30 false H (fun K'=>zac H (fun K''=>zak false 1 t35 H (K'' · H)) (K' · H)) fun t36 H=>
 zab t30 false H (fun K'=>zac H (fun K''=>zad .geq false t32 t36 (K'' · H)) (K' · H)) fun t37 H=>
 zac H (fun K'=>zah t30 (.bool true) t37 (K' · H)) fun t38=>
 zag t38
 (K (.bool false) H)
 (zdr t2 t3 t5 t6 H K))
 (zad .eql false t20 (.int .i64 5) fun t40=>
 zag t40
 (zac H (fun K'=>zaf 1 t3 (K' · H)) fun t41=>
 zac H (fun K'=>zak false 1 t41 H (K' · H)) fun t42=>
 zac H (fun K'=>zad .lss false t42 (.int .i64 0) (K' · H)) fun t43=>
 zac H (fun K'=>K' t43 H) fun t44=>
 zab t44 false H (fun K'=>zac H (fun K''=>zaf 1 t3 (K'' · H)) (K' · H)) fun t45 H=>
 zab t44 false H (fun K'=>zac H (fun K''=>zak false 1 t45 H (K'' · H)) (K' · H)) fun t46 H=>
 zab t44 false H (fun K'=>zac H (fun K''=>zak false 1 t2 H (K'' · H)) (K' · H)) fun t47 H=>
 zab t44 false H (fun K'=>zac H (fun K''=>za9 t47 (K'' · H)) (K' · H)) fun t48 H=>
 zab t44 false H (fun K'=>zac H (fun K''=>zaf 0 t48 (K'' · H)) (K' · H)) fun t49 H=>
 zab t44 false H (fun K'=>zac H (fun K''=>zak false 1 t49 H (K'' · H)) (K' · H)) fun t50 H=>
 zab t44 false H (fun K'=>zac H (fun K''=>zaj 1 t50 (K'' · H)) (K' · H)) fun t51 H=>
 zab t44 false H (fun K'=>zac H (fun K''=>zad .geq false t46 t51 (K'' · H)) (K' · H)) fun t52 H=>
 zac H (fun K'=>zah t44 (.bool true) t52 (K' · H)) fun t53=>
 zag t53
 (K (.bool false) H)
 (zac H (fun K'=>zak false 1 t2 H (K' · H)) fun t54=>
 zac H (fun K'=>za9 t54 (K' · H)) fun t55=>
 zac H (fun K'=>zaf 0 t55 (K' · H)) fun t56=>
 zac H (fun K'=>zak false 1 t56 H (K' · H)) fun t57=>
 zac H (fun K'=>zaf 1 t3 (K' · H)) fun t58=>
 zac H (fun K'=>zak false 1 t58 H (K' · H)) fun t59=>
 zac H (fun K'=>zai 3 t57 t59 (K' · H)) fun t60=>
 zac H (fun K'=>zaf 1 t60 (K' · H)) fun t61=>
 zac H (fun K'=>zak false 1 t61 H (K' · H)) fun t62=>
 zac H (fun K'=>zak false 1 t2 H (K' · H)) fun t63=>
 zac H (fun K'=>za9 t63 (K' · H)) fun t64=>
 zac H (fun K'=>zaf 0 t64 (K' · H)) fun t65=>
 zac H (fun K'=>zak false 1 t65 H (K' · H)) fun t66=>
 zac H (fun K'=>zaf 1 t3 (K' · H)) fun t67=>
 zac H (fun K'=>zak false 1 t67 H (K' · H)) fun t68=>
 zac H (fun K'=>zai 3 t66 t68 (K' · H)) fun t69=>
 zac H (fun K'=>zaf 1 t69 (K' · H)) fun t70=>
 zac H (fun K'=>zak false 1 t70 H (K' · H)) fun t71=>
 zac H (fun K'=>K' t62 H) fun t5=>
 zac H (fun K'=>K' t71 H) fun t6=>
 zdr t2 t3 t5 t6 H K))
 (zad .eql false t20 (.int .i64 6) fun t73=>
 zag t73
 (zdr t2 t3 (.int .i64 2) (.int .i64 6) H K)
 (zad .eql false t20 (.int .i64 7) fun t75=>
 zag t75
 (zrA t2 t3 t20 t75 H K)
 (zad .eql false t20 (.int .i64 8) fun t76=>
 zrA t2 t3 t20 t76 H K)))))
noncomputable def zN1 : Code:=zan [1,1,1,1,0,1] zes
def zN0 (K : Kt) : AExit → List AV → zaa → Prop:=zao tP zer [1,1,1,1,0,1] zes (zau tP zl7 K)
def zyI (t2 t3 t5 t6 t20 : AV) (H : zaa) (K : Kt) : Prop:=AWp tP zN1 (zN0 K) (ux 2 (t2 :: t3 :: ux 1 (t5 :: t6 :: ux 13 (t20 :: ux 88 [])))) H
def zrz (t2 t3 t5 t6 t20 : AV) (H : zaa) (K : Kt) : Prop:=
 zad .eql false t20 (.int .i64 1) fun t22=>
 zag t22
 (zl5 t2 t3 t5 t6 t20 t22 H K)
 (zad .eql false t20 (.int .i64 2) fun t23=>
 zag t23
 (zl5 t2 t3 t5 t6 t20 t23 H K)
 (zad .eql false t20 (.int .i64 3) fun t24=>
 zl5 t2 t3 t5 t6 t20 t24 H K))
noncomputable def zNY : Code:=zan [1,1] zes
def zNX (K : Kt) : AExit → List AV → zaa → Prop:=zao tP zer [1,1] zes (zau tP zl7 K)
def zrx (t2 t3 : AV) (H : zaa) (K : Kt) : Prop:=AWp tP zNY (zNX K) (ux 2 (t2 :: t3 :: ux 105 [])) H
def zry (t2 t3 : AV) (H : zaa) (K : Kt) : Prop:=
 zae false 1 t2 H fun t14=>
 za9 t14 fun t15=>
 zaf 2 t15 fun t16=>
 zae false 1 t16 H fun t17=>
 zad .lss false t17 (.int .i64 0) fun t18=>
 zag t18
 (K (.bool false) H)
 (zaf 0 t3 fun t19=>
 zae false 1 t19 H fun t20=>
 zyI t2 t3 (.int .i64 0) (.int .i64 0) t20 H K)
def zyH (t0 t1 : AV) (H : zaa) (K : Kt) : Prop:=
 zaF t0 H fun t2 H=>
 zaF t1 H fun t3 H=>
 zae false 1 t2 H fun t7=>
 za9 t7 fun t8=>
 zaf 2 t8 fun t9=>
 zae false 1 t9 H fun t10=>
 zad .sub false t10 (.int .i64 1) fun t11=>
 za9 t7 fun t12=>
 zaf 2 t12 fun t13=>
 zar 1 t13 t11 H fun H=>
 zrx t2 t3 H K
theorem zyK {t2 t3 t20 t74 : AV} {H : zaa} {K : Kt} (h : HSc H → zl6 t2 t3 t20 t74 H K) : zrA t2 t3 t20 t74 H K:=
 fun B w G a hH hF hd=>zbH (M:=zer) _ _ _ _ (Eq.mpr (by kernel_rfl) (h hH.sc)) B w G a hH hF hd
theorem zyJ {t2 t3 t5 t6 t20 t21 : AV} {H : zaa} {K : Kt} (h : HSc H → zdF t2 t3 t5 t6 t20 t21 H K) : zl5 t2 t3 t5 t6 t20 t21 H K:=
 fun B w G a hH hF hd=>zbH (M:=zer) _ _ _ _ (Eq.mpr (by kernel_rfl) (h hH.sc)) B w G a hH hF hd
theorem zN2 {t2 t3 t5 t6 t20 : AV} {H : zaa} {K : Kt} (h : HSc H → zrz t2 t3 t5 t6 t20 H K) : zyI t2 t3 t5 t6 t20 H K:=
 fun B w G a hH hF hd=>zbH (M:=zer) _ _ _ _ (Eq.mpr (by kernel_rfl) (h hH.sc)) B w G a hH hF hd
theorem zNZ {t2 t3 : AV} {H : zaa} {K : Kt} (h : HSc H → zry t2 t3 H K) : zrx t2 t3 H K:=
 fun B w G a hH hF hd=>zbH (M:=zer) _ _ _ _ (Eq.mpr (by kernel_rfl) (h hH.sc)) B w G a hH hF hd
theorem zN7 {t0 t1 : AV} {H : zaa} {K : Kt} (h : HSc H → zyH t0 t1 H K) : ACalls tP ziS [t0,t1] H K:=
 zax (M:=zer) Try.func88 (c:=zes) (by kernel_rfl) (fun hs=>Eq.mpr (by kernel_rfl) (h hs))
def zD0 (_ : Nat) : List Bool:=[]
noncomputable def zD1 : Code:=Try.f104.body.getD .skip
def zu5 (t0 t1 : AV) (H : zaa) (K : Kt) : Prop:=
 zaF t0 H fun t2 H=>
 zae false 1 t1 H fun t4=>
 zae true 3 t2 H fun t5=>
 ACalls tP ziS [t4,t5] H fun t6 H=>
 aUn .not t6 fun t7=>
 K t7 H
theorem zD2 {t0 t1 : AV} {H : zaa} {K : Kt} (h : HSc H → zu5 t0 t1 H K) : ACalls tP ziw [t0,t1] H K:=
 zax (M:=zD0) Try.func104 (c:=zD1) (by kernel_rfl) (fun hs=>Eq.mpr (by kernel_rfl) (h hs))
def zMk (_ : Nat) : List Bool:=[]
noncomputable def zMl : Code:=Try.f71.body.getD .skip
def zx8 (t0 t1 : AV) (H : zaa) (K : Kt) : Prop:=
 zaF t0 H fun t2 H=>
 zaF t1 H fun t3 H=>
 zaf 0 t2 fun t5=>
 zae false 1 t5 H fun t6=>
 zaf 0 t3 fun t7=>
 zae false 1 t7 H fun t8=>
 zad .eql false t6 t8 fun t9=>
 zab t9 true H (fun K'=>zaf 1 t2 (K' · H)) fun t11 H=>
 zab t9 true H (fun K'=>zae false 1 t11 H (K' · H)) fun t12 H=>
 zab t9 true H (fun K'=>zaf 1 t3 (K' · H)) fun t13 H=>
 zab t9 true H (fun K'=>zae false 1 t13 H (K' · H)) fun t14 H=>
 zab t9 true H (fun K'=>zad .eql false t12 t14 (K' · H)) fun t15 H=>
 zah t9 t15 (.bool false) fun t16=>
 zab t16 true H (fun K'=>zaf 2 t2 (K' · H)) fun t18 H=>
 zab t16 true H (fun K'=>zae false 1 t18 H (K' · H)) fun t19 H=>
 zab t16 true H (fun K'=>zaf 2 t3 (K' · H)) fun t20 H=>
 zab t16 true H (fun K'=>zae false 1 t20 H (K' · H)) fun t21 H=>
 zab t16 true H (fun K'=>ACalls tP ziT [t19,t21,(.fn zbN [])] H K') fun t22 H=>
 zah t16 t22 (.bool false) fun t23=>
 K t23 H
theorem zMm {t0 t1 : AV} {H : zaa} {K : Kt} (h : HSc H → zx8 t0 t1 H K) : ACalls tP zbN [t0,t1] H K:=
 zax (M:=zMk) Try.func71 (c:=zMl) (by kernel_rfl) (fun hs=>Eq.mpr (by kernel_rfl) (h hs))
def zl8 : Nat → List Bool
 | 4=>rl false [1,2,12,3,14]
 | _=>[]
noncomputable def zrD : Code:=Try.f89.body.getD .skip
noncomputable def zOd : List ResultVar:=Try.f89.results.toList
def zl9 (t1 t2 t15 t16 t17 : AV) : List AV:=ux 1 (t1 :: t2 :: ux 12 (t15 :: t16 :: t17 :: ux 14 []))
def zOb : List Bool:=zl8 4
noncomputable def zN9 : Code:=zan [1,1,0,1,0,0] zrD
def zN8 (K : Kt) : AExit → List AV → zaa → Prop:=zao tP zl8 [1,1,0,1,0] zrD (zau tP zOd K)
def zyL (t1 t2 t15 t16 t17 : AV) (H : zaa) (K : Kt) : Prop:=ALoop tP zN9 (zN8 K) (zl9 t1 t2 t15 t16 t17) H
def zrC (t1 t2 t15 t16 t17 : AV) (H : zaa) (K : Kt) (Kb4 : Lt) : Prop:=
 zad .lss false t17 t16 fun t18=>
 zag t18
 (zai 3 t15 t17 fun t20=>
 zae true 3 t20 H fun t21=>
 zaA [(.int .i64 0),(.int .i64 0),.snil] H fun t8 H=>
 zar 3 t8 t21 H fun H=>
 zai 3 t1 t17 fun t24=>
 zae true 3 t24 H fun t25=>
 zaA [(.int .i64 0),(.int .i64 0),.snil] H fun t9 H=>
 zar 3 t9 t25 H fun H=>
 zae true 3 t8 H fun t27=>
 zae true 3 t9 H fun t28=>
 aCallV tP t2 [t27,t28] H fun t29 H=>
 aUn .not t29 fun t30=>
 zag t30
 (K (.bool false) H)
 (zad .add false t17 (.int .i64 1) fun t31=>
 Kb4 (zl9 t1 t2 t15 t16 t31) H))
 (K (.bool true) H)
def zrB (t0 t1 t2 : AV) (H : zaa) (K : Kt) : Prop:=
 zaj 1 t0 fun t11=>
 zaj 1 t1 fun t13=>
 zad .neq false t11 t13 fun t14=>
 zag t14
 (K (.bool false) H)
 (zaj 1 t0 fun t16=>
 zyL t1 t2 t0 t16 (.int .i64 0) H K)
theorem zOa {t1 t2 t15 t16 t17 : AV} {H : zaa} {K : Kt} (Inv : Nat → AV → zaa → Prop) (n : Nat) (h0 : HSc H → Inv n t17 H)
  (round : Rd1 (fun t17=>zl9 t1 t2 t15 t16 t17) (fun t17=>fun H Kb4=>zrC t1 t2 t15 t16 t17 H K Kb4) H Inv) : zyL t1 t2 t15 t16 t17 H K:=
 lp1 (M:=zl8) zOb t17 (by kernel_rfl) Inv n h0 round
theorem zOc {t0 t1 t2 : AV} {H : zaa} {K : Kt} (h : HSc H → zrB t0 t1 t2 H K) : ACalls tP ziT [t0,t1,t2] H K:=
 zax (M:=zl8) Try.func89 (c:=zrD) (by kernel_rfl) (fun hs=>Eq.mpr (by kernel_rfl) (h hs))
def zMb (_ : Nat) : List Bool:=[]
noncomputable def zMc : Code:=Try.f68.body.getD .skip
def zx5 (t0 t1 : AV) (H : zaa) (K : Kt) : Prop:=
 ACalls tP znM [t0,t1] H fun t7 H=>
 zad .geq false t7 (.int .i64 0) fun t8=>
 K t8 H
theorem zMd {t0 t1 : AV} {H : zaa} {K : Kt} (h : HSc H → zx5 t0 t1 H K) : ACalls tP zfc [t0,t1] H K:=
 zax (M:=zMb) Try.func68 (c:=zMc) (by kernel_rfl) (fun hs=>Eq.mpr (by kernel_rfl) (h hs))
def zl3 : Nat → List Bool
 | 2=>rl false [0,2,5,2,10]
 | _=>[]
noncomputable def zrw : Code:=Try.f87.body.getD .skip
noncomputable def zNW : List ResultVar:=Try.f87.results.toList
def zl4 (t0 t1 t7 t8 : AV) : List AV:=t0 :: t1 :: ux 5 (t7 :: t8 :: ux 10 [])
def zNU : List Bool:=zl3 2
noncomputable def zNS : Code:=zan [1,0,1,0,0] zrw
def zNR (K : Kt) : AExit → List AV → zaa → Prop:=zao tP zl3 [1,0,1,0] zrw (zau tP zNW K)
def zyG (t0 t1 t7 t8 : AV) (H : zaa) (K : Kt) : Prop:=ALoop tP zNS (zNR K) (zl4 t0 t1 t7 t8) H
def zrv (t0 t1 t7 t8 : AV) (H : zaa) (K : Kt) (Kb2 : Lt) : Prop:=
 zad .lss false t8 t7 fun t9=>
 zag t9
 (zai 3 t0 t8 fun t14=>
 zae true 3 t14 H fun t15=>
 aCallV tP t1 [t15] H fun t16 H=>
 zag t16
 (K t8 H)
 (zad .add false t8 (.int .i64 1) fun t18=>
 Kb2 (zl4 t0 t1 t7 t18) H))
 (K (.int .i64 (-1)) H)
def zyF (t0 t1 : AV) (H : zaa) (K : Kt) : Prop:=
 zaj 1 t0 fun t7=>
 zyG t0 t1 t7 (.int .i64 0) H K
theorem zNT {t0 t1 t7 t8 : AV} {H : zaa} {K : Kt} (Inv : Nat → AV → zaa → Prop) (n : Nat) (h0 : HSc H → Inv n t8 H)
  (round : Rd1 (fun t8=>zl4 t0 t1 t7 t8) (fun t8=>fun H Kb2=>zrv t0 t1 t7 t8 H K Kb2) H Inv) : zyG t0 t1 t7 t8 H K:=
 lp1 (M:=zl3) zNU t8 (by kernel_rfl) Inv n h0 round
theorem zNV {t0 t1 : AV} {H : zaa} {K : Kt} (h : HSc H → zyF t0 t1 H K) : ACalls tP znM [t0,t1] H K:=
 zax (M:=zl3) Try.func87 (c:=zrw) (by kernel_rfl) (fun hs=>Eq.mpr (by kernel_rfl) (h hs))
def zdU : Nat → List Bool
 | 8=>rl false [2,1,1,1,3,2,49,3,46]
 | 13=>rl false [2,1,1,1,3,2,67,3,28]
 | 20=>rl false [4,1,9,1,78,3,12]
 | _=>[]
noncomputable def zfm : Code:=Try.f105.body.getD .skip
noncomputable def zoE : List ResultVar:=Try.f105.results.toList
def zjp (t2 t4 t8 t9 t59 t60 t61 : AV) : List AV:=ux 2 (t2 :: ux 1 (t4 :: ux 3 (t8 :: t9 :: ux 49 (t59 :: t60 :: t61 :: ux 46 []))))
def zEe : List Bool:=zdU 8
noncomputable def zD8 : Code:=zan [1,1,1,1,1,0,1,0,0] zfm
def zD5 (K : Kt) : AExit → List AV → zaa → Prop:=zao tP zdU [1,1,1,1,1,0,1,0] zfm (zau tP zoE K)
def zu8 (t2 t4 t8 t9 t59 t60 t61 : AV) (H : zaa) (K : Kt) : Prop:=ALoop tP zD8 (zD5 K) (zjp t2 t4 t8 t9 t59 t60 t61) H
def zjn (t2 t4 t8 t9 t77 t78 t79 : AV) : List AV:=ux 2 (t2 :: ux 1 (t4 :: ux 3 (t8 :: t9 :: ux 67 (t77 :: t78 :: t79 :: ux 28 []))))
def zEc : List Bool:=zdU 13
noncomputable def zD6 : Code:=zan [1,1,1,1,1,1,0,1,0,0] zfm
def zD3 (K : Kt) : AExit → List AV → zaa → Prop:=zao tP zdU [1,1,1,1,1,1,0,1,0] zfm (zau tP zoE K)
def zu7 (t2 t4 t8 t9 t77 t78 t79 : AV) (H : zaa) (K : Kt) : Prop:=ALoop tP zD6 (zD3 K) (zjn t2 t4 t8 t9 t77 t78 t79) H
def zjo (t4 t14 t93 t94 t95 : AV) : List AV:=ux 4 (t4 :: ux 9 (t14 :: ux 78 (t93 :: t94 :: t95 :: ux 12 [])))
def zEd : List Bool:=zdU 20
noncomputable def zD7 : Code:=zan [1,1,1,1,1,1,1,1,0,1,0,0] zfm
def zD4 (K : Kt) : AExit → List AV → zaa → Prop:=zao tP zdU [1,1,1,1,1,1,1,1,0,1,0] zfm (zau tP zoE K)
def zjq (t4 t14 t93 t94 t95 : AV) (H : zaa) (K : Kt) : Prop:=ALoop tP zD7 (zD4 K) (zjo t4 t14 t93 t94 t95) H
def zoC (t4 t14 t93 t94 t95 : AV) (H : zaa) (K : Kt) (Kb20 : Lt) : Prop:=
 zad .lss false t95 t94 fun t96=>
 zag t96
 (zai 3 t93 t95 fun t97=>
 zae true 3 t97 H fun t98=>
 zaA [(.int .i64 0),(.int .i64 0),.snil] H fun t16 H=>
 zar 3 t16 t98 H fun H=>
 zae true 3 t16 H fun t100=>
 zaf 2 t4 fun t101=>
 zae false 1 t101 H fun t102=>
 ACalls tP zg4 [t100,t102] H fun t103 H=>
 zav 3 [(.int .i64 0),(.int .i64 0),.snil] 1 [(0,t103)] fun t104=>
 zaC zaB 3 40 t14 t104 H fun t105 H=>
 zad .add false t95 (.int .i64 1) fun t106=>
 Kb20 (zjo t4 t105 t93 t94 t106) H)
 (za6 [t14,(.bool true)] (K · H))
def zoB (t2 t4 t8 t9 t77 t78 t79 : AV) (H : zaa) (K : Kt) (Kb13 : Lt) : Prop:=
 zad .lss false t79 t78 fun t80=>
 zag t80
 (zai 3 t77 t79 fun t81=>
 zae true 3 t81 H fun t82=>
 zaA [(.int .i64 0),(.int .i64 0),.snil] H fun t13 H=>
 zar 3 t13 t82 H fun H=>
 zae true 3 t13 H fun t83=>
 ACalls tP ziF [t83,t9] H fun t85 H=>
 zad .gtr false t85 (.int .i64 200) fun t86=>
 zag t86
 (za6 [.snil,(.bool false)] (K · H))
 (zad .add false t79 (.int .i64 1) fun t87=>
 Kb13 (zjn t2 t4 t8 t9 t77 t78 t87) H))
 (zaf 2 t8 fun t88=>
 zae false 1 t88 H fun t89=>
 zai 2 t89 t2 fun t91=>
 zaf 1 t91 fun t92=>
 zae false 1 t92 H fun t93=>
 zaj 1 t93 fun t94=>
 zjq t4 .snil t93 t94 (.int .i64 0) H K)
def zoD (t2 t4 t8 t9 t59 t60 t61 : AV) (H : zaa) (K : Kt) (Kb8 : Lt) : Prop:=
 zad .lss false t61 t60 fun t62=>
 zag t62
 (zai 3 t59 t61 fun t64=>
 zae true 3 t64 H fun t65=>
 zaA [(.int .i64 0),(.int .i64 0),.snil] H fun t11 H=>
 zar 3 t11 t65 H fun H=>
 zae true 3 t11 H fun t68=>
 ACalls tP ziE [t68] H fun t69 H=>
 zai 1 t9 t61 fun t70=>
 zar 1 t70 t69 H fun H=>
 zad .add false t61 (.int .i64 1) fun t71=>
 Kb8 (zjp t2 t4 t8 t9 t59 t60 t71) H)
 (zaf 2 t8 fun t72=>
 zae false 1 t72 H fun t73=>
 zai 2 t73 t2 fun t75=>
 zaf 1 t75 fun t76=>
 zae false 1 t76 H fun t77=>
 zaj 1 t77 fun t78=>
 zu7 t2 t4 t8 t9 t77 t78 (.int .i64 0) H K)
def zu6 (t0 t1 t2 : AV) (H : zaa) (K : Kt) : Prop:=
 zaF t1 H fun t4 H=>
 zaf 0 t4 fun t17=>
 zae false 1 t17 H fun t18=>
 zad .neq false t18 (.int .i64 5) fun t19=>
 zab t19 false H (fun K'=>zaf 1 t4 (K' · H)) fun t21 H=>
 zab t19 false H (fun K'=>zae false 1 t21 H (K' · H)) fun t22 H=>
 zab t19 false H (fun K'=>zad .lss false t22 (.int .i64 0) (K' · H)) fun t23 H=>
 zah t19 (.bool true) t23 fun t24=>
 zab t24 false H (fun K'=>zaf 1 t4 (K' · H)) fun t26 H=>
 zab t24 false H (fun K'=>zae false 1 t26 H (K' · H)) fun t27 H=>
 zab t24 false H (fun K'=>K' t0 H) fun t28 H=>
 zab t24 false H (fun K'=>zaj 1 t28 (K' · H)) fun t29 H=>
 zab t24 false H (fun K'=>zad .geq false t27 t29 (K' · H)) fun t30 H=>
 zah t24 (.bool true) t30 fun t31=>
 zag t31
 (za6 [.snil,(.bool false)] (K · H))
 (zaf 1 t4 fun t33=>
 zae false 1 t33 H fun t34=>
 zai 3 t0 t34 fun t35=>
 zae true 3 t35 H fun t36=>
 zaA [(.str []),(.int .i64 0),.snil] H fun t8 H=>
 zar 3 t8 t36 H fun H=>
 zaf 2 t4 fun t37=>
 zae false 1 t37 H fun t38=>
 zaj 1 t38 fun t39=>
 zaf 1 t8 fun t40=>
 zae false 1 t40 H fun t41=>
 zad .neq false t39 t41 fun t42=>
 zab t42 false H (fun K'=>K' t2 H) fun t44 H=>
 zab t42 false H (fun K'=>zad .lss false t44 (.int .i64 0) (K' · H)) fun t45 H=>
 zah t42 (.bool true) t45 fun t46=>
 zab t46 false H (fun K'=>K' t2 H) fun t48 H=>
 zab t46 false H (fun K'=>zaf 2 t8 (K' · H)) fun t49 H=>
 zab t46 false H (fun K'=>zae false 1 t49 H (K' · H)) fun t50 H=>
 zab t46 false H (fun K'=>zaj 1 t50 (K' · H)) fun t51 H=>
 zab t46 false H (fun K'=>zad .geq false t48 t51 (K' · H)) fun t52 H=>
 zah t46 (.bool true) t52 fun t53=>
 zag t53
 (za6 [.snil,(.bool false)] (K · H))
 (zaf 2 t4 fun t54=>
 zae false 1 t54 H fun t55=>
 zaj 1 t55 fun t56=>
 zaN 8 [(.int .i64 0)] t56 t56 H fun t57 H=>
 zaf 2 t4 fun t58=>
 zae false 1 t58 H fun t59=>
 zaj 1 t59 fun t60=>
 zu8 t2 t4 t8 t57 t59 t60 (.int .i64 0) H K))
theorem zEa {t4 t14 t93 t94 t95 : AV} {H : zaa} {K : Kt} (Inv : Nat → AV → AV → zaa → Prop) (n : Nat) (h0 : HSc H → Inv n t14 t95 H)
  (round : Rd2 (fun t14=>fun t95=>zjo t4 t14 t93 t94 t95) (fun t14=>fun t95=>fun H Kb20=>zoC t4 t14 t93 t94 t95 H K Kb20) H Inv) : zjq t4 t14 t93 t94 t95 H K:=
 lp2 (M:=zdU) zEd t14 t95 (by kernel_rfl) Inv n h0 round
theorem zD9 {t2 t4 t8 t9 t77 t78 t79 : AV} {H : zaa} {K : Kt} (Inv : Nat → AV → zaa → Prop) (n : Nat) (h0 : HSc H → Inv n t79 H)
  (round : Rd1 (fun t79=>zjn t2 t4 t8 t9 t77 t78 t79) (fun t79=>fun H Kb13=>zoB t2 t4 t8 t9 t77 t78 t79 H K Kb13) H Inv) : zu7 t2 t4 t8 t9 t77 t78 t79 H K:=
 lp1 (M:=zdU) zEc t79 (by kernel_rfl) Inv n h0 round
theorem zEb {t2 t4 t8 t9 t59 t60 t61 : AV} {H : zaa} {K : Kt} (Inv : Nat → AV → zaa → Prop) (n : Nat) (h0 : HSc H → Inv n t61 H)
  (round : Rd1 (fun t61=>zjp t2 t4 t8 t9 t59 t60 t61) (fun t61=>fun H Kb8=>zoD t2 t4 t8 t9 t59 t60 t61 H K Kb8) H Inv) : zu8 t2 t4 t8 t9 t59 t60 t61 H K:=
 lp1 (M:=zdU) zEe t61 (by kernel_rfl) Inv n h0 round
theorem zEf {t0 t1 t2 : AV} {H : zaa} {K : Kt} (h : HSc H → zu6 t0 t1 t2 H K) : ACalls tP zgX [t0,t1,t2] H K:=
 zax (M:=zdU) Try.func105 (c:=zfm) (by kernel_rfl) (fun hs=>Eq.mpr (by kernel_rfl) (h hs))
def zjL : Nat → List Bool
 | 3=>rl false [3,1,3,3,9]
 | _=>[]
noncomputable def zoY : Code:=Try.f124.body.getD .skip
noncomputable def zFP : List ResultVar:=Try.f124.results.toList
def zjM (t3 t7 t8 t9 : AV) : List AV:=ux 3 (t3 :: ux 3 (t7 :: t8 :: t9 :: ux 9 []))
def zFN : List Bool:=zjL 3
noncomputable def zFL : Code:=zan [1,1,0,1,0,0] zoY
def zFK (K : Kt) : AExit → List AV → zaa → Prop:=zao tP zjL [1,1,0,1,0] zoY (zau tP zFP K)
def zvD (t3 t7 t8 t9 : AV) (H : zaa) (K : Kt) : Prop:=ALoop tP zFL (zFK K) (zjM t3 t7 t8 t9) H
def zoX (t3 t7 t8 t9 : AV) (H : zaa) (K : Kt) (Kb3 : Lt) : Prop:=
 zad .lss false t9 t8 fun t10=>
 zag t10
 (zai 3 t7 t9 fun t11=>
 zae true 3 t11 H fun t12=>
 zaA [(.int .i64 0),(.int .i64 0),.snil] H fun t5 H=>
 zar 3 t5 t12 H fun H=>
 zae true 3 t5 H fun t14=>
 ACalls tP ziE [t14] H fun t15 H=>
 zad .add false t3 t15 fun t16=>
 zad .add false t9 (.int .i64 1) fun t17=>
 Kb3 (zjM t16 t7 t8 t17) H)
 (K t3 H)
def zvC (t0 : AV) (H : zaa) (K : Kt) : Prop:=
 zaF t0 H fun t1 H=>
 zaf 2 t1 fun t6=>
 zae false 1 t6 H fun t7=>
 zaj 1 t7 fun t8=>
 zvD (.int .i64 1) t7 t8 (.int .i64 0) H K
theorem zFM {t3 t7 t8 t9 : AV} {H : zaa} {K : Kt} (Inv : Nat → AV → AV → zaa → Prop) (n : Nat) (h0 : HSc H → Inv n t3 t9 H)
  (round : Rd2 (fun t3=>fun t9=>zjM t3 t7 t8 t9) (fun t3=>fun t9=>fun H Kb3=>zoX t3 t7 t8 t9 H K Kb3) H Inv) : zvD t3 t7 t8 t9 H K:=
 lp2 (M:=zjL) zFN t3 t9 (by kernel_rfl) Inv n h0 round
theorem zFO {t0 : AV} {H : zaa} {K : Kt} (h : HSc H → zvC t0 H K) : ACalls tP ziE [t0] H K:=
 zax (M:=zjL) Try.func124 (c:=zoY) (by kernel_rfl) (fun hs=>Eq.mpr (by kernel_rfl) (h hs))
def zjN : Nat → List Bool
 | 5=>rl false [1,1,3,1,23,3,12]
 | _=>[]
noncomputable def zo1 : Code:=Try.f125.body.getD .skip
noncomputable def zFW : List ResultVar:=Try.f125.results.toList
def zjO (t1 t5 t29 t30 t31 : AV) : List AV:=ux 1 (t1 :: ux 3 (t5 :: ux 23 (t29 :: t30 :: t31 :: ux 12 [])))
def zFU : List Bool:=zjN 5
noncomputable def zFS : Code:=zan [1,1,1,0,1,0,0] zo1
def zFR (K : Kt) : AExit → List AV → zaa → Prop:=zao tP zjN [1,1,1,0,1,0] zo1 (zau tP zFW K)
def zo3 (t1 t5 t29 t30 t31 : AV) (H : zaa) (K : Kt) : Prop:=ALoop tP zFS (zFR K) (zjO t1 t5 t29 t30 t31) H
def zo2 (t5 : AV) (H : zaa) (K : Kt) : Prop:=
 K t5 H
def zjP (t5 : AV) (H : zaa) (K : Kt) : Prop:=
 zo2 t5 H K
def zo0 (t1 t5 t29 t30 t31 : AV) (H : zaa) (K : Kt) (Kb5 : Lt) : Prop:=
 zad .lss false t31 t30 fun t32=>
 zag t32
 (zai 3 t29 t31 fun t33=>
 zae true 3 t33 H fun t34=>
 zaA [(.int .i64 0),(.int .i64 0),.snil] H fun t7 H=>
 zar 3 t7 t34 H fun H=>
 zae true 3 t7 H fun t36=>
 ACalls tP ziF [t36,t1] H fun t38 H=>
 zad .add false t5 t38 fun t39=>
 zad .gtr false t39 (.int .i64 200) fun t41=>
 zag t41
 (zjP t39 H K)
 (zad .add false t31 (.int .i64 1) fun t42=>
 Kb5 (zjO t1 t39 t29 t30 t42) H))
 (zjP t5 H K)
def zoZ (t0 t1 : AV) (H : zaa) (K : Kt) : Prop:=
 zaF t0 H fun t2 H=>
 zaf 0 t2 fun t8=>
 zae false 1 t8 H fun t9=>
 zad .eql false t9 (.int .i64 4) fun t10=>
 zab t10 true H (fun K'=>zaf 1 t2 (K' · H)) fun t12 H=>
 zab t10 true H (fun K'=>zae false 1 t12 H (K' · H)) fun t13 H=>
 zab t10 true H (fun K'=>zad .geq false t13 (.int .i64 0) (K' · H)) fun t14 H=>
 zah t10 t14 (.bool false) fun t15=>
 zab t15 true H (fun K'=>zaf 1 t2 (K' · H)) fun t17 H=>
 zab t15 true H (fun K'=>zae false 1 t17 H (K' · H)) fun t18 H=>
 zab t15 true H (fun K'=>K' t1 H) fun t19 H=>
 zab t15 true H (fun K'=>zaj 1 t19 (K' · H)) fun t20 H=>
 zab t15 true H (fun K'=>zad .lss false t18 t20 (K' · H)) fun t21 H=>
 zah t15 t21 (.bool false) fun t22=>
 zag t22
 (zaf 1 t2 fun t24=>
 zae false 1 t24 H fun t25=>
 zai 1 t1 t25 fun t26=>
 zae false 1 t26 H fun t27=>
 K t27 H)
 (zaf 2 t2 fun t28=>
 zae false 1 t28 H fun t29=>
 zaj 1 t29 fun t30=>
 zo3 t1 (.int .i64 1) t29 t30 (.int .i64 0) H K)
theorem zFT {t1 t5 t29 t30 t31 : AV} {H : zaa} {K : Kt} (Inv : Nat → AV → AV → zaa → Prop) (n : Nat) (h0 : HSc H → Inv n t5 t31 H)
  (round : Rd2 (fun t5=>fun t31=>zjO t1 t5 t29 t30 t31) (fun t5=>fun t31=>fun H Kb5=>zo0 t1 t5 t29 t30 t31 H K Kb5) H Inv) : zo3 t1 t5 t29 t30 t31 H K:=
 lp2 (M:=zjN) zFU t5 t31 (by kernel_rfl) Inv n h0 round
theorem zFV {t0 t1 : AV} {H : zaa} {K : Kt} (h : HSc H → zoZ t0 t1 H K) : ACalls tP ziF [t0,t1] H K:=
 zax (M:=zjN) Try.func125 (c:=zo1) (by kernel_rfl) (fun hs=>Eq.mpr (by kernel_rfl) (h hs))
def zjQ : Nat → List Bool
 | 5=>rl false [1,1,2,2,29,3,13]
 | _=>[]
noncomputable def zo6 : Code:=Try.f126.body.getD .skip
noncomputable def zF3 : List ResultVar:=Try.f126.results.toList
def zjR (t1 t4 t5 t35 t36 t37 : AV) : List AV:=ux 1 (t1 :: ux 2 (t4 :: t5 :: ux 29 (t35 :: t36 :: t37 :: ux 13 [])))
def zF1 : List Bool:=zjQ 5
noncomputable def zFZ : Code:=zan [1,1,1,0,1,0,0] zo6
def zFY (K : Kt) : AExit → List AV → zaa → Prop:=zao tP zjQ [1,1,1,0,1,0] zo6 (zau tP zF3 K)
def zhn (t1 t4 t5 t35 t36 t37 : AV) (H : zaa) (K : Kt) : Prop:=ALoop tP zFZ (zFY K) (zjR t1 t4 t5 t35 t36 t37) H
def zo5 (t1 t4 t5 t35 t36 t37 : AV) (H : zaa) (K : Kt) (Kb5 : Lt) : Prop:=
 zad .lss false t37 t36 fun t38=>
 zag t38
 (zai 3 t35 t37 fun t39=>
 zae true 3 t39 H fun t40=>
 zaA [(.int .i64 0),(.int .i64 0),.snil] H fun t7 H=>
 zar 3 t7 t40 H fun H=>
 zac H (fun K'=>zaf 2 t5 (K' · H)) fun t41=>
 zac H (fun K'=>zak false 1 t41 H (K' · H)) fun t42=>
 zac H (fun K'=>zak true 3 t7 H (K' · H)) fun t43=>
 zac H (fun K'=>K' t1 H) fun t44=>
 zaw H (fun H K'=>ACalls tP zg4 [t43,t44] H K') fun t45=>
 zac H (fun K'=>zav 3 [(.int .i64 0),(.int .i64 0),.snil] 1 [(0,t45)] (K' · H)) fun t46=>
 zaC zaB 3 40 t42 t46 H fun t47 H=>
 zac H (fun K'=>zaf 2 t5 (K' · H)) fun t48=>
 zar 1 t48 t47 H fun H=>
 zad .add false t37 (.int .i64 1) fun t49=>
 Kb5 (zjR t1 t4 t5 t35 t36 t49) H)
 (zae true 3 t5 H fun t50=>
 zar 3 t4 t50 H fun H=>
 zae true 3 t4 H fun r0=>
 K r0 H)
def zo4 (t0 t1 : AV) (H : zaa) (K : Kt) : Prop:=
 zaF t0 H fun t2 H=>
 zaA [(.int .i64 0),(.int .i64 0),.snil] H fun t4 H=>
 zaf 0 t2 fun t8=>
 zae false 1 t8 H fun t9=>
 zad .eql false t9 (.int .i64 4) fun t10=>
 zab t10 true H (fun K'=>zaf 1 t2 (K' · H)) fun t12 H=>
 zab t10 true H (fun K'=>zae false 1 t12 H (K' · H)) fun t13 H=>
 zab t10 true H (fun K'=>zad .geq false t13 (.int .i64 0) (K' · H)) fun t14 H=>
 zah t10 t14 (.bool false) fun t15=>
 zab t15 true H (fun K'=>zaf 1 t2 (K' · H)) fun t17 H=>
 zab t15 true H (fun K'=>zae false 1 t17 H (K' · H)) fun t18 H=>
 zab t15 true H (fun K'=>K' t1 H) fun t19 H=>
 zab t15 true H (fun K'=>zaj 1 t19 (K' · H)) fun t20 H=>
 zab t15 true H (fun K'=>zad .lss false t18 t20 (K' · H)) fun t21 H=>
 zah t15 t21 (.bool false) fun t22=>
 zag t22
 (zaf 1 t2 fun t24=>
 zae false 1 t24 H fun t25=>
 zai 3 t1 t25 fun t26=>
 zae true 3 t26 H fun t27=>
 ACalls tP zg4 [t27,.snil] H fun t28 H=>
 zar 3 t4 t28 H fun H=>
 zae true 3 t4 H fun r0=>
 K r0 H)
 (zaf 0 t2 fun t29=>
 zae false 1 t29 H fun t30=>
 zaf 1 t2 fun t31=>
 zae false 1 t31 H fun t32=>
 zaL [(.int .i64 0),(.int .i64 0),.snil] [(0,1),(1,1),(2,1)] [(0,t30),(1,t32)] fun t33=>
 zaA [(.int .i64 0),(.int .i64 0),.snil] H fun t5 H=>
 zar 3 t5 t33 H fun H=>
 zaf 2 t2 fun t34=>
 zae false 1 t34 H fun t35=>
 zaj 1 t35 fun t36=>
 zhn t1 t4 t5 t35 t36 (.int .i64 0) H K)
theorem zF0 {t1 t4 t5 t35 t36 t37 : AV} {H : zaa} {K : Kt} (Inv : Nat → AV → zaa → Prop) (n : Nat) (h0 : HSc H → Inv n t37 H)
  (round : Rd1 (fun t37=>zjR t1 t4 t5 t35 t36 t37) (fun t37=>fun H Kb5=>zo5 t1 t4 t5 t35 t36 t37 H K Kb5) H Inv) : zhn t1 t4 t5 t35 t36 t37 H K:=
 lp1 (M:=zjQ) zF1 t37 (by kernel_rfl) Inv n h0 round
theorem zF2 {t0 t1 : AV} {H : zaa} {K : Kt} (h : HSc H → zo4 t0 t1 H K) : ACalls tP zg4 [t0,t1] H K:=
 zax (M:=zjQ) Try.func126 (c:=zo6) (by kernel_rfl) (fun hs=>Eq.mpr (by kernel_rfl) (h hs))
def zJs (_ : Nat) : List Bool:=[]
noncomputable def zJt : Code:=Try.f49.body.getD .skip
def zw1 (t0 t1 t2 : AV) (H : zaa) (K : Kt) : Prop:=
 zaF t1 H fun t4 H=>
 zae true 3 t4 H fun t7=>
 ACalls tP zg7 [t7] H fun t8 H=>
 zad .leq false t8 (.int .i64 200) fun t9=>
 zab t9 true H (fun K'=>K' t0 H) fun t11 H=>
 zab t9 true H (fun K'=>zae true 3 t4 H (K' · H)) fun t12 H=>
 zab t9 true H (fun K'=>K' t2 H) fun t13 H=>
 zab t9 true H (fun K'=>ACalls tP ziQ [t11,t12,t13] H K') fun t14 H=>
 zah t9 t14 (.bool false) fun t15=>
 K t15 H
theorem zJu {t0 t1 t2 : AV} {H : zaa} {K : Kt} (h : HSc H → zw1 t0 t1 t2 H K) : ACalls tP zfW [t0,t1,t2] H K:=
 zax (M:=zJs) Try.func49 (c:=zJt) (by kernel_rfl) (fun hs=>Eq.mpr (by kernel_rfl) (h hs))
def zkR : Nat → List Bool
 | 4=>rl false [2,2,1,1,40]
 | _=>[]
noncomputable def zqf : Code:=Try.f51.body.getD .skip
noncomputable def zJG : List ResultVar:=Try.f51.results.toList
def zkS (t2 t3 t5 : AV) : List AV:=ux 2 (t2 :: t3 :: ux 1 (t5 :: ux 40 []))
def zJE : List Bool:=zkR 4
noncomputable def zJC : Code:=zan [1,1,0,1,0,0] zqf
def zJB (K : Kt) : AExit → List AV → zaa → Prop:=zao tP zkR [1,1,0,1,0] zqf (zau tP zJG K)
def zw4 (t2 t3 t5 : AV) (H : zaa) (K : Kt) : Prop:=ALoop tP zJC (zJB K) (zkS t2 t3 t5) H
def zqe (t2 t3 t5 : AV) (H : zaa) (K : Kt) (Kb4 : Lt) : Prop:=
 zaf 2 t2 fun t28=>
 zae false 1 t28 H fun t29=>
 zaj 1 t29 fun t30=>
 zad .lss false t5 t30 fun t31=>
 zag t31
 (zac H (fun K'=>zaf 2 t2 (K' · H)) fun t34=>
 zac H (fun K'=>zak false 1 t34 H (K' · H)) fun t35=>
 zac H (fun K'=>K' t5 H) fun t36=>
 zac H (fun K'=>zai 3 t35 t36 (K' · H)) fun t37=>
 zac H (fun K'=>zak true 3 t37 H (K' · H)) fun t38=>
 zac H (fun K'=>zaf 2 t3 (K' · H)) fun t39=>
 zac H (fun K'=>zak false 1 t39 H (K' · H)) fun t40=>
 zac H (fun K'=>K' t5 H) fun t41=>
 zac H (fun K'=>zai 3 t40 t41 (K' · H)) fun t42=>
 zac H (fun K'=>zak true 3 t42 H (K' · H)) fun t43=>
 zaw H (fun H K'=>ACalls tP zcE [t38,t43] H K') fun t44=>
 zac H (fun K'=>aUn .not t44 (K' · H)) fun t45=>
 zag t45
 (K (.bool false) H)
 (zad .add false t5 (.int .i64 1) fun t33=>
 Kb4 (zkS t2 t3 t33) H))
 (K (.bool true) H)
def zhH (t0 t1 : AV) (H : zaa) (K : Kt) : Prop:=
 zaF t0 H fun t2 H=>
 zaF t1 H fun t3 H=>
 zaf 0 t2 fun t6=>
 zae false 1 t6 H fun t7=>
 zaf 0 t3 fun t8=>
 zae false 1 t8 H fun t9=>
 zad .neq false t7 t9 fun t10=>
 zab t10 false H (fun K'=>zaf 1 t2 (K' · H)) fun t12 H=>
 zab t10 false H (fun K'=>zae false 1 t12 H (K' · H)) fun t13 H=>
 zab t10 false H (fun K'=>zaf 1 t3 (K' · H)) fun t14 H=>
 zab t10 false H (fun K'=>zae false 1 t14 H (K' · H)) fun t15 H=>
 zab t10 false H (fun K'=>zad .neq false t13 t15 (K' · H)) fun t16 H=>
 zah t10 (.bool true) t16 fun t17=>
 zab t17 false H (fun K'=>zaf 2 t2 (K' · H)) fun t19 H=>
 zab t17 false H (fun K'=>zae false 1 t19 H (K' · H)) fun t20 H=>
 zab t17 false H (fun K'=>zaj 1 t20 (K' · H)) fun t21 H=>
 zab t17 false H (fun K'=>zaf 2 t3 (K' · H)) fun t22 H=>
 zab t17 false H (fun K'=>zae false 1 t22 H (K' · H)) fun t23 H=>
 zab t17 false H (fun K'=>zaj 1 t23 (K' · H)) fun t24 H=>
 zab t17 false H (fun K'=>zad .neq false t21 t24 (K' · H)) fun t25 H=>
 zah t17 (.bool true) t25 fun t26=>
 zag t26
 (K (.bool false) H)
 (zw4 t2 t3 (.int .i64 0) H K)
theorem zJD {t2 t3 t5 : AV} {H : zaa} {K : Kt} (Inv : Nat → AV → zaa → Prop) (n : Nat) (h0 : HSc H → Inv n t5 H)
  (round : Rd1 (fun t5=>zkS t2 t3 t5) (fun t5=>fun H Kb4=>zqe t2 t3 t5 H K Kb4) H Inv) : zw4 t2 t3 t5 H K:=
 lp1 (M:=zkR) zJE t5 (by kernel_rfl) Inv n h0 round
theorem zJF {t0 t1 : AV} {H : zaa} {K : Kt} (h : HSc H → zhH t0 t1 H K) : ACalls tP zcE [t0,t1] H K:=
 zax (M:=zkR) Try.func51 (c:=zqf) (by kernel_rfl) (fun hs=>Eq.mpr (by kernel_rfl) (h hs))
def zlP : Nat → List Bool
 | 3=>rl false [1,1,1,2,16]
 | _=>[]
noncomputable def zrd : Code:=Try.f79.body.getD .skip
noncomputable def zM9 : List ResultVar:=Try.f79.results.toList
def zlQ (t1 t3 t4 : AV) : List AV:=ux 1 (t1 :: ux 1 (t3 :: t4 :: ux 16 []))
def zM7 : List Bool:=zlP 3
noncomputable def zM5 : Code:=zan [1,1,0,1,0,0] zrd
def zM4 (K : Kt) : AExit → List AV → zaa → Prop:=zao tP zlP [1,1,0,1,0] zrd (zau tP zM9 K)
def zyr (t1 t3 t4 : AV) (H : zaa) (K : Kt) : Prop:=ALoop tP zM5 (zM4 K) (zlQ t1 t3 t4) H
def zrc (t1 t3 t4 : AV) (H : zaa) (K : Kt) (Kb3 : Lt) : Prop:=
 zaf 2 t1 fun t6=>
 zae false 1 t6 H fun t7=>
 zaj 1 t7 fun t8=>
 zad .lss false t4 t8 fun t9=>
 zag t9
 (zaf 2 t1 fun t13=>
 zae false 1 t13 H fun t14=>
 zai 3 t14 t4 fun t16=>
 zae true 3 t16 H fun t17=>
 ACalls tP zg7 [t17] H fun t18 H=>
 zad .add false t3 t18 fun t19=>
 zad .add false t4 (.int .i64 1) fun t11=>
 Kb3 (zlQ t1 t19 t11) H)
 (K t3 H)
def zyq (t0 : AV) (H : zaa) (K : Kt) : Prop:=
 zaF t0 H fun t1 H=>
 zyr t1 (.int .i64 1) (.int .i64 0) H K
theorem zM6 {t1 t3 t4 : AV} {H : zaa} {K : Kt} (Inv : Nat → AV → AV → zaa → Prop) (n : Nat) (h0 : HSc H → Inv n t3 t4 H)
  (round : Rd2 (fun t3=>fun t4=>zlQ t1 t3 t4) (fun t3=>fun t4=>fun H Kb3=>zrc t1 t3 t4 H K Kb3) H Inv) : zyr t1 t3 t4 H K:=
 lp2 (M:=zlP) zM7 t3 t4 (by kernel_rfl) Inv n h0 round
theorem zM8 {t0 : AV} {H : zaa} {K : Kt} (h : HSc H → zyq t0 H K) : ACalls tP zg7 [t0] H K:=
 zax (M:=zlP) Try.func79 (c:=zrd) (by kernel_rfl) (fun hs=>Eq.mpr (by kernel_rfl) (h hs))
def zlR : Nat → List Bool
 | 24=>rl false [0,1,1,1,1,1,2,2,103]
 | _=>[]
noncomputable def zrf : Code:=Try.f80.body.getD .skip
noncomputable def zNf : List ResultVar:=Try.f80.results.toList
def zlS (t0 t2 t4 t7 t8 : AV) : List AV:=t0 :: ux 1 (t2 :: ux 1 (t4 :: ux 2 (t7 :: t8 :: ux 103 [])))
def zNd : List Bool:=zlR 24
noncomputable def zNb : Code:=zan [1,1,1,0,1,0,0] zrf
def zNa (K : Kt) : AExit → List AV → zaa → Prop:=zao tP zlR [1,1,1,0,1,0] zrf (zau tP zNf K)
def zrg (t0 t2 t4 t7 t8 : AV) (H : zaa) (K : Kt) : Prop:=ALoop tP zNb (zNa K) (zlS t0 t2 t4 t7 t8) H
def zre (t0 t2 t4 t7 t8 : AV) (H : zaa) (K : Kt) (Kb24 : Lt) : Prop:=
 zad .lss false t8 t7 fun t100=>
 zag t100
 (zaf 2 t4 fun t104=>
 zae false 1 t104 H fun t105=>
 zai 3 t105 t8 fun t107=>
 zae true 3 t107 H fun t108=>
 ACalls tP ziQ [t0,t108,t2] H fun t110 H=>
 aUn .not t110 fun t111=>
 zag t111
 (K (.bool false) H)
 (zad .add false t8 (.int .i64 1) fun t102=>
 Kb24 (zlS t0 t2 t4 t7 t102) H))
 (K (.bool true) H)
def zhZ (t0 t2 t4 t7 : AV) (H : zaa) (K : Kt) : Prop:=
 zrg t0 t2 t4 t7 (.int .i64 0) H K
def zeR (t0 t2 t4 t7 : AV) (H : zaa) (K : Kt) : Prop:=
 zhZ t0 t2 t4 t7 H K
def zd5 (t0 t2 t4 t7 t13 t75 : AV) (H : zaa) (K : Kt) : Prop:=
 zag t75
 (zaf 1 t4 fun t78=>
 zae false 1 t78 H fun t79=>
 zad .neq false t79 (.int .i64 0) fun t80=>
 zab t80 false H (fun K'=>K' t7 H) fun t82 H=>
 zab t80 false H (fun K'=>zad .neq false t82 (.int .i64 1) (K' · H)) fun t83 H=>
 zah t80 (.bool true) t83 fun t84=>
 zag t84
 (K (.bool false) H)
 (zeR t0 t2 t4 t7 H K))
 (zad .eql false t13 (.int .i64 9) fun t86=>
 zag t86
 (zaf 1 t4 fun t87=>
 zae false 1 t87 H fun t88=>
 zad .neq false t88 (.int .i64 0) fun t89=>
 zab t89 false H (fun K'=>K' t7 H) fun t91 H=>
 zab t89 false H (fun K'=>zad .lss false t91 (.int .i64 1) (K' · H)) fun t92 H=>
 zah t89 (.bool true) t92 fun t93=>
 zab t93 false H (fun K'=>K' t7 H) fun t95 H=>
 zab t93 false H (fun K'=>zad .gtr false t95 (.int .i64 7) (K' · H)) fun t96 H=>
 zah t93 (.bool true) t96 fun t97=>
 zag t97
 (K (.bool false) H)
 (zeR t0 t2 t4 t7 H K))
 (K (.bool false) H))
def zbU (t0 t2 t4 t7 t13 t14 : AV) (H : zaa) (K : Kt) : Prop:=
 zag t14
 (zaf 1 t4 fun t18=>
 zae false 1 t18 H fun t19=>
 zad .eql false t19 (.int .i64 0) fun t20=>
 zab t20 true H (fun K'=>K' t7 H) fun t22 H=>
 zab t20 true H (fun K'=>zad .eql false t22 (.int .i64 0) (K' · H)) fun t23 H=>
 zah t20 t23 (.bool false) fun t24=>
 K t24 H)
 (zad .eql false t13 (.int .i64 4) fun t26=>
 zag t26
 (zaf 1 t4 fun t27=>
 zae false 1 t27 H fun t28=>
 zad .geq false t28 (.int .i64 0) fun t29=>
 zab t29 true H (fun K'=>zaf 1 t4 (K' · H)) fun t31 H=>
 zab t29 true H (fun K'=>zae false 1 t31 H (K' · H)) fun t32 H=>
 zab t29 true H (fun K'=>K' t2 H) fun t33 H=>
 zab t29 true H (fun K'=>zad .lss false t32 t33 (K' · H)) fun t34 H=>
 zah t29 t34 (.bool false) fun t35=>
 zab t35 true H (fun K'=>K' t7 H) fun t37 H=>
 zab t35 true H (fun K'=>zad .eql false t37 (.int .i64 0) (K' · H)) fun t38 H=>
 zah t35 t38 (.bool false) fun t39=>
 K t39 H)
 (zad .eql false t13 (.int .i64 5) fun t41=>
 zag t41
 (zaf 1 t4 fun t42=>
 zae false 1 t42 H fun t43=>
 zad .lss false t43 (.int .i64 0) fun t44=>
 zab t44 false H (fun K'=>zaf 1 t4 (K' · H)) fun t46 H=>
 zab t44 false H (fun K'=>zae false 1 t46 H (K' · H)) fun t47 H=>
 zab t44 false H (fun K'=>K' t0 H) fun t48 H=>
 zab t44 false H (fun K'=>zaj 1 t48 (K' · H)) fun t49 H=>
 zab t44 false H (fun K'=>zad .geq false t47 t49 (K' · H)) fun t50 H=>
 zah t44 (.bool true) t50 fun t51=>
 zab t51 false H (fun K'=>K' t7 H) fun t53 H=>
 zab t51 false H (fun K'=>K' t0 H) fun t54 H=>
 zab t51 false H (fun K'=>zaf 1 t4 (K' · H)) fun t55 H=>
 zab t51 false H (fun K'=>zae false 1 t55 H (K' · H)) fun t56 H=>
 zab t51 false H (fun K'=>zai 3 t54 t56 (K' · H)) fun t57 H=>
 zab t51 false H (fun K'=>zaf 1 t57 (K' · H)) fun t58 H=>
 zab t51 false H (fun K'=>zae false 1 t58 H (K' · H)) fun t59 H=>
 zab t51 false H (fun K'=>zad .neq false t53 t59 (K' · H)) fun t60 H=>
 zah t51 (.bool true) t60 fun t61=>
 zag t61
 (K (.bool false) H)
 (zeR t0 t2 t4 t7 H K))
 (zad .eql false t13 (.int .i64 6) fun t63=>
 zag t63
 (zaf 1 t4 fun t64=>
 zae false 1 t64 H fun t65=>
 zad .neq false t65 (.int .i64 0) fun t66=>
 zab t66 false H (fun K'=>K' t7 H) fun t68 H=>
 zab t66 false H (fun K'=>zad .lss false t68 (.int .i64 2) (K' · H)) fun t69 H=>
 zah t66 (.bool true) t69 fun t70=>
 zab t70 false H (fun K'=>K' t7 H) fun t72 H=>
 zab t70 false H (fun K'=>zad .gtr false t72 (.int .i64 6) (K' · H)) fun t73 H=>
 zah t70 (.bool true) t73 fun t74=>
 zag t74
 (K (.bool false) H)
 (zeR t0 t2 t4 t7 H K))
 (zad .eql false t13 (.int .i64 7) fun t76=>
 zag t76
 (zd5 t0 t2 t4 t7 t13 t76 H K)
 (zad .eql false t13 (.int .i64 8) fun t77=>
 zd5 t0 t2 t4 t7 t13 t77 H K)))))
def zcM (t0 t1 t2 : AV) (H : zaa) (K : Kt) : Prop:=
 zaF t1 H fun t4 H=>
 zaf 2 t4 fun t9=>
 zae false 1 t9 H fun t10=>
 zaj 1 t10 fun t11=>
 zaf 0 t4 fun t12=>
 zae false 1 t12 H fun t13=>
 zad .eql false t13 (.int .i64 1) fun t15=>
 zag t15
 (zbU t0 t2 t4 t11 t13 t15 H K)
 (zad .eql false t13 (.int .i64 2) fun t16=>
 zag t16
 (zbU t0 t2 t4 t11 t13 t16 H K)
 (zad .eql false t13 (.int .i64 3) fun t17=>
 zbU t0 t2 t4 t11 t13 t17 H K))
theorem zNc {t0 t2 t4 t7 t8 : AV} {H : zaa} {K : Kt} (Inv : Nat → AV → zaa → Prop) (n : Nat) (h0 : HSc H → Inv n t8 H)
  (round : Rd1 (fun t8=>zlS t0 t2 t4 t7 t8) (fun t8=>fun H Kb24=>zre t0 t2 t4 t7 t8 H K Kb24) H Inv) : zrg t0 t2 t4 t7 t8 H K:=
 lp1 (M:=zlR) zNd t8 (by kernel_rfl) Inv n h0 round
theorem zNe {t0 t1 t2 : AV} {H : zaa} {K : Kt} (h : HSc H → zcM t0 t1 t2 H K) : ACalls tP ziQ [t0,t1,t2] H K:=
 zax (M:=zlR) Try.func80 (c:=zrf) (by kernel_rfl) (fun hs=>Eq.mpr (by kernel_rfl) (h hs))
def zlT : Nat → List Bool
 | 4=>rl false [0,2,3,1,21]
 | _=>[]
noncomputable def zrj : Code:=Try.f82.body.getD .skip
noncomputable def zNp : List ResultVar:=Try.f82.results.toList
def zlU (t0 t1 t5 : AV) : List AV:=t0 :: t1 :: ux 3 (t5 :: ux 21 [])
def zNn : List Bool:=zlT 4
noncomputable def zNl : Code:=zan [1,1,0,1,0,0] zrj
def zNk (K : Kt) : AExit → List AV → zaa → Prop:=zao tP zlT [1,1,0,1,0] zrj (zau tP zNp K)
def zyu (t0 t1 t5 : AV) (H : zaa) (K : Kt) : Prop:=ALoop tP zNl (zNk K) (zlU t0 t1 t5) H
def zri (t0 t1 t5 : AV) (H : zaa) (K : Kt) (Kb4 : Lt) : Prop:=
 zaj 1 t0 fun t13=>
 zad .lss false t5 t13 fun t14=>
 zag t14
 (zac H (fun K'=>K' t0 H) fun t17=>
 zac H (fun K'=>K' t5 H) fun t18=>
 zac H (fun K'=>zai 3 t17 t18 (K' · H)) fun t19=>
 zac H (fun K'=>zak true 3 t19 H (K' · H)) fun t20=>
 zac H (fun K'=>K' t1 H) fun t21=>
 zac H (fun K'=>K' t5 H) fun t22=>
 zac H (fun K'=>zai 3 t21 t22 (K' · H)) fun t23=>
 zac H (fun K'=>zak true 3 t23 H (K' · H)) fun t24=>
 zaw H (fun H K'=>ACalls tP zcE [t20,t24] H K') fun t25=>
 zac H (fun K'=>aUn .not t25 (K' · H)) fun t26=>
 zag t26
 (K (.bool false) H)
 (zad .add false t5 (.int .i64 1) fun t16=>
 Kb4 (zlU t0 t1 t16) H))
 (K (.bool true) H)
def zrh (t0 t1 : AV) (H : zaa) (K : Kt) : Prop:=
 zaj 1 t0 fun t7=>
 zaj 1 t1 fun t9=>
 zad .neq false t7 t9 fun t10=>
 zag t10
 (K (.bool false) H)
 (zyu t0 t1 (.int .i64 0) H K)
theorem zNm {t0 t1 t5 : AV} {H : zaa} {K : Kt} (Inv : Nat → AV → zaa → Prop) (n : Nat) (h0 : HSc H → Inv n t5 H)
  (round : Rd1 (fun t5=>zlU t0 t1 t5) (fun t5=>fun H Kb4=>zri t0 t1 t5 H K Kb4) H Inv) : zyu t0 t1 t5 H K:=
 lp1 (M:=zlT) zNn t5 (by kernel_rfl) Inv n h0 round
theorem zNo {t0 t1 : AV} {H : zaa} {K : Kt} (h : HSc H → zrh t0 t1 H K) : ACalls tP zdl [t0,t1] H K:=
 zax (M:=zlT) Try.func82 (c:=zrj) (by kernel_rfl) (fun hs=>Eq.mpr (by kernel_rfl) (h hs))
def zlV : Nat → List Bool
 | 5=>rl false [4,1,3,1,54,3,16]
 | _=>[]
noncomputable def zrl : Code:=Try.f83.body.getD .skip
noncomputable def zNw : List ResultVar:=Try.f83.results.toList
def zlW (t4 t8 t63 t64 t65 : AV) : List AV:=ux 4 (t4 :: ux 3 (t8 :: ux 54 (t63 :: t64 :: t65 :: ux 16 [])))
def zNu : List Bool:=zlV 5
noncomputable def zNs : Code:=zan [1,1,1,0,1,0,0] zrl
def zNr (K : Kt) : AExit → List AV → zaa → Prop:=zao tP zlV [1,1,1,0,1,0] zrl (zau tP zNw K)
def zlX (t4 t8 t63 t64 t65 : AV) (H : zaa) (K : Kt) : Prop:=ALoop tP zNs (zNr K) (zlW t4 t8 t63 t64 t65) H
def zrk (t4 t8 t63 t64 t65 : AV) (H : zaa) (K : Kt) (Kb5 : Lt) : Prop:=
 zad .lss false t65 t64 fun t66=>
 zag t66
 (zai 3 t63 t65 fun t67=>
 zae true 3 t67 H fun t68=>
 zaA [(.int .i64 0),(.int .i64 0),.snil] H fun t10 H=>
 zar 3 t10 t68 H fun H=>
 zae true 3 t10 H fun t69=>
 zaf 2 t4 fun t70=>
 zae false 1 t70 H fun t71=>
 ACalls tP ziV [t69,t71] H fun t72 H=>
 zaA [(.int .i64 0),(.int .i64 0),.snil] H fun t11 H=>
 zar 3 t11 t72 H fun H=>
 zae true 3 t11 H fun t73=>
 ACalls tP zg7 [t73] H fun t74 H=>
 zad .gtr false t74 (.int .i64 200) fun t75=>
 zag t75
 (za6 [.snil,(.bool false)] (K · H))
 (zae true 3 t11 H fun t77=>
 zav 3 [(.int .i64 0),(.int .i64 0),.snil] 1 [(0,t77)] fun t78=>
 zaC zaB 3 40 t8 t78 H fun t79 H=>
 zad .add false t65 (.int .i64 1) fun t80=>
 Kb5 (zlW t4 t79 t63 t64 t80) H))
 (za6 [t8,(.bool true)] (K · H))
def zyv (t0 t1 t2 : AV) (H : zaa) (K : Kt) : Prop:=
 zaF t1 H fun t4 H=>
 zac H (fun K'=>zaf 0 t4 (K' · H)) fun t12=>
 zac H (fun K'=>zak false 1 t12 H (K' · H)) fun t13=>
 zac H (fun K'=>zad .neq false t13 (.int .i64 5) (K' · H)) fun t14=>
 zac H (fun K'=>K' t14 H) fun t15=>
 zab t15 false H (fun K'=>zac H (fun K''=>zaf 1 t4 (K'' · H)) (K' · H)) fun t16 H=>
 zab t15 false H (fun K'=>zac H (fun K''=>zak false 1 t16 H (K'' · H)) (K' · H)) fun t17 H=>
 zab t15 false H (fun K'=>zac H (fun K''=>zad .lss false t17 (.int .i64 0) (K'' · H)) (K' · H)) fun t18 H=>
 zac H (fun K'=>zah t15 (.bool true) t18 (K' · H)) fun t19=>
 zac H (fun K'=>K' t19 H) fun t20=>
 zab t20 false H (fun K'=>zac H (fun K''=>zaf 1 t4 (K'' · H)) (K' · H)) fun t21 H=>
 zab t20 false H (fun K'=>zac H (fun K''=>zak false 1 t21 H (K'' · H)) (K' · H)) fun t22 H=>
 zab t20 false H (fun K'=>zac H (fun K''=>K'' t0 H) (K' · H)) fun t23 H=>
 zab t20 false H (fun K'=>zac H (fun K''=>zaj 1 t23 (K'' · H)) (K' · H)) fun t24 H=>
 zab t20 false H (fun K'=>zac H (fun K''=>zad .geq false t22 t24 (K'' · H)) (K' · H)) fun t25 H=>
 zac H (fun K'=>zah t20 (.bool true) t25 (K' · H)) fun t26=>
 zac H (fun K'=>K' t26 H) fun t27=>
 zab t27 false H (fun K'=>zac H (fun K''=>zaf 2 t4 (K'' · H)) (K' · H)) fun t28 H=>
 zab t27 false H (fun K'=>zac H (fun K''=>zak false 1 t28 H (K'' · H)) (K' · H)) fun t29 H=>
 zab t27 false H (fun K'=>zac H (fun K''=>zaj 1 t29 (K'' · H)) (K' · H)) fun t30 H=>
 zab t27 false H (fun K'=>zac H (fun K''=>K'' t0 H) (K' · H)) fun t31 H=>
 zab t27 false H (fun K'=>zac H (fun K''=>zaf 1 t4 (K'' · H)) (K' · H)) fun t32 H=>
 zab t27 false H (fun K'=>zac H (fun K''=>zak false 1 t32 H (K'' · H)) (K' · H)) fun t33 H=>
 zab t27 false H (fun K'=>zac H (fun K''=>zai 3 t31 t33 (K'' · H)) (K' · H)) fun t34 H=>
 zab t27 false H (fun K'=>zac H (fun K''=>zaf 1 t34 (K'' · H)) (K' · H)) fun t35 H=>
 zab t27 false H (fun K'=>zac H (fun K''=>zak false 1 t35 H (K'' · H)) (K' · H)) fun t36 H=>
 zab t27 false H (fun K'=>zac H (fun K''=>zad .neq false t30 t36 (K'' · H)) (K' · H)) fun t37 H=>
 zac H (fun K'=>zah t27 (.bool true) t37 (K' · H)) fun t38=>
 zac H (fun K'=>K' t38 H) fun t39=>
 zab t39 false H (fun K'=>zac H (fun K''=>K'' t2 H) (K' · H)) fun t40 H=>
 zab t39 false H (fun K'=>zac H (fun K''=>zad .lss false t40 (.int .i64 0) (K'' · H)) (K' · H)) fun t41 H=>
 zac H (fun K'=>zah t39 (.bool true) t41 (K' · H)) fun t42=>
 zac H (fun K'=>K' t42 H) fun t43=>
 zab t43 false H (fun K'=>zac H (fun K''=>K'' t2 H) (K' · H)) fun t44 H=>
 zab t43 false H (fun K'=>zac H (fun K''=>K'' t0 H) (K' · H)) fun t45 H=>
 zab t43 false H (fun K'=>zac H (fun K''=>zaf 1 t4 (K'' · H)) (K' · H)) fun t46 H=>
 zab t43 false H (fun K'=>zac H (fun K''=>zak false 1 t46 H (K'' · H)) (K' · H)) fun t47 H=>
 zab t43 false H (fun K'=>zac H (fun K''=>zai 3 t45 t47 (K'' · H)) (K' · H)) fun t48 H=>
 zab t43 false H (fun K'=>zac H (fun K''=>zaf 2 t48 (K'' · H)) (K' · H)) fun t49 H=>
 zab t43 false H (fun K'=>zac H (fun K''=>zak false 1 t49 H (K'' · H)) (K' · H)) fun t50 H=>
 zab t43 false H (fun K'=>zac H (fun K''=>zaj 1 t50 (K'' · H)) (K' · H)) fun t51 H=>
 zab t43 false H (fun K'=>zac H (fun K''=>zad .geq false t44 t51 (K'' · H)) (K' · H)) fun t52 H=>
 zac H (fun K'=>zah t43 (.bool true) t52 (K' · H)) fun t53=>
 zag t53
 (za6 [.snil,(.bool false)] (K · H))
 (zaf 1 t4 fun t55=>
 zae false 1 t55 H fun t56=>
 zai 3 t0 t56 fun t57=>
 zaf 2 t57 fun t58=>
 zae false 1 t58 H fun t59=>
 zai 2 t59 t2 fun t61=>
 zaf 1 t61 fun t62=>
 zae false 1 t62 H fun t63=>
 zaj 1 t63 fun t64=>
 zlX t4 .snil t63 t64 (.int .i64 0) H K)
theorem zNt {t4 t8 t63 t64 t65 : AV} {H : zaa} {K : Kt} (Inv : Nat → AV → AV → zaa → Prop) (n : Nat) (h0 : HSc H → Inv n t8 t65 H)
  (round : Rd2 (fun t8=>fun t65=>zlW t4 t8 t63 t64 t65) (fun t8=>fun t65=>fun H Kb5=>zrk t4 t8 t63 t64 t65 H K Kb5) H Inv) : zlX t4 t8 t63 t64 t65 H K:=
 lp2 (M:=zlV) zNu t8 t65 (by kernel_rfl) Inv n h0 round
theorem zNv {t0 t1 t2 : AV} {H : zaa} {K : Kt} (h : HSc H → zyv t0 t1 t2 H K) : ACalls tP zg8 [t0,t1,t2] H K:=
 zax (M:=zlV) Try.func83 (c:=zrl) (by kernel_rfl) (fun hs=>Eq.mpr (by kernel_rfl) (h hs))
def zmn : Nat → List Bool
 | 5=>rl false [1,2,1,3,46]
 | _=>[]
noncomputable def zrT : Code:=Try.f100.body.getD .skip
noncomputable def zPi : List ResultVar:=Try.f100.results.toList
def zmo (t1 t2 t4 t5 t6 : AV) : List AV:=ux 1 (t1 :: t2 :: ux 1 (t4 :: t5 :: t6 :: ux 46 []))
def zPg : List Bool:=zmn 5
noncomputable def zPe : Code:=zan [1,1,1,0,1,0,0] zrT
def zPd (K : Kt) : AExit → List AV → zaa → Prop:=zao tP zmn [1,1,1,0,1,0] zrT (zau tP zPi K)
def zrU (t1 t2 t4 t5 t6 : AV) (H : zaa) (K : Kt) : Prop:=ALoop tP zPe (zPd K) (zmo t1 t2 t4 t5 t6) H
def zrS (t1 t2 t4 t5 t6 : AV) (H : zaa) (K : Kt) (Kb5 : Lt) : Prop:=
 zaf 2 t2 fun t34=>
 zae false 1 t34 H fun t35=>
 zaj 1 t35 fun t36=>
 zad .lss false t6 t36 fun t37=>
 zag t37
 (zac H (fun K'=>zaf 2 t5 (K' · H)) fun t40=>
 zac H (fun K'=>zak false 1 t40 H (K' · H)) fun t41=>
 zac H (fun K'=>zaf 2 t2 (K' · H)) fun t42=>
 zac H (fun K'=>zak false 1 t42 H (K' · H)) fun t43=>
 zac H (fun K'=>K' t6 H) fun t44=>
 zac H (fun K'=>zai 3 t43 t44 (K' · H)) fun t45=>
 zac H (fun K'=>zak true 3 t45 H (K' · H)) fun t46=>
 zac H (fun K'=>K' t1 H) fun t47=>
 zaw H (fun H K'=>ACalls tP ziV [t46,t47] H K') fun t48=>
 zac H (fun K'=>zav 3 [(.int .i64 0),(.int .i64 0),.snil] 1 [(0,t48)] (K' · H)) fun t49=>
 zaC zaB 3 40 t41 t49 H fun t50 H=>
 zac H (fun K'=>zaf 2 t5 (K' · H)) fun t51=>
 zar 1 t51 t50 H fun H=>
 zad .add false t6 (.int .i64 1) fun t39=>
 Kb5 (zmo t1 t2 t4 t5 t39) H)
 (zae true 3 t5 H fun t52=>
 zar 3 t4 t52 H fun H=>
 zae true 3 t4 H fun r0=>
 K r0 H)
def zrR (t0 t1 : AV) (H : zaa) (K : Kt) : Prop:=
 zaF t0 H fun t2 H=>
 zaA [(.int .i64 0),(.int .i64 0),.snil] H fun t4 H=>
 zaf 0 t2 fun t7=>
 zae false 1 t7 H fun t8=>
 zad .eql false t8 (.int .i64 4) fun t9=>
 zab t9 true H (fun K'=>zaf 1 t2 (K' · H)) fun t11 H=>
 zab t9 true H (fun K'=>zae false 1 t11 H (K' · H)) fun t12 H=>
 zab t9 true H (fun K'=>zad .geq false t12 (.int .i64 0) (K' · H)) fun t13 H=>
 zah t9 t13 (.bool false) fun t14=>
 zab t14 true H (fun K'=>zaf 1 t2 (K' · H)) fun t16 H=>
 zab t14 true H (fun K'=>zae false 1 t16 H (K' · H)) fun t17 H=>
 zab t14 true H (fun K'=>K' t1 H) fun t18 H=>
 zab t14 true H (fun K'=>zaj 1 t18 (K' · H)) fun t19 H=>
 zab t14 true H (fun K'=>zad .lss false t17 t19 (K' · H)) fun t20 H=>
 zah t14 t20 (.bool false) fun t21=>
 zag t21
 (zaf 1 t2 fun t23=>
 zae false 1 t23 H fun t24=>
 zai 3 t1 t24 fun t25=>
 zae true 3 t25 H fun t26=>
 ACalls tP ziB [t26] H fun t27 H=>
 zar 3 t4 t27 H fun H=>
 zae true 3 t4 H fun r0=>
 K r0 H)
 (zaf 0 t2 fun t28=>
 zae false 1 t28 H fun t29=>
 zaf 1 t2 fun t30=>
 zae false 1 t30 H fun t31=>
 zaL [(.int .i64 0),(.int .i64 0),.snil] [(0,1),(1,1),(2,1)] [(0,t29),(1,t31)] fun t32=>
 zaA [(.int .i64 0),(.int .i64 0),.snil] H fun t5 H=>
 zar 3 t5 t32 H fun H=>
 zrU t1 t2 t4 t5 (.int .i64 0) H K)
theorem zPf {t1 t2 t4 t5 t6 : AV} {H : zaa} {K : Kt} (Inv : Nat → AV → zaa → Prop) (n : Nat) (h0 : HSc H → Inv n t6 H)
  (round : Rd1 (fun t6=>zmo t1 t2 t4 t5 t6) (fun t6=>fun H Kb5=>zrS t1 t2 t4 t5 t6 H K Kb5) H Inv) : zrU t1 t2 t4 t5 t6 H K:=
 lp1 (M:=zmn) zPg t6 (by kernel_rfl) Inv n h0 round
theorem zPh {t0 t1 : AV} {H : zaa} {K : Kt} (h : HSc H → zrR t0 t1 H K) : ACalls tP ziV [t0,t1] H K:=
 zax (M:=zmn) Try.func100 (c:=zrT) (by kernel_rfl) (fun hs=>Eq.mpr (by kernel_rfl) (h hs))
def zjE : Nat → List Bool
 | 3=>rl false [1,4,24]
 | _=>[]
noncomputable def zoS : Code:=Try.f115.body.getD .skip
noncomputable def zFa : List ResultVar:=Try.f115.results.toList
def zjF (t1 t2 t3 t4 : AV) : List AV:=ux 1 (t1 :: t2 :: t3 :: t4 :: ux 24 [])
def zE8 : List Bool:=zjE 3
noncomputable def zE6 : Code:=zan [1,1,0,1,0,0] zoS
def zE5 (K : Kt) : AExit → List AV → zaa → Prop:=zao tP zjE [1,1,0,1,0] zoS (zau tP zFa K)
def zvr (t1 t2 t3 t4 : AV) (H : zaa) (K : Kt) : Prop:=ALoop tP zE6 (zE5 K) (zjF t1 t2 t3 t4) H
def zoR (t1 t2 t3 t4 : AV) (H : zaa) (K : Kt) (Kb3 : Lt) : Prop:=
 zaf 2 t1 fun t11=>
 zae false 1 t11 H fun t12=>
 zaj 1 t12 fun t13=>
 zad .lss false t4 t13 fun t14=>
 zag t14
 (zac H (fun K'=>zaf 2 t3 (K' · H)) fun t17=>
 zac H (fun K'=>zak false 1 t17 H (K' · H)) fun t18=>
 zac H (fun K'=>zaf 2 t1 (K' · H)) fun t19=>
 zac H (fun K'=>zak false 1 t19 H (K' · H)) fun t20=>
 zac H (fun K'=>K' t4 H) fun t21=>
 zac H (fun K'=>zai 3 t20 t21 (K' · H)) fun t22=>
 zac H (fun K'=>zak true 3 t22 H (K' · H)) fun t23=>
 zaw H (fun H K'=>ACalls tP ziB [t23] H K') fun t24=>
 zac H (fun K'=>zav 3 [(.int .i64 0),(.int .i64 0),.snil] 1 [(0,t24)] (K' · H)) fun t25=>
 zaC zaB 3 40 t18 t25 H fun t26 H=>
 zac H (fun K'=>zaf 2 t3 (K' · H)) fun t27=>
 zar 1 t27 t26 H fun H=>
 zad .add false t4 (.int .i64 1) fun t16=>
 Kb3 (zjF t1 t2 t3 t16) H)
 (zae true 3 t3 H fun t28=>
 zar 3 t2 t28 H fun H=>
 zae true 3 t2 H fun r0=>
 K r0 H)
def zvq (t0 : AV) (H : zaa) (K : Kt) : Prop:=
 zaF t0 H fun t1 H=>
 zaA [(.int .i64 0),(.int .i64 0),.snil] H fun t2 H=>
 zaf 0 t1 fun t5=>
 zae false 1 t5 H fun t6=>
 zaf 1 t1 fun t7=>
 zae false 1 t7 H fun t8=>
 zaL [(.int .i64 0),(.int .i64 0),.snil] [(0,1),(1,1),(2,1)] [(0,t6),(1,t8)] fun t9=>
 zaA [(.int .i64 0),(.int .i64 0),.snil] H fun t3 H=>
 zar 3 t3 t9 H fun H=>
 zvr t1 t2 t3 (.int .i64 0) H K
theorem zE7 {t1 t2 t3 t4 : AV} {H : zaa} {K : Kt} (Inv : Nat → AV → zaa → Prop) (n : Nat) (h0 : HSc H → Inv n t4 H)
  (round : Rd1 (fun t4=>zjF t1 t2 t3 t4) (fun t4=>fun H Kb3=>zoR t1 t2 t3 t4 H K Kb3) H Inv) : zvr t1 t2 t3 t4 H K:=
 lp1 (M:=zjE) zE8 t4 (by kernel_rfl) Inv n h0 round
theorem zE9 {t0 : AV} {H : zaa} {K : Kt} (h : HSc H → zvq t0 H K) : ACalls tP ziB [t0] H K:=
 zax (M:=zjE) Try.func115 (c:=zoS) (by kernel_rfl) (fun hs=>Eq.mpr (by kernel_rfl) (h hs))
def zfF : Nat → List Bool
 | 6=>rl false [0,2,6,1,38,3,56]
 | 10=>rl false [0,2,6,2,37,3,28,3,25]
 | _=>[]
noncomputable def zrr : Code:=Try.f85.body.getD .skip
noncomputable def zNL : List ResultVar:=Try.f85.results.toList
def zl2 (t0 t1 t8 t47 t48 t49 : AV) : List AV:=t0 :: t1 :: ux 6 (t8 :: ux 38 (t47 :: t48 :: t49 :: ux 56 []))
def zyD : List Bool:=zfF 6
noncomputable def zrs : Code:=zan [1,1,1,1,0,1,0,0] zrr
def zyB (K : Kt) : AExit → List AV → zaa → Prop:=zao tP zfF [1,1,1,1,0,1,0] zrr (zau tP zNL K)
def zyC (t0 t1 t8 t47 t48 t49 : AV) (H : zaa) (K : Kt) : Prop:=ALoop tP zrs (zyB K) (zl2 t0 t1 t8 t47 t48 t49) H
def zl1 (t0 t1 t8 t9 t47 t48 t49 t78 t79 t80 : AV) : List AV:=t0 :: t1 :: ux 6 (t8 :: t9 :: ux 37 (t47 :: t48 :: t49 :: ux 28 (t78 :: t79 :: t80 :: ux 25 [])))
def zNJ : List Bool:=zfF 10
noncomputable def zNG : Code:=zan [1,1,0,0,1,1,1,0,0] zrs
def zNF (K : Kt) (Kb6 : Lt) : AExit → List AV → zaa → Prop:=zao tP zfF [1,1,0,0,1,1,1,0] zrs (zbj zyD Kb6 (zyB K))
def zru (t0 t1 t8 t9 t47 t48 t49 t78 t79 t80 : AV) (H : zaa) (K : Kt) (Kb6 : Lt) : Prop:=ALoop tP zNG (zNF K Kb6) (zl1 t0 t1 t8 t9 t47 t48 t49 t78 t79 t80) H
def zrt (t0 t1 t8 t9 t47 t48 t49 t78 t79 t80 : AV) (H : zaa) (K : Kt) (Kb6 : Lt) (Kb10 : Lt) : Prop:=
 zad .add false t80 (.int .i64 1) fun t103=>
 Kb10 (zl1 t0 t1 t8 t9 t47 t48 t49 t78 t79 t103) H
def zgA (t0 t1 t8 t9 t47 t48 t49 t78 t79 t80 : AV) (H : zaa) (K : Kt) (Kb6 : Lt) (Kb10 : Lt) : Prop:=
 zrt t0 t1 t8 t9 t47 t48 t49 t78 t79 t80 H K Kb6 Kb10
def zgz (t0 t1 t8 t9 t47 t48 t49 t78 t79 t80 : AV) (H : zaa) (K : Kt) (Kb6 : Lt) (Kb10 : Lt) : Prop:=
 zad .lss false t80 t79 fun t81=>
 zag t81
 (zai 3 t78 t80 fun t83=>
 zae true 3 t83 H fun t84=>
 zaA [(.int .i64 0),(.int .i64 0),.snil] H fun t12 H=>
 zar 3 t12 t84 H fun H=>
 zaf 0 t12 fun t85=>
 zae false 1 t85 H fun t86=>
 zad .neq false t86 (.int .i64 4) fun t87=>
 zab t87 false H (fun K'=>zaf 1 t12 (K' · H)) fun t89 H=>
 zab t87 false H (fun K'=>zae false 1 t89 H (K' · H)) fun t90 H=>
 zab t87 false H (fun K'=>K' t80 H) fun t91 H=>
 zab t87 false H (fun K'=>zad .neq false t90 t91 (K' · H)) fun t92 H=>
 zah t87 (.bool true) t92 fun t93=>
 zab t93 false H (fun K'=>zaf 2 t12 (K' · H)) fun t95 H=>
 zab t93 false H (fun K'=>zae false 1 t95 H (K' · H)) fun t96 H=>
 zab t93 false H (fun K'=>zaj 1 t96 (K' · H)) fun t97 H=>
 zab t93 false H (fun K'=>zad .gtr false t97 (.int .i64 0) (K' · H)) fun t98 H=>
 zah t93 (.bool true) t98 fun t99=>
 zag t99
 (zai 1 t8 t9 fun t102=>
 zar 1 t102 (.bool false) H fun H=>
 zgA t0 t1 t8 t9 t47 t48 t49 t78 t79 t80 H K Kb6 Kb10)
 (zgA t0 t1 t8 t9 t47 t48 t49 t78 t79 t80 H K Kb6 Kb10))
 (zad .add false t49 (.int .i64 1) fun t104=>
 Kb6 (zl2 t0 t1 t8 t47 t48 t104) H)
def zh0 (t0 t1 t8 t47 t48 t49 : AV) (H : zaa) (K : Kt) (Kb6 : Lt) : Prop:=
 zad .lss false t49 t48 fun t50=>
 zag t50
 (zai 3 t47 t49 fun t52=>
 zae true 3 t52 H fun t53=>
 zaA [(.int .i64 0),(.int .i64 0),.snil] H fun t10 H=>
 zar 3 t10 t53 H fun H=>
 zac H (fun K'=>K' t8 H) fun t54=>
 zac H (fun K'=>K' t49 H) fun t55=>
 zac H (fun K'=>zaf 0 t10 (K' · H)) fun t56=>
 zac H (fun K'=>zak false 1 t56 H (K' · H)) fun t57=>
 zac H (fun K'=>zad .eql false t57 (.int .i64 5) (K' · H)) fun t58=>
 zac H (fun K'=>K' t58 H) fun t59=>
 zab t59 true H (fun K'=>zac H (fun K''=>zaf 1 t10 (K'' · H)) (K' · H)) fun t60 H=>
 zab t59 true H (fun K'=>zac H (fun K''=>zak false 1 t60 H (K'' · H)) (K' · H)) fun t61 H=>
 zab t59 true H (fun K'=>zac H (fun K''=>K'' t1 H) (K' · H)) fun t62 H=>
 zab t59 true H (fun K'=>zac H (fun K''=>zad .eql false t61 t62 (K'' · H)) (K' · H)) fun t63 H=>
 zac H (fun K'=>zah t59 t63 (.bool false) (K' · H)) fun t64=>
 zac H (fun K'=>K' t64 H) fun t65=>
 zab t65 true H (fun K'=>zac H (fun K''=>zaf 2 t10 (K'' · H)) (K' · H)) fun t66 H=>
 zab t65 true H (fun K'=>zac H (fun K''=>zak false 1 t66 H (K'' · H)) (K' · H)) fun t67 H=>
 zab t65 true H (fun K'=>zac H (fun K''=>zaj 1 t67 (K'' · H)) (K' · H)) fun t68 H=>
 zab t65 true H (fun K'=>zac H (fun K''=>K'' t0 H) (K' · H)) fun t69 H=>
 zab t65 true H (fun K'=>zac H (fun K''=>K'' t1 H) (K' · H)) fun t70 H=>
 zab t65 true H (fun K'=>zac H (fun K''=>zai 3 t69 t70 (K'' · H)) (K' · H)) fun t71 H=>
 zab t65 true H (fun K'=>zac H (fun K''=>zaf 1 t71 (K'' · H)) (K' · H)) fun t72 H=>
 zab t65 true H (fun K'=>zac H (fun K''=>zak false 1 t72 H (K'' · H)) (K' · H)) fun t73 H=>
 zab t65 true H (fun K'=>zac H (fun K''=>zad .eql false t68 t73 (K'' · H)) (K' · H)) fun t74 H=>
 zac H (fun K'=>zah t65 t74 (.bool false) (K' · H)) fun t75=>
 zac H (fun K'=>zai 1 t54 t55 (K' · H)) fun t76=>
 zar 1 t76 t75 H fun H=>
 zaf 2 t10 fun t77=>
 zae false 1 t77 H fun t78=>
 zaj 1 t78 fun t79=>
 zru t0 t1 t8 t49 t47 t48 t49 t78 t79 (.int .i64 0) H K Kb6)
 (K t8 H)
def zyA (t0 t1 t2 : AV) (H : zaa) (K : Kt) : Prop:=
 zad .lss false t1 (.int .i64 0) fun t14=>
 zab t14 false H (fun K'=>K' t1 H) fun t16 H=>
 zab t14 false H (fun K'=>K' t0 H) fun t17 H=>
 zab t14 false H (fun K'=>zaj 1 t17 (K' · H)) fun t18 H=>
 zab t14 false H (fun K'=>zad .geq false t16 t18 (K' · H)) fun t19 H=>
 zah t14 (.bool true) t19 fun t20=>
 zab t20 false H (fun K'=>K' t2 H) fun t22 H=>
 zab t20 false H (fun K'=>zad .lss false t22 (.int .i64 0) (K' · H)) fun t23 H=>
 zah t20 (.bool true) t23 fun t24=>
 zab t24 false H (fun K'=>K' t2 H) fun t26 H=>
 zab t24 false H (fun K'=>K' t0 H) fun t27 H=>
 zab t24 false H (fun K'=>K' t1 H) fun t28 H=>
 zab t24 false H (fun K'=>zai 3 t27 t28 (K' · H)) fun t29 H=>
 zab t24 false H (fun K'=>zaf 2 t29 (K' · H)) fun t30 H=>
 zab t24 false H (fun K'=>zae false 1 t30 H (K' · H)) fun t31 H=>
 zab t24 false H (fun K'=>zaj 1 t31 (K' · H)) fun t32 H=>
 zab t24 false H (fun K'=>zad .geq false t26 t32 (K' · H)) fun t33 H=>
 zah t24 (.bool true) t33 fun t34=>
 zag t34
 (K .snil H)
 (zai 3 t0 t1 fun t37=>
 zaf 2 t37 fun t38=>
 zae false 1 t38 H fun t39=>
 zai 2 t39 t2 fun t41=>
 zaf 1 t41 fun t42=>
 zae false 1 t42 H fun t43=>
 zaj 1 t43 fun t45=>
 zaN 1 [(.bool false)] t45 t45 H fun t46 H=>
 zaj 1 t43 fun t48=>
 zyC t0 t1 t46 t43 t48 (.int .i64 0) H K)
theorem zNH {t0 t1 t8 t9 t47 t48 t49 t78 t79 t80 : AV} {H : zaa} {K : Kt} {Kb6 : Lt} (Inv : Nat → AV → zaa → Prop) (n : Nat) (h0 : HSc H → Inv n t80 H)
  (round : Rd1 (fun t80=>zl1 t0 t1 t8 t9 t47 t48 t49 t78 t79 t80) (fun t80=>fun H Kb10=>zgz t0 t1 t8 t9 t47 t48 t49 t78 t79 t80 H K Kb6 Kb10) H Inv) : zru t0 t1 t8 t9 t47 t48 t49 t78 t79 t80 H K Kb6:=
 lp1 (M:=zfF) zNJ t80 (by kernel_rfl) Inv n h0 round
theorem zNI {t0 t1 t8 t47 t48 t49 : AV} {H : zaa} {K : Kt} (Inv : Nat → AV → zaa → Prop) (n : Nat) (h0 : HSc H → Inv n t49 H)
  (round : Rd1 (fun t49=>zl2 t0 t1 t8 t47 t48 t49) (fun t49=>fun H Kb6=>zh0 t0 t1 t8 t47 t48 t49 H K Kb6) H Inv) : zyC t0 t1 t8 t47 t48 t49 H K:=
 lp1 (M:=zfF) zyD t49 (by kernel_rfl) Inv n h0 round
theorem zNK {t0 t1 t2 : AV} {H : zaa} {K : Kt} (h : HSc H → zyA t0 t1 t2 H K) : ACalls tP znL [t0,t1,t2] H K:=
 zax (M:=zfF) Try.func85 (c:=zrr) (by kernel_rfl) (fun hs=>Eq.mpr (by kernel_rfl) (h hs))
def zNN (_ : Nat) : List Bool:=[]
noncomputable def zNO : Code:=Try.f86.body.getD .skip
def zyE (t0 t1 : AV) (H : zaa) (K : Kt) : Prop:=
 zaF t0 H fun t2 H=>
 zaF t1 H fun t3 H=>
 zaf 0 t2 fun t5=>
 zae false 1 t5 H fun t6=>
 zad .eql false t6 (.int .i64 5) fun t7=>
 zab t7 true H (fun K'=>zaf 1 t2 (K' · H)) fun t9 H=>
 zab t7 true H (fun K'=>zae false 1 t9 H (K' · H)) fun t10 H=>
 zab t7 true H (fun K'=>zae false 1 t3 H (K' · H)) fun t11 H=>
 zab t7 true H (fun K'=>zad .eql false t10 t11 (K' · H)) fun t12 H=>
 zah t7 t12 (.bool false) fun t13=>
 zab t13 false H (fun K'=>zaf 2 t2 (K' · H)) fun t15 H=>
 zab t13 false H (fun K'=>zae false 1 t15 H (K' · H)) fun t16 H=>
 zab t13 false H (fun K'=>zcN ziv [t3] (K' · H)) fun t17 H=>
 zab t13 false H (fun K'=>ACalls tP zfc [t16,t17] H K') fun t18 H=>
 zah t13 (.bool true) t18 fun t19=>
 K t19 H
theorem zNP {t0 t1 : AV} {H : zaa} {K : Kt} (h : HSc H → zyE t0 t1 H K) : ACalls tP ziR [t0,t1] H K:=
 zax (M:=zNN) Try.func86 (c:=zNO) (by kernel_rfl) (fun hs=>Eq.mpr (by kernel_rfl) (h hs))
def zDX (_ : Nat) : List Bool:=[]
noncomputable def zDY : Code:=Try.f103.body.getD .skip
def zu4 (t0 t1 : AV) (H : zaa) (K : Kt) : Prop:=
 zaF t0 H fun t2 H=>
 zae true 3 t2 H fun t4=>
 zae false 1 t1 H fun t5=>
 ACalls tP ziR [t4,t5] H fun t6 H=>
 K t6 H
theorem zDZ {t0 t1 : AV} {H : zaa} {K : Kt} (h : HSc H → zu4 t0 t1 H K) : ACalls tP ziv [t0,t1] H K:=
 zax (M:=zDX) Try.func103 (c:=zDY) (by kernel_rfl) (fun hs=>Eq.mpr (by kernel_rfl) (h hs))
def zlN : Nat → List Bool
 | 4=>rl false [3,1,3,1,50]
 | _=>[]
noncomputable def zrb : Code:=Try.f78.body.getD .skip
noncomputable def zM3 : List ResultVar:=Try.f78.results.toList
def zlO (t3 t7 : AV) : List AV:=ux 3 (t3 :: ux 3 (t7 :: ux 50 []))
def zM1 : List Bool:=zlN 4
noncomputable def zMZ : Code:=zan [1,1,0,1,0,0] zrb
def zMY (K : Kt) : AExit → List AV → zaa → Prop:=zao tP zlN [1,1,0,1,0] zrb (zau tP zM3 K)
def zyp (t3 t7 : AV) (H : zaa) (K : Kt) : Prop:=ALoop tP zMZ (zMY K) (zlO t3 t7) H
def zgw (t3 t7 : AV) (H : zaa) (K : Kt) (Kb4 : Lt) : Prop:=
 zaf 2 t3 fun t25=>
 zae false 1 t25 H fun t26=>
 zaj 1 t26 fun t27=>
 zad .lss false t7 t27 fun t28=>
 zag t28
 (zaf 2 t3 fun t31=>
 zae false 1 t31 H fun t32=>
 zai 3 t32 t7 fun t34=>
 zaf 0 t34 fun t35=>
 zae false 1 t35 H fun t36=>
 zad .neq false t36 (.int .i64 4) fun t37=>
 zab t37 false H (fun K'=>zaf 2 t3 (K' · H)) fun t39 H=>
 zab t37 false H (fun K'=>zae false 1 t39 H (K' · H)) fun t40 H=>
 zab t37 false H (fun K'=>K' t7 H) fun t41 H=>
 zab t37 false H (fun K'=>zai 3 t40 t41 (K' · H)) fun t42 H=>
 zab t37 false H (fun K'=>zaf 1 t42 (K' · H)) fun t43 H=>
 zab t37 false H (fun K'=>zae false 1 t43 H (K' · H)) fun t44 H=>
 zab t37 false H (fun K'=>K' t7 H) fun t45 H=>
 zab t37 false H (fun K'=>zad .neq false t44 t45 (K' · H)) fun t46 H=>
 zah t37 (.bool true) t46 fun t47=>
 zab t47 false H (fun K'=>zaf 2 t3 (K' · H)) fun t49 H=>
 zab t47 false H (fun K'=>zae false 1 t49 H (K' · H)) fun t50 H=>
 zab t47 false H (fun K'=>K' t7 H) fun t51 H=>
 zab t47 false H (fun K'=>zai 3 t50 t51 (K' · H)) fun t52 H=>
 zab t47 false H (fun K'=>zaf 2 t52 (K' · H)) fun t53 H=>
 zab t47 false H (fun K'=>zae false 1 t53 H (K' · H)) fun t54 H=>
 zab t47 false H (fun K'=>zaj 1 t54 (K' · H)) fun t55 H=>
 zab t47 false H (fun K'=>zad .gtr false t55 (.int .i64 0) (K' · H)) fun t56 H=>
 zah t47 (.bool true) t56 fun t57=>
 zag t57
 (K (.bool false) H)
 (zad .add false t7 (.int .i64 1) fun t30=>
 Kb4 (zlO t3 t30) H))
 (K (.bool true) H)
def zyo (t0 t1 t2 : AV) (H : zaa) (K : Kt) : Prop:=
 zaF t0 H fun t3 H=>
 zaf 0 t3 fun t8=>
 zae false 1 t8 H fun t9=>
 zad .neq false t9 (.int .i64 5) fun t10=>
 zab t10 false H (fun K'=>zaf 1 t3 (K' · H)) fun t12 H=>
 zab t10 false H (fun K'=>zae false 1 t12 H (K' · H)) fun t13 H=>
 zab t10 false H (fun K'=>K' t1 H) fun t14 H=>
 zab t10 false H (fun K'=>zad .neq false t13 t14 (K' · H)) fun t15 H=>
 zah t10 (.bool true) t15 fun t16=>
 zab t16 false H (fun K'=>zaf 2 t3 (K' · H)) fun t18 H=>
 zab t16 false H (fun K'=>zae false 1 t18 H (K' · H)) fun t19 H=>
 zab t16 false H (fun K'=>zaj 1 t19 (K' · H)) fun t20 H=>
 zab t16 false H (fun K'=>K' t2 H) fun t21 H=>
 zab t16 false H (fun K'=>zad .neq false t20 t21 (K' · H)) fun t22 H=>
 zah t16 (.bool true) t22 fun t23=>
 zag t23
 (K (.bool false) H)
 (zyp t3 (.int .i64 0) H K)
theorem zM0 {t3 t7 : AV} {H : zaa} {K : Kt} (Inv : Nat → AV → zaa → Prop) (n : Nat) (h0 : HSc H → Inv n t7 H)
  (round : Rd1 (fun t7=>zlO t3 t7) (fun t7=>fun H Kb4=>zgw t3 t7 H K Kb4) H Inv) : zyp t3 t7 H K:=
 lp1 (M:=zlN) zM1 t7 (by kernel_rfl) Inv n h0 round
theorem zM2 {t0 t1 t2 : AV} {H : zaa} {K : Kt} (h : HSc H → zyo t0 t1 t2 H K) : ACalls tP znJ [t0,t1,t2] H K:=
 zax (M:=zlN) Try.func78 (c:=zrb) (by kernel_rfl) (fun hs=>Eq.mpr (by kernel_rfl) (h hs))
end Go.Proofs.Ytkdmpbhbmmhijaa
