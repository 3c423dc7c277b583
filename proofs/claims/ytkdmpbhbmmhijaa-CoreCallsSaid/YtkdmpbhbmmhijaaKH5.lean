import Derived.Test.YtkdmpbhbmmhijaaKNum
import Derived.Test.YtkdmpbhbmmhijaaProg
import Derived.KernelRfl
import Derived.Test.YtkdmpbhbmmhijaaAbsB
import Derived.Test.YtkdmpbhbmmhijaaKB4
import Derived.Test.YtkdmpbhbmmhijaaKGT
set_option linter.unusedSimpArgs false
set_option linter.unusedVariables false
namespace Go.Proofs.Ytkdmpbhbmmhijaa
open Go Go.Abs
set_option maxRecDepth 100000
def zPn (_ : Nat) : List Bool:=[]
noncomputable def zPo : Code:=Try.f11.body.getD .skip
def zq9 (t0 : AV) (H : zaa) (K : Kt) : Prop:=
 zaF t0 H fun t1 H=>
 zae true 4 t1 H fun t3=>
 ACalls tP zng [t3] H fun t4 H=>
 aUn .not t4 fun t5=>
 zag t5
 (K (.bool true) H)
 (zac H (fun K'=>zak true 4 t1 H (K' · H)) fun t6=>
 zaw H (fun H K'=>ACalls tP ziH [t6] H K') fun t7=>
 zac H (fun K'=>zak true 4 t1 H (K' · H)) fun t8=>
 zaw H (fun H K'=>ACalls tP ziI [t8] H K') fun t9=>
 zaw H (fun H K'=>ACalls tP ziG [t7,t9] H K') fun t10=>
 zac H (fun K'=>K' t10 H) fun t11=>
 zab t11 true H (fun K'=>zac H (fun K''=>zak true 4 t1 H (K'' · H)) (K' · H)) fun t12 H=>
 zab t11 true H (fun K'=>zaw H (fun H K''=>ACalls tP ziJ [t12] H K'') (K' · H)) fun t13 H=>
 zab t11 true H (fun K'=>zac H (fun K''=>zak true 4 t1 H (K'' · H)) (K' · H)) fun t14 H=>
 zab t11 true H (fun K'=>zaw H (fun H K''=>ACalls tP znp [t14] H K'') (K' · H)) fun t15 H=>
 zab t11 true H (fun K'=>zaw H (fun H K''=>ACalls tP ziG [t13,t15] H K'') (K' · H)) fun t16 H=>
 zac H (fun K'=>zah t11 t16 (.bool false) (K' · H)) fun t17=>
 zac H (fun K'=>K' t17 H) fun t18=>
 zab t18 true H (fun K'=>zaw H (fun H K''=>ACalls tP znm [] H K'') (K' · H)) fun t19 H=>
 zab t18 true H (fun K'=>zaw H (fun H K''=>ACalls tP ziJ [t19] H K'') (K' · H)) fun t20 H=>
 zab t18 true H (fun K'=>zac H (fun K''=>zaj 1 t20 (K'' · H)) (K' · H)) fun t21 H=>
 zab t18 true H (fun K'=>zac H (fun K''=>zad .eql false t21 (.int .i64 1) (K'' · H)) (K' · H)) fun t22 H=>
 zac H (fun K'=>zah t18 t22 (.bool false) (K' · H)) fun t23=>
 zac H (fun K'=>K' t23 H) fun t2=>
 K t2 H)
theorem zPp {t0 : AV} {H : zaa} {K : Kt} (h : HSc H → zq9 t0 H K) : ACalls tP ztC [t0] H K:=
 zax (M:=zPn) Try.func11 (c:=zPo) (by kernel_rfl) (fun hs=>Eq.mpr (by kernel_rfl) (h hs))
def zki : Nat → List Bool
 | 4=>rl false [0,2,10,2,13]
 | _=>[]
noncomputable def zpw : Code:=Try.f33.body.getD .skip
noncomputable def zHv : List ResultVar:=Try.f33.results.toList
def zkj (t0 t1 t12 t13 : AV) : List AV:=t0 :: t1 :: ux 10 (t12 :: t13 :: ux 13 [])
def zHt : List Bool:=zki 4
noncomputable def zHr : Code:=zan [1,1,0,1,0,0] zpw
def zHq (K : Kt) : AExit → List AV → zaa → Prop:=zao tP zki [1,1,0,1,0] zpw (zau tP zHv K)
def zv4 (t0 t1 t12 t13 : AV) (H : zaa) (K : Kt) : Prop:=ALoop tP zHr (zHq K) (zkj t0 t1 t12 t13) H
def zpv (t0 t1 t12 t13 : AV) (H : zaa) (K : Kt) (Kb4 : Lt) : Prop:=
 zad .lss false t13 t12 fun t14=>
 zag t14
 (zac H (fun K'=>K' t0 H) fun t16=>
 zac H (fun K'=>K' t13 H) fun t17=>
 zac H (fun K'=>zai 1 t16 t17 (K' · H)) fun t18=>
 zac H (fun K'=>zak false 1 t18 H (K' · H)) fun t19=>
 zac H (fun K'=>K' t1 H) fun t20=>
 zac H (fun K'=>K' t13 H) fun t21=>
 zac H (fun K'=>zai 1 t20 t21 (K' · H)) fun t22=>
 zac H (fun K'=>zak false 1 t22 H (K' · H)) fun t23=>
 zaw H (fun H K'=>ACalls tP znn [t19,t23] H K') fun t24=>
 zac H (fun K'=>aUn .not t24 (K' · H)) fun t25=>
 zag t25
 (K (.bool false) H)
 (zad .add false t13 (.int .i64 1) fun t26=>
 Kb4 (zkj t0 t1 t12 t26) H))
 (K (.bool true) H)
def zv3 (t0 t1 : AV) (H : zaa) (K : Kt) : Prop:=
 zaj 1 t0 fun t7=>
 zaj 1 t1 fun t9=>
 zad .neq false t7 t9 fun t10=>
 zag t10
 (K (.bool false) H)
 (zaj 1 t0 fun t12=>
 zv4 t0 t1 t12 (.int .i64 0) H K)
theorem zHs {t0 t1 t12 t13 : AV} {H : zaa} {K : Kt} (Inv : Nat → AV → zaa → Prop) (n : Nat) (h0 : HSc H → Inv n t13 H)
  (round : Rd1 (fun t13=>zkj t0 t1 t12 t13) (fun t13=>fun H Kb4=>zpv t0 t1 t12 t13 H K Kb4) H Inv) : zv4 t0 t1 t12 t13 H K:=
 lp1 (M:=zki) zHt t13 (by kernel_rfl) Inv n h0 round
theorem zHu {t0 t1 : AV} {H : zaa} {K : Kt} (h : HSc H → zv3 t0 t1 H K) : ACalls tP ziG [t0,t1] H K:=
 zax (M:=zki) Try.func33 (c:=zpw) (by kernel_rfl) (fun hs=>Eq.mpr (by kernel_rfl) (h hs))
def zdY : Nat → List Bool
 | 5=>rl false [1,1,1,1,15,2,56]
 | 11=>rl false [3,1,1,1,28,3,40]
 | 18=>rl false [8,1,54,3,11]
 | _=>[]
noncomputable def zfp : Code:=Try.f34.body.getD .skip
noncomputable def zpC : List ResultVar:=Try.f34.results.toList
def zkl (t1 t3 t19 t20 : AV) : List AV:=ux 1 (t1 :: ux 1 (t3 :: ux 15 (t19 :: t20 :: ux 56 [])))
def zHH : List Bool:=zdY 5
noncomputable def zHB : Code:=zan [1,1,1,0,1,0,0] zfp
def zHy (K : Kt) : AExit → List AV → zaa → Prop:=zao tP zdY [1,1,1,0,1,0] zfp (zau tP zpC K)
def zpB (t1 t3 t19 t20 : AV) (H : zaa) (K : Kt) : Prop:=ALoop tP zHB (zHy K) (zkl t1 t3 t19 t20) H
def zgh (t3 t5 t34 t35 t36 : AV) : List AV:=ux 3 (t3 :: ux 1 (t5 :: ux 28 (t34 :: t35 :: t36 :: ux 40 [])))
def zHF : List Bool:=zdY 11
noncomputable def zHz : Code:=zan [1,1,1,1,1,0,1,0,0] zfp
def zHw (K : Kt) : AExit → List AV → zaa → Prop:=zao tP zdY [1,1,1,1,1,0,1,0] zfp (zau tP zpC K)
def zpz (t3 t5 t34 t35 t36 : AV) (H : zaa) (K : Kt) : Prop:=ALoop tP zHz (zHw K) (zgh t3 t5 t34 t35 t36) H
def zkm (t3 t5 t34 t35 t36 : AV) (H : zaa) (K : Kt) (Kb11 : Lt) : Prop:=
 zad .add false t36 (.int .i64 1) fun t59=>
 Kb11 (zgh t3 t5 t34 t35 t59) H
def zhr (t3 t5 t34 t35 t36 : AV) (H : zaa) (K : Kt) (Kb11 : Lt) : Prop:=
 zkm t3 t5 t34 t35 t36 H K Kb11
def zkk (t8 t63 t64 t65 : AV) : List AV:=ux 8 (t8 :: ux 54 (t63 :: t64 :: t65 :: ux 11 []))
def zHG : List Bool:=zdY 18
noncomputable def zHA : Code:=zan [1,1,1,1,1,1,1,0,1,0,0] zfp
def zHx (K : Kt) : AExit → List AV → zaa → Prop:=zao tP zdY [1,1,1,1,1,1,1,0,1,0] zfp (zau tP zpC K)
def zpA (t8 t63 t64 t65 : AV) (H : zaa) (K : Kt) : Prop:=ALoop tP zHA (zHx K) (zkk t8 t63 t64 t65) H
def zpx (t8 t63 t64 t65 : AV) (H : zaa) (K : Kt) (Kb18 : Lt) : Prop:=
 zad .lss false t65 t64 fun t66=>
 zag t66
 (zai 1 t63 t65 fun t68=>
 zae false 1 t68 H fun t69=>
 ACalls tP ziL [t69] H fun t73 H=>
 zai 1 t8 t65 fun t74=>
 zar 1 t74 t73 H fun H=>
 zad .add false t65 (.int .i64 1) fun t75=>
 Kb18 (zkk t8 t63 t64 t75) H)
 (K t8 H)
def zhq (t3 t5 t34 t35 t36 : AV) (H : zaa) (K : Kt) (Kb11 : Lt) : Prop:=
 zad .lss false t36 t35 fun t37=>
 zag t37
 (zai 8 t34 t36 fun t39=>
 zae true 8 t39 H fun t40=>
 zaA [(.int .i64 0),(.int .i64 0),.snil,.snil,.snil,(.int .i64 0),(.int .i64 0),.snil] H fun t7 H=>
 zar 8 t7 t40 H fun H=>
 zaf 0 t7 fun t41=>
 zae false 1 t41 H fun t42=>
 zad .eql false t42 (.int .i64 12) fun t43=>
 zab t43 false H (fun K'=>zaf 0 t7 (K' · H)) fun t45 H=>
 zab t43 false H (fun K'=>zae false 1 t45 H (K' · H)) fun t46 H=>
 zab t43 false H (fun K'=>zad .eql false t46 (.int .i64 11) (K' · H)) fun t47 H=>
 zah t43 (.bool true) t47 fun t48=>
 zag t48
 (zac H (fun K'=>K' t3 H) fun t49=>
 zac H (fun K'=>K' t5 H) fun t50=>
 zac H (fun K'=>K' t36 H) fun t51=>
 zac H (fun K'=>zai 1 t50 t51 (K' · H)) fun t52=>
 zac H (fun K'=>zak false 1 t52 H (K' · H)) fun t53=>
 zac H (fun K'=>zai 1 t49 t53 (K' · H)) fun t54=>
 zac H (fun K'=>zak false 1 t54 H (K' · H)) fun t55=>
 zac H (fun K'=>zaf 1 t7 (K' · H)) fun t56=>
 zac H (fun K'=>zak false 1 t56 H (K' · H)) fun t57=>
 zac H (fun K'=>zai 1 t55 t57 (K' · H)) fun t58=>
 zar 1 t58 (.bool true) H fun H=>
 zhr t3 t5 t34 t35 t36 H K Kb11)
 (zhr t3 t5 t34 t35 t36 H K Kb11))
 (zaj 1 t3 fun t61=>
 zaN 24 [.snil] t61 t61 H fun t62 H=>
 zaj 1 t3 fun t64=>
 zpA t62 t3 t64 (.int .i64 0) H K)
def zpy (t1 t3 t19 t20 : AV) (H : zaa) (K : Kt) (Kb5 : Lt) : Prop:=
 zad .lss false t20 t19 fun t21=>
 zag t21
 (zaf 1 t1 fun t25=>
 zae false 1 t25 H fun t26=>
 zaj 1 t26 fun t27=>
 zaN 1 [(.bool false)] t27 t27 H fun t28 H=>
 zai 1 t3 t20 fun t29=>
 zar 1 t29 t28 H fun H=>
 zad .add false t20 (.int .i64 1) fun t30=>
 Kb5 (zkl t1 t3 t19 t30) H)
 (zae true 4 t1 H fun t31=>
 ACalls tP znB [t31] H fun t32 H=>
 zaf 3 t1 fun t33=>
 zae false 1 t33 H fun t34=>
 zaj 1 t34 fun t35=>
 zpz t3 t32 t34 t35 (.int .i64 0) H K)
def zv5 (t0 : AV) (H : zaa) (K : Kt) : Prop:=
 zaF t0 H fun t1 H=>
 zae true 4 t1 H fun t11=>
 ACalls tP ziz [t11] H fun t12 H=>
 aUn .not t12 fun t13=>
 zag t13
 (K .snil H)
 (zaf 1 t1 fun t14=>
 zae false 1 t14 H fun t15=>
 zaj 1 t15 fun t16=>
 zaN 24 [.snil] t16 t16 H fun t17 H=>
 zaj 1 t17 fun t19=>
 zpB t1 t17 t19 (.int .i64 0) H K)
theorem zHD {t8 t63 t64 t65 : AV} {H : zaa} {K : Kt} (Inv : Nat → AV → zaa → Prop) (n : Nat) (h0 : HSc H → Inv n t65 H)
  (round : Rd1 (fun t65=>zkk t8 t63 t64 t65) (fun t65=>fun H Kb18=>zpx t8 t63 t64 t65 H K Kb18) H Inv) : zpA t8 t63 t64 t65 H K:=
 lp1 (M:=zdY) zHG t65 (by kernel_rfl) Inv n h0 round
theorem zHC {t3 t5 t34 t35 t36 : AV} {H : zaa} {K : Kt} (Inv : Nat → AV → zaa → Prop) (n : Nat) (h0 : HSc H → Inv n t36 H)
  (round : Rd1 (fun t36=>zgh t3 t5 t34 t35 t36) (fun t36=>fun H Kb11=>zhq t3 t5 t34 t35 t36 H K Kb11) H Inv) : zpz t3 t5 t34 t35 t36 H K:=
 lp1 (M:=zdY) zHF t36 (by kernel_rfl) Inv n h0 round
theorem zHE {t1 t3 t19 t20 : AV} {H : zaa} {K : Kt} (Inv : Nat → AV → zaa → Prop) (n : Nat) (h0 : HSc H → Inv n t20 H)
  (round : Rd1 (fun t20=>zkl t1 t3 t19 t20) (fun t20=>fun H Kb5=>zpy t1 t3 t19 t20 H K Kb5) H Inv) : zpB t1 t3 t19 t20 H K:=
 lp1 (M:=zdY) zHH t20 (by kernel_rfl) Inv n h0 round
theorem zHI {t0 : AV} {H : zaa} {K : Kt} (h : HSc H → zv5 t0 H K) : ACalls tP ziH [t0] H K:=
 zax (M:=zdY) Try.func34 (c:=zfp) (by kernel_rfl) (fun hs=>Eq.mpr (by kernel_rfl) (h hs))
def zfq : Nat → List Bool
 | 6=>rl false [1,1,1,2,11,2,42]
 | 10=>rl false [1,1,1,4,9,2,7,3,32]
 | _=>[]
noncomputable def zpE : Code:=Try.f35.body.getD .skip
noncomputable def zHP : List ResultVar:=Try.f35.results.toList
def zkn (t1 t3 t4 t16 t17 : AV) : List AV:=ux 1 (t1 :: ux 1 (t3 :: t4 :: ux 11 (t16 :: t17 :: ux 42 [])))
def zwa : List Bool:=zfq 6
noncomputable def zpF : Code:=zan [1,1,1,1,0,1,0,0] zpE
def zv8 (K : Kt) : AExit → List AV → zaa → Prop:=zao tP zfq [1,1,1,1,0,1,0] zpE (zau tP zHP K)
def zhu (t1 t3 t4 t16 t17 : AV) (H : zaa) (K : Kt) : Prop:=ALoop tP zpF (zv8 K) (zkn t1 t3 t4 t16 t17) H
def zhs (t1 t3 t4 t5 t6 t16 t17 t25 t26 t27 : AV) : List AV:=ux 1 (t1 :: ux 1 (t3 :: t4 :: t5 :: t6 :: ux 9 (t16 :: t17 :: ux 7 (t25 :: t26 :: t27 :: ux 32 []))))
def zHN : List Bool:=zfq 10
noncomputable def zHK : Code:=zan [1,1,0,0,1,1,0,1,0,0] zpF
def zHJ (K : Kt) (Kb6 : Lt) : AExit → List AV → zaa → Prop:=zao tP zfq [1,1,0,0,1,1,0,1,0] zpF (zbj zwa Kb6 (zv8 K))
def zv9 (t1 t3 t4 t5 t6 t16 t17 t25 t26 t27 : AV) (H : zaa) (K : Kt) (Kb6 : Lt) : Prop:=ALoop tP zHK (zHJ K Kb6) (zhs t1 t3 t4 t5 t6 t16 t17 t25 t26 t27) H
def zht (t1 t3 t4 t5 t6 t16 t17 t25 t26 t27 : AV) (H : zaa) (K : Kt) (Kb6 : Lt) (Kb10 : Lt) : Prop:=
 zad .add false t27 (.int .i64 1) fun t52=>
 Kb10 (zhs t1 t3 t4 t5 t6 t16 t17 t25 t26 t52) H
def zgj (t1 t3 t4 t5 t6 t16 t17 t25 t26 t27 : AV) (H : zaa) (K : Kt) (Kb6 : Lt) (Kb10 : Lt) : Prop:=
 zht t1 t3 t4 t5 t6 t16 t17 t25 t26 t27 H K Kb6 Kb10
def zgi (t1 t3 t4 t5 t6 t16 t17 t25 t26 t27 : AV) (H : zaa) (K : Kt) (Kb6 : Lt) (Kb10 : Lt) : Prop:=
 zad .lss false t27 t26 fun t28=>
 zag t28
 (zai 8 t25 t27 fun t30=>
 zae true 8 t30 H fun t31=>
 zaA [(.int .i64 0),(.int .i64 0),.snil,.snil,.snil,(.int .i64 0),(.int .i64 0),.snil] H fun t8 H=>
 zar 8 t8 t31 H fun H=>
 zai 1 t3 t27 fun t34=>
 zae false 1 t34 H fun t35=>
 zad .eql false t35 t5 fun t37=>
 zab t37 true H (fun K'=>zaf 0 t8 (K' · H)) fun t39 H=>
 zab t37 true H (fun K'=>zae false 1 t39 H (K' · H)) fun t40 H=>
 zab t37 true H (fun K'=>zad .eql false t40 (.int .i64 12) (K' · H)) fun t41 H=>
 zab t37 true H (fun K'=>K' t41 H) fun t42 H=>
 zab t42 false H (fun K'=>zaf 0 t8 (K' · H)) fun t43 H=>
 zab t42 false H (fun K'=>zae false 1 t43 H (K' · H)) fun t44 H=>
 zab t42 false H (fun K'=>zad .eql false t44 (.int .i64 11) (K' · H)) fun t45 H=>
 zab t37 true H (fun K'=>zah t42 (.bool true) t45 (K' · H)) fun t46 H=>
 zah t37 t46 (.bool false) fun t47=>
 zag t47
 (zaf 1 t8 fun t49=>
 zae false 1 t49 H fun t50=>
 zai 1 t6 t50 fun t51=>
 zar 1 t51 (.bool true) H fun H=>
 zgj t1 t3 t4 t5 t6 t16 t17 t25 t26 t27 H K Kb6 Kb10)
 (zgj t1 t3 t4 t5 t6 t16 t17 t25 t26 t27 H K Kb6 Kb10))
 (ACalls tP znD [t6] H fun t55 H=>
 zav 1 [.snil] 1 [(0,t55)] fun t56=>
 zaC za4 1 24 t4 t56 H fun t57 H=>
 zad .add false t17 (.int .i64 1) fun t58=>
 Kb6 (zkn t1 t3 t57 t16 t58) H)
def zpD (t1 t3 t4 t16 t17 : AV) (H : zaa) (K : Kt) (Kb6 : Lt) : Prop:=
 zad .lss false t17 t16 fun t18=>
 zag t18
 (zaf 1 t1 fun t20=>
 zae false 1 t20 H fun t21=>
 zaj 1 t21 fun t22=>
 zaN 1 [(.bool false)] t22 t22 H fun t23 H=>
 zaf 3 t1 fun t24=>
 zae false 1 t24 H fun t25=>
 zaj 1 t25 fun t26=>
 zv9 t1 t3 t4 t17 t23 t16 t17 t25 t26 (.int .i64 0) H K Kb6)
 (K t4 H)
def zv7 (t0 : AV) (H : zaa) (K : Kt) : Prop:=
 zaF t0 H fun t1 H=>
 zae true 4 t1 H fun t9=>
 ACalls tP zg2 [t9] H fun t10 H=>
 aUn .not t10 fun t11=>
 zag t11
 (K .snil H)
 (zae true 4 t1 H fun t12=>
 ACalls tP zno [t12] H fun t13 H=>
 zaf 1 t1 fun t14=>
 zae false 1 t14 H fun t15=>
 zaj 1 t15 fun t16=>
 zhu t1 t13 .snil t16 (.int .i64 0) H K)
theorem zHL {t1 t3 t4 t5 t6 t16 t17 t25 t26 t27 : AV} {H : zaa} {K : Kt} {Kb6 : Lt} (Inv : Nat → AV → zaa → Prop) (n : Nat) (h0 : HSc H → Inv n t27 H)
  (round : Rd1 (fun t27=>zhs t1 t3 t4 t5 t6 t16 t17 t25 t26 t27) (fun t27=>fun H Kb10=>zgi t1 t3 t4 t5 t6 t16 t17 t25 t26 t27 H K Kb6 Kb10) H Inv) : zv9 t1 t3 t4 t5 t6 t16 t17 t25 t26 t27 H K Kb6:=
 lp1 (M:=zfq) zHN t27 (by kernel_rfl) Inv n h0 round
theorem zHM {t1 t3 t4 t16 t17 : AV} {H : zaa} {K : Kt} (Inv : Nat → AV → AV → zaa → Prop) (n : Nat) (h0 : HSc H → Inv n t4 t17 H)
  (round : Rd2 (fun t4=>fun t17=>zkn t1 t3 t4 t16 t17) (fun t4=>fun t17=>fun H Kb6=>zpD t1 t3 t4 t16 t17 H K Kb6) H Inv) : zhu t1 t3 t4 t16 t17 H K:=
 lp2 (M:=zfq) zwa t4 t17 (by kernel_rfl) Inv n h0 round
theorem zHO {t0 : AV} {H : zaa} {K : Kt} (h : HSc H → zv7 t0 H K) : ACalls tP ziI [t0] H K:=
 zax (M:=zfq) Try.func35 (c:=zpE) (by kernel_rfl) (fun hs=>Eq.mpr (by kernel_rfl) (h hs))
def zdZ : Nat → List Bool
 | 4=>rl false [3,2,14,2,82]
 | 11=>rl false [3,2,1,3,94]
 | 17=>rl false [3,2,1,5,36,2,54]
 | _=>[]
noncomputable def zhv : Code:=Try.f36.body.getD .skip
noncomputable def zwg : List ResultVar:=Try.f36.results.toList
def zkp (t3 t4 t19 t20 : AV) : List AV:=ux 3 (t3 :: t4 :: ux 14 (t19 :: t20 :: ux 82 []))
def zHY : List Bool:=zdZ 4
noncomputable def zHT : Code:=zan [1,1,1,0,1,0,0] zhv
def zHR (K : Kt) : AExit → List AV → zaa → Prop:=zao tP zdZ [1,1,1,0,1,0] zhv (zau tP zwg K)
def zpI (t3 t4 t19 t20 : AV) (H : zaa) (K : Kt) : Prop:=ALoop tP zHT (zHR K) (zkp t3 t4 t19 t20) H
def zgk (t3 t4 t6 t7 t8 : AV) : List AV:=ux 3 (t3 :: t4 :: ux 1 (t6 :: t7 :: t8 :: ux 94 []))
def zwf : List Bool:=zdZ 11
noncomputable def zpH : Code:=zan [1,1,1,1,1,1,0,1,0,0] zhv
def zwd (K : Kt) : AExit → List AV → zaa → Prop:=zao tP zdZ [1,1,1,1,1,1,0,1,0] zhv (zau tP zwg K)
def zgn (t3 t4 t6 t7 t8 : AV) (H : zaa) (K : Kt) : Prop:=ALoop tP zpH (zwd K) (zgk t3 t4 t6 t7 t8) H
def zkq (t3 t4 t6 t7 t8 : AV) (H : zaa) (K : Kt) (Kb11 : Lt) : Prop:=
 zad .add false t8 (.int .i64 1) fun t38=>
 Kb11 (zgk t3 t4 t6 t7 t38) H
def zgl (t3 t4 t6 t7 t8 : AV) (H : zaa) (K : Kt) (Kb11 : Lt) : Prop:=
 zkq t3 t4 t6 t7 t8 H K Kb11
def zhw (t3 t4 t6 t7 t8 t9 t10 t47 t48 : AV) : List AV:=ux 3 (t3 :: t4 :: ux 1 (t6 :: t7 :: t8 :: t9 :: t10 :: ux 36 (t47 :: t48 :: ux 54 [])))
def zHX : List Bool:=zdZ 17
noncomputable def zHS : Code:=zan [1,0,0,1,1,1,0,1,0,0] zpH
def zHQ (K : Kt) (Kb11 : Lt) : AExit → List AV → zaa → Prop:=zao tP zdZ [1,0,0,1,1,1,0,1,0] zpH (zbj zwf Kb11 (zwd K))
def zwe (t3 t4 t6 t7 t8 t9 t10 t47 t48 : AV) (H : zaa) (K : Kt) (Kb11 : Lt) : Prop:=ALoop tP zHS (zHQ K Kb11) (zhw t3 t4 t6 t7 t8 t9 t10 t47 t48) H
def zhx (t3 t4 t6 t7 t8 t9 t10 t47 t48 : AV) (H : zaa) (K : Kt) (Kb11 : Lt) (Kb17 : Lt) : Prop:=
 zad .add false t48 (.int .i64 1) fun t91=>
 Kb17 (zhw t3 t4 t6 t7 t8 t9 t10 t47 t91) H
def zgm (t3 t4 t6 t7 t8 t9 t10 t47 t48 : AV) (H : zaa) (K : Kt) (Kb11 : Lt) (Kb17 : Lt) : Prop:=
 zhx t3 t4 t6 t7 t8 t9 t10 t47 t48 H K Kb11 Kb17
def zfr (t3 t4 t6 t7 t8 t9 t10 t47 t48 : AV) (H : zaa) (K : Kt) (Kb11 : Lt) (Kb17 : Lt) : Prop:=
 zad .lss false t48 t47 fun t49=>
 zag t49
 (zai 1 t4 t8 fun t55=>
 zae false 1 t55 H fun t56=>
 zai 1 t56 t48 fun t58=>
 zae false 1 t58 H fun t59=>
 zab t59 true H (fun K'=>K' t4 H) fun t61 H=>
 zab t59 true H (fun K'=>K' t48 H) fun t62 H=>
 zab t59 true H (fun K'=>zai 1 t61 t62 (K' · H)) fun t63 H=>
 zab t59 true H (fun K'=>zae false 1 t63 H (K' · H)) fun t64 H=>
 zab t59 true H (fun K'=>K' t8 H) fun t65 H=>
 zab t59 true H (fun K'=>zai 1 t64 t65 (K' · H)) fun t66 H=>
 zab t59 true H (fun K'=>zae false 1 t66 H (K' · H)) fun t67 H=>
 zah t59 t67 (.bool false) fun t68=>
 zai 1 t10 t48 fun t69=>
 zar 1 t69 t68 H fun H=>
 zai 1 t4 t8 fun t72=>
 zae false 1 t72 H fun t73=>
 zai 1 t73 t48 fun t75=>
 zae false 1 t75 H fun t76=>
 zab t76 true H (fun K'=>K' t10 H) fun t78 H=>
 zab t76 true H (fun K'=>K' t48 H) fun t79 H=>
 zab t76 true H (fun K'=>zai 1 t78 t79 (K' · H)) fun t80 H=>
 zab t76 true H (fun K'=>zae false 1 t80 H (K' · H)) fun t81 H=>
 zab t76 true H (fun K'=>aUn .not t81 (K' · H)) fun t82 H=>
 zah t76 t82 (.bool false) fun t83=>
 zab t83 true H (fun K'=>K' t6 H) fun t85 H=>
 zab t83 true H (fun K'=>K' t48 H) fun t86 H=>
 zab t83 true H (fun K'=>zai 1 t85 t86 (K' · H)) fun t87 H=>
 zab t83 true H (fun K'=>zae false 1 t87 H (K' · H)) fun t88 H=>
 zab t83 true H (fun K'=>aUn .not t88 (K' · H)) fun t89 H=>
 zah t83 t89 (.bool false) fun t90=>
 zag t90
 (zgm t3 t4 t6 t7 t8 (.bool false) t10 t47 t48 H K Kb11 Kb17)
 (zgm t3 t4 t6 t7 t8 t9 t10 t47 t48 H K Kb11 Kb17))
 (zag t9
 (ACalls tP ziL [t10] H fun t94 H=>
 ACalls tP znC [t6,t94,(.bool true)] H fun t97 H=>
 zav 1 [.snil] 1 [(0,t94)] fun t100=>
 zaC za4 1 24 t7 t100 H fun t101 H=>
 zgl t3 t4 t6 t101 (.int .i64 (-1)) H K Kb11)
 (zgl t3 t4 t6 t7 t8 H K Kb11))
def zko (t3 t4 t6 t7 t8 : AV) (H : zaa) (K : Kt) (Kb11 : Lt) : Prop:=
 zaj 1 t3 fun t35=>
 zad .lss false t8 t35 fun t36=>
 zag t36
 (zai 1 t6 t8 fun t41=>
 zae false 1 t41 H fun t42=>
 zag t42
 (zgl t3 t4 t6 t7 t8 H K Kb11)
 (zaj 1 t3 fun t44=>
 zaN 1 [(.bool false)] t44 t44 H fun t45 H=>
 zaj 1 t3 fun t47=>
 zwe t3 t4 t6 t7 t8 (.bool true) t45 t47 (.int .i64 0) H K Kb11))
 (K t7 H)
def zpG (t3 t4 t19 t20 : AV) (H : zaa) (K : Kt) (Kb4 : Lt) : Prop:=
 zad .lss false t20 t19 fun t21=>
 zag t21
 (ACalls tP znE [t3,t20] H fun t27 H=>
 zai 1 t4 t20 fun t28=>
 zar 1 t28 t27 H fun H=>
 zad .add false t20 (.int .i64 1) fun t29=>
 Kb4 (zkp t3 t4 t19 t29) H)
 (zaj 1 t3 fun t31=>
 zaN 1 [(.bool false)] t31 t31 H fun t32 H=>
 zgn t3 t4 t32 .snil (.int .i64 0) H K)
def zwc (t0 : AV) (H : zaa) (K : Kt) : Prop:=
 zaF t0 H fun t1 H=>
 zae true 4 t1 H fun t13=>
 ACalls tP ziH [t13] H fun t14 H=>
 zaj 1 t14 fun t16=>
 zaN 24 [.snil] t16 t16 H fun t17 H=>
 zaj 1 t14 fun t19=>
 zpI t14 t17 t19 (.int .i64 0) H K
theorem zHV {t3 t4 t6 t7 t8 t9 t10 t47 t48 : AV} {H : zaa} {K : Kt} {Kb11 : Lt} (Inv : Nat → AV → AV → zaa → Prop) (n : Nat) (h0 : HSc H → Inv n t9 t48 H)
  (round : Rd2 (fun t9=>fun t48=>zhw t3 t4 t6 t7 t8 t9 t10 t47 t48) (fun t9=>fun t48=>fun H Kb17=>zfr t3 t4 t6 t7 t8 t9 t10 t47 t48 H K Kb11 Kb17) H Inv) : zwe t3 t4 t6 t7 t8 t9 t10 t47 t48 H K Kb11:=
 lp2 (M:=zdZ) zHX t9 t48 (by kernel_rfl) Inv n h0 round
theorem zHU {t3 t4 t6 t7 t8 : AV} {H : zaa} {K : Kt} (Inv : Nat → AV → AV → zaa → Prop) (n : Nat) (h0 : HSc H → Inv n t7 t8 H)
  (round : Rd2 (fun t7=>fun t8=>zgk t3 t4 t6 t7 t8) (fun t7=>fun t8=>fun H Kb11=>zko t3 t4 t6 t7 t8 H K Kb11) H Inv) : zgn t3 t4 t6 t7 t8 H K:=
 lp2 (M:=zdZ) zwf t7 t8 (by kernel_rfl) Inv n h0 round
theorem zHW {t3 t4 t19 t20 : AV} {H : zaa} {K : Kt} (Inv : Nat → AV → zaa → Prop) (n : Nat) (h0 : HSc H → Inv n t20 H)
  (round : Rd1 (fun t20=>zkp t3 t4 t19 t20) (fun t20=>fun H Kb4=>zpG t3 t4 t19 t20 H K Kb4) H Inv) : zpI t3 t4 t19 t20 H K:=
 lp1 (M:=zdZ) zHY t20 (by kernel_rfl) Inv n h0 round
theorem zHZ {t0 : AV} {H : zaa} {K : Kt} (h : HSc H → zwc t0 H K) : ACalls tP ziJ [t0] H K:=
 zax (M:=zdZ) Try.func36 (c:=zhv) (by kernel_rfl) (fun hs=>Eq.mpr (by kernel_rfl) (h hs))
def zH0 (_ : Nat) : List Bool:=[]
noncomputable def zH1 : Code:=Try.f37.body.getD .skip
def zwi (t0 : AV) (H : zaa) (K : Kt) : Prop:=
 zaF t0 H fun t1 H=>
 zae true 4 t1 H fun t3=>
 ACalls tP ziI [t3] H fun t4 H=>
 ACalls tP znF [t4] H fun t5 H=>
 K t5 H
theorem zH2 {t0 : AV} {H : zaa} {K : Kt} (h : HSc H → zwi t0 H K) : ACalls tP znp [t0] H K:=
 zax (M:=zH0) Try.func37 (c:=zH1) (by kernel_rfl) (fun hs=>Eq.mpr (by kernel_rfl) (h hs))
def zfy : Nat → List Bool
 | 300003=>rl false [0,1]
 | 4=>rl false [0,1,4,2,48]
 | 300006=>rl false [0,1]
 | 8=>rl false [0,1,4,2,28,3,17]
 | _=>[]
noncomputable def zqM : Code:=Try.f63.body.getD .skip
noncomputable def zLB : List ResultVar:=Try.f63.results.toList
def zlt (t0 t5 t6 : AV) : List AV:=t0 :: ux 4 (t5 :: t6 :: ux 48 [])
def zxK : List Bool:=zfy 4
noncomputable def zqN : Code:=zan [1,1,1,1,0,0,0] zqM
def zxH (K : Kt) : AExit → List AV → zaa → Prop:=zao tP zfy [1,1,1,1,0,0] zqM (zau tP zLB K)
def zxI (t0 t5 t6 : AV) (H : zaa) (K : Kt) : Prop:=ALoop tP zqN (zxH K) (zlt t0 t5 t6) H
def zhQ (t0 t5 t6 t35 t36 t37 : AV) : List AV:=t0 :: ux 4 (t5 :: t6 :: ux 28 (t35 :: t36 :: t37 :: ux 17 []))
def zLz : List Bool:=zfy 8
noncomputable def zLw : Code:=zan [1,0,1,1,1,0,0] zqN
def zLv (K : Kt) (Kb4 : Lt) : AExit → List AV → zaa → Prop:=zao tP zfy [1,0,1,1,1,0] zqN (zbj zxK Kb4 (zxH K))
def zxJ (t0 t5 t6 t35 t36 t37 : AV) (H : zaa) (K : Kt) (Kb4 : Lt) : Prop:=ALoop tP zLw (zLv K Kb4) (zhQ t0 t5 t6 t35 t36 t37) H
def zqO (t0 t5 t6 t35 t36 t37 : AV) (H : zaa) (K : Kt) (Kb4 : Lt) (Kb8 : Lt) : Prop:=
 zad .add false t37 (.int .i64 1) fun t53=>
 Kb8 (zhQ t0 t5 t6 t35 t36 t53) H
def zlu (t0 t5 t6 t35 t36 t37 : AV) (H : zaa) (K : Kt) (Kb4 : Lt) (Kb8 : Lt) : Prop:=
 zqO t0 t5 t6 t35 t36 t37 H K Kb4 Kb8
def zls (t0 t5 t6 t35 t36 t37 : AV) (H : zaa) (K : Kt) (Kb4 : Lt) (Kb8 : Lt) : Prop:=
 zad .lss false t37 t36 fun t38=>
 zag t38
 (zai 1 t35 t37 fun t39=>
 zae false 1 t39 H fun t40=>
 zai 1 t5 t40 fun t43=>
 zae false 1 t43 H fun t44=>
 aUn .not t44 fun t45=>
 zag t45
 (zai 1 t5 t40 fun t48=>
 zar 1 t48 (.bool true) H fun H=>
 zav 1 [(.int .i64 0)] 1 [(0,t40)] fun t51=>
 zaC zaQ 1 8 t6 t51 H fun t52 H=>
 zlu t0 t5 t52 t35 t36 t37 H K Kb4 Kb8)
 (zlu t0 t5 t6 t35 t36 t37 H K Kb4 Kb8))
 (Kb4 (zlt t0 t5 t6) H)
def zqL (t0 t5 t6 : AV) (H : zaa) (K : Kt) (Kb4 : Lt) : Prop:=
 zaj 1 t6 fun t19=>
 zad .gtr false t19 (.int .i64 0) fun t20=>
 zag t20
 (zaj 1 t6 fun t23=>
 zad .sub false t23 (.int .i64 1) fun t24=>
 zai 1 t6 t24 fun t25=>
 zae false 1 t25 H fun t26=>
 zaj 1 t6 fun t29=>
 zad .sub false t29 (.int .i64 1) fun t30=>
 ze2 1 t6 t30 H fun t31 H=>
 zai 1 t0 t26 fun t34=>
 zae false 1 t34 H fun t35=>
 zaj 1 t35 fun t36=>
 zxJ t0 t5 t31 t35 t36 (.int .i64 0) H K Kb4)
 (K t5 H)
def zxG (t0 t1 : AV) (H : zaa) (K : Kt) : Prop:=
 zaj 1 t0 fun t11=>
 zaN 1 [(.bool false)] t11 t11 H fun t12 H=>
 zai 1 t12 t1 fun t15=>
 zar 1 t15 (.bool true) H fun H=>
 zeX zaQ 1 1 [(0,t1)] H fun t17 H=>
 zxI t0 t12 t17 H K
theorem zLy {t0 t5 t6 t35 t36 t37 : AV} {H : zaa} {K : Kt} {Kb4 : Lt} (Inv : Nat → AV → AV → zaa → Prop) (n : Nat) (h0 : HSc H → Inv n t6 t37 H)
  (round : Rd2 (fun t6=>fun t37=>zhQ t0 t5 t6 t35 t36 t37) (fun t6=>fun t37=>fun H Kb8=>zls t0 t5 t6 t35 t36 t37 H K Kb4 Kb8) H Inv) : zxJ t0 t5 t6 t35 t36 t37 H K Kb4:=
 lp2 (M:=zfy) zLz t6 t37 (by kernel_rfl) Inv n h0 round
theorem zLx {t0 t5 t6 : AV} {H : zaa} {K : Kt} (Inv : Nat → AV → zaa → Prop) (n : Nat) (h0 : HSc H → Inv n t6 H)
  (round : Rd1 (fun t6=>zlt t0 t5 t6) (fun t6=>fun H Kb4=>zqL t0 t5 t6 H K Kb4) H Inv) : zxI t0 t5 t6 H K:=
 lp1 (M:=zfy) zxK t6 (by kernel_rfl) Inv n h0 round
theorem zLA {t0 t1 : AV} {H : zaa} {K : Kt} (h : HSc H → zxG t0 t1 H K) : ACalls tP znE [t0,t1] H K:=
 zax (M:=zfy) Try.func63 (c:=zqM) (by kernel_rfl) (fun hs=>Eq.mpr (by kernel_rfl) (h hs))
def zb1 : Nat → List Bool
 | 4=>rl false [0,1,2,3,156]
 | 300007=>rl false [0,1]
 | 9=>rl false [0,1,2,4,155]
 | 300011=>rl false [0,1]
 | 13=>rl false [0,1,2,4,51,3,101]
 | 21=>rl false [3,2,5,2,150]
 | 23=>rl false [3,2,5,4,148]
 | 29=>rl false [3,2,5,7,145]
 | 37=>rl false [3,2,5,2,1,2,130,3,14]
 | _=>[]
noncomputable def zhR : Code:=Try.f64.body.getD .skip
noncomputable def zxX : List ResultVar:=Try.f64.results.toList
def zlx (t0 t3 t4 t5 : AV) : List AV:=t0 :: ux 2 (t3 :: t4 :: t5 :: ux 156 [])
def zxV : List Bool:=zb1 4
noncomputable def zqV : Code:=zan [1,1,1,0,1,0,0] zhR
def zxM (K : Kt) : AExit → List AV → zaa → Prop:=zao tP zb1 [1,1,1,0,1,0] zhR (zau tP zxX K)
def zxS (t0 t3 t4 t5 : AV) (H : zaa) (K : Kt) : Prop:=ALoop tP zqV (zxM K) (zlx t0 t3 t4 t5) H
def zly (t0 t3 t4 t5 t6 : AV) : List AV:=t0 :: ux 2 (t3 :: t4 :: t5 :: t6 :: ux 155 [])
def zxW : List Bool:=zb1 9
noncomputable def zqW : Code:=zan [1,0,0,1,1,1,0,0] zqV
def zxN (K : Kt) (Kb4 : Lt) : AExit → List AV → zaa → Prop:=zao tP zb1 [1,0,0,1,1,1,0] zqV (zbj zxV Kb4 (zxM K))
def zxT (t0 t3 t4 t5 t6 : AV) (H : zaa) (K : Kt) (Kb4 : Lt) : Prop:=ALoop tP zqW (zxN K Kb4) (zly t0 t3 t4 t5 t6) H
def zhT (t0 t3 t4 t5 t6 t58 t59 t60 : AV) : List AV:=t0 :: ux 2 (t3 :: t4 :: t5 :: t6 :: ux 51 (t58 :: t59 :: t60 :: ux 101 []))
def zLQ : List Bool:=zb1 13
noncomputable def zLG : Code:=zan [1,0,1,1,1,0,0] zqW
def zLD (K : Kt) (Kb4 : Lt) (Kb9 : Lt) : AExit → List AV → zaa → Prop:=zao tP zb1 [1,0,1,1,1,0] zqW (zbj zxW Kb9 (zxN K Kb4))
def zxP (t0 t3 t4 t5 t6 t58 t59 t60 : AV) (H : zaa) (K : Kt) (Kb4 : Lt) (Kb9 : Lt) : Prop:=ALoop tP zLG (zLD K Kb4 Kb9) (zhT t0 t3 t4 t5 t6 t58 t59 t60) H
def zqX (t0 t3 t4 t5 t6 t58 t59 t60 : AV) (H : zaa) (K : Kt) (Kb4 : Lt) (Kb9 : Lt) (Kb13 : Lt) : Prop:=
 zad .add false t60 (.int .i64 1) fun t82=>
 Kb13 (zhT t0 t3 t4 t5 t6 t58 t59 t82) H
def zlz (t0 t3 t4 t5 t6 t58 t59 t60 : AV) (H : zaa) (K : Kt) (Kb4 : Lt) (Kb9 : Lt) (Kb13 : Lt) : Prop:=
 zqX t0 t3 t4 t5 t6 t58 t59 t60 H K Kb4 Kb9 Kb13
def zlv (t0 t3 t4 t5 t6 t58 t59 t60 : AV) (H : zaa) (K : Kt) (Kb4 : Lt) (Kb9 : Lt) (Kb13 : Lt) : Prop:=
 zad .lss false t60 t59 fun t61=>
 zag t61
 (zai 1 t58 t60 fun t62=>
 zae false 1 t62 H fun t63=>
 zai 1 t4 t5 fun t66=>
 zae false 1 t66 H fun t67=>
 zai 1 t67 t63 fun t69=>
 zae false 1 t69 H fun t70=>
 aUn .not t70 fun t71=>
 zag t71
 (zai 1 t4 t5 fun t74=>
 zae false 1 t74 H fun t75=>
 zai 1 t75 t63 fun t77=>
 zar 1 t77 (.bool true) H fun H=>
 zav 1 [(.int .i64 0)] 1 [(0,t63)] fun t80=>
 zaC zaQ 1 8 t6 t80 H fun t81 H=>
 zlz t0 t3 t4 t5 t81 t58 t59 t60 H K Kb4 Kb9 Kb13)
 (zlz t0 t3 t4 t5 t6 t58 t59 t60 H K Kb4 Kb9 Kb13))
 (Kb9 (zly t0 t3 t4 t5 t6) H)
def zqT (t0 t3 t4 t5 t6 : AV) (H : zaa) (K : Kt) (Kb4 : Lt) (Kb9 : Lt) : Prop:=
 zaj 1 t6 fun t42=>
 zad .gtr false t42 (.int .i64 0) fun t43=>
 zag t43
 (zaj 1 t6 fun t46=>
 zad .sub false t46 (.int .i64 1) fun t47=>
 zai 1 t6 t47 fun t48=>
 zae false 1 t48 H fun t49=>
 zaj 1 t6 fun t52=>
 zad .sub false t52 (.int .i64 1) fun t53=>
 ze2 1 t6 t53 H fun t54 H=>
 zai 1 t0 t49 fun t57=>
 zae false 1 t57 H fun t58=>
 zaj 1 t58 fun t59=>
 zxP t0 t3 t4 t5 t54 t58 t59 (.int .i64 0) H K Kb4 Kb9)
 (zad .add false t5 (.int .i64 1) fun t27=>
 Kb4 (zlx t0 t3 t4 t27) H)
def zhU (t3 t4 t10 t11 : AV) : List AV:=ux 3 (t3 :: t4 :: ux 5 (t10 :: t11 :: ux 150 []))
def zxU : List Bool:=zb1 21
noncomputable def zqU : Code:=zan [1,1,1,1,1,1,0,0] zhR
def zxL (K : Kt) : AExit → List AV → zaa → Prop:=zao tP zb1 [1,1,1,1,1,1,0] zhR (zau tP zxX K)
def zgs (t3 t4 t10 t11 : AV) (H : zaa) (K : Kt) : Prop:=ALoop tP zqU (zxL K) (zhU t3 t4 t10 t11) H
def zgq (t3 t4 t10 t11 t12 t13 : AV) : List AV:=ux 3 (t3 :: t4 :: ux 5 (t10 :: t11 :: t12 :: t13 :: ux 148 []))
def zqY : List Bool:=zb1 23
noncomputable def zhS : Code:=zan [0,1,0,1,0,0] zqU
def zqQ (K : Kt) (Kb21 : Lt) : AExit → List AV → zaa → Prop:=zao tP zb1 [0,1,0,1,0] zqU (zbj zxU Kb21 (zxL K))
def zxQ (t3 t4 t10 t11 t12 t13 : AV) (H : zaa) (K : Kt) (Kb21 : Lt) : Prop:=ALoop tP zhS (zqQ K Kb21) (zgq t3 t4 t10 t11 t12 t13) H
def zlA (t3 t4 t10 t11 t12 t13 : AV) (H : zaa) (K : Kt) (Kb21 : Lt) (Kb23 : Lt) : Prop:=
 zad .add false t13 (.int .i64 1) fun t93=>
 Kb23 (zgq t3 t4 t10 t11 t12 t93) H
def zgr (t3 t4 t10 t11 t12 t13 : AV) (H : zaa) (K : Kt) (Kb21 : Lt) (Kb23 : Lt) : Prop:=
 zlA t3 t4 t10 t11 t12 t13 H K Kb21 Kb23
def zhV (t3 t4 t10 t11 t12 t13 t14 t15 t16 : AV) : List AV:=ux 3 (t3 :: t4 :: ux 5 (t10 :: t11 :: t12 :: t13 :: t14 :: t15 :: t16 :: ux 145 []))
def zLR : List Bool:=zb1 29
noncomputable def zLH : Code:=zan [1,0,0,1,1,1,0,1,0,0] zhS
def zLE (K : Kt) (Kb21 : Lt) (Kb23 : Lt) : AExit → List AV → zaa → Prop:=zao tP zb1 [1,0,0,1,1,1,0,1,0] zhS (zbj zqY Kb23 (zqQ K Kb21))
def zlB (t3 t4 t10 t11 t12 t13 t14 t15 t16 : AV) (H : zaa) (K : Kt) (Kb21 : Lt) (Kb23 : Lt) : Prop:=ALoop tP zLH (zLE K Kb21 Kb23) (zhV t3 t4 t10 t11 t12 t13 t14 t15 t16) H
def zhW (t3 t4 t10 t11 t12 t13 t14 t15 t16 : AV) (H : zaa) (K : Kt) (Kb21 : Lt) (Kb23 : Lt) (Kb29 : Lt) : Prop:=
 zad .add false t16 (.int .i64 1) fun t102=>
 Kb29 (zhV t3 t4 t10 t11 t12 t13 t14 t15 t102) H
def zfA (t3 t4 t10 t11 t12 t13 t14 t15 t16 : AV) (H : zaa) (K : Kt) (Kb21 : Lt) (Kb23 : Lt) (Kb29 : Lt) : Prop:=
 zhW t3 t4 t10 t11 t12 t13 t14 t15 t16 H K Kb21 Kb23 Kb29
def zlw (t3 t4 t10 t11 t13 t14 t145 t146 t147 : AV) : List AV:=ux 3 (t3 :: t4 :: ux 5 (t10 :: t11 :: ux 1 (t13 :: t14 :: ux 130 (t145 :: t146 :: t147 :: ux 14 []))))
def zLS : List Bool:=zb1 37
noncomputable def zLI : Code:=zan [1,0,0,1,1,1,1,1,0,0,1,0,0] zhS
def zLF (K : Kt) (Kb21 : Lt) (Kb23 : Lt) : AExit → List AV → zaa → Prop:=zao tP zb1 [1,0,0,1,1,1,1,1,0,0,1,0] zhS (zbj zqY Kb23 (zqQ K Kb21))
def zxR (t3 t4 t10 t11 t13 t14 t145 t146 t147 : AV) (H : zaa) (K : Kt) (Kb21 : Lt) (Kb23 : Lt) : Prop:=ALoop tP zLI (zLF K Kb21 Kb23) (zlw t3 t4 t10 t11 t13 t14 t145 t146 t147) H
def zqR (t3 t4 t10 t11 t13 t14 t145 t146 t147 : AV) (H : zaa) (K : Kt) (Kb21 : Lt) (Kb23 : Lt) (Kb37 : Lt) : Prop:=
 zad .lss false t147 t146 fun t148=>
 zag t148
 (zai 1 t145 t147 fun t149=>
 zae false 1 t149 H fun t150=>
 zai 1 t10 t150 fun t153=>
 zar 1 t153 (.bool true) H fun H=>
 zad .add false t147 (.int .i64 1) fun t154=>
 Kb37 (zlw t3 t4 t10 t11 t13 t14 t145 t146 t154) H)
 (zav 1 [.snil] 1 [(0,t14)] fun t157=>
 zaC za4 1 24 t11 t157 H fun t158 H=>
 zgr t3 t4 t10 t158 (.bool true) t13 H K Kb21 Kb23)
def zfz (t3 t4 t10 t11 t12 t13 t14 t15 t16 : AV) (H : zaa) (K : Kt) (Kb21 : Lt) (Kb23 : Lt) (Kb29 : Lt) : Prop:=
 zad .lss false t16 t3 fun t100=>
 zag t100
 (zai 1 t4 t13 fun t105=>
 zae false 1 t105 H fun t106=>
 zai 1 t106 t16 fun t108=>
 zae false 1 t108 H fun t109=>
 zab t109 true H (fun K'=>K' t4 H) fun t111 H=>
 zab t109 true H (fun K'=>K' t16 H) fun t112 H=>
 zab t109 true H (fun K'=>zai 1 t111 t112 (K' · H)) fun t113 H=>
 zab t109 true H (fun K'=>zae false 1 t113 H (K' · H)) fun t114 H=>
 zab t109 true H (fun K'=>K' t13 H) fun t115 H=>
 zab t109 true H (fun K'=>zai 1 t114 t115 (K' · H)) fun t116 H=>
 zab t109 true H (fun K'=>zae false 1 t116 H (K' · H)) fun t117 H=>
 zah t109 t117 (.bool false) fun t118=>
 zag t118
 (zav 1 [(.int .i64 0)] 1 [(0,t16)] fun t121=>
 zaC zaQ 1 8 t14 t121 H fun t122 H=>
 zfA t3 t4 t10 t11 t12 t13 t122 t15 t16 H K Kb21 Kb23 Kb29)
 (zai 1 t4 t13 fun t125=>
 zae false 1 t125 H fun t126=>
 zai 1 t126 t16 fun t128=>
 zae false 1 t128 H fun t129=>
 zab t129 true H (fun K'=>K' t10 H) fun t131 H=>
 zab t129 true H (fun K'=>K' t16 H) fun t132 H=>
 zab t129 true H (fun K'=>zai 1 t131 t132 (K' · H)) fun t133 H=>
 zab t129 true H (fun K'=>zae false 1 t133 H (K' · H)) fun t134 H=>
 zab t129 true H (fun K'=>aUn .not t134 (K' · H)) fun t135 H=>
 zah t129 t135 (.bool false) fun t136=>
 zag t136
 (zfA t3 t4 t10 t11 t12 t13 t14 (.bool false) t16 H K Kb21 Kb23 Kb29)
 (zfA t3 t4 t10 t11 t12 t13 t14 t15 t16 H K Kb21 Kb23 Kb29)))
 (zab t15 true H (fun K'=>K' t14 H) fun t139 H=>
 zab t15 true H (fun K'=>zai 1 t139 (.int .i64 0) (K' · H)) fun t140 H=>
 zab t15 true H (fun K'=>zae false 1 t140 H (K' · H)) fun t141 H=>
 zab t15 true H (fun K'=>K' t13 H) fun t142 H=>
 zab t15 true H (fun K'=>zad .eql false t141 t142 (K' · H)) fun t143 H=>
 zah t15 t143 (.bool false) fun t144=>
 zag t144
 (zaj 1 t14 fun t146=>
 zxR t3 t4 t10 t11 t13 t14 t14 t146 (.int .i64 0) H K Kb21 Kb23)
 (zgr t3 t4 t10 t11 t12 t13 H K Kb21 Kb23))
def zgp (t3 t4 t10 t11 t12 t13 : AV) (H : zaa) (K : Kt) (Kb21 : Lt) (Kb23 : Lt) : Prop:=
 zad .lss false t13 t3 fun t87=>
 zab t87 true H (fun K'=>K' t12 H) fun t89 H=>
 zab t87 true H (fun K'=>aUn .not t89 (K' · H)) fun t90 H=>
 zah t87 t90 (.bool false) fun t91=>
 zag t91
 (zai 1 t10 t13 fun t96=>
 zae false 1 t96 H fun t97=>
 zag t97
 (zgr t3 t4 t10 t11 t12 t13 H K Kb21 Kb23)
 (zlB t3 t4 t10 t11 t12 t13 .snil (.bool true) (.int .i64 0) H K Kb21 Kb23))
 (aUn .not t12 fun t160=>
 zag t160
 (K t11 H)
 (Kb21 (zhU t3 t4 t10 t11) H))
def zxO (t3 t4 t10 t11 : AV) (H : zaa) (K : Kt) (Kb21 : Lt) : Prop:=
 zxQ t3 t4 t10 t11 (.bool false) (.int .i64 0) H K Kb21
def zqS (t0 t3 t4 t5 : AV) (H : zaa) (K : Kt) (Kb4 : Lt) : Prop:=
 zad .lss false t5 t3 fun t25=>
 zag t25
 (zaN 1 [(.bool false)] t3 t3 H fun t31 H=>
 zai 1 t4 t5 fun t32=>
 zar 1 t32 t31 H fun H=>
 zeX zaQ 1 1 [(0,t5)] H fun t34 H=>
 zai 1 t4 t5 fun t37=>
 zae false 1 t37 H fun t38=>
 zai 1 t38 t5 fun t40=>
 zar 1 t40 (.bool true) H fun H=>
 zxT t0 t3 t4 t5 t34 H K Kb4)
 (zaN 1 [(.bool false)] t3 t3 H fun t84 H=>
 zgs t3 t4 t84 .snil H K)
def zqP (t0 : AV) (H : zaa) (K : Kt) : Prop:=
 zaj 1 t0 fun t20=>
 zaN 24 [.snil] t20 t20 H fun t22 H=>
 zxS t0 t20 t22 (.int .i64 0) H K
theorem zLJ {t0 t3 t4 t5 t6 t58 t59 t60 : AV} {H : zaa} {K : Kt} {Kb4 : Lt} {Kb9 : Lt} (Inv : Nat → AV → AV → zaa → Prop) (n : Nat) (h0 : HSc H → Inv n t6 t60 H)
  (round : Rd2 (fun t6=>fun t60=>zhT t0 t3 t4 t5 t6 t58 t59 t60) (fun t6=>fun t60=>fun H Kb13=>zlv t0 t3 t4 t5 t6 t58 t59 t60 H K Kb4 Kb9 Kb13) H Inv) : zxP t0 t3 t4 t5 t6 t58 t59 t60 H K Kb4 Kb9:=
 lp2 (M:=zb1) zLQ t6 t60 (by kernel_rfl) Inv n h0 round
theorem zLP {t0 t3 t4 t5 t6 : AV} {H : zaa} {K : Kt} {Kb4 : Lt} (Inv : Nat → AV → zaa → Prop) (n : Nat) (h0 : HSc H → Inv n t6 H)
  (round : Rd1 (fun t6=>zly t0 t3 t4 t5 t6) (fun t6=>fun H Kb9=>zqT t0 t3 t4 t5 t6 H K Kb4 Kb9) H Inv) : zxT t0 t3 t4 t5 t6 H K Kb4:=
 lp1 (M:=zb1) zxW t6 (by kernel_rfl) Inv n h0 round
theorem zLN {t3 t4 t10 t11 t13 t14 t145 t146 t147 : AV} {H : zaa} {K : Kt} {Kb21 : Lt} {Kb23 : Lt} (Inv : Nat → AV → zaa → Prop) (n : Nat) (h0 : HSc H → Inv n t147 H)
  (round : Rd1 (fun t147=>zlw t3 t4 t10 t11 t13 t14 t145 t146 t147) (fun t147=>fun H Kb37=>zqR t3 t4 t10 t11 t13 t14 t145 t146 t147 H K Kb21 Kb23 Kb37) H Inv) : zxR t3 t4 t10 t11 t13 t14 t145 t146 t147 H K Kb21 Kb23:=
 lp1 (M:=zb1) zLS t147 (by kernel_rfl) Inv n h0 round
theorem zLM {t3 t4 t10 t11 t12 t13 t14 t15 t16 : AV} {H : zaa} {K : Kt} {Kb21 : Lt} {Kb23 : Lt} (Inv : Nat → AV → AV → AV → zaa → Prop) (n : Nat) (h0 : HSc H → Inv n t14 t15 t16 H)
  (round : Rd3 (fun t14=>fun t15=>fun t16=>zhV t3 t4 t10 t11 t12 t13 t14 t15 t16) (fun t14=>fun t15=>fun t16=>fun H Kb29=>zfz t3 t4 t10 t11 t12 t13 t14 t15 t16 H K Kb21 Kb23 Kb29) H Inv) : zlB t3 t4 t10 t11 t12 t13 t14 t15 t16 H K Kb21 Kb23:=
 lp3 (M:=zb1) zLR t14 t15 t16 (by kernel_rfl) Inv n h0 round
theorem zLL {t3 t4 t10 t11 t12 t13 : AV} {H : zaa} {K : Kt} {Kb21 : Lt} (Inv : Nat → AV → AV → AV → zaa → Prop) (n : Nat) (h0 : HSc H → Inv n t11 t12 t13 H)
  (round : Rd3 (fun t11=>fun t12=>fun t13=>zgq t3 t4 t10 t11 t12 t13) (fun t11=>fun t12=>fun t13=>fun H Kb23=>zgp t3 t4 t10 t11 t12 t13 H K Kb21 Kb23) H Inv) : zxQ t3 t4 t10 t11 t12 t13 H K Kb21:=
 lp3 (M:=zb1) zqY t11 t12 t13 (by kernel_rfl) Inv n h0 round
theorem zLK {t3 t4 t10 t11 : AV} {H : zaa} {K : Kt} (Inv : Nat → AV → zaa → Prop) (n : Nat) (h0 : HSc H → Inv n t11 H)
  (round : Rd1 (fun t11=>zhU t3 t4 t10 t11) (fun t11=>fun H Kb21=>zxO t3 t4 t10 t11 H K Kb21) H Inv) : zgs t3 t4 t10 t11 H K:=
 lp1 (M:=zb1) zxU t11 (by kernel_rfl) Inv n h0 round
theorem zLO {t0 t3 t4 t5 : AV} {H : zaa} {K : Kt} (Inv : Nat → AV → zaa → Prop) (n : Nat) (h0 : HSc H → Inv n t5 H)
  (round : Rd1 (fun t5=>zlx t0 t3 t4 t5) (fun t5=>fun H Kb4=>zqS t0 t3 t4 t5 H K Kb4) H Inv) : zxS t0 t3 t4 t5 H K:=
 lp1 (M:=zb1) zxV t5 (by kernel_rfl) Inv n h0 round
theorem zLT {t0 : AV} {H : zaa} {K : Kt} (h : HSc H → zqP t0 H K) : ACalls tP znF [t0] H K:=
 zax (M:=zb1) Try.func64 (c:=zhR) (by kernel_rfl) (fun hs=>Eq.mpr (by kernel_rfl) (h hs))
end Go.Proofs.Ytkdmpbhbmmhijaa
namespace Go.Abs
inductive Rch (g : List (List Nat)) : Nat → Nat → Prop
 | refl (a : Nat) : Rch g a a
 | step {a b c : Nat} (h : Rch g a b) (hc : c ∈ g.getD b []) : Rch g a c
theorem Rch.trans {g : List (List Nat)} {a b c : Nat} (h1 : Rch g a b) (h2 : Rch g b c) : Rch g a c:=by
 induction h2 with
 | refl=>exact h1
 | step _ hc ih=>exact .step ih hc
def GOk (g : List (List Nat)) : Prop:=∀ r ∈ g,∀ x ∈ r,x < g.length
structure RInv (g : List (List Nat)) (i : Nat) (set : List Bool) (work : List Nat) : Prop where
 len : set.length = g.length
 wlt : ∀ x ∈ work,set[x]? = some true
 sub : ∀ x,set[x]? = some true → Rch g i x
 src : set[i]? = some true
 clo : ∀ x,set[x]? = some true → x ∉ work → ∀ y ∈ g.getD x [],set[y]? = some true
structure RInv2 (g : List (List Nat)) (i v k : Nat) (set : List Bool) (work : List Nat) : Prop where
 len : set.length = g.length
 wlt : ∀ x ∈ work,set[x]? = some true
 sub : ∀ x,set[x]? = some true → Rch g i x
 src : set[i]? = some true
 vin : set[v]? = some true
 clo : ∀ x,set[x]? = some true → x ∉ work → x ≠ v → ∀ y ∈ g.getD x [],set[y]? = some true
 done : ∀ y ∈ (g.getD v []).take k,set[y]? = some true
theorem RInv.start {g : List (List Nat)} {i : Nat} (hi : i < g.length) : RInv g i ((List.replicate g.length false).set i true) [i]:=by
 have hs : ∀ x,((List.replicate g.length false).set i true)[x]? = some true → x = i:=fun x hx=>by
  rw [List.getElem?_set] at hx
  split at hx
  ·rename_i h; exact h.symm
  ·rw [List.getElem?_replicate] at hx
   split at hx <;> simp at hx
 have h0 : ((List.replicate g.length false).set i true)[i]? = some true:=List.getElem?_set_self (by simpa using hi)
 refine ⟨by simp,fun x hx=>?_,fun x hx=>?_,h0,fun x hx hw=>?_⟩
 ·simp at hx; subst hx; exact h0
 ·rw [hs x hx]; exact .refl i
 ·exact absurd (by simp [hs x hx]) hw
theorem RInv.pop {g : List (List Nat)} {i v : Nat} {set : List Bool} {work : List Nat} (h : RInv g i set (work ++ [v])) : RInv2 g i v 0 set work:=
 ⟨h.len,fun x hx=>h.wlt x (by simp [hx]),h.sub,h.src,h.wlt v (by simp),fun x hx hw hv=>h.clo x hx (by simp [hw,hv]),by simp⟩
theorem RInv2.skip {g : List (List Nat)} {i v k : Nat} {set : List Bool} {work : List Nat} (h : RInv2 g i v k set work) (hk : k < (g.getD v []).length) (hs : set[(g.getD v [])[k]]? = some true) : RInv2 g i v (k + 1) set work:=
 ⟨h.len,h.wlt,h.sub,h.src,h.vin,h.clo,fun y hy=>by
  rw [List.take_succ_eq_append_getElem hk,List.mem_append] at hy
  rcases hy with hy | hy
  ·exact h.done y hy
  ·rw [List.mem_singleton] at hy; subst hy; exact hs⟩
theorem zhe {set : List Bool} {u x : Nat} (h : set[x]? = some true) : (set.set u true)[x]? = some true:=by
 rw [List.getElem?_set]
 split
 ·rename_i hu; subst hu; rw [if_pos (List.getElem?_eq_some_iff.1 h).1]
 ·exact h
theorem RInv2.push {g : List (List Nat)} {i v k : Nat} {set : List Bool} {work : List Nat} (hg : GOk g) (h : RInv2 g i v k set work) (hk : k < (g.getD v []).length) : RInv2 g i v (k + 1) (set.set ((g.getD v [])[k]) true) (work ++ [(g.getD v [])[k]]):=by
 have hmem:=List.getElem_mem hk
 have hul : (g.getD v [])[k] < set.length:=by
  rw [h.len]
  have key : ∀ u ∈ g.getD v [],u < g.length:=fun u hu=>by
   rw [List.getD_eq_getElem?_getD] at hu
   cases hv : g[v]? with
   | none=>rw [hv] at hu; simp at hu
   | some r=>rw [hv] at hu; exact hg r (List.mem_of_getElem? hv) u hu
  exact key _ hmem
 have hu : (set.set ((g.getD v [])[k]) true)[(g.getD v [])[k]]? = some true:=List.getElem?_set_self hul
 generalize hgu : (g.getD v [])[k] = u at *
 have hsome : ∀ x,(set.set u true)[x]? = some true → x = u ∨ set[x]? = some true:=fun x hx=>by
  rw [List.getElem?_set] at hx
  split at hx
  ·rename_i h; exact .inl h.symm
  ·exact .inr hx
 refine ⟨by simp [h.len],fun x hx=>?_,fun x hx=>?_,zhe h.src,zhe h.vin,fun x hx hw hv y hy=>?_,fun y hy=>?_⟩
 ·rcases List.mem_append.1 hx with hx | hx
  ·exact zhe (h.wlt x hx)
  ·simp at hx; subst hx; exact hu
 ·rcases hsome x hx with rfl | hx
  ·exact .step (h.sub v h.vin) hmem
  ·exact h.sub x hx
 ·rcases hsome x hx with rfl | hx
  ·exact absurd (by simp) hw
  ·exact zhe (h.clo x hx (fun hm=>hw (by simp [hm])) hv y hy)
 ·rw [List.take_succ_eq_append_getElem hk,List.mem_append] at hy
  rcases hy with hy | hy
  ·exact zhe (h.done y hy)
  ·rw [List.mem_singleton,hgu] at hy; subst hy; exact hu
theorem RInv2.close {g : List (List Nat)} {i v : Nat} {set : List Bool} {work : List Nat} (h : RInv2 g i v (g.getD v []).length set work) : RInv g i set work:=
 ⟨h.len,h.wlt,h.sub,h.src,fun x hx hw=>by
  by_cases hv : x = v
  ·subst hv
   intro y hy
   exact h.done y (by rw [List.take_length]; exact hy)
  ·exact h.clo x hx hw hv⟩
theorem RInv.fin {g : List (List Nat)} {i : Nat} {set : List Bool} (h : RInv g i set []) (x : Nat) : set[x]? = some true ↔ Rch g i x:=by
 refine ⟨h.sub x,fun hr=>?_⟩
 induction hr with
 | refl=>exact h.src
 | step _ hc ih=>exact h.clo _ ih (by simp) _ hc
end Go.Abs
namespace Go.Proofs.Ytkdmpbhbmmhijaa
open Go Go.Abs
set_option maxRecDepth 8000
def toI (r : List Nat) : List Int:=r.map fun (x : Nat)=>(x : Int)
@[simp] theorem zSX (r : List Nat) : (toI r).length = r.length:=by simp [toI]
@[simp] theorem zSW {r : List Nat} {i : Nat} (h : i < (toI r).length) : (toI r)[i] = ((r[i]'(by simpa using h) : Nat) : Int):=by simp [toI]
def gV (g : List (List Nat)) : AV:=.sl (g.map fun r=>[.sl (ints (toI r)) .none]) .none
def nC (l : List Nat) : List AV:=l.map fun (x : Nat)=>.int .i64 (x : Int)
theorem zsa {size id n e : Nat} {cs : List AV} {j : IntKind} {k : Int} {H : zaa} {K : AV → zaa → Prop} (hid : H[id]? = some (.vec e size n cs)) :
  ze2 size (.ov id n) (.int j k) H K = ((0 ≤ k ∧ k ≤ n) ∧ K (.ov H.length k.toNat) (H.set id .dead ++ [.vec e size k.toNat (cs.take (k.toNat * size))])):=by simp [ze2,hid]
theorem zei {H X : zaa} {i : Nat} {b : AB} (h : H <+: X) (hi : H.length ≤ i) : H <+: X.set i b:=by
 obtain ⟨J,rfl⟩:=h
 exact ⟨J.set (i - H.length) b,by rw [List.set_append_right _ _ hi]⟩
theorem zr5 {e s b id n : Nat} {cs : List AV} {ys : List (List AV)} {t : Tok} {H : zaa} {K : Kt} (h : H[id]? = some (.vec e s n cs)) (hy : ∀ c ∈ ys,c.length = s) (hb1 : (n + ys.length) * b ≤ 140737488355328) (hb2 : n + ys.length ≤ 9223372036854775807)
  (hk : K (.ov id (n + ys.length)) (H.set id (.vec e s (n + ys.length) (cs ++ ys.flatten)))) : zaC e s b (.ov id n) (.sl ys t) H K:=by
 simp only [zaC,zbq,za8,h,and_self,true_and]
 exact ⟨hy,⟨hb1,hb2⟩,hk⟩
theorem count_set {l : List Bool} {i : Nat} (h : l[i]? = some false) : (l.set i true).count false + 1 = l.count false:=by
 induction l generalizing i with
 | nil=>simp at h
 | cons b l ih=>
  cases i with
  | zero=>simp at h; subst h; simp
  | succ i=>
   have:=ih (by simpa using h)
   simp only [List.set_cons_succ,List.count_cons]
   omega
theorem zLC (g : List (List Nat)) (hg : GOk g) (hb : g.length ≤ 1000000) (hr : ∀ r ∈ g,r.length ≤ 1000000) (i : Nat) (hi : i < g.length) (H : zaa) (K : Kt)
  (hK : ∀ set X,H <+: X → HSc X → RInv g i set [] → X[H.length]? = some (.cells (zas set)) → K (.ms H.length 0 g.length g.length) X) :
  ACalls tP znE [gV g,.int .i64 i] H K:=by
 refine zLA fun hs=>?_
 simp [zxG,gV]
 simp only [zaN,Int.toNat_natCast]
 refine ⟨by omega,?_⟩
 have hz : (List.replicate g.length [AV.bool false]).flatten = zas (List.replicate g.length false):=by simp [zas]
 have hst:=RInv.start (g:=g) hi
 have hcnt : ((List.replicate g.length false).set i true).count false + 1 = g.length:=by
  rw [count_set (by simp [hi])]; simp
 rw [hz]
 have hL : (List.replicate g.length false).length = g.length:=by simp
 generalize List.replicate g.length false = st0 at *
 simp [hi,hL,zeX,AV.oneK]
 rw [zcy (by omega)]
 refine ⟨by omega,?_⟩
 generalize st0.set i true = st1 at *
 refine zLx (Inv:=fun q t6 H'=>∃ (set : List Bool) (work : List Nat) (id : Nat),q = 2 * set.count false + work.length ∧ t6 = .ov id work.length ∧ H <+: H' ∧ H'[H.length]? = some (.cells (zas set)) ∧ H'[id]? = some (.vec zaQ 1 work.length (nC work)) ∧ H.length < id ∧ work.length + set.count false ≤ g.length ∧ RInv g i set work) (2 * st1.count false + 1) ?_ ?_
 ·intro _
  exact ⟨st1,[i],H.length + 1,by simp,by simp,⟨_,rfl⟩,by simp,by simp [nC],by omega,by simp; omega,hst⟩
 ·rintro q t6 H' ⟨set,work,id,rfl,rfl,hpre,hset,hid,hlo,hwc,hI⟩ hsc hlen' hsF Kb4 hKb4
  cases hw : work.reverse with
  | nil=>
   have hw' : work = []:=by simpa using hw
   subst hw'
   simp [zqL]
   exact hK set H' hpre hsc hI hset
  | cons v wr=>
   have hw' : work = wr.reverse ++ [v]:=by rw [← List.reverse_reverse work,hw,List.reverse_cons]
   generalize wr.reverse = w0 at *
   subst hw'
   have hid' : H'[id]? = some (.vec zaQ 1 (w0.length + 1) (nC w0 ++ [.int .i64 v])):=by rw [hid]; simp [nC]
   rw [List.length_append,List.length_singleton] at hwc
   have hww : IntKind.i64.wrap (w0.length : Int) = w0.length:=zaq (by omega) (by omega)
   have hcv : (nC w0 ++ [AV.int .i64 v])[w0.length]? = some (.int .i64 v):=by simp [nC]
   have htk : List.take w0.length (nC w0 ++ [AV.int .i64 v]) = nC w0:=by simp [nC]
   have hvs:=hI.wlt v (by simp)
   have hvl : v < g.length:=by rw [← hI.len]; exact (List.getElem?_eq_some_iff.1 hvs).1
   have hgv : g.getD v [] = g[v]:=by simp [List.getD_eq_getElem?_getD,hvl]
   have hrl:=hr _ (List.getElem_mem hvl)
   simp [zqL,hid',zsa hid',hww,htk,zaK 1 hcv,hvl]
   refine ⟨by omega,?_⟩
   have hHl:=hpre.length_le
   have hil:=(List.getElem?_eq_some_iff.1 hid).1
   have hI2:=hI.pop
   have hpre2 : H <+: H'.set id .dead ++ [.vec zaQ 1 w0.length (nC w0)]:=(zei hpre (by omega)).trans ⟨_,rfl⟩
   have hset2 : (H'.set id .dead ++ [.vec zaQ 1 w0.length (nC w0)])[H.length]? = some (.cells (zas set)):=by
    rw [List.getElem?_append_left (by simp; omega),List.getElem?_set_ne (by omega)]; exact hset
   have hid2 : (H'.set id .dead ++ [.vec zaQ 1 w0.length (nC w0)])[H'.length]? = some (.vec zaQ 1 w0.length (nC w0)):=by simp
   have hsc2 : HSc (H'.set id .dead ++ [.vec zaQ 1 w0.length (nC w0)]):=(hsc.set (by simp [AB.sc])).append (by simp [AB.sc,nC,AV.scA,AV.scB])
   have hXl : (H'.set id .dead ++ [AB.vec zaQ 1 w0.length (nC w0)]).length = H'.length + 1:=by simp
   generalize H'.set id .dead ++ [.vec zaQ 1 w0.length (nC w0)] = X at *
   refine ⟨by omega,?_⟩
   refine zLy (Inv:=fun q t6 t37 H2=>∃ (set2 : List Bool) (work : List Nat) (k : Nat),k ≤ g[v].length ∧ q = g[v].length - k ∧ t37 = .int .i64 k ∧ t6 = .ov H'.length work.length ∧ H <+: H2 ∧ X.length ≤ H2.length ∧ H2[H.length]? = some (.cells (zas set2)) ∧ H2[H'.length]? = some (.vec zaQ 1 work.length (nC work)) ∧
    work.length + set2.count false ≤ g.length ∧ 2 * set2.count false + work.length ≤ 2 * set.count false + w0.length ∧ RInv2 g i v k set2 work) g[v].length ?_ ?_
   ·intro _
    exact ⟨set,w0,0,by omega,by omega,rfl,rfl,hpre2,Nat.le_refl _,hset2,hid2,by omega,by omega,hI2⟩
   ·rintro q2 t6 t37 H2 ⟨set2,work,k,hk,rfl,rfl,rfl,hp2,hX2,hs2,hi2,hwc2,hm2,hJ⟩ hsc3 hlen3 hsF3 Kb8 hKb8
    have hi2l:=(List.getElem?_eq_some_iff.1 hi2).1
    by_cases hkl : k < g[v].length
    ·have hul : g[v][k] < g.length:=hg _ (List.getElem_mem hvl) _ (List.getElem_mem hkl)
     have hsl2:=hJ.len
     have hgk : (g.getD v [])[k]'(by rw [hgv]; exact hkl) = g[v][k]:=(show ∀ (l : List Nat) (hl : l = g[v]) (h : k < l.length),l[k] = g[v][k]'hkl from fun l hl h=>by subst hl; rfl) _ hgv (by rw [hgv]; exact hkl)
     have hwk : IntKind.i64.wrap ((k : Int) + 1) = (k : Int) + 1:=zaq (by omega) (by omega)
     cases hb2 : set2[g[v][k]]'(by omega) with
     | true=>
      have hsu : set2[g[v][k]]? = some true:=by rw [List.getElem?_eq_getElem (by omega),hb2]
      have hcu : (zas set2)[g[v][k]]? = some (.bool true):=by simp [zas,hsu]
      simp [zls,hkl,hul,hs2,zaK 1 hcu,zlu,zqO,hwk]
      refine hKb8 _ _ ⟨g[v].length - (k + 1),by omega,Back.at (J:=[]) (H2:=H2) (by simp) (by omega) hsc3 ?_ ⟨_,_,rfl,set2,work,k + 1,by omega,rfl,by simp,rfl,hp2,hX2,hs2,hi2,hwc2,hm2,hJ.skip (by rw [hgv]; exact hkl) (by rw [hgk]; exact hsu)⟩⟩
      simp [zhQ,AV.sc,AV.scV,AV.scA,AV.scB,hi2l]
      omega
     | false=>
      have hsu : set2[g[v][k]]? = some false:=by rw [List.getElem?_eq_getElem (by omega),hb2]
      have hcu : (zas set2)[g[v][k]]? = some (.bool false):=by simp [zas,hsu]
      have hct:=count_set hsu
      have hP:=hJ.push hg (by rw [hgv]; exact hkl)
      rw [hgk] at hP
      simp [zls,hkl,hul,hs2,zaK 1 hcu,zav,zc1,zbn,AV.pd]
      rw [zcy (by omega)]
      refine ⟨by omega,?_⟩
      have hHH : H.length < H2.length:=by omega
      have hi3 : (H2.set H.length (.cells (zas (set2.set g[v][k] true))))[H'.length]? = some (.vec zaQ 1 work.length (nC work)):=by rw [List.getElem?_set_ne (by omega)]; exact hi2
      refine zr5 hi3 (by simp) (by simp; omega) (by simp; omega) ?_
      have hnc : nC work ++ [[AV.int .i64 (g[v][k] : Int)]].flatten = nC (work ++ [g[v][k]]):=by simp [nC]
      rw [hnc]
      simp [zlu,zqO,hwk]
      refine hKb8 _ _ ⟨g[v].length - (k + 1),by omega,Back.at (J:=[]) (H2:=(H2.set H.length (.cells (zas (set2.set g[v][k] true)))).set H'.length (.vec zaQ 1 (work.length + 1) (nC (work ++ [g[v][k]])))) (by simp) (by simp; omega) ((hsc3.set (by simp [AB.sc,zck])).set (by simp [AB.sc,nC,AV.scA,AV.scB])) ?_
       ⟨_,_,rfl,set2.set g[v][k] true,work ++ [g[v][k]],k + 1,by omega,rfl,by simp,by simp,zei (zei hp2 (Nat.le_refl _)) (by omega),by simp; omega,?_,?_,by simp; omega,by simp; omega,hP⟩⟩
      ·simp [zhQ,AV.sc,AV.scV,AV.scA,AV.scB,hi2l]
       omega
      ·rw [List.getElem?_set_ne (by omega),List.getElem?_set_self hHH]
      ·rw [List.getElem?_set_self (by simpa using hi2l)]; simp
    ·obtain rfl : k = g[v].length:=by omega
     simp [zls]
     refine hKb4 _ _ ⟨2 * set2.count false + work.length,by simp; omega,Back.at (J:=[]) (H2:=H2) (by simp) (by omega) hsc3 ?_ ⟨_,rfl,set2,work,H'.length,rfl,rfl,hp2,hs2,hi2,by omega,hwc2,?_⟩⟩
     ·simp [zlt,AV.sc,AV.scV,AV.scA,AV.scB,hi2l]
      omega
     ·exact RInv2.close (by rw [hgv]; exact hJ)
end Go.Proofs.Ytkdmpbhbmmhijaa
namespace Go.Proofs.Ytkdmpbhbmmhijaa
open Go Go.Abs
set_option maxRecDepth 8000
def zeu (g : List (List Nat)) (lo : Nat) (X : zaa) (k : Nat) (refs : List AV) : Prop:=∀ j,j < k → ∃ b set,refs[j]? = some (.ms b 0 g.length g.length) ∧ lo < b ∧ X[b]? = some (.cells (zas set)) ∧ RInv g j set []
theorem zub {refs : List AV} {i : Nat} {x : AV} (h : i < refs.length) : refs.take i ++ x :: refs.drop (i + 1) = refs.set i x:=by
 rw [List.set_eq_take_append_cons_drop,if_pos h]
theorem zAr (g : List (List Nat)) (hg : GOk g) (hb : g.length ≤ 1000000) (hr : ∀ r ∈ g,r.length ≤ 1000000) (H : zaa) (K : Kt) (hs : HSc H)
  (hK : ∀ refs X,H <+: X → HSc X → X[H.length]? = some (.cells refs) → refs.length = g.length → zeu g H.length X g.length refs →
   zaN 1 [(.bool false)] (.int .i64 g.length) (.int .i64 g.length) X fun t84 X2=>zgs (.int .i64 g.length) (.ms H.length 0 g.length g.length) t84 .snil X2 K) :
  zqP (gV g) H K:=by
 simp [zqP,gV]
 simp only [zaN,Int.toNat_natCast]
 refine ⟨by omega,?_⟩
 have hz : (List.replicate g.length [AV.snil]).flatten = List.replicate g.length .snil:=by simp
 rw [hz]
 refine zLO (Inv:=fun q t5 H'=>∃ (i : Nat) (refs : List AV),i ≤ g.length ∧ q = g.length - i ∧ t5 = .int .i64 i ∧ H <+: H' ∧ H'[H.length]? = some (.cells refs) ∧ refs.length = g.length ∧ zeu g H.length H' i refs) g.length ?_ ?_
 ·intro _
  exact ⟨0,List.replicate g.length .snil,by omega,by omega,rfl,⟨_,rfl⟩,by simp,by simp,fun j hj=>by omega⟩
 ·rintro q t5 H' ⟨i,refs,hi,rfl,rfl,hpre,hrf,hrl,hRo⟩ hsc0 hlen0 hsF0 Kb4 hKb4
  have hHl:=hpre.length_le
  have hHr:=(List.getElem?_eq_some_iff.1 hrf).1
  by_cases hil : i < g.length
  ·have hz : (List.replicate g.length [AV.bool false]).flatten = zas (List.replicate g.length false):=by simp [zas]
   have hst:=RInv.start (g:=g) hil
   have hcnt : ((List.replicate g.length false).set i true).count false + 1 = g.length:=by
    rw [count_set (by simp [hil])]; simp
   simp [zqS,hil]
   simp only [zaN,Int.toNat_natCast]
   refine ⟨by omega,?_⟩
   rw [hz]
   have hL : (List.replicate g.length false).length = g.length:=by simp
   generalize List.replicate g.length false = st0 at *
   have hrf0 : (H' ++ [AB.cells (zas st0)])[H.length]? = some (.cells refs):=by rw [List.getElem?_append_left hHr]; exact hrf
   have hri : i < refs.length:=by omega
   have hne : ¬ H'.length = H.length:=by omega
   simp [hil,hL,hrf0,zeX,AV.oneK]
   rw [zub hri]
   refine ⟨by omega,?_⟩
   have hri' : (refs.set i (.ms H'.length 0 g.length g.length))[i]? = some (.ms H'.length 0 g.length g.length):=List.getElem?_set_self hri
   have hrl' : (refs.set i (.ms H'.length 0 g.length g.length)).length = g.length:=by simp [hrl]
   have hkeep : ∀ j,j ≠ i → (refs.set i (.ms H'.length 0 g.length g.length))[j]? = refs[j]?:=fun j hj=>List.getElem?_set_ne (fun h=>hj h.symm)
   have hscr : (AB.cells (refs.set i (.ms H'.length 0 g.length g.length))).sc (H'.length + 1) = true:=by
    have:=hsc0 _ (List.mem_of_getElem? hrf)
    simp only [AB.sc,List.all_eq_true] at this ⊢
    intro x hx
    rcases List.mem_or_eq_of_mem_set hx with hx | rfl
    ·exact zi6 (by omega) (this x hx)
    ·simp [AV.scA,AV.scB]
   generalize refs.set i (.ms H'.length 0 g.length g.length) = refs1 at *
   obtain ⟨Y,hY⟩ : ∃ Y,Y = List.set (H' ++ [AB.cells (zas st0)]) H.length (.cells refs1) ++ [AB.vec zaQ 1 1 [AV.int .i64 i]]:=⟨_,rfl⟩
   rw [← hY]
   have hg1 : Y[H.length]? = some (.cells refs1):=by rw [hY,List.getElem?_append_left (by simp; omega),List.getElem?_set_self (by simp; omega)]
   have hg2 : Y[H'.length]? = some (.cells (zas st0)):=by rw [hY,List.getElem?_append_left (by simp),List.getElem?_set_ne (by omega)]; simp
   have hg3 : Y[H'.length + 1]? = some (.vec zaQ 1 1 [AV.int .i64 i]):=by rw [hY,List.getElem?_append_right (by simp)]; simp
   have hYl : Y.length = H'.length + 2:=by rw [hY]; simp
   have hYk : ∀ b,b < H'.length → b ≠ H.length → Y[b]? = H'[b]?:=fun b hb hb2=>by rw [hY,List.getElem?_append_left (by simp; omega),List.getElem?_set_ne (fun h=>hb2 h.symm),List.getElem?_append_left hb]
   have hYp : H <+: Y:=by rw [hY]; exact (zei (hpre.trans ⟨_,rfl⟩) (Nat.le_refl _)).trans ⟨_,rfl⟩
   have hYs : HSc Y:=by
    rw [hY]
    refine HSc.append ((hsc0.append (by simp [AB.sc,zck])).set (by simpa using hscr)) (by simp [AB.sc,AV.scA,AV.scB])
   clear hY
   simp [hg1,zaK 1 hri',hil,hg2]
   rw [zcy (by omega)]
   refine ⟨by omega,?_⟩
   generalize st0.set i true = st1 at *
   have hstab : ∀ X : zaa,(∀ b,b < H'.length → b ≠ H.length → X[b]? = H'[b]?) → ∀ set,X[H'.length]? = some (.cells (zas set)) → RInv g i set [] → zeu g H.length X (i + 1) refs1:=fun X hX set h1 h2 j hj=>by
    by_cases hji : j = i
    ·subst hji
     exact ⟨H'.length,set,hri',by omega,h1,h2⟩
    ·obtain ⟨b,st,k1,k2,k3,k4⟩:=hRo j (by omega)
     have hbl:=(List.getElem?_eq_some_iff.1 k3).1
     exact ⟨b,st,by rw [hkeep j hji]; exact k1,k2,by rw [hX b hbl (by omega)]; exact k3,k4⟩
   refine zLP (Inv:=fun q t6 H2=>∃ (set : List Bool) (work : List Nat) (id : Nat),q = 2 * set.count false + work.length ∧ t6 = .ov id work.length ∧ H <+: H2 ∧ Y.length ≤ H2.length ∧ H2[H.length]? = some (.cells refs1) ∧ H2[H'.length]? = some (.cells (zas set)) ∧ H2[id]? = some (.vec zaQ 1 work.length (nC work)) ∧ H'.length < id ∧
    (∀ b,b < H'.length → b ≠ H.length → H2[b]? = H'[b]?) ∧ work.length + set.count false ≤ g.length ∧ RInv g i set work) (2 * st1.count false + 1) ?_ ?_
   ·intro _
    refine ⟨st1,[i],H'.length + 1,by simp,by simp,zei hYp (by omega),by simp,?_,?_,?_,by omega,fun b hb hb2=>?_,by simp; omega,hst⟩
    ·rw [List.getElem?_set_ne (by omega)]; exact hg1
    ·rw [List.getElem?_set_self (by omega)]
    ·rw [List.getElem?_set_ne (by omega),hg3]; simp [nC]
    ·rw [List.getElem?_set_ne (by omega)]; exact hYk b hb hb2
   ·rintro q t6 H2 ⟨set,work,id,rfl,rfl,hp1,hYl2,hr1,hset,hid,hlo,hst2,hwc,hI⟩ hsc hlen' hsF Kb9 hKb9
    cases hw : work.reverse with
    | nil=>
     have hw' : work = []:=by simpa using hw
     subst hw'
     simp [zqT]
     rw [zaq (by omega) (by omega)]
     refine hKb4 _ _ ⟨g.length - (i + 1),by omega,Back.at (J:=[]) (H2:=H2) (by simp) (by omega) hsc ?_ ⟨_,rfl,i + 1,refs1,by omega,rfl,by simp,hp1,hr1,hrl',hstab H2 hst2 set hset hI⟩⟩
     simp [zlx,AV.sc,AV.scV,AV.scA,AV.scB]
     omega
    | cons v wr=>
     have hw' : work = wr.reverse ++ [v]:=by rw [← List.reverse_reverse work,hw,List.reverse_cons]
     generalize wr.reverse = w0 at *
     subst hw'
     have hid' : H2[id]? = some (.vec zaQ 1 (w0.length + 1) (nC w0 ++ [.int .i64 v])):=by rw [hid]; simp [nC]
     rw [List.length_append,List.length_singleton] at hwc
     have hww : IntKind.i64.wrap (w0.length : Int) = w0.length:=zaq (by omega) (by omega)
     have hcv : (nC w0 ++ [AV.int .i64 v])[w0.length]? = some (.int .i64 v):=by simp [nC]
     have htk : List.take w0.length (nC w0 ++ [AV.int .i64 v]) = nC w0:=by simp [nC]
     have hvs:=hI.wlt v (by simp)
     have hvl : v < g.length:=by rw [← hI.len]; exact (List.getElem?_eq_some_iff.1 hvs).1
     have hgv : g.getD v [] = g[v]:=by simp [List.getD_eq_getElem?_getD,hvl]
     have hrlv:=hr _ (List.getElem_mem hvl)
     simp [zqT,hid',zsa hid',hww,htk,zaK 1 hcv,hvl]
     refine ⟨by omega,?_⟩
     refine ⟨by omega,?_⟩
     have hidl:=(List.getElem?_eq_some_iff.1 hid).1
     have hI2:=hI.pop
     have q1 : H <+: H2.set id .dead ++ [.vec zaQ 1 w0.length (nC w0)]:=(zei hp1 (by omega)).trans ⟨_,rfl⟩
     have qk : ∀ b,b < H2.length → b ≠ id → (H2.set id .dead ++ [.vec zaQ 1 w0.length (nC w0)])[b]? = H2[b]?:=fun b hb hb2=>by
      rw [List.getElem?_append_left (by simpa using hb),List.getElem?_set_ne (fun h=>hb2 h.symm)]
     have q2 : (H2.set id .dead ++ [.vec zaQ 1 w0.length (nC w0)])[H.length]? = some (.cells refs1):=by rw [qk _ (by omega) (by omega)]; exact hr1
     have q3 : (H2.set id .dead ++ [.vec zaQ 1 w0.length (nC w0)])[H'.length]? = some (.cells (zas set)):=by rw [qk _ (by omega) (by omega)]; exact hset
     have q4 : (H2.set id .dead ++ [.vec zaQ 1 w0.length (nC w0)])[H2.length]? = some (.vec zaQ 1 w0.length (nC w0)):=by simp
     have q5 : ∀ b,b < H'.length → b ≠ H.length → (H2.set id .dead ++ [.vec zaQ 1 w0.length (nC w0)])[b]? = H'[b]?:=fun b hb hb2=>by rw [qk _ (by omega) (by omega)]; exact hst2 b hb hb2
     have q6 : (H2.set id .dead ++ [AB.vec zaQ 1 w0.length (nC w0)]).length = H2.length + 1:=by simp
     generalize H2.set id .dead ++ [.vec zaQ 1 w0.length (nC w0)] = X at *
     refine zLJ (Inv:=fun q t6 t60 H3=>∃ (set2 : List Bool) (work : List Nat) (k : Nat),k ≤ g[v].length ∧ q = g[v].length - k ∧ t60 = .int .i64 k ∧ t6 = .ov H2.length work.length ∧ H <+: H3 ∧ X.length ≤ H3.length ∧ H3[H.length]? = some (.cells refs1) ∧ H3[H'.length]? = some (.cells (zas set2)) ∧ H3[H2.length]? = some (.vec zaQ 1 work.length (nC work)) ∧
      (∀ b,b < H'.length → b ≠ H.length → H3[b]? = H'[b]?) ∧ work.length + set2.count false ≤ g.length ∧ 2 * set2.count false + work.length ≤ 2 * set.count false + w0.length ∧ RInv2 g i v k set2 work) g[v].length ?_ ?_
     ·intro _
      exact ⟨set,w0,0,by omega,by omega,rfl,rfl,q1,Nat.le_refl _,q2,q3,q4,q5,by omega,by omega,hI2⟩
     ·rintro q2 t6 t60 H3 ⟨set2,work,k,hk,rfl,rfl,rfl,hp3,hX3,hr3,hs3,hi3,hst3,hwc2,hm2,hJ⟩ hsc3 hlen3 hsF3 Kb13 hKb13
      have hi3l:=(List.getElem?_eq_some_iff.1 hi3).1
      by_cases hkl : k < g[v].length
      ·have hul : g[v][k] < g.length:=hg _ (List.getElem_mem hvl) _ (List.getElem_mem hkl)
       have hsl2:=hJ.len
       have hgk : (g.getD v [])[k]'(by rw [hgv]; exact hkl) = g[v][k]:=(show ∀ (l : List Nat) (hl : l = g[v]) (h : k < l.length),l[k] = g[v][k]'hkl from fun l hl h=>by subst hl; rfl) _ hgv (by rw [hgv]; exact hkl)
       have hwk : IntKind.i64.wrap ((k : Int) + 1) = (k : Int) + 1:=zaq (by omega) (by omega)
       cases hb2 : set2[g[v][k]]'(by omega) with
       | true=>
        have hsu : set2[g[v][k]]? = some true:=by rw [List.getElem?_eq_getElem (by omega),hb2]
        have hcu : (zas set2)[g[v][k]]? = some (.bool true):=by simp [zas,hsu]
        simp [zlv,hkl,hul,hil,hr3,zaK 1 hri',hs3,zaK 1 hcu,zlz,zqX,hwk]
        refine hKb13 _ _ ⟨g[v].length - (k + 1),by omega,Back.at (J:=[]) (H2:=H3) (by simp) (by omega) hsc3 ?_ ⟨_,_,rfl,set2,work,k + 1,by omega,rfl,by simp,rfl,hp3,hX3,hr3,hs3,hi3,hst3,hwc2,hm2,hJ.skip (by rw [hgv]; exact hkl) (by rw [hgk]; exact hsu)⟩⟩
        simp [zhT,AV.sc,AV.scV,AV.scA,AV.scB,hi3l]
        omega
       | false=>
        have hsu : set2[g[v][k]]? = some false:=by rw [List.getElem?_eq_getElem (by omega),hb2]
        have hcu : (zas set2)[g[v][k]]? = some (.bool false):=by simp [zas,hsu]
        have hct:=count_set hsu
        have hP:=hJ.push hg (by rw [hgv]; exact hkl)
        rw [hgk] at hP
        simp [zlv,hkl,hul,hil,hr3,zaK 1 hri',hs3,zaK 1 hcu,zav,zc1,zbn,AV.pd]
        rw [zcy (by omega)]
        refine ⟨by omega,?_⟩
        have hi4 : (H3.set H'.length (.cells (zas (set2.set g[v][k] true))))[H2.length]? = some (.vec zaQ 1 work.length (nC work)):=by rw [List.getElem?_set_ne (by omega)]; exact hi3
        refine zr5 hi4 (by simp) (by simp; omega) (by simp; omega) ?_
        have hnc : nC work ++ [[AV.int .i64 (g[v][k] : Int)]].flatten = nC (work ++ [g[v][k]]):=by simp [nC]
        rw [hnc]
        simp [zlz,zqX,hwk]
        refine hKb13 _ _ ⟨g[v].length - (k + 1),by omega,Back.at (J:=[]) (H2:=(H3.set H'.length (.cells (zas (set2.set g[v][k] true)))).set H2.length (.vec zaQ 1 (work.length + 1) (nC (work ++ [g[v][k]])))) (by simp) (by simp; omega) ((hsc3.set (by simp [AB.sc,zck])).set (by simp [AB.sc,nC,AV.scA,AV.scB])) ?_
         ⟨_,_,rfl,set2.set g[v][k] true,work ++ [g[v][k]],k + 1,by omega,rfl,by simp,by simp,zei (zei hp3 (by omega)) (by omega),by simp; omega,?_,?_,?_,fun b hb hb3=>?_,by simp; omega,by simp; omega,hP⟩⟩
        ·simp [zhT,AV.sc,AV.scV,AV.scA,AV.scB,hi3l]
         omega
        ·rw [List.getElem?_set_ne (by omega),List.getElem?_set_ne (by omega)]; exact hr3
        ·rw [List.getElem?_set_ne (by omega),List.getElem?_set_self (by omega)]
        ·rw [List.getElem?_set_self (by simpa using hi3l)]; simp
        ·rw [List.getElem?_set_ne (by omega),List.getElem?_set_ne (by omega)]; exact hst3 b hb hb3
      ·obtain rfl : k = g[v].length:=by omega
       simp [zlv]
       refine hKb9 _ _ ⟨2 * set2.count false + work.length,by simp; omega,Back.at (J:=[]) (H2:=H3) (by simp) (by omega) hsc3 ?_ ⟨_,rfl,set2,work,H2.length,rfl,rfl,hp3,by omega,hr3,hs3,hi3,by omega,hst3,hwc2,?_⟩⟩
       ·simp [zly,AV.sc,AV.scV,AV.scA,AV.scB,hi3l]
        omega
       ·exact RInv2.close (by rw [hgv]; exact hJ)
  ·obtain rfl : i = g.length:=by omega
   simp [zqS]
   exact hK refs H' hpre hsc0 hrf hrl hRo
theorem zAH (g : List (List Nat)) (hg : GOk g) (hb : g.length ≤ 1000000) (hr : ∀ r ∈ g,r.length ≤ 1000000) (H : zaa) (K : Kt) (hs : HSc H)
  (hK : ∀ refs X,H <+: X → HSc X → X[H.length]? = some (.cells refs) → refs.length = g.length → zeu g H.length X g.length refs →
   zaN 1 [(.bool false)] (.int .i64 g.length) (.int .i64 g.length) X fun t32 X2=>zgn (gV g) (.ms H.length 0 g.length g.length) t32 .snil (.int .i64 0) X2 K) :
  zpI (gV g) (.ms H.length 0 g.length g.length) (.int .i64 g.length) (.int .i64 0) (H ++ [.cells (List.replicate g.length .snil)]) K:=by
 refine zHW (Inv:=fun q t20 H'=>∃ (i : Nat) (refs : List AV),i ≤ g.length ∧ q = g.length - i ∧ t20 = .int .i64 i ∧ H <+: H' ∧ H'[H.length]? = some (.cells refs) ∧ refs.length = g.length ∧ zeu g H.length H' i refs) g.length ?_ ?_
 ·intro _
  exact ⟨0,List.replicate g.length .snil,by omega,by omega,rfl,⟨_,rfl⟩,by simp,by simp,fun j hj=>by omega⟩
 ·rintro q t20 H' ⟨i,refs,hi,rfl,rfl,hpre,hrf,hrl,hRo⟩ hsc0 hlen0 hsF0 Kb4 hKb4
  have hHl:=hpre.length_le
  have hHr:=(List.getElem?_eq_some_iff.1 hrf).1
  by_cases hil : i < g.length
  ·simp [zpG,hil]
   refine zLC g hg hb hr i hil _ _ fun set X hX hsX hI hset=>?_
   have hri : i < refs.length:=by omega
   have hXl:=hX.length_le
   have hsl:=(List.getElem?_eq_some_iff.1 hset).1
   have hrf2 : X[H.length]? = some (.cells refs):=by
    obtain ⟨J,rfl⟩:=hX
    rw [List.getElem?_append_left hHr]; exact hrf
   simp [hil,hrf2]
   rw [zub hri,zaq (by omega) (by omega)]
   refine ⟨by omega,?_⟩
   refine hKb4 _ _ ⟨g.length - (i + 1),by omega,Back.at (J:=[]) (H2:=X.set H.length (.cells (refs.set i (.ms H'.length 0 g.length g.length)))) (by simp) (by simp; omega) (hsX.set ?_) ?_ ⟨_,rfl,i + 1,_,by omega,rfl,by simp,zei (hpre.trans hX) (Nat.le_refl _),List.getElem?_set_self (by omega),by simp [hrl],fun j hj=>?_⟩⟩
   ·have:=hsX _ (List.mem_of_getElem? hrf2)
    simp only [AB.sc,List.all_eq_true] at this ⊢
    intro x hx
    rcases List.mem_or_eq_of_mem_set hx with hx | rfl
    ·exact this x hx
    ·simp [AV.scA,AV.scB]; omega
   ·simp [zkp,gV,AV.sc,AV.scV,AV.scA,AV.scB]
    omega
   ·by_cases hji : j = i
    ·subst hji
     exact ⟨H'.length,set,List.getElem?_set_self hri,by omega,by rw [List.getElem?_set_ne (by omega)]; exact hset,hI⟩
    ·obtain ⟨b,st,k1,k2,k3,k4⟩:=hRo j (by omega)
     have hbl:=(List.getElem?_eq_some_iff.1 k3).1
     refine ⟨b,st,by rw [List.getElem?_set_ne (fun h=>hji h.symm)]; exact k1,k2,?_,k4⟩
     obtain ⟨J,rfl⟩:=hX
     rw [List.getElem?_set_ne (by omega),List.getElem?_append_left hbl]; exact k3
  ·obtain rfl : i = g.length:=by omega
   have hgl : ∀ k : AV → Prop,k (.int .i64 g.length) → zaj 1 (gV g) k:=fun k h=>by simpa [gV] using h
   simp [zpG]
   exact hgl _ (hK refs H' hpre hsc0 hrf hrl hRo)
end Go.Proofs.Ytkdmpbhbmmhijaa
