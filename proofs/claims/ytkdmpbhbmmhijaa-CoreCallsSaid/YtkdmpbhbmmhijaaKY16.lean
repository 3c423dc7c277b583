import Derived.Test.YtkdmpbhbmmhijaaKNum
import Derived.Test.YtkdmpbhbmmhijaaProg
import Derived.KernelRfl
import Derived.Test.YtkdmpbhbmmhijaaKY14
set_option linter.unusedSimpArgs false
set_option linter.unusedVariables false
namespace Go.Proofs.Ytkdmpbhbmmhijaa
open Go Go.Abs
set_option maxRecDepth 100000
def zfs : Nat → List Bool
 | 5=>rl false [0,1,2,2,9,2,89]
 | 13=>rl false [0,1,2,3,8,2,60,3,26]
 | _=>[]
noncomputable def zpV : Code:=Try.f41.body.getD .skip
noncomputable def zIt : List ResultVar:=Try.f41.results.toList
def zkx (t0 t3 t4 t14 t15 : AV) : List AV:=t0 :: ux 2 (t3 :: t4 :: ux 9 (t14 :: t15 :: ux 89 []))
def zww : List Bool:=zfs 5
noncomputable def zpW : Code:=zan [1,1,1,0,1,0,0] zpV
def zwt (K : Kt) : AExit → List AV → zaa → Prop:=zao tP zfs [1,1,1,0,1,0] zpV (zau tP zIt K)
def zwv (t0 t3 t4 t14 t15 : AV) (H : zaa) (K : Kt) : Prop:=ALoop tP zpW (zwt K) (zkx t0 t3 t4 t14 t15) H
def zkw (t0 t3 t4 t5 t14 t15 t76 t77 t78 : AV) : List AV:=t0 :: ux 2 (t3 :: t4 :: t5 :: ux 8 (t14 :: t15 :: ux 60 (t76 :: t77 :: t78 :: ux 26 [])))
def zIr : List Bool:=zfs 13
noncomputable def zIo : Code:=zan [1,1,0,0,1,1,1,1,1,0,0] zpW
def zIn (K : Kt) (Kb5 : Lt) : AExit → List AV → zaa → Prop:=zao tP zfs [1,1,0,0,1,1,1,1,1,0] zpW (zbj zww Kb5 (zwt K))
def zwu (t0 t3 t4 t5 t14 t15 t76 t77 t78 : AV) (H : zaa) (K : Kt) (Kb5 : Lt) : Prop:=ALoop tP zIo (zIn K Kb5) (zkw t0 t3 t4 t5 t14 t15 t76 t77 t78) H
def zpT (t0 t3 t4 t5 t14 t15 t76 t77 t78 : AV) (H : zaa) (K : Kt) (Kb5 : Lt) (Kb13 : Lt) : Prop:=
 zad .lss false t78 t77 fun t79=>
 zag t79
 (zai 2 t76 t78 fun t81=>
 zae true 2 t81 H fun t82=>
 zaA [(.str []),.snil] H fun t7 H=>
 zar 2 t7 t82 H fun H=>
 zaf 0 t7 fun t83=>
 zae false 1 t83 H fun t84=>
 ACalls tP ziM [t84] H fun t85 H=>
 aUn .not t85 fun t86=>
 zab t86 false H (fun K'=>K' t4 H) fun t88 H=>
 zab t86 false H (fun K'=>zaf 0 t7 (K' · H)) fun t89 H=>
 zab t86 false H (fun K'=>zae false 1 t89 H (K' · H)) fun t90 H=>
 zab t86 false H (fun K'=>zdI (.bool false) false t88 t90 H (K' · H)) fun t91 H=>
 zah t86 (.bool true) t91 fun t92=>
 zab t92 false H (fun K'=>K' t0 H) fun t94 H=>
 zab t92 false H (fun K'=>K' t5 H) fun t95 H=>
 zab t92 false H (fun K'=>K' t78 H) fun t96 H=>
 zab t92 false H (fun K'=>ACalls tP znG [t94,t95,t96] H K') fun t97 H=>
 zab t92 false H (fun K'=>aUn .not t97 (K' · H)) fun t98 H=>
 zah t92 (.bool true) t98 fun t99=>
 zag t99
 (K (.bool false) H)
 (zaf 0 t7 fun t101=>
 zae false 1 t101 H fun t102=>
 zcZ t4 t102 (.bool true) H fun H=>
 zad .add false t78 (.int .i64 1) fun t103=>
 Kb13 (zkw t0 t3 t4 t5 t14 t15 t76 t77 t103) H))
 (zad .add false t15 (.int .i64 1) fun t104=>
 Kb5 (zkx t0 t3 t4 t14 t104) H)
def zpU (t0 t3 t4 t14 t15 : AV) (H : zaa) (K : Kt) (Kb5 : Lt) : Prop:=
 zad .lss false t15 t14 fun t16=>
 zag t16
 (zai 3 t0 t15 fun t20=>
 zaf 0 t20 fun t21=>
 zae false 1 t21 H fun t22=>
 ACalls tP ziM [t22] H fun t23 H=>
 aUn .not t23 fun t24=>
 zab t24 false H (fun K'=>K' t3 H) fun t26 H=>
 zab t24 false H (fun K'=>K' t0 H) fun t27 H=>
 zab t24 false H (fun K'=>K' t15 H) fun t28 H=>
 zab t24 false H (fun K'=>zai 3 t27 t28 (K' · H)) fun t29 H=>
 zab t24 false H (fun K'=>zaf 0 t29 (K' · H)) fun t30 H=>
 zab t24 false H (fun K'=>zae false 1 t30 H (K' · H)) fun t31 H=>
 zab t24 false H (fun K'=>zdI (.bool false) false t26 t31 H (K' · H)) fun t32 H=>
 zah t24 (.bool true) t32 fun t33=>
 zab t33 false H (fun K'=>K' t0 H) fun t35 H=>
 zab t33 false H (fun K'=>K' t15 H) fun t36 H=>
 zab t33 false H (fun K'=>zai 3 t35 t36 (K' · H)) fun t37 H=>
 zab t33 false H (fun K'=>zaf 1 t37 (K' · H)) fun t38 H=>
 zab t33 false H (fun K'=>zae false 1 t38 H (K' · H)) fun t39 H=>
 zab t33 false H (fun K'=>zad .lss false t39 (.int .i64 0) (K' · H)) fun t40 H=>
 zah t33 (.bool true) t40 fun t41=>
 zab t41 false H (fun K'=>K' t0 H) fun t43 H=>
 zab t41 false H (fun K'=>K' t15 H) fun t44 H=>
 zab t41 false H (fun K'=>zai 3 t43 t44 (K' · H)) fun t45 H=>
 zab t41 false H (fun K'=>zaf 1 t45 (K' · H)) fun t46 H=>
 zab t41 false H (fun K'=>zae false 1 t46 H (K' · H)) fun t47 H=>
 zab t41 false H (fun K'=>zad .gtr false t47 (.int .i64 6) (K' · H)) fun t48 H=>
 zah t41 (.bool true) t48 fun t49=>
 zag t49
 (K (.bool false) H)
 (zai 3 t0 t15 fun t53=>
 zaf 0 t53 fun t54=>
 zae false 1 t54 H fun t55=>
 zcZ t3 t55 (.bool true) H fun H=>
 zai 3 t0 t15 fun t58=>
 zaf 2 t58 fun t59=>
 zae false 1 t59 H fun t60=>
 zaj 1 t60 fun t61=>
 zad .lss false t61 (.int .i64 1) fun t62=>
 zab t62 false H (fun K'=>K' t0 H) fun t64 H=>
 zab t62 false H (fun K'=>K' t15 H) fun t65 H=>
 zab t62 false H (fun K'=>zai 3 t64 t65 (K' · H)) fun t66 H=>
 zab t62 false H (fun K'=>zaf 2 t66 (K' · H)) fun t67 H=>
 zab t62 false H (fun K'=>zae false 1 t67 H (K' · H)) fun t68 H=>
 zab t62 false H (fun K'=>zaj 1 t68 (K' · H)) fun t69 H=>
 zab t62 false H (fun K'=>zad .gtr false t69 (.int .i64 8) (K' · H)) fun t70 H=>
 zah t62 (.bool true) t70 fun t71=>
 zag t71
 (K (.bool false) H)
 (zai 3 t0 t15 fun t74=>
 zaf 2 t74 fun t75=>
 zae false 1 t75 H fun t76=>
 zaj 1 t76 fun t77=>
 zwu t0 t3 t4 t15 t14 t15 t76 t77 (.int .i64 0) H K Kb5)))
 (K (.bool true) H)
def zpS (t0 : AV) (H : zaa) (K : Kt) : Prop:=
 zaj 1 t0 fun t9=>
 zad .gtr false t9 (.int .i64 12) fun t10=>
 zag t10
 (K (.bool false) H)
 (zev H fun t11 H=>
 zev H fun t12 H=>
 zaj 1 t0 fun t14=>
 zwv t0 t11 t12 t14 (.int .i64 0) H K)
theorem zIp {t0 t3 t4 t5 t14 t15 t76 t77 t78 : AV} {H : zaa} {K : Kt} {Kb5 : Lt} (Inv : Nat → AV → zaa → Prop) (n : Nat) (h0 : HSc H → Inv n t78 H)
  (round : Rd1 (fun t78=>zkw t0 t3 t4 t5 t14 t15 t76 t77 t78) (fun t78=>fun H Kb13=>zpT t0 t3 t4 t5 t14 t15 t76 t77 t78 H K Kb5 Kb13) H Inv) : zwu t0 t3 t4 t5 t14 t15 t76 t77 t78 H K Kb5:=
 lp1 (M:=zfs) zIr t78 (by kernel_rfl) Inv n h0 round
theorem zIq {t0 t3 t4 t14 t15 : AV} {H : zaa} {K : Kt} (Inv : Nat → AV → zaa → Prop) (n : Nat) (h0 : HSc H → Inv n t15 H)
  (round : Rd1 (fun t15=>zkx t0 t3 t4 t14 t15) (fun t15=>fun H Kb5=>zpU t0 t3 t4 t14 t15 H K Kb5) H Inv) : zwv t0 t3 t4 t14 t15 H K:=
 lp1 (M:=zfs) zww t15 (by kernel_rfl) Inv n h0 round
theorem zIs {t0 : AV} {H : zaa} {K : Kt} (h : HSc H → zpS t0 H K) : ACalls tP zns [t0] H K:=
 zax (M:=zfs) Try.func41 (c:=zpV) (by kernel_rfl) (fun hs=>Eq.mpr (by kernel_rfl) (h hs))
def zIv (_ : Nat) : List Bool:=[]
noncomputable def zIw : Code:=Try.f42.body.getD .skip
def zwx (t0 : AV) (H : zaa) (K : Kt) : Prop:=
 zaF t0 H fun t1 H=>
 zaf 2 t1 fun t3=>
 zae false 1 t3 H fun t4=>
 zaj 1 t4 fun t5=>
 zad .leq false t5 (.int .i64 3000) fun t6=>
 zab t6 true H (fun K'=>zaf 2 t1 (K' · H)) fun t8 H=>
 zab t6 true H (fun K'=>zae false 1 t8 H (K' · H)) fun t9 H=>
 zab t6 true H (fun K'=>zcN znH [t1] (K' · H)) fun t10 H=>
 zab t6 true H (fun K'=>ACalls tP zfc [t9,t10] H K') fun t11 H=>
 zab t6 true H (fun K'=>aUn .not t11 (K' · H)) fun t12 H=>
 zah t6 t12 (.bool false) fun t13=>
 K t13 H
theorem zIx {t0 : AV} {H : zaa} {K : Kt} (h : HSc H → zwx t0 H K) : ACalls tP znt [t0] H K:=
 zax (M:=zIv) Try.func42 (c:=zIw) (by kernel_rfl) (fun hs=>Eq.mpr (by kernel_rfl) (h hs))
def zky : Nat → List Bool
 | 6=>rl false [1,1,1,2,14,3,59]
 | _=>[]
noncomputable def zpX : Code:=Try.f43.body.getD .skip
noncomputable def zIE : List ResultVar:=Try.f43.results.toList
def zkz (t1 t3 t4 t19 t20 t21 : AV) : List AV:=ux 1 (t1 :: ux 1 (t3 :: t4 :: ux 14 (t19 :: t20 :: t21 :: ux 59 [])))
def zIC : List Bool:=zky 6
noncomputable def zIA : Code:=zan [1,1,1,1,0,1,0,0] zpX
def zIz (K : Kt) : AExit → List AV → zaa → Prop:=zao tP zky [1,1,1,1,0,1,0] zpX (zau tP zIE K)
def zwz (t1 t3 t4 t19 t20 t21 : AV) (H : zaa) (K : Kt) : Prop:=ALoop tP zIA (zIz K) (zkz t1 t3 t4 t19 t20 t21) H
def zhz (t1 t3 t4 t6 t19 t20 t21 : AV) (H : zaa) (K : Kt) (Kb6 : Lt) : Prop:=
 zaf 0 t6 fun t42=>
 zae false 1 t42 H fun t43=>
 zcZ t3 t43 (.bool true) H fun H=>
 zaf 1 t6 fun t44=>
 zae false 1 t44 H fun t45=>
 zaj 1 t45 fun t46=>
 zad .gtr false t46 (.int .i64 6) fun t47=>
 zab t47 false H (fun K'=>zaf 0 t1 (K' · H)) fun t49 H=>
 zab t47 false H (fun K'=>zae false 1 t49 H (K' · H)) fun t50 H=>
 zab t47 false H (fun K'=>zaf 3 t6 (K' · H)) fun t51 H=>
 zab t47 false H (fun K'=>zae true 3 t51 H (K' · H)) fun t52 H=>
 zab t47 false H (fun K'=>ACalls tP zfZ [t50,t52,(.int .i64 0)] H K') fun t53 H=>
 zab t47 false H (fun K'=>aUn .not t53 (K' · H)) fun t54 H=>
 zah t47 (.bool true) t54 fun t55=>
 zag t55
 (K (.bool false) H)
 (zac H (fun K'=>zaf 6 t6 (K' · H)) fun t56=>
 zac H (fun K'=>zak false 1 t56 H (K' · H)) fun t57=>
 zac H (fun K'=>zad .lss false t57 (.int .i64 0) (K' · H)) fun t58=>
 zac H (fun K'=>K' t58 H) fun t59=>
 zab t59 false H (fun K'=>zac H (fun K''=>zaf 6 t6 (K'' · H)) (K' · H)) fun t60 H=>
 zab t59 false H (fun K'=>zac H (fun K''=>zak false 1 t60 H (K'' · H)) (K' · H)) fun t61 H=>
 zab t59 false H (fun K'=>zac H (fun K''=>zaf 3 t1 (K'' · H)) (K' · H)) fun t62 H=>
 zab t59 false H (fun K'=>zac H (fun K''=>zak false 1 t62 H (K'' · H)) (K' · H)) fun t63 H=>
 zab t59 false H (fun K'=>zac H (fun K''=>zaj 1 t63 (K'' · H)) (K' · H)) fun t64 H=>
 zab t59 false H (fun K'=>zac H (fun K''=>zad .geq false t61 t64 (K'' · H)) (K' · H)) fun t65 H=>
 zac H (fun K'=>zah t59 (.bool true) t65 (K' · H)) fun t66=>
 zac H (fun K'=>K' t66 H) fun t67=>
 zab t67 false H (fun K'=>zac H (fun K''=>zaf 3 t1 (K'' · H)) (K' · H)) fun t68 H=>
 zab t67 false H (fun K'=>zac H (fun K''=>zak false 1 t68 H (K'' · H)) (K' · H)) fun t69 H=>
 zab t67 false H (fun K'=>zac H (fun K''=>zaf 6 t6 (K'' · H)) (K' · H)) fun t70 H=>
 zab t67 false H (fun K'=>zac H (fun K''=>zak false 1 t70 H (K'' · H)) (K' · H)) fun t71 H=>
 zab t67 false H (fun K'=>zac H (fun K''=>zai 8 t69 t71 (K'' · H)) (K' · H)) fun t72 H=>
 zab t67 false H (fun K'=>zac H (fun K''=>zaf 5 t72 (K'' · H)) (K' · H)) fun t73 H=>
 zab t67 false H (fun K'=>zac H (fun K''=>zak true 3 t73 H (K'' · H)) (K' · H)) fun t74 H=>
 zab t67 false H (fun K'=>zac H (fun K''=>zaf 3 t6 (K'' · H)) (K' · H)) fun t75 H=>
 zab t67 false H (fun K'=>zac H (fun K''=>zak true 3 t75 H (K'' · H)) (K' · H)) fun t76 H=>
 zab t67 false H (fun K'=>zaw H (fun H K''=>ACalls tP zbN [t74,t76] H K'') (K' · H)) fun t77 H=>
 zab t67 false H (fun K'=>zac H (fun K''=>aUn .not t77 (K'' · H)) (K' · H)) fun t78 H=>
 zac H (fun K'=>zah t67 (.bool true) t78 (K' · H)) fun t79=>
 zag t79
 (K (.bool false) H)
 (zad .add false t21 (.int .i64 1) fun t80=>
 Kb6 (zkz t1 t3 t4 t19 t20 t80) H))
def zft (t1 t3 t4 t19 t20 t21 : AV) (H : zaa) (K : Kt) (Kb6 : Lt) : Prop:=
 zad .lss false t21 t20 fun t22=>
 zag t22
 (zai 7 t19 t21 fun t23=>
 zae true 7 t23 H fun t24=>
 zaA [(.str []),.snil,.snil,(.int .i64 0),(.int .i64 0),.snil,(.int .i64 0)] H fun t6 H=>
 zar 7 t6 t24 H fun H=>
 zaf 0 t6 fun t25=>
 zae false 1 t25 H fun t26=>
 zad .eql false t26 (.str []) fun t27=>
 zag t27
 (zhz t1 t3 (.bool true) t6 t19 t20 t21 H K Kb6)
 (zab t4 false H (fun K'=>K' t3 H) fun t30 H=>
 zab t4 false H (fun K'=>zaf 0 t6 (K' · H)) fun t31 H=>
 zab t4 false H (fun K'=>zae false 1 t31 H (K' · H)) fun t32 H=>
 zab t4 false H (fun K'=>zdI (.bool false) false t30 t32 H (K' · H)) fun t33 H=>
 zah t4 (.bool true) t33 fun t34=>
 zab t34 false H (fun K'=>zaf 2 t6 (K' · H)) fun t36 H=>
 zab t34 false H (fun K'=>zae false 1 t36 H (K' · H)) fun t37 H=>
 zab t34 false H (fun K'=>zaj 1 t37 (K' · H)) fun t38 H=>
 zab t34 false H (fun K'=>zad .gtr false t38 (.int .i64 0) (K' · H)) fun t39 H=>
 zah t34 (.bool true) t39 fun t40=>
 zag t40
 (K (.bool false) H)
 (zhz t1 t3 t4 t6 t19 t20 t21 H K Kb6)))
 (K (.bool true) H)
def zwy (t0 : AV) (H : zaa) (K : Kt) : Prop:=
 zaF t0 H fun t1 H=>
 zaf 1 t1 fun t7=>
 zae false 1 t7 H fun t8=>
 zaj 1 t8 fun t9=>
 zad .gtr false t9 (.int .i64 64) fun t10=>
 zab t10 false H (fun K'=>zaf 3 t1 (K' · H)) fun t12 H=>
 zab t10 false H (fun K'=>zae false 1 t12 H (K' · H)) fun t13 H=>
 zab t10 false H (fun K'=>zaj 1 t13 (K' · H)) fun t14 H=>
 zab t10 false H (fun K'=>zad .gtr false t14 (.int .i64 3000) (K' · H)) fun t15 H=>
 zah t10 (.bool true) t15 fun t16=>
 zag t16
 (K (.bool false) H)
 (zev H fun t17 H=>
 zaf 1 t1 fun t18=>
 zae false 1 t18 H fun t19=>
 zaj 1 t19 fun t20=>
 zwz t1 t17 (.bool false) t19 t20 (.int .i64 0) H K)
theorem zIB {t1 t3 t4 t19 t20 t21 : AV} {H : zaa} {K : Kt} (Inv : Nat → AV → AV → zaa → Prop) (n : Nat) (h0 : HSc H → Inv n t4 t21 H)
  (round : Rd2 (fun t4=>fun t21=>zkz t1 t3 t4 t19 t20 t21) (fun t4=>fun t21=>fun H Kb6=>zft t1 t3 t4 t19 t20 t21 H K Kb6) H Inv) : zwz t1 t3 t4 t19 t20 t21 H K:=
 lp2 (M:=zky) zIC t4 t21 (by kernel_rfl) Inv n h0 round
theorem zID {t0 : AV} {H : zaa} {K : Kt} (h : HSc H → zwy t0 H K) : ACalls tP znu [t0] H K:=
 zax (M:=zky) Try.func43 (c:=zpX) (by kernel_rfl) (fun hs=>Eq.mpr (by kernel_rfl) (h hs))
def zd1 : Nat → List Bool
 | 5=>rl false [1,1,2,2,12,3,54]
 | 11=>rl false [1,1,2,2,25,3,41]
 | 16=>rl false [1,1,2,2,2,1,22,3,12,3,26]
 | _=>[]
noncomputable def zhB : Code:=Try.f44.body.getD .skip
noncomputable def zwG : List ResultVar:=Try.f44.results.toList
def zkD (t1 t4 t5 t18 t19 t20 : AV) : List AV:=ux 1 (t1 :: ux 2 (t4 :: t5 :: ux 12 (t18 :: t19 :: t20 :: ux 54 [])))
def zIO : List Bool:=zd1 5
noncomputable def zIJ : Code:=zan [1,1,1,1,0,1,0,0] zhB
def zIH (K : Kt) : AExit → List AV → zaa → Prop:=zao tP zd1 [1,1,1,1,0,1,0] zhB (zau tP zwG K)
def zwE (t1 t4 t5 t18 t19 t20 : AV) (H : zaa) (K : Kt) : Prop:=ALoop tP zIJ (zIH K) (zkD t1 t4 t5 t18 t19 t20) H
def zkB (t1 t4 t5 t31 t32 t33 : AV) : List AV:=ux 1 (t1 :: ux 2 (t4 :: t5 :: ux 25 (t31 :: t32 :: t33 :: ux 41 [])))
def zwF : List Bool:=zd1 11
noncomputable def zpZ : Code:=zan [1,1,1,1,1,0,1,0,0] zhB
def zwB (K : Kt) : AExit → List AV → zaa → Prop:=zao tP zd1 [1,1,1,1,1,0,1,0] zhB (zau tP zwG K)
def zwC (t1 t4 t5 t31 t32 t33 : AV) (H : zaa) (K : Kt) : Prop:=ALoop tP zpZ (zwB K) (zkB t1 t4 t5 t31 t32 t33) H
def zkC (t1 t4 t5 t8 t31 t32 t33 t46 t47 t48 : AV) : List AV:=ux 1 (t1 :: ux 2 (t4 :: t5 :: ux 2 (t8 :: ux 22 (t31 :: t32 :: t33 :: ux 12 (t46 :: t47 :: t48 :: ux 26 [])))))
def zIN : List Bool:=zd1 16
noncomputable def zII : Code:=zan [1,1,0,0,1,1,1,0,0] zpZ
def zIG (K : Kt) (Kb11 : Lt) : AExit → List AV → zaa → Prop:=zao tP zd1 [1,1,0,0,1,1,1,0] zpZ (zbj zwF Kb11 (zwB K))
def zwD (t1 t4 t5 t8 t31 t32 t33 t46 t47 t48 : AV) (H : zaa) (K : Kt) (Kb11 : Lt) : Prop:=ALoop tP zII (zIG K Kb11) (zkC t1 t4 t5 t8 t31 t32 t33 t46 t47 t48) H
def zhA (t1 t4 t5 t8 t31 t32 t33 t46 t47 t48 : AV) (H : zaa) (K : Kt) (Kb11 : Lt) (Kb16 : Lt) : Prop:=
 zad .lss false t48 t47 fun t49=>
 zag t49
 (zai 1 t46 t48 fun t50=>
 zae false 1 t50 H fun t51=>
 zad .leq false t51 t8 fun t54=>
 zab t54 false H (fun K'=>K' t51 H) fun t56 H=>
 zab t54 false H (fun K'=>zaf 3 t1 (K' · H)) fun t57 H=>
 zab t54 false H (fun K'=>zae false 1 t57 H (K' · H)) fun t58 H=>
 zab t54 false H (fun K'=>zaj 1 t58 (K' · H)) fun t59 H=>
 zab t54 false H (fun K'=>zad .geq false t56 t59 (K' · H)) fun t60 H=>
 zah t54 (.bool true) t60 fun t61=>
 zab t61 false H (fun K'=>K' t5 H) fun t63 H=>
 zab t61 false H (fun K'=>K' t51 H) fun t64 H=>
 zab t61 false H (fun K'=>aCallV tP t63 [t64] H K') fun t65 H=>
 zab t61 false H (fun K'=>aUn .not t65 (K' · H)) fun t66 H=>
 zah t61 (.bool true) t66 fun t67=>
 zag t67
 (K (.bool false) H)
 (zad .add false t48 (.int .i64 1) fun t68=>
 Kb16 (zkC t1 t4 t5 t8 t31 t32 t33 t46 t47 t68) H))
 (zad .add false t33 (.int .i64 1) fun t69=>
 Kb11 (zkB t1 t4 t5 t31 t32 t69) H)
def zkA (t1 t4 t5 t31 t32 t33 : AV) (H : zaa) (K : Kt) (Kb11 : Lt) : Prop:=
 zad .lss false t33 t32 fun t34=>
 zag t34
 (zai 8 t31 t33 fun t36=>
 zae true 8 t36 H fun t37=>
 zaA [(.int .i64 0),(.int .i64 0),.snil,.snil,.snil,(.int .i64 0),(.int .i64 0),.snil] H fun t9 H=>
 zar 8 t9 t37 H fun H=>
 zaf 3 t9 fun t38=>
 zae false 1 t38 H fun t39=>
 zaj 1 t39 fun t40=>
 zaf 4 t9 fun t41=>
 zae false 1 t41 H fun t42=>
 zaj 1 t42 fun t43=>
 zad .neq false t40 t43 fun t44=>
 zag t44
 (K (.bool false) H)
 (zaf 4 t9 fun t45=>
 zae false 1 t45 H fun t46=>
 zaj 1 t46 fun t47=>
 zwD t1 t4 t5 t33 t31 t32 t33 t46 t47 (.int .i64 0) H K Kb11))
 (zae false 1 t4 H fun t70=>
 zaf 3 t1 fun t71=>
 zae false 1 t71 H fun t72=>
 zaj 1 t72 fun t73=>
 zad .eql false t70 t73 fun t74=>
 K t74 H)
def zpY (t1 t4 t5 t18 t19 t20 : AV) (H : zaa) (K : Kt) (Kb5 : Lt) : Prop:=
 zad .lss false t20 t19 fun t21=>
 zag t21
 (zai 7 t18 t20 fun t22=>
 zae true 7 t22 H fun t23=>
 zaA [(.str []),.snil,.snil,(.int .i64 0),(.int .i64 0),.snil,(.int .i64 0)] H fun t7 H=>
 zar 7 t7 t23 H fun H=>
 zaf 6 t7 fun t25=>
 zae false 1 t25 H fun t26=>
 aCallV tP t5 [t26] H fun t27 H=>
 aUn .not t27 fun t28=>
 zag t28
 (K (.bool false) H)
 (zad .add false t20 (.int .i64 1) fun t29=>
 Kb5 (zkD t1 t4 t5 t18 t19 t29) H))
 (zaf 3 t1 fun t30=>
 zae false 1 t30 H fun t31=>
 zaj 1 t31 fun t32=>
 zwC t1 t4 t5 t31 t32 (.int .i64 0) H K)
def zwA (t0 : AV) (H : zaa) (K : Kt) : Prop:=
 zaF t0 H fun t1 H=>
 zaf 3 t1 fun t12=>
 zae false 1 t12 H fun t13=>
 zaj 1 t13 fun t14=>
 zaN 1 [(.bool false)] t14 t14 H fun t15 H=>
 zaA [.snil] H fun t3 H=>
 zar 1 t3 t15 H fun H=>
 zaA [(.int .i64 0)] H fun t4 H=>
 zar 1 t4 (.int .i64 0) H fun H=>
 zcN ziN [t3,t4] fun t16=>
 zaf 1 t1 fun t17=>
 zae false 1 t17 H fun t18=>
 zaj 1 t18 fun t19=>
 zwE t1 t4 t16 t18 t19 (.int .i64 0) H K
theorem zIL {t1 t4 t5 t8 t31 t32 t33 t46 t47 t48 : AV} {H : zaa} {K : Kt} {Kb11 : Lt} (Inv : Nat → AV → zaa → Prop) (n : Nat) (h0 : HSc H → Inv n t48 H)
  (round : Rd1 (fun t48=>zkC t1 t4 t5 t8 t31 t32 t33 t46 t47 t48) (fun t48=>fun H Kb16=>zhA t1 t4 t5 t8 t31 t32 t33 t46 t47 t48 H K Kb11 Kb16) H Inv) : zwD t1 t4 t5 t8 t31 t32 t33 t46 t47 t48 H K Kb11:=
 lp1 (M:=zd1) zIN t48 (by kernel_rfl) Inv n h0 round
theorem zIK {t1 t4 t5 t31 t32 t33 : AV} {H : zaa} {K : Kt} (Inv : Nat → AV → zaa → Prop) (n : Nat) (h0 : HSc H → Inv n t33 H)
  (round : Rd1 (fun t33=>zkB t1 t4 t5 t31 t32 t33) (fun t33=>fun H Kb11=>zkA t1 t4 t5 t31 t32 t33 H K Kb11) H Inv) : zwC t1 t4 t5 t31 t32 t33 H K:=
 lp1 (M:=zd1) zwF t33 (by kernel_rfl) Inv n h0 round
theorem zIM {t1 t4 t5 t18 t19 t20 : AV} {H : zaa} {K : Kt} (Inv : Nat → AV → zaa → Prop) (n : Nat) (h0 : HSc H → Inv n t20 H)
  (round : Rd1 (fun t20=>zkD t1 t4 t5 t18 t19 t20) (fun t20=>fun H Kb5=>zpY t1 t4 t5 t18 t19 t20 H K Kb5) H Inv) : zwE t1 t4 t5 t18 t19 t20 H K:=
 lp1 (M:=zd1) zIO t20 (by kernel_rfl) Inv n h0 round
theorem zIP {t0 : AV} {H : zaa} {K : Kt} (h : HSc H → zwA t0 H K) : ACalls tP znv [t0] H K:=
 zax (M:=zd1) Try.func44 (c:=zhB) (by kernel_rfl) (fun hs=>Eq.mpr (by kernel_rfl) (h hs))
def zd2 : Nat → List Bool
 | 5=>rl false [1,1,2,2,12,3,41]
 | 11=>rl false [1,1,2,2,32,3,21]
 | 14=>rl false [1,1,2,2,32,3,4,3,14]
 | _=>[]
noncomputable def zhC : Code:=Try.f45.body.getD .skip
noncomputable def zwN : List ResultVar:=Try.f45.results.toList
def zkG (t1 t4 t5 t18 t19 t20 : AV) : List AV:=ux 1 (t1 :: ux 2 (t4 :: t5 :: ux 12 (t18 :: t19 :: t20 :: ux 41 [])))
def zIZ : List Bool:=zd2 5
noncomputable def zIU : Code:=zan [1,1,1,1,0,1,0,0] zhC
def zIS (K : Kt) : AExit → List AV → zaa → Prop:=zao tP zd2 [1,1,1,1,0,1,0] zhC (zau tP zwN K)
def zwL (t1 t4 t5 t18 t19 t20 : AV) (H : zaa) (K : Kt) : Prop:=ALoop tP zIU (zIS K) (zkG t1 t4 t5 t18 t19 t20) H
def zkE (t1 t4 t5 t38 t39 t40 : AV) : List AV:=ux 1 (t1 :: ux 2 (t4 :: t5 :: ux 32 (t38 :: t39 :: t40 :: ux 21 [])))
def zwM : List Bool:=zd2 11
noncomputable def zp3 : Code:=zan [1,1,1,1,1,0,1,0,0] zhC
def zwI (K : Kt) : AExit → List AV → zaa → Prop:=zao tP zd2 [1,1,1,1,1,0,1,0] zhC (zau tP zwN K)
def zwJ (t1 t4 t5 t38 t39 t40 : AV) (H : zaa) (K : Kt) : Prop:=ALoop tP zp3 (zwI K) (zkE t1 t4 t5 t38 t39 t40) H
def zkF (t1 t4 t5 t38 t39 t40 t45 t46 t47 : AV) : List AV:=ux 1 (t1 :: ux 2 (t4 :: t5 :: ux 32 (t38 :: t39 :: t40 :: ux 4 (t45 :: t46 :: t47 :: ux 14 []))))
def zIY : List Bool:=zd2 14
noncomputable def zIT : Code:=zan [1,1,0,0,1,1,0,0] zp3
def zIR (K : Kt) (Kb11 : Lt) : AExit → List AV → zaa → Prop:=zao tP zd2 [1,1,0,0,1,1,0] zp3 (zbj zwM Kb11 (zwI K))
def zwK (t1 t4 t5 t38 t39 t40 t45 t46 t47 : AV) (H : zaa) (K : Kt) (Kb11 : Lt) : Prop:=ALoop tP zIT (zIR K Kb11) (zkF t1 t4 t5 t38 t39 t40 t45 t46 t47) H
def zp1 (t1 t4 t5 t38 t39 t40 t45 t46 t47 : AV) (H : zaa) (K : Kt) (Kb11 : Lt) (Kb14 : Lt) : Prop:=
 zad .lss false t47 t46 fun t48=>
 zag t48
 (zai 1 t45 t47 fun t49=>
 zae false 1 t49 H fun t50=>
 aCallV tP t5 [t50] H fun t53 H=>
 aUn .not t53 fun t54=>
 zag t54
 (K (.bool false) H)
 (zad .add false t47 (.int .i64 1) fun t55=>
 Kb14 (zkF t1 t4 t5 t38 t39 t40 t45 t46 t55) H))
 (zad .add false t40 (.int .i64 1) fun t56=>
 Kb11 (zkE t1 t4 t5 t38 t39 t56) H)
def zp0 (t1 t4 t5 t38 t39 t40 : AV) (H : zaa) (K : Kt) (Kb11 : Lt) : Prop:=
 zad .lss false t40 t39 fun t41=>
 zag t41
 (zai 8 t38 t40 fun t42=>
 zae true 8 t42 H fun t43=>
 zaA [(.int .i64 0),(.int .i64 0),.snil,.snil,.snil,(.int .i64 0),(.int .i64 0),.snil] H fun t9 H=>
 zar 8 t9 t43 H fun H=>
 zaf 3 t9 fun t44=>
 zae false 1 t44 H fun t45=>
 zaj 1 t45 fun t46=>
 zwK t1 t4 t5 t38 t39 t40 t45 t46 (.int .i64 0) H K Kb11)
 (zae false 1 t4 H fun t57=>
 zaf 2 t1 fun t58=>
 zae false 1 t58 H fun t59=>
 zaj 1 t59 fun t60=>
 zad .eql false t57 t60 fun t61=>
 K t61 H)
def zp2 (t1 t4 t5 t18 t19 t20 : AV) (H : zaa) (K : Kt) (Kb5 : Lt) : Prop:=
 zad .lss false t20 t19 fun t21=>
 zag t21
 (zai 7 t18 t20 fun t22=>
 zae true 7 t22 H fun t23=>
 zaA [(.str []),.snil,.snil,(.int .i64 0),(.int .i64 0),.snil,(.int .i64 0)] H fun t7 H=>
 zar 7 t7 t23 H fun H=>
 zaf 1 t7 fun t25=>
 zae false 1 t25 H fun t26=>
 aCallV tP t5 [t26] H fun t27 H=>
 aUn .not t27 fun t28=>
 zab t28 false H (fun K'=>K' t5 H) fun t30 H=>
 zab t28 false H (fun K'=>zaf 2 t7 (K' · H)) fun t31 H=>
 zab t28 false H (fun K'=>zae false 1 t31 H (K' · H)) fun t32 H=>
 zab t28 false H (fun K'=>aCallV tP t30 [t32] H K') fun t33 H=>
 zab t28 false H (fun K'=>aUn .not t33 (K' · H)) fun t34 H=>
 zah t28 (.bool true) t34 fun t35=>
 zag t35
 (K (.bool false) H)
 (zad .add false t20 (.int .i64 1) fun t36=>
 Kb5 (zkG t1 t4 t5 t18 t19 t36) H))
 (zaf 3 t1 fun t37=>
 zae false 1 t37 H fun t38=>
 zaj 1 t38 fun t39=>
 zwJ t1 t4 t5 t38 t39 (.int .i64 0) H K)
def zwH (t0 : AV) (H : zaa) (K : Kt) : Prop:=
 zaF t0 H fun t1 H=>
 zaf 2 t1 fun t12=>
 zae false 1 t12 H fun t13=>
 zaj 1 t13 fun t14=>
 zaN 1 [(.bool false)] t14 t14 H fun t15 H=>
 zaA [.snil] H fun t3 H=>
 zar 1 t3 t15 H fun H=>
 zaA [(.int .i64 0)] H fun t4 H=>
 zar 1 t4 (.int .i64 0) H fun H=>
 zcN ziO [t3,t4] fun t16=>
 zaf 1 t1 fun t17=>
 zae false 1 t17 H fun t18=>
 zaj 1 t18 fun t19=>
 zwL t1 t4 t16 t18 t19 (.int .i64 0) H K
theorem zIW {t1 t4 t5 t38 t39 t40 t45 t46 t47 : AV} {H : zaa} {K : Kt} {Kb11 : Lt} (Inv : Nat → AV → zaa → Prop) (n : Nat) (h0 : HSc H → Inv n t47 H)
  (round : Rd1 (fun t47=>zkF t1 t4 t5 t38 t39 t40 t45 t46 t47) (fun t47=>fun H Kb14=>zp1 t1 t4 t5 t38 t39 t40 t45 t46 t47 H K Kb11 Kb14) H Inv) : zwK t1 t4 t5 t38 t39 t40 t45 t46 t47 H K Kb11:=
 lp1 (M:=zd2) zIY t47 (by kernel_rfl) Inv n h0 round
theorem zIV {t1 t4 t5 t38 t39 t40 : AV} {H : zaa} {K : Kt} (Inv : Nat → AV → zaa → Prop) (n : Nat) (h0 : HSc H → Inv n t40 H)
  (round : Rd1 (fun t40=>zkE t1 t4 t5 t38 t39 t40) (fun t40=>fun H Kb11=>zp0 t1 t4 t5 t38 t39 t40 H K Kb11) H Inv) : zwJ t1 t4 t5 t38 t39 t40 H K:=
 lp1 (M:=zd2) zwM t40 (by kernel_rfl) Inv n h0 round
theorem zIX {t1 t4 t5 t18 t19 t20 : AV} {H : zaa} {K : Kt} (Inv : Nat → AV → zaa → Prop) (n : Nat) (h0 : HSc H → Inv n t20 H)
  (round : Rd1 (fun t20=>zkG t1 t4 t5 t18 t19 t20) (fun t20=>fun H Kb5=>zp2 t1 t4 t5 t18 t19 t20 H K Kb5) H Inv) : zwL t1 t4 t5 t18 t19 t20 H K:=
 lp1 (M:=zd2) zIZ t20 (by kernel_rfl) Inv n h0 round
theorem zI0 {t0 : AV} {H : zaa} {K : Kt} (h : HSc H → zwH t0 H K) : ACalls tP znw [t0] H K:=
 zax (M:=zd2) Try.func45 (c:=zhC) (by kernel_rfl) (fun hs=>Eq.mpr (by kernel_rfl) (h hs))
def zkH : Nat → List Bool
 | 6=>rl false [4,2,9,3,25]
 | _=>[]
noncomputable def zp5 : Code:=Try.f46.body.getD .skip
noncomputable def zI7 : List ResultVar:=Try.f46.results.toList
def zkI (t4 t5 t15 t16 t17 : AV) : List AV:=ux 4 (t4 :: t5 :: ux 9 (t15 :: t16 :: t17 :: ux 25 []))
def zI5 : List Bool:=zkH 6
noncomputable def zI3 : Code:=zan [1,1,1,1,1,0,1,0,0] zp5
def zI2 (K : Kt) : AExit → List AV → zaa → Prop:=zao tP zkH [1,1,1,1,1,0,1,0] zp5 (zau tP zI7 K)
def zwP (t4 t5 t15 t16 t17 : AV) (H : zaa) (K : Kt) : Prop:=ALoop tP zI3 (zI2 K) (zkI t4 t5 t15 t16 t17) H
def zp4 (t4 t5 t15 t16 t17 : AV) (H : zaa) (K : Kt) (Kb6 : Lt) : Prop:=
 zad .lss false t17 t16 fun t18=>
 zag t18
 (zai 7 t15 t17 fun t19=>
 zae true 7 t19 H fun t20=>
 zaA [(.str []),.snil,.snil,(.int .i64 0),(.int .i64 0),.snil,(.int .i64 0)] H fun t7 H=>
 zar 7 t7 t20 H fun H=>
 zae false 1 t4 H fun t21=>
 zaf 1 t7 fun t22=>
 zae false 1 t22 H fun t23=>
 aCallV tP t21 [t23,(.bool true)] H fun t24 H=>
 zae false 1 t4 H fun t25=>
 zaf 2 t7 fun t26=>
 zae false 1 t26 H fun t27=>
 aCallV tP t25 [t27,(.bool true)] H fun t28 H=>
 zae false 1 t5 H fun t29=>
 zaf 6 t7 fun t30=>
 zae false 1 t30 H fun t31=>
 aCallV tP t29 [t31] H fun t32 H=>
 aUn .not t32 fun t33=>
 zag t33
 (K (.bool false) H)
 (zae false 1 t4 H fun t34=>
 zaf 1 t7 fun t35=>
 zae false 1 t35 H fun t36=>
 aCallV tP t34 [t36,(.bool false)] H fun t37 H=>
 zae false 1 t4 H fun t38=>
 zaf 2 t7 fun t39=>
 zae false 1 t39 H fun t40=>
 aCallV tP t38 [t40,(.bool false)] H fun t41 H=>
 zad .add false t17 (.int .i64 1) fun t42=>
 Kb6 (zkI t4 t5 t15 t16 t42) H))
 (K (.bool true) H)
def zwO (t0 : AV) (H : zaa) (K : Kt) : Prop:=
 zaF t0 H fun t1 H=>
 zaf 2 t1 fun t8=>
 zae false 1 t8 H fun t9=>
 zaj 1 t9 fun t10=>
 zaN 1 [(.bool false)] t10 t10 H fun t11 H=>
 zaA [.snil] H fun t3 H=>
 zar 1 t3 t11 H fun H=>
 zcN zeG [t3] fun t12=>
 zaA [.nilfn] H fun t4 H=>
 zar 1 t4 t12 H fun H=>
 zaA [.nilfn] H fun t5 H=>
 zcN zeH [t1,t3,t4,t5] fun t13=>
 zar 1 t5 t13 H fun H=>
 zaf 1 t1 fun t14=>
 zae false 1 t14 H fun t15=>
 zaj 1 t15 fun t16=>
 zwP t4 t5 t15 t16 (.int .i64 0) H K
theorem zI4 {t4 t5 t15 t16 t17 : AV} {H : zaa} {K : Kt} (Inv : Nat → AV → zaa → Prop) (n : Nat) (h0 : HSc H → Inv n t17 H)
  (round : Rd1 (fun t17=>zkI t4 t5 t15 t16 t17) (fun t17=>fun H Kb6=>zp4 t4 t5 t15 t16 t17 H K Kb6) H Inv) : zwP t4 t5 t15 t16 t17 H K:=
 lp1 (M:=zkH) zI5 t17 (by kernel_rfl) Inv n h0 round
theorem zI6 {t0 : AV} {H : zaa} {K : Kt} (h : HSc H → zwO t0 H K) : ACalls tP znx [t0] H K:=
 zax (M:=zkH) Try.func46 (c:=zp5) (by kernel_rfl) (fun hs=>Eq.mpr (by kernel_rfl) (h hs))
def zfu : Nat → List Bool
 | 3=>rl false [1,1,1,1,12,3,30]
 | 9=>rl false [3,1,24,3,18]
 | _=>[]
noncomputable def zhE : Code:=Try.f47.body.getD .skip
noncomputable def zwT : List ResultVar:=Try.f47.results.toList
def zkJ (t1 t3 t16 t17 t18 : AV) : List AV:=ux 1 (t1 :: ux 1 (t3 :: ux 12 (t16 :: t17 :: t18 :: ux 30 [])))
def zJf : List Bool:=zfu 3
noncomputable def zJb : Code:=zan [1,1,0,1,0,0] zhE
def zI9 (K : Kt) : AExit → List AV → zaa → Prop:=zao tP zfu [1,1,0,1,0] zhE (zau tP zwT K)
def zwR (t1 t3 t16 t17 t18 : AV) (H : zaa) (K : Kt) : Prop:=ALoop tP zJb (zI9 K) (zkJ t1 t3 t16 t17 t18) H
def zhF (t3 t28 t29 t30 : AV) : List AV:=ux 3 (t3 :: ux 24 (t28 :: t29 :: t30 :: ux 18 []))
def zJg : List Bool:=zfu 9
noncomputable def zJc : Code:=zan [1,1,1,0,1,0,0] zhE
def zJa (K : Kt) : AExit → List AV → zaa → Prop:=zao tP zfu [1,1,1,0,1,0] zhE (zau tP zwT K)
def zwS (t3 t28 t29 t30 : AV) (H : zaa) (K : Kt) : Prop:=ALoop tP zJc (zJa K) (zhF t3 t28 t29 t30) H
def zhD (t3 t28 t29 t30 : AV) (H : zaa) (K : Kt) (Kb9 : Lt) : Prop:=
 zad .lss false t30 t29 fun t31=>
 zag t31
 (zai 7 t28 t30 fun t33=>
 zae true 7 t33 H fun t34=>
 zaA [(.str []),.snil,.snil,(.int .i64 0),(.int .i64 0),.snil,(.int .i64 0)] H fun t7 H=>
 zar 7 t7 t34 H fun H=>
 zaf 0 t7 fun t35=>
 zae false 1 t35 H fun t36=>
 zad .eql false t36 (.str []) fun t37=>
 zab t37 true H (fun K'=>K' t3 H) fun t39 H=>
 zab t37 true H (fun K'=>za9 t39 (K' · H)) fun t40 H=>
 zab t37 true H (fun K'=>zaf 4 t40 (K' · H)) fun t41 H=>
 zab t37 true H (fun K'=>zae false 1 t41 H (K' · H)) fun t42 H=>
 zab t37 true H (fun K'=>K' t30 H) fun t43 H=>
 zab t37 true H (fun K'=>zai 1 t42 t43 (K' · H)) fun t44 H=>
 zab t37 true H (fun K'=>zae false 1 t44 H (K' · H)) fun t45 H=>
 zab t37 true H (fun K'=>zad .neq false t45 (.int .i64 1) (K' · H)) fun t46 H=>
 zah t37 t46 (.bool false) fun t47=>
 zag t47
 (K (.bool false) H)
 (zad .add false t30 (.int .i64 1) fun t48=>
 Kb9 (zhF t3 t28 t29 t48) H))
 (K (.bool true) H)
def zp6 (t1 t3 t16 t17 t18 : AV) (H : zaa) (K : Kt) (Kb3 : Lt) : Prop:=
 zad .lss false t18 t17 fun t19=>
 zag t19
 (zai 8 t16 t18 fun t20=>
 zae true 8 t20 H fun t21=>
 zaA [(.int .i64 0),(.int .i64 0),.snil,.snil,.snil,(.int .i64 0),(.int .i64 0),.snil] H fun t5 H=>
 zar 8 t5 t21 H fun H=>
 zae true 8 t5 H fun t23=>
 ACalls tP znI [t3,t23] H fun t24 H=>
 aUn .not t24 fun t25=>
 zag t25
 (K (.bool false) H)
 (zad .add false t18 (.int .i64 1) fun t26=>
 Kb3 (zkJ t1 t3 t16 t17 t26) H))
 (zaf 1 t1 fun t27=>
 zae false 1 t27 H fun t28=>
 zaj 1 t28 fun t29=>
 zwS t3 t28 t29 (.int .i64 0) H K)
def zwQ (t0 : AV) (H : zaa) (K : Kt) : Prop:=
 zaF t0 H fun t1 H=>
 zac H (fun K'=>zak true 4 t1 H (K' · H)) fun t8=>
 zac H (fun K'=>zaf 1 t1 (K' · H)) fun t9=>
 zac H (fun K'=>zak false 1 t9 H (K' · H)) fun t10=>
 zac H (fun K'=>zaj 1 t10 (K' · H)) fun t11=>
 zaN 8 [(.int .i64 0)] t11 t11 H fun t12 H=>
 zac H (fun K'=>zaL [.snil,.snil,.snil,.snil,.snil] [(0,4),(4,1)] [(0,t8),(1,t12)] (K' · H)) fun t13=>
 zaF t13 H fun t14 H=>
 zac H (fun K'=>K' t14 H) fun t3=>
 zaf 3 t1 fun t15=>
 zae false 1 t15 H fun t16=>
 zaj 1 t16 fun t17=>
 zwR t1 t3 t16 t17 (.int .i64 0) H K
theorem zJe {t3 t28 t29 t30 : AV} {H : zaa} {K : Kt} (Inv : Nat → AV → zaa → Prop) (n : Nat) (h0 : HSc H → Inv n t30 H)
  (round : Rd1 (fun t30=>zhF t3 t28 t29 t30) (fun t30=>fun H Kb9=>zhD t3 t28 t29 t30 H K Kb9) H Inv) : zwS t3 t28 t29 t30 H K:=
 lp1 (M:=zfu) zJg t30 (by kernel_rfl) Inv n h0 round
theorem zJd {t1 t3 t16 t17 t18 : AV} {H : zaa} {K : Kt} (Inv : Nat → AV → zaa → Prop) (n : Nat) (h0 : HSc H → Inv n t18 H)
  (round : Rd1 (fun t18=>zkJ t1 t3 t16 t17 t18) (fun t18=>fun H Kb3=>zp6 t1 t3 t16 t17 t18 H K Kb3) H Inv) : zwR t1 t3 t16 t17 t18 H K:=
 lp1 (M:=zfu) zJf t18 (by kernel_rfl) Inv n h0 round
theorem zJh {t0 : AV} {H : zaa} {K : Kt} (h : HSc H → zwQ t0 H K) : ACalls tP zny [t0] H K:=
 zax (M:=zfu) Try.func47 (c:=zhE) (by kernel_rfl) (fun hs=>Eq.mpr (by kernel_rfl) (h hs))
def zlE : Nat → List Bool
 | 6=>rl false [0,2,6,1,18,3,29]
 | _=>[]
noncomputable def zq2 : Code:=Try.f67.body.getD .skip
noncomputable def zL9 : List ResultVar:=Try.f67.results.toList
def zhX (t0 t1 t8 t27 t28 t29 : AV) : List AV:=t0 :: t1 :: ux 6 (t8 :: ux 18 (t27 :: t28 :: t29 :: ux 29 []))
def zL7 : List Bool:=zlE 6
noncomputable def zL5 : Code:=zan [1,1,1,1,0,1,0,0] zq2
def zL4 (K : Kt) : AExit → List AV → zaa → Prop:=zao tP zlE [1,1,1,1,0,1,0] zq2 (zau tP zL9 K)
def zx4 (t0 t1 t8 t27 t28 t29 : AV) (H : zaa) (K : Kt) : Prop:=ALoop tP zL5 (zL4 K) (zhX t0 t1 t8 t27 t28 t29) H
def zq1 (t0 t1 t8 t27 t28 t29 : AV) (H : zaa) (K : Kt) (Kb6 : Lt) : Prop:=
 zad .lss false t29 t28 fun t30=>
 zag t30
 (zai 3 t27 t29 fun t32=>
 zae true 3 t32 H fun t33=>
 zaA [(.int .i64 0),(.int .i64 0),.snil] H fun t10 H=>
 zar 3 t10 t33 H fun H=>
 zac H (fun K'=>K' t0 H) fun t34=>
 zac H (fun K'=>K' t1 H) fun t35=>
 zac H (fun K'=>zad .add false t35 (.int .i64 1) (K' · H)) fun t36=>
 zac H (fun K'=>za2 1 3 t34 none (some t36) (K' · H)) fun t37=>
 zac H (fun K'=>zak true 3 t10 H (K' · H)) fun t38=>
 zac H (fun K'=>K' t0 H) fun t39=>
 zac H (fun K'=>K' t1 H) fun t40=>
 zac H (fun K'=>zai 3 t39 t40 (K' · H)) fun t41=>
 zac H (fun K'=>zaf 1 t41 (K' · H)) fun t42=>
 zac H (fun K'=>zak false 1 t42 H (K' · H)) fun t43=>
 zaw H (fun H K'=>ACalls tP zfZ [t37,t38,t43] H K') fun t44=>
 zac H (fun K'=>aUn .not t44 (K' · H)) fun t45=>
 zac H (fun K'=>K' t45 H) fun t46=>
 zab t46 false H (fun K'=>zac H (fun K''=>K'' t8 H) (K' · H)) fun t47 H=>
 zab t46 false H (fun K'=>zac H (fun K''=>K'' t29 H) (K' · H)) fun t48 H=>
 zab t46 false H (fun K'=>zac H (fun K''=>zai 1 t47 t48 (K'' · H)) (K' · H)) fun t49 H=>
 zab t46 false H (fun K'=>zac H (fun K''=>zak false 1 t49 H (K'' · H)) (K' · H)) fun t50 H=>
 zab t46 false H (fun K'=>zac H (fun K''=>aUn .not t50 (K'' · H)) (K' · H)) fun t51 H=>
 zab t46 false H (fun K'=>zac H (fun K''=>K'' t51 H) (K' · H)) fun t52 H=>
 zab t52 true H (fun K'=>zac H (fun K''=>zak true 3 t10 H (K'' · H)) (K' · H)) fun t53 H=>
 zab t52 true H (fun K'=>zac H (fun K''=>K'' t1 H) (K' · H)) fun t54 H=>
 zab t52 true H (fun K'=>zaw H (fun H K''=>ACalls tP ziR [t53,t54] H K'') (K' · H)) fun t55 H=>
 zab t46 false H (fun K'=>zac H (fun K''=>zah t52 t55 (.bool false) (K'' · H)) (K' · H)) fun t56 H=>
 zac H (fun K'=>zah t46 (.bool true) t56 (K' · H)) fun t57=>
 zag t57
 (K (.bool false) H)
 (zad .add false t29 (.int .i64 1) fun t58=>
 Kb6 (zhX t0 t1 t8 t27 t28 t58) H))
 (K (.bool true) H)
def zx3 (t0 t1 t2 : AV) (H : zaa) (K : Kt) : Prop:=
 zai 3 t0 t1 fun t13=>
 zaf 2 t13 fun t14=>
 zae false 1 t14 H fun t15=>
 zai 2 t15 t2 fun t17=>
 zaf 1 t17 fun t18=>
 zae false 1 t18 H fun t19=>
 zaj 1 t19 fun t21=>
 zad .gtr false t21 (.int .i64 6) fun t22=>
 zag t22
 (K (.bool false) H)
 (ACalls tP znL [t0,t1,t2] H fun t26 H=>
 zaj 1 t19 fun t28=>
 zx4 t0 t1 t26 t19 t28 (.int .i64 0) H K)
theorem zL6 {t0 t1 t8 t27 t28 t29 : AV} {H : zaa} {K : Kt} (Inv : Nat → AV → zaa → Prop) (n : Nat) (h0 : HSc H → Inv n t29 H)
  (round : Rd1 (fun t29=>zhX t0 t1 t8 t27 t28 t29) (fun t29=>fun H Kb6=>zq1 t0 t1 t8 t27 t28 t29 H K Kb6) H Inv) : zx4 t0 t1 t8 t27 t28 t29 H K:=
 lp1 (M:=zlE) zL7 t29 (by kernel_rfl) Inv n h0 round
theorem zL8 {t0 t1 t2 : AV} {H : zaa} {K : Kt} (h : HSc H → zx3 t0 t1 t2 H K) : ACalls tP znG [t0,t1,t2] H K:=
 zax (M:=zlE) Try.func67 (c:=zq2) (by kernel_rfl) (fun hs=>Eq.mpr (by kernel_rfl) (h hs))
def zMe (_ : Nat) : List Bool:=[]
noncomputable def zMf : Code:=Try.f69.body.getD .skip
def zx6 (t0 t1 : AV) (H : zaa) (K : Kt) : Prop:=
 zaF t0 H fun t2 H=>
 zaf 0 t1 fun t4=>
 zae false 1 t4 H fun t5=>
 zae true 3 t2 H fun t6=>
 ACalls tP zfZ [t5,t6,(.int .i64 0)] H fun t7 H=>
 aUn .not t7 fun t8=>
 K t8 H
theorem zMg {t0 t1 : AV} {H : zaa} {K : Kt} (h : HSc H → zx6 t0 t1 H K) : ACalls tP znH [t0,t1] H K:=
 zax (M:=zMe) Try.func69 (c:=zMf) (by kernel_rfl) (fun hs=>Eq.mpr (by kernel_rfl) (h hs))
def zMn (_ : Nat) : List Bool:=[]
noncomputable def zMo : Code:=Try.f72.body.getD .skip
def zq3 (t0 t1 t2 : AV) (H : zaa) (K : Kt) : Prop:=
 zae false 1 t1 H fun t5=>
 zai 1 t5 t0 fun t7=>
 zae false 1 t7 H fun t8=>
 zag t8
 (K (.bool false) H)
 (zae false 1 t1 H fun t9=>
 zai 1 t9 t0 fun t11=>
 zar 1 t11 (.bool true) H fun H=>
 zae false 1 t2 H fun t12=>
 zad .add false t12 (.int .i64 1) fun t13=>
 zar 1 t2 t13 H fun H=>
 K (.bool true) H)
theorem zMp {t0 t1 t2 : AV} {H : zaa} {K : Kt} (h : HSc H → zq3 t0 t1 t2 H K) : ACalls tP ziN [t0,t1,t2] H K:=
 zax (M:=zMn) Try.func72 (c:=zMo) (by kernel_rfl) (fun hs=>Eq.mpr (by kernel_rfl) (h hs))
def zlH : Nat → List Bool
 | 2=>rl false [1,2,4,3,23]
 | _=>[]
noncomputable def zq4 : Code:=Try.f73.body.getD .skip
noncomputable def zMv : List ResultVar:=Try.f73.results.toList
def zlI (t1 t2 t7 t8 t9 : AV) : List AV:=ux 1 (t1 :: t2 :: ux 4 (t7 :: t8 :: t9 :: ux 23 []))
def zMt : List Bool:=zlH 2
noncomputable def zMr : Code:=zan [1,0,1,0,0] zq4
def zMq (K : Kt) : AExit → List AV → zaa → Prop:=zao tP zlH [1,0,1,0] zq4 (zau tP zMv K)
def zya (t1 t2 t7 t8 t9 : AV) (H : zaa) (K : Kt) : Prop:=ALoop tP zMr (zMq K) (zlI t1 t2 t7 t8 t9) H
def zgt (t1 t2 t7 t8 t9 : AV) (H : zaa) (K : Kt) (Kb2 : Lt) : Prop:=
 zad .lss false t9 t8 fun t10=>
 zag t10
 (zai 1 t7 t9 fun t11=>
 zae false 1 t11 H fun t12=>
 zad .lss false t12 (.int .i64 0) fun t14=>
 zab t14 false H (fun K'=>K' t12 H) fun t16 H=>
 zab t14 false H (fun K'=>zae false 1 t1 H (K' · H)) fun t17 H=>
 zab t14 false H (fun K'=>zaj 1 t17 (K' · H)) fun t18 H=>
 zab t14 false H (fun K'=>zad .geq false t16 t18 (K' · H)) fun t19 H=>
 zah t14 (.bool true) t19 fun t20=>
 zab t20 false H (fun K'=>zae false 1 t1 H (K' · H)) fun t22 H=>
 zab t20 false H (fun K'=>K' t12 H) fun t23 H=>
 zab t20 false H (fun K'=>zai 1 t22 t23 (K' · H)) fun t24 H=>
 zab t20 false H (fun K'=>zae false 1 t24 H (K' · H)) fun t25 H=>
 zah t20 (.bool true) t25 fun t26=>
 zag t26
 (K (.bool false) H)
 (zae false 1 t1 H fun t27=>
 zai 1 t27 t12 fun t29=>
 zar 1 t29 (.bool true) H fun H=>
 zae false 1 t2 H fun t30=>
 zad .add false t30 (.int .i64 1) fun t31=>
 zar 1 t2 t31 H fun H=>
 zad .add false t9 (.int .i64 1) fun t32=>
 Kb2 (zlI t1 t2 t7 t8 t32) H))
 (K (.bool true) H)
def zx9 (t0 t1 t2 : AV) (H : zaa) (K : Kt) : Prop:=
 zaj 1 t0 fun t8=>
 zya t1 t2 t0 t8 (.int .i64 0) H K
theorem zMs {t1 t2 t7 t8 t9 : AV} {H : zaa} {K : Kt} (Inv : Nat → AV → zaa → Prop) (n : Nat) (h0 : HSc H → Inv n t9 H)
  (round : Rd1 (fun t9=>zlI t1 t2 t7 t8 t9) (fun t9=>fun H Kb2=>zgt t1 t2 t7 t8 t9 H K Kb2) H Inv) : zya t1 t2 t7 t8 t9 H K:=
 lp1 (M:=zlH) zMt t9 (by kernel_rfl) Inv n h0 round
theorem zMu {t0 t1 t2 : AV} {H : zaa} {K : Kt} (h : HSc H → zx9 t0 t1 t2 H K) : ACalls tP ziO [t0,t1,t2] H K:=
 zax (M:=zlH) Try.func73 (c:=zq4) (by kernel_rfl) (fun hs=>Eq.mpr (by kernel_rfl) (h hs))
def zlJ : Nat → List Bool
 | 1=>rl false [1,2,4,3,8]
 | _=>[]
noncomputable def zq6 : Code:=Try.f74.body.getD .skip
noncomputable def zMB : List ResultVar:=Try.f74.results.toList
def zlK (t1 t2 t7 t8 t9 : AV) : List AV:=ux 1 (t1 :: t2 :: ux 4 (t7 :: t8 :: t9 :: ux 8 []))
def zMz : List Bool:=zlJ 1
noncomputable def zMx : Code:=zan [1,0,0] zq6
def zMw (K : Kt) : AExit → List AV → zaa → Prop:=zao tP zlJ [1,0] zq6 (zau tP zMB K)
def zyc (t1 t2 t7 t8 t9 : AV) (H : zaa) (K : Kt) : Prop:=ALoop tP zMx (zMw K) (zlK t1 t2 t7 t8 t9) H
def zq5 (t1 t2 t7 t8 t9 : AV) (H : zaa) (K : Kt) (Kb1 : Lt) : Prop:=
 zad .lss false t9 t8 fun t10=>
 zag t10
 (zai 1 t7 t9 fun t11=>
 zae false 1 t11 H fun t12=>
 zae false 1 t2 H fun t13=>
 zai 1 t13 t12 fun t16=>
 zar 1 t16 t1 H fun H=>
 zad .add false t9 (.int .i64 1) fun t17=>
 Kb1 (zlK t1 t2 t7 t8 t17) H)
 (za6 [] (K · H))
def zyb (t0 t1 t2 : AV) (H : zaa) (K : Kt) : Prop:=
 zaj 1 t0 fun t8=>
 zyc t1 t2 t0 t8 (.int .i64 0) H K
theorem zMy {t1 t2 t7 t8 t9 : AV} {H : zaa} {K : Kt} (Inv : Nat → AV → zaa → Prop) (n : Nat) (h0 : HSc H → Inv n t9 H)
  (round : Rd1 (fun t9=>zlK t1 t2 t7 t8 t9) (fun t9=>fun H Kb1=>zq5 t1 t2 t7 t8 t9 H K Kb1) H Inv) : zyc t1 t2 t7 t8 t9 H K:=
 lp1 (M:=zlJ) zMz t9 (by kernel_rfl) Inv n h0 round
theorem zMA {t0 t1 t2 : AV} {H : zaa} {K : Kt} (h : HSc H → zyb t0 t1 t2 H K) : ACalls tP zeG [t0,t1,t2] H K:=
 zax (M:=zlJ) Try.func74 (c:=zq6) (by kernel_rfl) (fun hs=>Eq.mpr (by kernel_rfl) (h hs))
def zfB : Nat → List Bool
 | 3=>rl false [2,3,2,1,10,3,46]
 | 9=>rl false [3,2,2,1,33,3,23]
 | 200011=>rl false [0,1]
 | 200014=>rl false [0,1]
 | _=>[]
noncomputable def zhY : Code:=Try.f75.body.getD .skip
noncomputable def zyg : List ResultVar:=Try.f75.results.toList
def zlL (t2 t3 t4 t7 t18 t19 t20 : AV) : List AV:=ux 2 (t2 :: t3 :: t4 :: ux 2 (t7 :: ux 10 (t18 :: t19 :: t20 :: ux 46 [])))
def zMI : List Bool:=zfB 3
noncomputable def zME : Code:=zan [1,1,0,1,0,0] zhY
def zMC (K : Kt) : AExit → List AV → zaa → Prop:=zao tP zfB [1,1,0,1,0] zhY (zau tP zyg K)
def zye (t2 t3 t4 t7 t18 t19 t20 : AV) (H : zaa) (K : Kt) : Prop:=ALoop tP zME (zMC K) (zlL t2 t3 t4 t7 t18 t19 t20) H
def zlM (t3 t4 t7 t41 t42 t43 : AV) : List AV:=ux 3 (t3 :: t4 :: ux 2 (t7 :: ux 33 (t41 :: t42 :: t43 :: ux 23 [])))
def zMJ : List Bool:=zfB 9
noncomputable def zMF : Code:=zan [1,1,1,0,1,0,0] zhY
def zMD (K : Kt) : AExit → List AV → zaa → Prop:=zao tP zfB [1,1,1,0,1,0] zhY (zau tP zyg K)
def zyf (t3 t4 t7 t41 t42 t43 : AV) (H : zaa) (K : Kt) : Prop:=ALoop tP zMF (zMD K) (zlM t3 t4 t7 t41 t42 t43) H
def zq7 (t3 t4 t7 t41 t42 t43 : AV) (H : zaa) (K : Kt) (Kb9 : Lt) : Prop:=
 zad .lss false t43 t42 fun t44=>
 zag t44
 (zai 1 t41 t43 fun t46=>
 zae false 1 t46 H fun t47=>
 zac H (fun K'=>zak false 1 t3 H (K' · H)) fun t48=>
 zac H (fun K'=>zaf 3 t7 (K' · H)) fun t49=>
 zac H (fun K'=>zak false 1 t49 H (K' · H)) fun t50=>
 zac H (fun K'=>K' t43 H) fun t51=>
 zac H (fun K'=>zai 1 t50 t51 (K' · H)) fun t52=>
 zac H (fun K'=>zak false 1 t52 H (K' · H)) fun t53=>
 zbB .w false H (fun K'=>aCallV tP t48 [t53,(.bool true)] H K') fun t54 H=>
 zae false 1 t4 H fun t55=>
 aCallV tP t55 [t47] H fun t57 H=>
 aUn .not t57 fun t58=>
 zag t58
 (K (.bool false) H)
 (zac H (fun K'=>zak false 1 t3 H (K' · H)) fun t59=>
 zac H (fun K'=>zaf 3 t7 (K' · H)) fun t60=>
 zac H (fun K'=>zak false 1 t60 H (K' · H)) fun t61=>
 zac H (fun K'=>K' t43 H) fun t62=>
 zac H (fun K'=>zai 1 t61 t62 (K' · H)) fun t63=>
 zac H (fun K'=>zak false 1 t63 H (K' · H)) fun t64=>
 zbB .w false H (fun K'=>aCallV tP t59 [t64,(.bool false)] H K') fun t65 H=>
 zad .add false t43 (.int .i64 1) fun t66=>
 Kb9 (zlM t3 t4 t7 t41 t42 t66) H))
 (K (.bool true) H)
def zgu (t2 t3 t4 t7 t18 t19 t20 : AV) (H : zaa) (K : Kt) (Kb3 : Lt) : Prop:=
 zad .lss false t20 t19 fun t21=>
 zag t21
 (zai 1 t18 t20 fun t22=>
 zae false 1 t22 H fun t23=>
 zad .lss false t23 (.int .i64 0) fun t25=>
 zab t25 false H (fun K'=>K' t23 H) fun t27 H=>
 zab t25 false H (fun K'=>zae false 1 t2 H (K' · H)) fun t28 H=>
 zab t25 false H (fun K'=>zaj 1 t28 (K' · H)) fun t29 H=>
 zab t25 false H (fun K'=>zad .geq false t27 t29 (K' · H)) fun t30 H=>
 zah t25 (.bool true) t30 fun t31=>
 zab t31 false H (fun K'=>zae false 1 t2 H (K' · H)) fun t33 H=>
 zab t31 false H (fun K'=>K' t23 H) fun t34 H=>
 zab t31 false H (fun K'=>zai 1 t33 t34 (K' · H)) fun t35 H=>
 zab t31 false H (fun K'=>zae false 1 t35 H (K' · H)) fun t36 H=>
 zab t31 false H (fun K'=>aUn .not t36 (K' · H)) fun t37 H=>
 zah t31 (.bool true) t37 fun t38=>
 zag t38
 (K (.bool false) H)
 (zad .add false t20 (.int .i64 1) fun t39=>
 Kb3 (zlL t2 t3 t4 t7 t18 t19 t39) H))
 (zaf 4 t7 fun t40=>
 zae false 1 t40 H fun t41=>
 zaj 1 t41 fun t42=>
 zyf t3 t4 t7 t41 t42 (.int .i64 0) H K)
def zyd (t0 t1 t2 t3 t4 : AV) (H : zaa) (K : Kt) : Prop:=
 zaf 3 t1 fun t12=>
 zae false 1 t12 H fun t13=>
 zai 8 t13 t0 fun t15=>
 zae true 8 t15 H fun t16=>
 zaA [(.int .i64 0),(.int .i64 0),.snil,.snil,.snil,(.int .i64 0),(.int .i64 0),.snil] H fun t7 H=>
 zar 8 t7 t16 H fun H=>
 zaf 2 t7 fun t17=>
 zae false 1 t17 H fun t18=>
 zaj 1 t18 fun t19=>
 zye t2 t3 t4 t7 t18 t19 (.int .i64 0) H K
theorem zMH {t3 t4 t7 t41 t42 t43 : AV} {H : zaa} {K : Kt} (Inv : Nat → AV → zaa → Prop) (n : Nat) (h0 : HSc H → Inv n t43 H)
  (round : Rd1 (fun t43=>zlM t3 t4 t7 t41 t42 t43) (fun t43=>fun H Kb9=>zq7 t3 t4 t7 t41 t42 t43 H K Kb9) H Inv) : zyf t3 t4 t7 t41 t42 t43 H K:=
 lp1 (M:=zfB) zMJ t43 (by kernel_rfl) Inv n h0 round
theorem zMG {t2 t3 t4 t7 t18 t19 t20 : AV} {H : zaa} {K : Kt} (Inv : Nat → AV → zaa → Prop) (n : Nat) (h0 : HSc H → Inv n t20 H)
  (round : Rd1 (fun t20=>zlL t2 t3 t4 t7 t18 t19 t20) (fun t20=>fun H Kb3=>zgu t2 t3 t4 t7 t18 t19 t20 H K Kb3) H Inv) : zye t2 t3 t4 t7 t18 t19 t20 H K:=
 lp1 (M:=zfB) zMI t20 (by kernel_rfl) Inv n h0 round
theorem zMK {t0 t1 t2 t3 t4 : AV} {H : zaa} {K : Kt} (h : HSc H → zyd t0 t1 t2 t3 t4 H K) : ACalls tP zeH [t0,t1,t2,t3,t4] H K:=
 zax (M:=zfB) Try.func75 (c:=zhY) (by kernel_rfl) (fun hs=>Eq.mpr (by kernel_rfl) (h hs))
def zOi (_ : Nat) : List Bool:=[]
noncomputable def zOj : Code:=Try.f91.body.getD .skip
def zma (t0 t1 t2 : AV) (H : zaa) (K : Kt) : Prop:=
 zaF t0 H fun t3 H=>
 zad .lss false t1 (.int .i64 0) fun t8=>
 zab t8 false H (fun K'=>zaf 2 t3 (K' · H)) fun t10 H=>
 zab t8 false H (fun K'=>zae false 1 t10 H (K' · H)) fun t11 H=>
 zab t8 false H (fun K'=>zaj 1 t11 (K' · H)) fun t12 H=>
 zab t8 false H (fun K'=>K' t1 H) fun t13 H=>
 zab t8 false H (fun K'=>zad .eql false t12 t13 (K' · H)) fun t14 H=>
 zah t8 (.bool true) t14 fun t15=>
 zab t15 true H (fun K'=>zaf 4 t3 (K' · H)) fun t17 H=>
 zab t15 true H (fun K'=>zae false 1 t17 H (K' · H)) fun t18 H=>
 zab t15 true H (fun K'=>zaj 1 t18 (K' · H)) fun t19 H=>
 zab t15 true H (fun K'=>K' t2 H) fun t20 H=>
 zab t15 true H (fun K'=>zad .eql false t19 t20 (K' · H)) fun t21 H=>
 zah t15 t21 (.bool false) fun t22=>
 K t22 H
theorem zOk {t0 t1 t2 : AV} {H : zaa} {K : Kt} (h : HSc H → zma t0 t1 t2 H K) : ACalls tP zcF [t0,t1,t2] H K:=
 zax (M:=zOi) Try.func91 (c:=zOj) (by kernel_rfl) (fun hs=>Eq.mpr (by kernel_rfl) (h hs))
def zOl (_ : Nat) : List Bool:=[]
noncomputable def zOm : Code:=Try.f92.body.getD .skip
def zyN (t0 : AV) (H : zaa) (K : Kt) : Prop:=
 zaA [(.int .i64 0),(.int .i64 0),.snil] H fun t2 H=>
 zaL [(.int .i64 0),(.int .i64 0),.snil] [(0,1),(1,1),(2,1)] [(0,t0)] fun t4=>
 zar 3 t2 t4 H fun H=>
 zae true 3 t2 H fun r0=>
 K r0 H
theorem zOn {t0 : AV} {H : zaa} {K : Kt} (h : HSc H → zyN t0 H K) : ACalls tP zcG [t0] H K:=
 zax (M:=zOl) Try.func92 (c:=zOm) (by kernel_rfl) (fun hs=>Eq.mpr (by kernel_rfl) (h hs))
def zOo (_ : Nat) : List Bool:=[]
noncomputable def zOp : Code:=Try.f93.body.getD .skip
def zrE (t0 t1 : AV) (H : zaa) (K : Kt) : Prop:=
 aUn .neg t1 fun t6=>
 zad .leq false t6 t0 fun t8=>
 zab t8 true H (fun K'=>K' t0 H) fun t10 H=>
 zab t8 true H (fun K'=>K' t1 H) fun t11 H=>
 zab t8 true H (fun K'=>zad .leq false t10 t11 (K' · H)) fun t12 H=>
 zah t8 t12 (.bool false) fun t13=>
 K t13 H
theorem zOq {t0 t1 : AV} {H : zaa} {K : Kt} (h : HSc H → zrE t0 t1 H K) : ACalls tP ziU [t0,t1] H K:=
 zax (M:=zOo) Try.func93 (c:=zOp) (by kernel_rfl) (fun hs=>Eq.mpr (by kernel_rfl) (h hs))
def zOr (_ : Nat) : List Bool:=[]
noncomputable def zOs : Code:=Try.f94.body.getD .skip
def zyO (t0 t1 t2 : AV) (H : zaa) (K : Kt) : Prop:=
 ACalls tP zee [t0,t1] H fun t9 H=>
 ACalls tP ziT [t9,t2,(.fn zbN [])] H fun t11 H=>
 K t11 H
theorem zOt {t0 t1 t2 : AV} {H : zaa} {K : Kt} (h : HSc H → zyO t0 t1 t2 H K) : ACalls tP zco [t0,t1,t2] H K:=
 zax (M:=zOr) Try.func94 (c:=zOs) (by kernel_rfl) (fun hs=>Eq.mpr (by kernel_rfl) (h hs))
def zOu (_ : Nat) : List Bool:=[]
noncomputable def zOv : Code:=Try.f95.body.getD .skip
def zyP (t0 t1 : AV) (H : zaa) (K : Kt) : Prop:=
 zaA [(.int .i64 0),(.int .i64 0),.snil] H fun t4 H=>
 zaL [(.int .i64 0),(.int .i64 0),.snil] [(0,1),(1,1),(2,1)] [(0,t0),(2,t1)] fun t7=>
 zar 3 t4 t7 H fun H=>
 zae true 3 t4 H fun r0=>
 K r0 H
theorem zOw {t0 t1 : AV} {H : zaa} {K : Kt} (h : HSc H → zyP t0 t1 H K) : ACalls tP zed [t0,t1] H K:=
 zax (M:=zOu) Try.func95 (c:=zOv) (by kernel_rfl) (fun hs=>Eq.mpr (by kernel_rfl) (h hs))
def zmb : Nat → List Bool
 | 3=>rl false [0,1,4,1,2,3,16]
 | _=>[]
noncomputable def zrG : Code:=Try.f96.body.getD .skip
noncomputable def zOC : List ResultVar:=Try.f96.results.toList
def zmc (t0 t5 t8 t9 t10 : AV) : List AV:=t0 :: ux 4 (t5 :: ux 2 (t8 :: t9 :: t10 :: ux 16 []))
def zOA : List Bool:=zmb 3
noncomputable def zOy : Code:=zan [1,1,0,1,0,0] zrG
def zOx (K : Kt) : AExit → List AV → zaa → Prop:=zao tP zmb [1,1,0,1,0] zrG (zau tP zOC K)
def zyR (t0 t5 t8 t9 t10 : AV) (H : zaa) (K : Kt) : Prop:=ALoop tP zOy (zOx K) (zmc t0 t5 t8 t9 t10) H
def zrF (t0 t5 t8 t9 t10 : AV) (H : zaa) (K : Kt) (Kb3 : Lt) : Prop:=
 zad .lss false t10 t9 fun t11=>
 zag t11
 (zai 1 t8 t10 fun t12=>
 zae false 1 t12 H fun t13=>
 za9 t0 fun t16=>
 zaf 0 t16 fun t17=>
 zaf 2 t17 fun t18=>
 zae false 1 t18 H fun t19=>
 zai 3 t19 t13 fun t21=>
 zae true 3 t21 H fun t22=>
 zav 3 [(.int .i64 0),(.int .i64 0),.snil] 1 [(0,t22)] fun t23=>
 zaC zaB 3 40 t5 t23 H fun t24 H=>
 zad .add false t10 (.int .i64 1) fun t25=>
 Kb3 (zmc t0 t24 t8 t9 t25) H)
 (K t5 H)
def zyQ (t0 t1 : AV) (H : zaa) (K : Kt) : Prop:=
 zaj 1 t1 fun t9=>
 zyR t0 .snil t1 t9 (.int .i64 0) H K
theorem zOz {t0 t5 t8 t9 t10 : AV} {H : zaa} {K : Kt} (Inv : Nat → AV → AV → zaa → Prop) (n : Nat) (h0 : HSc H → Inv n t5 t10 H)
  (round : Rd2 (fun t5=>fun t10=>zmc t0 t5 t8 t9 t10) (fun t5=>fun t10=>fun H Kb3=>zrF t0 t5 t8 t9 t10 H K Kb3) H Inv) : zyR t0 t5 t8 t9 t10 H K:=
 lp2 (M:=zmb) zOA t5 t10 (by kernel_rfl) Inv n h0 round
theorem zOB {t0 t1 : AV} {H : zaa} {K : Kt} (h : HSc H → zyQ t0 t1 H K) : ACalls tP zee [t0,t1] H K:=
 zax (M:=zmb) Try.func96 (c:=zrG) (by kernel_rfl) (fun hs=>Eq.mpr (by kernel_rfl) (h hs))
def zEh (_ : Nat) : List Bool:=[]
noncomputable def zEi : Code:=Try.f106.body.getD .skip
def zu9 (t0 t1 : AV) (H : zaa) (K : Kt) : Prop:=
 zaF t0 H fun t2 H=>
 zaf 3 t2 fun t5=>
 zae false 1 t5 H fun t6=>
 ACalls tP ztB [t6,t1,(.fn znl [])] H fun t8 H=>
 K t8 H
theorem zEj {t0 t1 : AV} {H : zaa} {K : Kt} (h : HSc H → zu9 t0 t1 H K) : ACalls tP zgY [t0,t1] H K:=
 zax (M:=zEh) Try.func106 (c:=zEi) (by kernel_rfl) (fun hs=>Eq.mpr (by kernel_rfl) (h hs))
def zEk (_ : Nat) : List Bool:=[]
noncomputable def zEl : Code:=Try.f107.body.getD .skip
def zva (t0 t1 t2 : AV) (H : zaa) (K : Kt) : Prop:=
 zaF t1 H fun t4 H=>
 zaA [(.int .i64 0),(.int .i64 0),.snil] H fun t6 H=>
 zac H (fun K'=>K' t0 H) fun t7=>
 zac H (fun K'=>za9 t7 (K' · H)) fun t8=>
 zac H (fun K'=>zaf 0 t8 (K' · H)) fun t9=>
 zac H (fun K'=>zaf 3 t9 (K' · H)) fun t10=>
 zac H (fun K'=>zak false 1 t10 H (K' · H)) fun t11=>
 zac H (fun K'=>zaf 4 t4 (K' · H)) fun t12=>
 zac H (fun K'=>zak false 1 t12 H (K' · H)) fun t13=>
 zac H (fun K'=>K' t2 H) fun t14=>
 zac H (fun K'=>zai 1 t13 t14 (K' · H)) fun t15=>
 zac H (fun K'=>zak false 1 t15 H (K' · H)) fun t16=>
 zac H (fun K'=>zai 8 t11 t16 (K' · H)) fun t17=>
 zac H (fun K'=>zaf 5 t17 (K' · H)) fun t18=>
 zac H (fun K'=>zak true 3 t18 H (K' · H)) fun t19=>
 zar 3 t6 t19 H fun H=>
 zae true 3 t6 H fun r0=>
 K r0 H
theorem zEm {t0 t1 t2 : AV} {H : zaa} {K : Kt} (h : HSc H → zva t0 t1 t2 H K) : ACalls tP zix [t0,t1,t2] H K:=
 zax (M:=zEk) Try.func107 (c:=zEl) (by kernel_rfl) (fun hs=>Eq.mpr (by kernel_rfl) (h hs))
def zjr : Nat → List Bool
 | 2=>rl false [0,1,3,1,2,1,16]
 | _=>[]
noncomputable def zoG : Code:=Try.f108.body.getD .skip
noncomputable def zEs : List ResultVar:=Try.f108.results.toList
def zjs (t0 t4 t7 : AV) : List AV:=t0 :: ux 3 (t4 :: ux 2 (t7 :: ux 16 []))
def zEq : List Bool:=zjr 2
noncomputable def zEo : Code:=zan [1,0,1,0,0] zoG
def zEn (K : Kt) : AExit → List AV → zaa → Prop:=zao tP zjr [1,0,1,0] zoG (zau tP zEs K)
def zvc (t0 t4 t7 : AV) (H : zaa) (K : Kt) : Prop:=ALoop tP zEo (zEn K) (zjs t0 t4 t7) H
def zoF (t0 t4 t7 : AV) (H : zaa) (K : Kt) (Kb2 : Lt) : Prop:=
 zaf 4 t4 fun t10=>
 zae false 1 t10 H fun t11=>
 zaj 1 t11 fun t12=>
 zad .lss false t7 t12 fun t13=>
 zag t13
 (zac H (fun K'=>K' t0 H) fun t16=>
 zac H (fun K'=>zak true 8 t4 H (K' · H)) fun t17=>
 zac H (fun K'=>K' t7 H) fun t18=>
 zaw H (fun H K'=>ACalls tP zix [t16,t17,t18] H K') fun t19=>
 zac H (fun K'=>zaf 5 t4 (K' · H)) fun t20=>
 zac H (fun K'=>zak true 3 t20 H (K' · H)) fun t21=>
 zaw H (fun H K'=>ACalls tP zbN [t19,t21] H K') fun t22=>
 zac H (fun K'=>aUn .not t22 (K' · H)) fun t23=>
 zag t23
 (K (.bool false) H)
 (zad .add false t7 (.int .i64 1) fun t15=>
 Kb2 (zjs t0 t4 t15) H))
 (K (.bool true) H)
def zvb (t0 t1 t2 : AV) (H : zaa) (K : Kt) : Prop:=
 zaF t1 H fun t4 H=>
 zvc t0 t4 t2 H K
theorem zEp {t0 t4 t7 : AV} {H : zaa} {K : Kt} (Inv : Nat → AV → zaa → Prop) (n : Nat) (h0 : HSc H → Inv n t7 H)
  (round : Rd1 (fun t7=>zjs t0 t4 t7) (fun t7=>fun H Kb2=>zoF t0 t4 t7 H K Kb2) H Inv) : zvc t0 t4 t7 H K:=
 lp1 (M:=zjr) zEq t7 (by kernel_rfl) Inv n h0 round
theorem zEr {t0 t1 t2 : AV} {H : zaa} {K : Kt} (h : HSc H → zvb t0 t1 t2 H K) : ACalls tP zdO [t0,t1,t2] H K:=
 zax (M:=zjr) Try.func108 (c:=zoG) (by kernel_rfl) (fun hs=>Eq.mpr (by kernel_rfl) (h hs))
def zjS : Nat → List Bool
 | 4=>rl false [1,2,12,3,14]
 | _=>[]
noncomputable def zo9 : Code:=Try.f127.body.getD .skip
noncomputable def zGa : List ResultVar:=Try.f127.results.toList
def zjT (t1 t2 t15 t16 t17 : AV) : List AV:=ux 1 (t1 :: t2 :: ux 12 (t15 :: t16 :: t17 :: ux 14 []))
def zF8 : List Bool:=zjS 4
noncomputable def zF6 : Code:=zan [1,1,0,1,0,0] zo9
def zF5 (K : Kt) : AExit → List AV → zaa → Prop:=zao tP zjS [1,1,0,1,0] zo9 (zau tP zGa K)
def zvE (t1 t2 t15 t16 t17 : AV) (H : zaa) (K : Kt) : Prop:=ALoop tP zF6 (zF5 K) (zjT t1 t2 t15 t16 t17) H
def zo8 (t1 t2 t15 t16 t17 : AV) (H : zaa) (K : Kt) (Kb4 : Lt) : Prop:=
 zad .lss false t17 t16 fun t18=>
 zag t18
 (zai 1 t15 t17 fun t20=>
 zae false 1 t20 H fun t21=>
 zai 1 t1 t17 fun t24=>
 zae false 1 t24 H fun t25=>
 aCallV tP t2 [t21,t25] H fun t29 H=>
 aUn .not t29 fun t30=>
 zag t30
 (K (.bool false) H)
 (zad .add false t17 (.int .i64 1) fun t31=>
 Kb4 (zjT t1 t2 t15 t16 t31) H))
 (K (.bool true) H)
def zo7 (t0 t1 t2 : AV) (H : zaa) (K : Kt) : Prop:=
 zaj 1 t0 fun t11=>
 zaj 1 t1 fun t13=>
 zad .neq false t11 t13 fun t14=>
 zag t14
 (K (.bool false) H)
 (zaj 1 t0 fun t16=>
 zvE t1 t2 t0 t16 (.int .i64 0) H K)
theorem zF7 {t1 t2 t15 t16 t17 : AV} {H : zaa} {K : Kt} (Inv : Nat → AV → zaa → Prop) (n : Nat) (h0 : HSc H → Inv n t17 H)
  (round : Rd1 (fun t17=>zjT t1 t2 t15 t16 t17) (fun t17=>fun H Kb4=>zo8 t1 t2 t15 t16 t17 H K Kb4) H Inv) : zvE t1 t2 t15 t16 t17 H K:=
 lp1 (M:=zjS) zF8 t17 (by kernel_rfl) Inv n h0 round
theorem zF9 {t0 t1 t2 : AV} {H : zaa} {K : Kt} (h : HSc H → zo7 t0 t1 t2 H K) : ACalls tP ztB [t0,t1,t2] H K:=
 zax (M:=zjS) Try.func127 (c:=zo9) (by kernel_rfl) (fun hs=>Eq.mpr (by kernel_rfl) (h hs))
def zGb (_ : Nat) : List Bool:=[]
noncomputable def zGc : Code:=Try.f128.body.getD .skip
def zvF (t0 t1 : AV) (H : zaa) (K : Kt) : Prop:=
 zaj 1 t0 fun t6=>
 zad .eql false t6 t1 fun t8=>
 K t8 H
theorem zGd {t0 t1 : AV} {H : zaa} {K : Kt} (h : HSc H → zvF t0 t1 H K) : ACalls tP znl [t0,t1] H K:=
 zax (M:=zGb) Try.func128 (c:=zGc) (by kernel_rfl) (fun hs=>Eq.mpr (by kernel_rfl) (h hs))
def zFw (_ : Nat) : List Bool:=[]
noncomputable def zFy : Code:=Try.f13.body.getD .skip
def zvm (t0 : AV) (H : zaa) (K : Kt) : Prop:=
 zaF t0 H fun t1 H=>
 zaf 0 t1 fun t3=>
 zae false 1 t3 H fun t4=>
 ACalls tP zns [t4] H fun t5 H=>
 zab t5 true H (fun K'=>zae true 4 t1 H (K' · H)) fun t7 H=>
 zab t5 true H (fun K'=>ACalls tP znt [t7] H K') fun t8 H=>
 zah t5 t8 (.bool false) fun t9=>
 zab t9 true H (fun K'=>zae true 4 t1 H (K' · H)) fun t11 H=>
 zab t9 true H (fun K'=>ACalls tP znu [t11] H K') fun t12 H=>
 zah t9 t12 (.bool false) fun t13=>
 zab t13 true H (fun K'=>zae true 4 t1 H (K' · H)) fun t15 H=>
 zab t13 true H (fun K'=>ACalls tP znv [t15] H K') fun t16 H=>
 zah t13 t16 (.bool false) fun t17=>
 zab t17 true H (fun K'=>zae true 4 t1 H (K' · H)) fun t19 H=>
 zab t17 true H (fun K'=>ACalls tP znw [t19] H K') fun t20 H=>
 zah t17 t20 (.bool false) fun t21=>
 zab t21 true H (fun K'=>zae true 4 t1 H (K' · H)) fun t23 H=>
 zab t21 true H (fun K'=>ACalls tP znx [t23] H K') fun t24 H=>
 zah t21 t24 (.bool false) fun t25=>
 zab t25 true H (fun K'=>zae true 4 t1 H (K' · H)) fun t27 H=>
 zab t25 true H (fun K'=>ACalls tP zny [t27] H K') fun t28 H=>
 zah t25 t28 (.bool false) fun t29=>
 K t29 H
theorem zFz {t0 : AV} {H : zaa} {K : Kt} (h : HSc H → zvm t0 H K) : ACalls tP ziz [t0] H K:=
 zax (M:=zFw) Try.func13 (c:=zFy) (by kernel_rfl) (fun hs=>Eq.mpr (by kernel_rfl) (h hs))
end Go.Proofs.Ytkdmpbhbmmhijaa
namespace Go.Proofs.Ytkdmpbhbmmhijaa
open Go Go.Abs
set_option maxRecDepth 8000
def zd7 (data : List Dat) (d : Nat) (vars : Int) (t : VT) : Bool:=zaz (data.take (d + 1)) vars t && (zcs d vars t || !zct d t)
theorem zMa (data : List Dat) (d : Nat) (c : Nat) (hd : d < data.length) (hc : c < (data[d]).cons.length) (hl : data.length ≤ 1000000) (hcl : (data[d]).cons.length ≤ 1000000) (hal : ((data[d]).cons[c]).args.length ≤ 1000000)
  (hb : ∀ x ∈ ((data[d]).cons[c]).args,x.nodes ≤ 1000000) (H : zaa) (K : AV → zaa → Prop)
  (hK : K (.bool (decide (((data[d]).cons[c]).args.length ≤ 6) && ((data[d]).cons[c]).args.all (zd7 data d (data[d]).vars))) H) :
  ACalls tP znG [.sl (data.map Dat.cs) .none,.int .i64 d,.int .i64 c] H K:=by
 refine ACalls.out (zL8 fun hs=>?_)
 have e1 : (data.map Dat.cs)[d]? = some (data[d]).cs:=by simp [hd]
 have e2 : ((data[d]).cons.map Con.cs)[c]? = some ((data[d]).cons[c]).cs:=by simp [hc]
 have hrec:=zNM data d c hd hc hl hcl hal hb
 generalize hD : data[d] = D at *
 generalize hA : D.cons[c] = C at *
 have hO : ∀ J,Out H.length K (.bool (decide (C.args.length ≤ 6) && C.args.all (zd7 data d D.vars))) (H ++ J):=fun J=>Out.bool rfl (Nat.le_refl _) hs hK
 simp [zx3,e1,e2,Dat.cs,Con.cs,hd,hD,hc,hA]
 by_cases h6 : C.args.length ≤ 6
 ·have h6' : ¬ (6 : Int) < C.args.length:=by omega
  have h6'' : ¬ 6 < C.args.length:=by omega
  simp [h6',h6'']
  refine hrec _ _ ?_
  simp [h6] at hO
  refine zL6 (Inv:=fun q t29 H'=>∃ i : Nat,i ≤ C.args.length ∧ q = C.args.length - i ∧ t29 = .int .i64 i ∧ (C.args.drop i).all (zd7 data d D.vars) = C.args.all (zd7 data d D.vars) ∧ H = H') C.args.length ?_ ?_
  ·intro _; exact ⟨0,by omega,by omega,rfl,by simp,rfl⟩
  ·rintro q t29 H' ⟨i,hi,rfl,rfl,ho,rfl⟩ hsc hlen hsF Kb hKb
   by_cases hlt : i < C.args.length
   ·rw [List.drop_eq_getElem_cons hlt,List.all_cons] at ho
    have hnb:=hb _ (List.getElem_mem hlt)
    obtain ⟨x1,x2,x3,hvx,hx1,hx2,hx3⟩:=zcY C.args[i]
    simp [zq1,hlt,hvx,e1,hd,hD,Dat.cs]
    refine ⟨⟨hx1,hx2,hx3⟩,?_⟩
    rw [zaq (by omega) (by omega),show ((d : Int) + 1).toNat = d + 1 by omega,← List.map_take]
    refine ⟨by omega,by omega,?_⟩
    rw [← hvx]
    refine zay (.bool (zaz (data.take (d + 1)) D.vars C.args[i])) (fun J=>zlF (data.take (d + 1)) D.vars _ (by omega) _ _ ⟨rfl,rfl⟩) ?_
    have hao : zd7 data d D.vars C.args[i] = (zaz (data.take (d + 1)) D.vars C.args[i] && (zcs d D.vars C.args[i] || !zct d C.args[i])):=rfl
    rw [hao] at ho
    cases hv : zaz (data.take (d + 1)) D.vars C.args[i] with
    | false=>
     rw [hv] at ho
     simp only [Bool.false_and] at ho
     rw [← ho] at hO
     simp; exact hO _
    | true=>
    rw [hv] at ho
    cases hsf : zcs d D.vars C.args[i] with
    | true=>
     rw [hsf] at ho
     simp [hlt,hsf]
     rw [zaq (by omega) (by omega)]
     refine hKb _ _ ⟨C.args.length - (i + 1),by omega,Back.same (by simp) hs ?_ ⟨_,rfl,i + 1,by omega,rfl,by simp,by simpa using ho,rfl⟩⟩
     simp [zhX,AV.sc,AV.scV,AV.scA,AV.scB]
    | false=>
     rw [hsf] at ho
     simp [hlt,hsf]
     refine zay (.bool (zct d C.args[i])) (fun J=>zNQ d _ _ (Nat.le_refl _) (by omega) _ _ ⟨rfl,rfl⟩) ?_
     cases hm : zct d C.args[i] with
     | true=>
      rw [hm] at ho
      simp only [Bool.not_true,Bool.or_false,Bool.and_false,Bool.false_and] at ho
      rw [← ho] at hO
      simp; exact hO _
     | false=>
      rw [hm] at ho
      simp
      rw [zaq (by omega) (by omega)]
      refine hKb _ _ ⟨C.args.length - (i + 1),by omega,Back.same (by simp) hs ?_ ⟨_,rfl,i + 1,by omega,rfl,by simp,by simpa using ho,rfl⟩⟩
      simp [zhX,AV.sc,AV.scV,AV.scA,AV.scB]
   ·obtain rfl : i = C.args.length:=by omega
    rw [List.drop_length,List.all_nil] at ho
    rw [← ho] at hO
    simp [zq1]
    simpa using hO []
 ·have h6' : (6 : Int) < C.args.length:=by omega
  have h6'' : 6 < C.args.length:=by omega
  simp [h6',h6'']
  simp [h6] at hO
  simpa using hO []
def zbt (l : List (List UInt8)) : List (List UInt8 × AV):=l.map fun s=>(s,.bool true)
theorem zdR (s : List UInt8) : ∀ l : List (List UInt8),(zcf (zbt l) s).getD (.bool false) = .bool (decide (s ∈ l))
 | []=>by simp [zbt,zcf]
 | a :: l=>by
  have:=zdR s l
  cases h : a == s with
  | true=>
   have h' : a = s:=by simpa using h
   simp [zbt,zcf,h,h']
  | false=>
   have h' : a ≠ s:=by simpa using h
   have h'' : s ≠ a:=fun e=>h' e.symm
   simp only [zbt,List.map_cons,zcf,h] at this ⊢
   rw [this]; simp [h'']
theorem zn9 (s : List UInt8) : ∀ l : List (List UInt8),s ∉ l → zcP (zbt l) s (.bool true) = zbt (l ++ [s])
 | [],_=>rfl
 | a :: l,h=>by
  have h1 : (a == s) = false:=by simp at h; simpa using fun e=>h.1 e.symm
  have:=zn9 s l (by simp at h; exact h.2)
  simp only [zbt,List.map_cons,zcP,h1,List.cons_append] at this ⊢
  rw [this]
theorem zuk (m : Nat) (l : List (List UInt8)) : (AB.map (zbt l)).sc m = true:=by simp [AB.sc,zbt,AV.scV]
def zbw (data : List Dat) : List (List UInt8):=data.map Dat.name
def zaV (data : List Dat) : List (List UInt8):=data.flatMap fun D=>D.cons.map Con.name
def zdu (data : List Dat) (d : Nat) (vars : Int) (c : Con) : Bool:=zcX c.name && (decide (c.args.length ≤ 6) && c.args.all (zd7 data d vars))
def zc0 (data : List Dat) (d : Nat) (D : Dat) : Bool:=zcX D.name && decide (0 ≤ D.vars) && decide (D.vars ≤ 6) && decide (1 ≤ D.cons.length) && decide (D.cons.length ≤ 8) && D.cons.all (zdu data d D.vars)
def zdj (data : List Dat) : List Dat → Nat → Bool
 | [],_=>true
 | D :: l,d=>zc0 data d D && zdj data l (d + 1)
def zcz (data : List Dat) : Bool:=decide (data.length ≤ 12) && zdj data data 0 && !zcb (zbw data) && !zcb (zaV data)
theorem zud {A R : List (List UInt8)} {s : List UInt8} (h : s ∈ A) : zcb (A ++ s :: R) = true:=by
 simp only [zcb,Bool.not_eq_true',decide_eq_false_iff_not,List.nodup_append]
 rintro ⟨_,_,h3⟩
 exact h3 s h s (by simp) rfl
theorem zi2 {l : List (List UInt8)} (h : l.Nodup) : zcb l = false:=by simp [zcb,h]
theorem ztI {A : List (List UInt8)} {s : List UInt8} (h : A.Nodup) (hs : s ∉ A) : (A ++ [s]).Nodup:=by
 rw [List.nodup_append]
 refine ⟨h,by simp,?_⟩
 intro a ha b hb
 simp at hb; subst hb
 exact fun e=>hs (e ▸ ha)
def zr0 (data : List Dat) : Prop:=∀ D ∈ data,D.cons.length ≤ 1000000 ∧ ∀ c ∈ D.cons,c.args.length ≤ 1000000 ∧ ∀ x ∈ c.args,x.nodes ≤ 1000000
theorem zIu (data : List Dat) (hB : zr0 data) (hl : data.length ≤ 1000000) (H : zaa) (K : AV → zaa → Prop) (hK : K (.bool (zcz data)) H) : ACalls tP zns [.sl (data.map Dat.cs) .none] H K:=by
 refine ACalls.out (zIs fun hs=>?_)
 have hO : ∀ J,Out H.length K (.bool (zcz data)) (H ++ J):=fun J=>Out.bool rfl (Nat.le_refl _) hs hK
 by_cases h12 : data.length ≤ 12
 ·have h12' : ¬ (12 : Int) < data.length:=by omega
  have h12'' : ¬ 12 < data.length:=by omega
  have hD0 : zdj data data 0 = false → ∀ J,Out H.length K (.bool false) (H ++ J):=fun h J=>by
   have:=hO J; rwa [show zcz data = false by simp [zcz,h]] at this
  have hD1 : zcb (zbw data) = true → ∀ J,Out H.length K (.bool false) (H ++ J):=fun h J=>by
   have:=hO J; rwa [show zcz data = false by simp [zcz,h]] at this
  have hD2 : zcb (zaV data) = true → ∀ J,Out H.length K (.bool false) (H ++ J):=fun h J=>by
   have:=hO J; rwa [show zcz data = false by simp [zcz,h]] at this
  simp [zpS,h12',h12'']
  refine zIq (Inv:=fun q t15 H'=>∃ i : Nat,i ≤ data.length ∧ q = data.length - i ∧ t15 = .int .i64 i ∧ zdj data (data.drop i) i = zdj data data 0 ∧ (zbw (data.take i)).Nodup ∧ (zaV (data.take i)).Nodup ∧ H' = H ++ [.map (zbt (zbw (data.take i))),.map (zbt (zaV (data.take i)))]) data.length ?_ ?_
  ·intro _; exact ⟨0,by omega,by omega,rfl,by simp,by simp [zbw],by simp [zaV],by simp [zbw,zaV,zbt]⟩
  ·rintro q t15 H' ⟨i,hi,rfl,rfl,ho,hdn,hcn,rfl⟩ hsc hlen hsF Kb hKb
   by_cases hlt : i < data.length
   ·have e1 : (data.map Dat.cs)[i]? = some (data[i]).cs:=by simp [hlt]
    obtain ⟨hB1,hB2⟩:=hB _ (List.getElem_mem hlt)
    have hargs:=fun c hc=>zMa data i c hlt hc hl hB1 (hB2 _ (List.getElem_mem hc)).1 (hB2 _ (List.getElem_mem hc)).2
    rw [List.drop_eq_getElem_cons hlt,zdj] at ho
    have htk : data.take (i + 1) = data.take i ++ [data[i]]:=by rw [List.take_append_getElem hlt]
    have hsplit : data = data.take i ++ data[i] :: data.drop (i + 1):=by rw [List.getElem_cons_drop,List.take_append_drop]
    generalize hD : data[i] = D at *
    have hbad : zc0 data i D = false → zdj data data 0 = false:=fun h=>by rw [← ho,h,Bool.false_and]
    have hno : ∀ J,zc0 data i D = false → Out H.length K (.bool false) (H ++ [.map (zbt (zbw (data.take i))),.map (zbt (zaV (data.take i)))] ++ J):=fun J h=>by
     rw [List.append_assoc]; exact hD0 (hbad h) _
    simp [zpU,hlt,e1,hD,Dat.cs]
    refine zx2 _ _ _ ?_
    cases hu : zcX D.name with
    | false=>simp; exact hD0 (hbad (by simp [zc0,hu])) _
    | true=>
    by_cases hmem : D.name ∈ zbw (data.take i)
    ·simp [hlt,e1,hD,Dat.cs,zdR,hmem]
     refine hD1 ?_ _
     rw [hsplit]; simp only [zbw,List.map_append,List.map_cons]
     exact zud hmem
    by_cases hv0 : D.vars < 0
    ·simp [hlt,e1,hD,Dat.cs,zdR,hmem,hv0]
     exact hD0 (hbad (by simp [zc0,show ¬ 0 ≤ D.vars by omega])) _
    by_cases hv6 : 6 < D.vars
    ·simp [hlt,e1,hD,Dat.cs,zdR,hmem,hv0,hv6]
     exact hD0 (hbad (by simp [zc0,show ¬ D.vars ≤ 6 by omega])) _
    simp [hlt,e1,hD,Dat.cs,zdR,hmem,hv0,hv6,zn9 _ _ hmem]
    by_cases hc1 : D.cons.length < 1
    ·have hc1' : (D.cons.length : Int) < 1:=by omega
     simp [hc1']
     exact hD0 (hbad (by simp [zc0,show ¬ 1 ≤ D.cons.length by omega])) _
    have hc1' : ¬ (D.cons.length : Int) < 1:=by omega
    by_cases hc8 : 8 < D.cons.length
    ·have hc8' : (8 : Int) < D.cons.length:=by omega
     simp [hlt,e1,hD,Dat.cs,hc1',hc8',hc8]
     exact hD0 (hbad (by simp [zc0,show ¬ D.cons.length ≤ 8 by omega])) _
    have hc8' : ¬ (8 : Int) < D.cons.length:=by omega
    have hdat : zc0 data i D = D.cons.all (zdu data i D.vars):=by
     simp [zc0,hu,show 0 ≤ D.vars by omega,show D.vars ≤ 6 by omega,show 1 ≤ D.cons.length by omega,show D.cons.length ≤ 8 by omega]
    simp [hlt,e1,hD,Dat.cs,hc1',hc8',hc8]
    have hdn' : (zbw (data.take (i + 1))).Nodup:=by
     rw [htk]; simp only [zbw,List.map_append,List.map_cons,List.map_nil]; exact ztI hdn hmem
    have hde : zbw (data.take i) ++ [D.name] = zbw (data.take (i + 1)):=by rw [htk]; simp [zbw]
    rw [hde]
    refine zIp (Inv:=fun q t78 H'=>∃ j : Nat,j ≤ D.cons.length ∧ q = D.cons.length - j ∧ t78 = .int .i64 j ∧ (D.cons.drop j).all (zdu data i D.vars) = D.cons.all (zdu data i D.vars) ∧ (zaV (data.take i) ++ (D.cons.take j).map Con.name).Nodup ∧ H' = H ++ [.map (zbt (zbw (data.take (i + 1)))),.map (zbt (zaV (data.take i) ++ (D.cons.take j).map Con.name))]) D.cons.length ?_ ?_
    ·intro _; exact ⟨0,by omega,by omega,rfl,by simp,by simpa using hcn,by simp⟩
    ·rintro q t78 H' ⟨j,hj,rfl,rfl,hoc,hcj,rfl⟩ hsc1 hlen1 hsF1 Kb1 hKb1
     have hscH : ∀ A B,HSc (H ++ [.map (zbt A),.map (zbt B)]):=fun A B=>hs.append (by simp [zuk])
     by_cases hjl : j < D.cons.length
     ·have e2 : (D.cons.map Con.cs)[j]? = some (D.cons[j]).cs:=by simp [hjl]
      have hargs':=hargs j hjl
      rw [List.drop_eq_getElem_cons hjl,List.all_cons] at hoc
      have htj : zaV (data.take i) ++ (D.cons.take (j + 1)).map Con.name = (zaV (data.take i) ++ (D.cons.take j).map Con.name) ++ [(D.cons[j]).name]:=by
       rw [← List.take_append_getElem hjl,List.map_append,List.append_assoc]; rfl
      have hcs : zaV data = (zaV (data.take i) ++ (D.cons.take j).map Con.name) ++ (D.cons[j]).name :: ((D.cons.drop (j + 1)).map Con.name ++ zaV (data.drop (i + 1))):=by
       have h1 : D.cons.map Con.name = (D.cons.take j).map Con.name ++ (D.cons[j]).name :: (D.cons.drop (j + 1)).map Con.name:=by
        rw [← List.map_cons (f:=Con.name),List.getElem_cons_drop,← List.map_append,List.take_append_drop]
       conv=>lhs; rw [hsplit]
       simp only [zaV,List.flatMap_append,List.flatMap_cons,List.append_assoc,h1,List.cons_append]
      generalize hC : D.cons[j] = C at *
      have hbad' : zdu data i D.vars C = false → zdj data data 0 = false:=fun h=>hbad (by rw [hdat,← hoc,h,Bool.false_and])
      generalize hA : zaV (data.take i) ++ (D.cons.take j).map Con.name = A at *
      simp only [zpT]
      simp [hjl,hC,Con.cs,Nat.add_assoc]
      refine zx2 _ _ _ ?_
      cases hu2 : zcX C.name with
      | false=>simp; exact hD0 (hbad' (by simp [zdu,hu2])) _
      | true=>
      by_cases hm2 : C.name ∈ A
      ·simp [zdR,hm2]
       exact hD2 (by rw [hcs]; exact zud hm2) _
      ·simp [zdR,hm2]
       refine hargs' _ _ ?_
       have hce : zdu data i D.vars C = (decide (C.args.length ≤ 6) && C.args.all (zd7 data i D.vars)):=by simp [zdu,hu2]
       rw [← hce]
       cases hco : zdu data i D.vars C with
       | false=>simp; exact hD0 (hbad' hco) _
       | true=>
        rw [hco,Bool.true_and] at hoc
        simp [zn9 _ _ hm2]
        rw [zaq (by omega) (by omega)]
        refine hKb1 _ _ ⟨D.cons.length - (j + 1),by omega,Back.at (J:=[.cells [.str C.name,.sl (VT.css C.args) .none]]) (H2:=H ++ [.map (zbt (zbw (data.take (i + 1)))),.map (zbt (A ++ [C.name]))]) (by simp) (by simp) (hscH _ _) ?_ ⟨_,rfl,j + 1,by omega,rfl,by simp,hoc,?_,?_⟩⟩
        ·simp [zkw,AV.sc,AV.scV,AV.scA,AV.scB]
        ·rw [htj]; exact ztI hcj hm2
        ·rw [htj]
     ·obtain rfl : j = D.cons.length:=by omega
      rw [List.drop_length,List.all_nil] at hoc
      rw [List.take_length] at *
      simp [zpT]
      rw [zaq (by omega) (by omega)]
      have hce : zaV (data.take i) ++ D.cons.map Con.name = zaV (data.take (i + 1)):=by rw [htk]; simp [zaV]
      rw [hce] at hcj ⊢
      refine hKb _ _ ⟨data.length - (i + 1),by omega,Back.at (J:=[]) (by simp) (by simp) (hscH _ _) ?_ ⟨_,rfl,i + 1,by omega,rfl,by simp,?_,hdn',hcj,rfl⟩⟩
      ·simp [zkx,AV.sc,AV.scV,AV.scA,AV.scB]
      ·rw [← ho,hdat,← hoc,Bool.true_and]
   ·obtain rfl : i = data.length:=by omega
    rw [List.drop_length,zdj] at ho
    rw [List.take_length] at *
    simp [zpU]
    have:=hO [.map (zbt (zbw data)),.map (zbt (zaV data))]
    rwa [show zcz data = true by simp [zcz,h12,← ho,zi2 hdn,zi2 hcn]] at this
 ·have h12' : (12 : Int) < data.length:=by omega
  have h12'' : 12 < data.length:=by omega
  rw [show zcz data = false by simp [zcz,h12]] at hO
  simp [zpS,h12',h12'']
  simpa using hO []
end Go.Proofs.Ytkdmpbhbmmhijaa
