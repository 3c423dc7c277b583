/- The shallow forms of functions of the program, printed by a program (absgen.py) off the translation, each tied to the model by the kernel. -/
import Derived.Test.YtkdmpbhbmmhijaaKNum
import Derived.Test.YtkdmpbhbmmhijaaProg
import Derived.KernelRfl
namespace Go.Proofs.Ytkdmpbhbmmhijaa
open Go Go.Abs
set_option linter.unusedVariables false
set_option maxRecDepth 100000
def zq51_M : Nat → List Bool
 | 5 => rl false [2,2,1,2,40,3,822]
 | 10 => rl false [2,2,1,2,56,3,806]
 | 16 => rl false [2,2,1,2,4,1,68,3,789]
 | 20 => rl false [2,2,1,2,4,1,2,1,65,3,3,3,783]
 | 56 => rl false [2,2,1,2,4,1,367,2,491]
 | 67 => rl false [2,2,1,1,14,1,1,1,5,3,393,3,445]
 | 72 => rl false [2,2,1,1,14,1,1,1,5,3,409,3,429]
 | 83 => rl false [2,2,1,1,16,1,12,2,469,3,363]
 | 100094 => rl false [3,1,1,1,11,1,2,1,1,1,16,1,832]
 | 254105 => rl false [3,1,1,2,4,1,5,1,1,4,97,1,594,1,156]
 | 241095 => rl false [3,1,1,2,4,1,5,1,1,4,97,1,445,1,305]
 | 201052 => rl false [2,2,1,2,4,1,5,6,97,1,194,1,556]
 | 188039 => rl false [2,2,1,2,4,1,5,6,97,1,59,1,691]
 | 100030 => rl false [2,2,1,2,4,1,5,6,849]
 | 100027 => rl false [2,2,1,2,4,1,5,3,852]
 | 100014 => rl false [2,2,1,2,865]
 | 100003 => rl false [2,2,868]
 | _ => []
noncomputable def zq51_c : Code := Try.f53.body.getD .skip
noncomputable def zq51_r : List ResultVar := Try.f53.results.toList
def zq51_fr5 (t2 t3 t5 t6 t47 t48 t49 : AV) : List AV := ux 2 (t2 :: t3 :: ux 1 (t5 :: t6 :: ux 40 (t47 :: t48 :: t49 :: ux 822 [])))
def zq51_m5 : List Bool := zq51_M 5
noncomputable def zq51_c5 : Code := codeAt [1, 1, 1, 0, 1, 0, 0] zq51_c
def zq51_Q5 (K : Kt) : AExit → List AV → Heap → Prop := contAt tP zq51_M [1, 1, 1, 0, 1, 0] zq51_c (retQ tP zq51_r K)
def zq51_l5 (t2 t3 t5 t6 t47 t48 t49 : AV) (H : Heap) (K : Kt) : Prop := ALoop tP zq51_c5 (zq51_Q5 K) (zq51_fr5 t2 t3 t5 t6 t47 t48 t49) H
def zq51_fr10 (t2 t3 t5 t6 t63 t64 t65 : AV) : List AV := ux 2 (t2 :: t3 :: ux 1 (t5 :: t6 :: ux 56 (t63 :: t64 :: t65 :: ux 806 [])))
def zq51_m10 : List Bool := zq51_M 10
noncomputable def zq51_c10 : Code := codeAt [1, 1, 1, 1, 0, 1, 0, 0] zq51_c
def zq51_Q10 (K : Kt) : AExit → List AV → Heap → Prop := contAt tP zq51_M [1, 1, 1, 1, 0, 1, 0] zq51_c (retQ tP zq51_r K)
def zq51_l10 (t2 t3 t5 t6 t63 t64 t65 : AV) (H : Heap) (K : Kt) : Prop := ALoop tP zq51_c10 (zq51_Q10 K) (zq51_fr10 t2 t3 t5 t6 t63 t64 t65) H
def zq51_fr16 (t2 t3 t5 t6 t11 t80 t81 t82 : AV) : List AV := ux 2 (t2 :: t3 :: ux 1 (t5 :: t6 :: ux 4 (t11 :: ux 68 (t80 :: t81 :: t82 :: ux 789 []))))
def zq51_m16 : List Bool := zq51_M 16
noncomputable def zq51_c16 : Code := codeAt [1, 1, 1, 1, 1, 1, 0, 1, 0, 0] zq51_c
def zq51_Q16 (K : Kt) : AExit → List AV → Heap → Prop := contAt tP zq51_M [1, 1, 1, 1, 1, 1, 0, 1, 0] zq51_c (retQ tP zq51_r K)
def zq51_l16 (t2 t3 t5 t6 t11 t80 t81 t82 : AV) (H : Heap) (K : Kt) : Prop := ALoop tP zq51_c16 (zq51_Q16 K) (zq51_fr16 t2 t3 t5 t6 t11 t80 t81 t82) H
def zq51_fr20 (t2 t3 t5 t6 t11 t14 t80 t81 t82 t86 t87 t88 : AV) : List AV := ux 2 (t2 :: t3 :: ux 1 (t5 :: t6 :: ux 4 (t11 :: ux 2 (t14 :: ux 65 (t80 :: t81 :: t82 :: ux 3 (t86 :: t87 :: t88 :: ux 783 []))))))
def zq51_m20 : List Bool := zq51_M 20
noncomputable def zq51_c20 : Code := codeAt [1, 1, 0, 0, 1, 1, 0, 1, 0, 0] zq51_c16
def zq51_Q20 (K : Kt) (Kb16 : Lt) : AExit → List AV → Heap → Prop := contAt tP zq51_M [1, 1, 0, 0, 1, 1, 0, 1, 0] zq51_c16 (roundQ zq51_m16 Kb16 (zq51_Q16 K))
def zq51_l20 (t2 t3 t5 t6 t11 t14 t80 t81 t82 t86 t87 t88 : AV) (H : Heap) (K : Kt) (Kb16 : Lt) : Prop := ALoop tP zq51_c20 (zq51_Q20 K Kb16) (zq51_fr20 t2 t3 t5 t6 t11 t14 t80 t81 t82 t86 t87 t88) H
def zq51_b20 (t2 t3 t5 t6 t11 t14 t80 t81 t82 t86 t87 t88 : AV) (H : Heap) (K : Kt) (Kb16 : Lt) (Kb20 : Lt) : Prop :=
 aBin .lss false t88 t87 fun t89 =>
 aTest t89
 (aIdxA 1 t86 t88 fun t90 =>
 aLoad false 1 t90 H fun t91 =>
 aFld 2 t2 fun t93 =>
 aLoad false 1 t93 H fun t94 =>
 aIdxA 3 t94 t91 fun t96 =>
 aLoad true 3 t96 H fun t97 =>
 aBuildS 3 [(.int .i64 0), (.int .i64 0), .snil] 1 [(0, t97)] fun t98 =>
 aAppend e_api_Type 3 40 t14 t98 H fun t99 H =>
 aBin .add false t88 (.int .i64 1) fun t100 =>
 Kb20 (zq51_fr20 t2 t3 t5 t6 t11 t99 t80 t81 t82 t86 t87 t100) H)
 (aBuildS 1 [.snil] 1 [(0, t14)] fun t103 =>
 aAppend e_S_api_Type 1 24 t11 t103 H fun t104 H =>
 aBin .add false t82 (.int .i64 1) fun t105 =>
 Kb16 (zq51_fr16 t2 t3 t5 t6 t104 t80 t81 t105) H)
def zq51_fr56 (t2 t3 t5 t6 t11 t379 t380 : AV) : List AV := ux 2 (t2 :: t3 :: ux 1 (t5 :: t6 :: ux 4 (t11 :: ux 367 (t379 :: t380 :: ux 491 []))))
def zq51_m56 : List Bool := zq51_M 56
noncomputable def zq51_c56 : Code := codeAt [1, 1, 1, 1, 1, 1, 1, 1, 1, 1, 1, 0, 1, 0, 1, 1, 1, 1, 1, 1, 1, 1, 1, 1, 1, 1, 1, 1, 1, 1, 1, 1, 1, 0, 1, 0, 1, 0, 0] zq51_c
def zq51_Q56 (K : Kt) : AExit → List AV → Heap → Prop := contAt tP zq51_M [1, 1, 1, 1, 1, 1, 1, 1, 1, 1, 1, 0, 1, 0, 1, 1, 1, 1, 1, 1, 1, 1, 1, 1, 1, 1, 1, 1, 1, 1, 1, 1, 1, 0, 1, 0, 1, 0] zq51_c (retQ tP zq51_r K)
def zq51_l56 (t2 t3 t5 t6 t11 t379 t380 : AV) (H : Heap) (K : Kt) : Prop := ALoop tP zq51_c56 (zq51_Q56 K) (zq51_fr56 t2 t3 t5 t6 t11 t379 t380) H
def zq51_b56 (t2 t3 t5 t6 t11 t379 t380 : AV) (H : Heap) (K : Kt) (Kb56 : Lt) : Prop :=
 aBin .lss false t380 t379 fun t381 =>
 aTest t381
 (aPure H (fun k => aFld 0 t2 (k · H)) fun t384 =>
 aPure H (fun k => aLoad false 1 t384 H (k · H)) fun t385 =>
 aPure H (fun k => k t5 H) fun t386 =>
 aPure H (fun k => aIdxA 3 t386 (.int .i64 0) (k · H)) fun t387 =>
 aPure H (fun k => aLoad true 3 t387 H (k · H)) fun t388 =>
 aPure H (fun k => k t380 H) fun t389 =>
 aPureX H (fun H k => ACalls tP n_zq81 [t385, t388, t389] H k) fun t390 =>
 aPure H (fun k => k t390 H) fun t383 =>
 aPure H (fun k => aExt t383 0 (k · H)) fun t391 =>
 aPure H (fun k => aExt t383 1 (k · H)) fun t392 =>
 aPure H (fun k => k t391 H) fun t26 =>
 aPure H (fun k => k t392 H) fun t27 =>
 aPure H (fun k => k t27 H) fun t393 =>
 aPure H (fun k => aUn .not t393 (k · H)) fun t394 =>
 aPure H (fun k => k t394 H) fun t395 =>
 aGuardJ t395 false H (fun k => aPure H (fun l => l t11 H) (k · H)) fun t396 H =>
 aGuardJ t395 false H (fun k => aPure H (fun l => l t380 H) (k · H)) fun t397 H =>
 aGuardJ t395 false H (fun k => aPure H (fun l => aIdxA 1 t396 t397 (l · H)) (k · H)) fun t398 H =>
 aGuardJ t395 false H (fun k => aPure H (fun l => aLoad false 1 t398 H (l · H)) (k · H)) fun t399 H =>
 aGuardJ t395 false H (fun k => aPure H (fun l => l t26 H) (k · H)) fun t400 H =>
 aGuardJ t395 false H (fun k => aPureX H (fun H l => ACalls tP n_zq80 [t399, t400] H l) (k · H)) fun t401 H =>
 aGuardJ t395 false H (fun k => aPure H (fun l => aUn .not t401 (l · H)) (k · H)) fun t402 H =>
 aPure H (fun k => aPick t395 (.bool true) t402 (k · H)) fun t403 =>
 aPure H (fun k => k t403 H) fun t404 =>
 aGuardJ t404 false H (fun k => aPure H (fun l => l t6 H) (k · H)) fun t405 H =>
 aGuardJ t404 false H (fun k => aPure H (fun l => l t380 H) (k · H)) fun t406 H =>
 aGuardJ t404 false H (fun k => aPure H (fun l => aIdxA 3 t405 t406 (l · H)) (k · H)) fun t407 H =>
 aGuardJ t404 false H (fun k => aPure H (fun l => aLoad true 3 t407 H (l · H)) (k · H)) fun t408 H =>
 aGuardJ t404 false H (fun k => aPure H (fun l => aFld 5 t3 (l · H)) (k · H)) fun t409 H =>
 aGuardJ t404 false H (fun k => aPure H (fun l => aLoad true 3 t409 H (l · H)) (k · H)) fun t410 H =>
 aGuardJ t404 false H (fun k => aPureX H (fun H l => ACalls tP n_zq49 [t408, t410] H l) (k · H)) fun t411 H =>
 aGuardJ t404 false H (fun k => aPure H (fun l => aUn .not t411 (l · H)) (k · H)) fun t412 H =>
 aPure H (fun k => aPick t404 (.bool true) t412 (k · H)) fun t413 =>
 aTest t413
 (K (.bool false) H)
 (aBin .add false t380 (.int .i64 1) fun t414 =>
 Kb56 (zq51_fr56 t2 t3 t5 t6 t11 t379 t414) H))
 (K (.bool true) H)
def zq51_fr67 (t2 t3 t5 t20 t22 t28 t29 t30 t424 t425 t426 : AV) : List AV := ux 2 (t2 :: t3 :: ux 1 (t5 :: ux 14 (t20 :: ux 1 (t22 :: ux 5 (t28 :: t29 :: t30 :: ux 393 (t424 :: t425 :: t426 :: ux 445 []))))))
def zq51_m67 : List Bool := zq51_M 67
noncomputable def zq51_c67 : Code := codeAt [1, 1, 1, 1, 1, 1, 1, 1, 1, 1, 1, 0, 1, 0, 1, 1, 1, 1, 1, 1, 1, 1, 1, 1, 1, 1, 1, 1, 1, 1, 1, 1, 1, 1, 1, 0, 1, 1, 0, 1, 0, 0] zq51_c
def zq51_Q67 (K : Kt) : AExit → List AV → Heap → Prop := contAt tP zq51_M [1, 1, 1, 1, 1, 1, 1, 1, 1, 1, 1, 0, 1, 0, 1, 1, 1, 1, 1, 1, 1, 1, 1, 1, 1, 1, 1, 1, 1, 1, 1, 1, 1, 1, 1, 0, 1, 1, 0, 1, 0] zq51_c (retQ tP zq51_r K)
def zq51_l67 (t2 t3 t5 t20 t22 t28 t29 t30 t424 t425 t426 : AV) (H : Heap) (K : Kt) : Prop := ALoop tP zq51_c67 (zq51_Q67 K) (zq51_fr67 t2 t3 t5 t20 t22 t28 t29 t30 t424 t425 t426) H
def zq51_fr72 (t2 t3 t5 t20 t22 t28 t29 t30 t440 t441 t442 : AV) : List AV := ux 2 (t2 :: t3 :: ux 1 (t5 :: ux 14 (t20 :: ux 1 (t22 :: ux 5 (t28 :: t29 :: t30 :: ux 409 (t440 :: t441 :: t442 :: ux 429 []))))))
def zq51_m72 : List Bool := zq51_M 72
noncomputable def zq51_c72 : Code := codeAt [1, 1, 1, 1, 1, 1, 1, 1, 1, 1, 1, 0, 1, 0, 1, 1, 1, 1, 1, 1, 1, 1, 1, 1, 1, 1, 1, 1, 1, 1, 1, 1, 1, 1, 1, 0, 1, 1, 1, 0, 1, 0, 0] zq51_c
def zq51_Q72 (K : Kt) : AExit → List AV → Heap → Prop := contAt tP zq51_M [1, 1, 1, 1, 1, 1, 1, 1, 1, 1, 1, 0, 1, 0, 1, 1, 1, 1, 1, 1, 1, 1, 1, 1, 1, 1, 1, 1, 1, 1, 1, 1, 1, 1, 1, 0, 1, 1, 1, 0, 1, 0] zq51_c (retQ tP zq51_r K)
def zq51_l72 (t2 t3 t5 t20 t22 t28 t29 t30 t440 t441 t442 : AV) (H : Heap) (K : Kt) : Prop := ALoop tP zq51_c72 (zq51_Q72 K) (zq51_fr72 t2 t3 t5 t20 t22 t28 t29 t30 t440 t441 t442) H
def zq51_b72 (t2 t3 t5 t20 t22 t28 t29 t30 t440 t441 t442 : AV) (H : Heap) (K : Kt) (Kb72 : Lt) : Prop :=
 aBin .lss false t442 t441 fun t443 =>
 aTest t443
 (aIdxA 1 t440 t442 fun t444 =>
 aLoad false 1 t444 H fun t445 =>
 aFld 2 t2 fun t447 =>
 aLoad false 1 t447 H fun t448 =>
 aIdxA 3 t448 t445 fun t450 =>
 aLoad true 3 t450 H fun t451 =>
 aBuildS 3 [(.int .i64 0), (.int .i64 0), .snil] 1 [(0, t451)] fun t452 =>
 aAppend e_api_Type 3 40 t30 t452 H fun t453 H =>
 aBin .add false t442 (.int .i64 1) fun t454 =>
 Kb72 (zq51_fr72 t2 t3 t5 t20 t22 t28 t29 t453 t440 t441 t454) H)
 (aPure H (fun k => k t22 H) fun t455 =>
 aPure H (fun k => k t455 H) fun t456 =>
 aGuardJ t456 true H (fun k => aPure H (fun l => l t20 H) (k · H)) fun t457 H =>
 aGuardJ t456 true H (fun k => aPure H (fun l => aBin .eql false t457 (.int .i64 9) (l · H)) (k · H)) fun t458 H =>
 aPure H (fun k => aPick t456 t458 (.bool false) (k · H)) fun t459 =>
 aPure H (fun k => k t459 H) fun t460 =>
 aGuardJ t460 true H (fun k => aPure H (fun l => l t5 H) (k · H)) fun t461 H =>
 aGuardJ t460 true H (fun k => aPure H (fun l => l t30 H) (k · H)) fun t462 H =>
 aGuardJ t460 true H (fun k => aPureX H (fun H l => ACalls tP n_zq80 [t461, t462] H l) (k · H)) fun t463 H =>
 aPure H (fun k => aPick t460 t463 (.bool false) (k · H)) fun t464 =>
 aPure H (fun k => k t464 H) fun t465 =>
 aGuardJ t465 true H (fun k => aPure H (fun l => aFld 5 t3 (l · H)) (k · H)) fun t466 H =>
 aGuardJ t465 true H (fun k => aPure H (fun l => aFld 2 t466 (l · H)) (k · H)) fun t467 H =>
 aGuardJ t465 true H (fun k => aPure H (fun l => aLoad false 1 t467 H (l · H)) (k · H)) fun t468 H =>
 aGuardJ t465 true H (fun k => aPure H (fun l => l t29 H) (k · H)) fun t469 H =>
 aGuardJ t465 true H (fun k => aPure H (fun l => aFld 3 t28 (l · H)) (k · H)) fun t470 H =>
 aGuardJ t465 true H (fun k => aPure H (fun l => aLoad true 3 t470 H (l · H)) (k · H)) fun t471 H =>
 aGuardJ t465 true H (fun k => aPure H (fun l => aBuildS 3 [(.int .i64 0), (.int .i64 0), .snil] 1 [(0, t471)] (l · H)) (k · H)) fun t472 H =>
 aGuardJ t465 true H (fun k => aAppend e_api_Type 3 40 t469 t472 H k) fun t473 H =>
 aGuardJ t465 true H (fun k => aPureX H (fun H l => ACalls tP n_zq80 [t468, t473] H l) (k · H)) fun t474 H =>
 aPure H (fun k => aPick t465 t474 (.bool false) (k · H)) fun t475 =>
 aPure H (fun k => k t475 H) fun t4 =>
 K t4 H)
def zq51_b67 (t2 t3 t5 t20 t22 t28 t29 t30 t424 t425 t426 : AV) (H : Heap) (K : Kt) (Kb67 : Lt) : Prop :=
 aBin .lss false t426 t425 fun t427 =>
 aTest t427
 (aIdxA 1 t424 t426 fun t428 =>
 aLoad false 1 t428 H fun t429 =>
 aFld 2 t2 fun t431 =>
 aLoad false 1 t431 H fun t432 =>
 aIdxA 3 t432 t429 fun t434 =>
 aLoad true 3 t434 H fun t435 =>
 aBuildS 3 [(.int .i64 0), (.int .i64 0), .snil] 1 [(0, t435)] fun t436 =>
 aAppend e_api_Type 3 40 t29 t436 H fun t437 H =>
 aBin .add false t426 (.int .i64 1) fun t438 =>
 Kb67 (zq51_fr67 t2 t3 t5 t20 t22 t28 t437 t30 t424 t425 t438) H)
 (aFld 2 t28 fun t439 =>
 aLoad false 1 t439 H fun t440 =>
 aLen 1 t440 fun t441 =>
 zq51_l72 t2 t3 t5 t20 t22 t28 t29 t30 t440 t441 (.int .i64 0) H K)
def zq51_fr83 (t2 t3 t5 t22 t35 t36 t506 t507 t508 : AV) : List AV := ux 2 (t2 :: t3 :: ux 1 (t5 :: ux 16 (t22 :: ux 12 (t35 :: t36 :: ux 469 (t506 :: t507 :: t508 :: ux 363 [])))))
def zq51_m83 : List Bool := zq51_M 83
noncomputable def zq51_c83 : Code := codeAt [1, 1, 1, 1, 1, 1, 1, 1, 1, 1, 1, 0, 1, 0, 1, 1, 1, 1, 1, 1, 1, 1, 1, 1, 1, 1, 1, 1, 1, 1, 1, 1, 1, 1, 1, 1, 1, 0, 1, 1, 1, 0, 1, 0, 0] zq51_c
def zq51_Q83 (K : Kt) : AExit → List AV → Heap → Prop := contAt tP zq51_M [1, 1, 1, 1, 1, 1, 1, 1, 1, 1, 1, 0, 1, 0, 1, 1, 1, 1, 1, 1, 1, 1, 1, 1, 1, 1, 1, 1, 1, 1, 1, 1, 1, 1, 1, 1, 1, 0, 1, 1, 1, 0, 1, 0] zq51_c (retQ tP zq51_r K)
def zq51_l83 (t2 t3 t5 t22 t35 t36 t506 t507 t508 : AV) (H : Heap) (K : Kt) : Prop := ALoop tP zq51_c83 (zq51_Q83 K) (zq51_fr83 t2 t3 t5 t22 t35 t36 t506 t507 t508) H
def zq51_b83 (t2 t3 t5 t22 t35 t36 t506 t507 t508 : AV) (H : Heap) (K : Kt) (Kb83 : Lt) : Prop :=
 aBin .lss false t508 t507 fun t509 =>
 aTest t509
 (aIdxA 1 t506 t508 fun t510 =>
 aLoad false 1 t510 H fun t511 =>
 aFld 2 t2 fun t513 =>
 aLoad false 1 t513 H fun t514 =>
 aIdxA 3 t514 t511 fun t516 =>
 aLoad true 3 t516 H fun t517 =>
 aBuildS 3 [(.int .i64 0), (.int .i64 0), .snil] 1 [(0, t517)] fun t518 =>
 aAppend e_api_Type 3 40 t36 t518 H fun t519 H =>
 aBin .add false t508 (.int .i64 1) fun t520 =>
 Kb83 (zq51_fr83 t2 t3 t5 t22 t35 t519 t506 t507 t520) H)
 (aGuardJ t22 true H (fun k => k t5 H) fun t523 H =>
 aGuardJ t22 true H (fun k => k t36 H) fun t524 H =>
 aGuardJ t22 true H (fun k => ACalls tP n_zq80 [t523, t524] H k) fun t525 H =>
 aPick t22 t525 (.bool false) fun t526 =>
 aGuardJ t526 true H (fun k => aFld 5 t3 (k · H)) fun t528 H =>
 aGuardJ t526 true H (fun k => aLoad true 3 t528 H (k · H)) fun t529 H =>
 aGuardJ t526 true H (fun k => aFld 3 t35 (k · H)) fun t530 H =>
 aGuardJ t526 true H (fun k => aLoad true 3 t530 H (k · H)) fun t531 H =>
 aGuardJ t526 true H (fun k => ACalls tP n_zq49 [t529, t531] H k) fun t532 H =>
 aPick t526 t532 (.bool false) fun t533 =>
 K t533 H)
noncomputable def zq51_j8_c : Code := codeAt [1, 1, 1, 1, 1, 1, 1, 1, 1, 1, 1, 0, 1, 0, 1, 1, 1, 1, 1, 1, 1, 1, 1, 1, 1, 1, 1, 1, 1, 1, 1, 1, 1, 1, 1, 1, 1, 1, 1, 1, 1, 0, 1, 1] zq51_c
def zq51_j8_Q (K : Kt) : AExit → List AV → Heap → Prop := contAt tP zq51_M [1, 1, 1, 1, 1, 1, 1, 1, 1, 1, 1, 0, 1, 0, 1, 1, 1, 1, 1, 1, 1, 1, 1, 1, 1, 1, 1, 1, 1, 1, 1, 1, 1, 1, 1, 1, 1, 1, 1, 1, 1, 0, 1, 1] zq51_c (retQ tP zq51_r K)
def zq51_j8 (t3 t5 t17 t20 t22 t39 : AV) (H : Heap) (K : Kt) : Prop := AWp tP zq51_j8_c (zq51_j8_Q K) (ux 3 (t3 :: ux 1 (t5 :: ux 11 (t17 :: ux 2 (t20 :: ux 1 (t22 :: ux 16 (t39 :: ux 832 []))))))) H
def zq51_j8b (t3 t5 t17 t20 t22 t39 : AV) (H : Heap) (K : Kt) : Prop :=
 aFld 1 t3 fun t571 =>
 aLoad false 1 t571 H fun t572 =>
 aBin .geq false t572 (.int .i64 1) fun t573 =>
 aGuardJ t573 true H (fun k => aFld 1 t3 (k · H)) fun t575 H =>
 aGuardJ t573 true H (fun k => aLoad false 1 t575 H (k · H)) fun t576 H =>
 aGuardJ t573 true H (fun k => aBin .leq false t576 (.int .i64 8) (k · H)) fun t577 H =>
 aPick t573 t577 (.bool false) fun t578 =>
 aGuardJ t578 true H (fun k => k t22 H) fun t580 H =>
 aPick t578 t580 (.bool false) fun t581 =>
 aGuardJ t581 true H (fun k => k t5 H) fun t583 H =>
 aGuardJ t581 true H (fun k => aLoad true 3 t17 H (k · H)) fun t584 H =>
 aGuardJ t581 true H (fun k => aLoad true 3 t17 H (k · H)) fun t585 H =>
 aGuardJ t581 true H (fun k => aBuildS 3 [(.int .i64 0), (.int .i64 0), .snil] 2 [(0, t584), (1, t585)] (k · H)) fun t586 H =>
 aGuardJ t581 true H (fun k => ACalls tP n_zq79 [t583, t586] H k) fun t587 H =>
 aPick t581 t587 (.bool false) fun t588 =>
 aGuardJ t588 true H (fun k => k t20 H) fun t590 H =>
 aGuardJ t588 true H (fun k => k t39 H) fun t591 H =>
 aGuardJ t588 true H (fun k => aBin .eql false t590 t591 (k · H)) fun t592 H =>
 aPick t588 t592 (.bool false) fun t593 =>
 K t593 H
noncomputable def zq51_j9_c : Code := codeAt [1, 1, 1, 1, 1, 1, 1, 1, 1, 1, 1, 0, 1, 0, 1, 1, 1, 1, 1, 1, 1, 1, 1, 1, 1, 1, 1, 1, 1, 1, 1, 1, 1, 1, 1, 1, 1, 1, 1, 1, 1, 1, 1, 1, 1, 1, 1, 1, 1, 1, 1] zq51_c
def zq51_j9_Q (K : Kt) : AExit → List AV → Heap → Prop := contAt tP zq51_M [1, 1, 1, 1, 1, 1, 1, 1, 1, 1, 1, 0, 1, 0, 1, 1, 1, 1, 1, 1, 1, 1, 1, 1, 1, 1, 1, 1, 1, 1, 1, 1, 1, 1, 1, 1, 1, 1, 1, 1, 1, 1, 1, 1, 1, 1, 1, 1, 1, 1, 1] zq51_c (retQ tP zq51_r K)
def zq51_j9 (t3 t5 t6 t11 t17 t19 t20 t21 t22 t120 t715 : AV) (H : Heap) (K : Kt) : Prop := AWp tP zq51_j9_c (zq51_j9_Q K) (ux 3 (t3 :: ux 1 (t5 :: t6 :: ux 4 (t11 :: ux 5 (t17 :: ux 1 (t19 :: t20 :: t21 :: t22 :: ux 97 (t120 :: ux 594 (t715 :: ux 156 [])))))))) H
def zq51_j9b (t3 t5 t6 t11 t17 t19 t20 t21 t22 t120 t715 : AV) (H : Heap) (K : Kt) : Prop :=
 aTest t715
 (aPure H (fun k => k t21 H) fun t717 =>
 aPure H (fun k => k t717 H) fun t718 =>
 aGuardJ t718 true H (fun k => aPure H (fun l => l t22 H) (k · H)) fun t719 H =>
 aPure H (fun k => aPick t718 t719 (.bool false) (k · H)) fun t720 =>
 aPure H (fun k => k t720 H) fun t721 =>
 aGuardJ t721 true H (fun k => aPure H (fun l => l t5 H) (k · H)) fun t722 H =>
 aGuardJ t721 true H (fun k => aPure H (fun l => aLen 1 t722 (l · H)) (k · H)) fun t723 H =>
 aGuardJ t721 true H (fun k => aPure H (fun l => aBin .eql false t723 (.int .i64 1) (l · H)) (k · H)) fun t724 H =>
 aPure H (fun k => aPick t721 t724 (.bool false) (k · H)) fun t725 =>
 aPure H (fun k => k t725 H) fun t726 =>
 aGuardJ t726 true H (fun k => aPure H (fun l => l t20 H) (k · H)) fun t727 H =>
 aGuardJ t726 true H (fun k => aPure H (fun l => aBin .eql false t727 (.int .i64 8) (l · H)) (k · H)) fun t728 H =>
 aPure H (fun k => aPick t726 t728 (.bool false) (k · H)) fun t729 =>
 aPure H (fun k => k t729 H) fun t730 =>
 aGuardJ t730 true H (fun k => aPure H (fun l => l t5 H) (k · H)) fun t731 H =>
 aGuardJ t730 true H (fun k => aPure H (fun l => aIdxA 3 t731 (.int .i64 0) (l · H)) (k · H)) fun t732 H =>
 aGuardJ t730 true H (fun k => aPure H (fun l => aLoad true 3 t732 H (l · H)) (k · H)) fun t733 H =>
 aGuardJ t730 true H (fun k => aPure H (fun l => aFld 5 t3 (l · H)) (k · H)) fun t734 H =>
 aGuardJ t730 true H (fun k => aPure H (fun l => aFld 2 t734 (l · H)) (k · H)) fun t735 H =>
 aGuardJ t730 true H (fun k => aPure H (fun l => aLoad false 1 t735 H (l · H)) (k · H)) fun t736 H =>
 aGuardJ t730 true H (fun k => aPure H (fun l => aIdxA 3 t736 (.int .i64 0) (l · H)) (k · H)) fun t737 H =>
 aGuardJ t730 true H (fun k => aPure H (fun l => aLoad true 3 t737 H (l · H)) (k · H)) fun t738 H =>
 aGuardJ t730 true H (fun k => aPureX H (fun H l => ACalls tP n_zq49 [t733, t738] H l) (k · H)) fun t739 H =>
 aPure H (fun k => aPick t730 t739 (.bool false) (k · H)) fun t740 =>
 aPure H (fun k => k t740 H) fun t4 =>
 K t4 H)
 (aBin .eql false t120 (.int .i64 20) fun t742 =>
 aTest t742
 (aPure H (fun k => k t21 H) fun t743 =>
 aPure H (fun k => k t743 H) fun t744 =>
 aGuardJ t744 true H (fun k => aPure H (fun l => l t22 H) (k · H)) fun t745 H =>
 aPure H (fun k => aPick t744 t745 (.bool false) (k · H)) fun t746 =>
 aPure H (fun k => k t746 H) fun t747 =>
 aGuardJ t747 true H (fun k => aPure H (fun l => l t5 H) (k · H)) fun t748 H =>
 aGuardJ t747 true H (fun k => aPure H (fun l => aLen 1 t748 (l · H)) (k · H)) fun t749 H =>
 aGuardJ t747 true H (fun k => aPure H (fun l => aBin .eql false t749 (.int .i64 1) (l · H)) (k · H)) fun t750 H =>
 aPure H (fun k => aPick t747 t750 (.bool false) (k · H)) fun t751 =>
 aPure H (fun k => k t751 H) fun t752 =>
 aGuardJ t752 true H (fun k => aPure H (fun l => l t5 H) (k · H)) fun t753 H =>
 aGuardJ t752 true H (fun k => aPure H (fun l => aIdxA 3 t753 (.int .i64 0) (l · H)) (k · H)) fun t754 H =>
 aGuardJ t752 true H (fun k => aPure H (fun l => aFld 0 t754 (l · H)) (k · H)) fun t755 H =>
 aGuardJ t752 true H (fun k => aPure H (fun l => aLoad false 1 t755 H (l · H)) (k · H)) fun t756 H =>
 aGuardJ t752 true H (fun k => aPure H (fun l => aBin .eql false t756 (.int .i64 8) (l · H)) (k · H)) fun t757 H =>
 aPure H (fun k => aPick t752 t757 (.bool false) (k · H)) fun t758 =>
 aPure H (fun k => k t758 H) fun t759 =>
 aGuardJ t759 true H (fun k => aPure H (fun l => l t5 H) (k · H)) fun t760 H =>
 aGuardJ t759 true H (fun k => aPure H (fun l => aIdxA 3 t760 (.int .i64 0) (l · H)) (k · H)) fun t761 H =>
 aGuardJ t759 true H (fun k => aPure H (fun l => aFld 2 t761 (l · H)) (k · H)) fun t762 H =>
 aGuardJ t759 true H (fun k => aPure H (fun l => aLoad false 1 t762 H (l · H)) (k · H)) fun t763 H =>
 aGuardJ t759 true H (fun k => aPure H (fun l => aIdxA 3 t763 (.int .i64 0) (l · H)) (k · H)) fun t764 H =>
 aGuardJ t759 true H (fun k => aPure H (fun l => aLoad true 3 t764 H (l · H)) (k · H)) fun t765 H =>
 aGuardJ t759 true H (fun k => aPure H (fun l => aFld 5 t3 (l · H)) (k · H)) fun t766 H =>
 aGuardJ t759 true H (fun k => aPure H (fun l => aLoad true 3 t766 H (l · H)) (k · H)) fun t767 H =>
 aGuardJ t759 true H (fun k => aPureX H (fun H l => ACalls tP n_zq49 [t765, t767] H l) (k · H)) fun t768 H =>
 aPure H (fun k => aPick t759 t768 (.bool false) (k · H)) fun t769 =>
 aPure H (fun k => k t769 H) fun t4 =>
 K t4 H)
 (aBin .eql false t120 (.int .i64 21) fun t771 =>
 aTest t771
 (aPure H (fun k => k t21 H) fun t772 =>
 aPure H (fun k => k t772 H) fun t773 =>
 aGuardJ t773 true H (fun k => aPure H (fun l => l t22 H) (k · H)) fun t774 H =>
 aPure H (fun k => aPick t773 t774 (.bool false) (k · H)) fun t775 =>
 aPure H (fun k => k t775 H) fun t776 =>
 aGuardJ t776 true H (fun k => aPure H (fun l => l t5 H) (k · H)) fun t777 H =>
 aGuardJ t776 true H (fun k => aPure H (fun l => aLen 1 t777 (l · H)) (k · H)) fun t778 H =>
 aGuardJ t776 true H (fun k => aPure H (fun l => aBin .eql false t778 (.int .i64 2) (l · H)) (k · H)) fun t779 H =>
 aPure H (fun k => aPick t776 t779 (.bool false) (k · H)) fun t780 =>
 aPure H (fun k => k t780 H) fun t781 =>
 aGuardJ t781 true H (fun k => aPure H (fun l => l t5 H) (k · H)) fun t782 H =>
 aGuardJ t781 true H (fun k => aPure H (fun l => aIdxA 3 t782 (.int .i64 0) (l · H)) (k · H)) fun t783 H =>
 aGuardJ t781 true H (fun k => aPure H (fun l => aFld 0 t783 (l · H)) (k · H)) fun t784 H =>
 aGuardJ t781 true H (fun k => aPure H (fun l => aLoad false 1 t784 H (l · H)) (k · H)) fun t785 H =>
 aGuardJ t781 true H (fun k => aPure H (fun l => aBin .eql false t785 (.int .i64 8) (l · H)) (k · H)) fun t786 H =>
 aPure H (fun k => aPick t781 t786 (.bool false) (k · H)) fun t787 =>
 aPure H (fun k => k t787 H) fun t788 =>
 aGuardJ t788 true H (fun k => aPure H (fun l => l t5 H) (k · H)) fun t789 H =>
 aGuardJ t788 true H (fun k => aPure H (fun l => aIdxA 3 t789 (.int .i64 0) (l · H)) (k · H)) fun t790 H =>
 aGuardJ t788 true H (fun k => aPure H (fun l => aFld 2 t790 (l · H)) (k · H)) fun t791 H =>
 aGuardJ t788 true H (fun k => aPure H (fun l => aLoad false 1 t791 H (l · H)) (k · H)) fun t792 H =>
 aGuardJ t788 true H (fun k => aPure H (fun l => aIdxA 3 t792 (.int .i64 0) (l · H)) (k · H)) fun t793 H =>
 aGuardJ t788 true H (fun k => aPure H (fun l => aLoad true 3 t793 H (l · H)) (k · H)) fun t794 H =>
 aGuardJ t788 true H (fun k => aPure H (fun l => l t5 H) (k · H)) fun t795 H =>
 aGuardJ t788 true H (fun k => aPure H (fun l => aIdxA 3 t795 (.int .i64 1) (l · H)) (k · H)) fun t796 H =>
 aGuardJ t788 true H (fun k => aPure H (fun l => aLoad true 3 t796 H (l · H)) (k · H)) fun t797 H =>
 aGuardJ t788 true H (fun k => aPureX H (fun H l => ACalls tP n_zq49 [t794, t797] H l) (k · H)) fun t798 H =>
 aPure H (fun k => aPick t788 t798 (.bool false) (k · H)) fun t799 =>
 aPure H (fun k => k t799 H) fun t800 =>
 aGuardJ t800 true H (fun k => aPure H (fun l => aFld 5 t3 (l · H)) (k · H)) fun t801 H =>
 aGuardJ t800 true H (fun k => aPure H (fun l => aLoad true 3 t801 H (l · H)) (k · H)) fun t802 H =>
 aGuardJ t800 true H (fun k => aPure H (fun l => aLoad true 3 t19 H (l · H)) (k · H)) fun t803 H =>
 aGuardJ t800 true H (fun k => aPureX H (fun H l => ACalls tP n_zq49 [t802, t803] H l) (k · H)) fun t804 H =>
 aPure H (fun k => aPick t800 t804 (.bool false) (k · H)) fun t805 =>
 aPure H (fun k => k t805 H) fun t4 =>
 K t4 H)
 (aBin .eql false t120 (.int .i64 22) fun t807 =>
 aTest t807
 (aFld 1 t3 fun t808 =>
 aLoad false 1 t808 H fun t809 =>
 aBin .geq false t809 (.int .i64 (-1000)) fun t810 =>
 aGuardJ t810 true H (fun k => aFld 1 t3 (k · H)) fun t812 H =>
 aGuardJ t810 true H (fun k => aLoad false 1 t812 H (k · H)) fun t813 H =>
 aGuardJ t810 true H (fun k => aBin .leq false t813 (.int .i64 1000) (k · H)) fun t814 H =>
 aPick t810 t814 (.bool false) fun t815 =>
 aGuardJ t815 true H (fun k => k t22 H) fun t817 H =>
 aPick t815 t817 (.bool false) fun t818 =>
 aGuardJ t818 true H (fun k => k t5 H) fun t820 H =>
 aGuardJ t818 true H (fun k => aLen 1 t820 (k · H)) fun t821 H =>
 aGuardJ t818 true H (fun k => aBin .eql false t821 (.int .i64 0) (k · H)) fun t822 H =>
 aPick t818 t822 (.bool false) fun t823 =>
 aGuardJ t823 true H (fun k => k t20 H) fun t825 H =>
 aGuardJ t823 true H (fun k => aBin .eql false t825 (.int .i64 3) (k · H)) fun t826 H =>
 aPick t823 t826 (.bool false) fun t827 =>
 K t827 H)
 (aBin .eql false t120 (.int .i64 23) fun t829 =>
 aTest t829
 (aGuardJ t21 true H (fun k => k t22 H) fun t832 H =>
 aPick t21 t832 (.bool false) fun t833 =>
 aGuardJ t833 true H (fun k => k t5 H) fun t835 H =>
 aGuardJ t833 true H (fun k => aLoad true 3 t17 H (k · H)) fun t836 H =>
 aGuardJ t833 true H (fun k => aBuildS 3 [(.int .i64 0), (.int .i64 0), .snil] 1 [(0, t836)] (k · H)) fun t837 H =>
 aGuardJ t833 true H (fun k => ACalls tP n_zq79 [t835, t837] H k) fun t838 H =>
 aPick t833 t838 (.bool false) fun t839 =>
 K t839 H)
 (aBin .eql false t120 (.int .i64 24) fun t841 =>
 aTest t841
 (aPure H (fun k => k t21 H) fun t842 =>
 aPure H (fun k => k t842 H) fun t843 =>
 aGuardJ t843 true H (fun k => aPure H (fun l => l t5 H) (k · H)) fun t844 H =>
 aGuardJ t843 true H (fun k => aPure H (fun l => aLen 1 t844 (l · H)) (k · H)) fun t845 H =>
 aGuardJ t843 true H (fun k => aPure H (fun l => aBin .eql false t845 (.int .i64 0) (l · H)) (k · H)) fun t846 H =>
 aPure H (fun k => aPick t843 t846 (.bool false) (k · H)) fun t847 =>
 aPure H (fun k => k t847 H) fun t848 =>
 aGuardJ t848 true H (fun k => aPure H (fun l => l t6 H) (k · H)) fun t849 H =>
 aGuardJ t848 true H (fun k => aPure H (fun l => aFld 5 t3 (l · H)) (k · H)) fun t850 H =>
 aGuardJ t848 true H (fun k => aPure H (fun l => aLoad true 3 t850 H (l · H)) (k · H)) fun t851 H =>
 aGuardJ t848 true H (fun k => aPure H (fun l => aFld 5 t3 (l · H)) (k · H)) fun t852 H =>
 aGuardJ t848 true H (fun k => aPure H (fun l => aLoad true 3 t852 H (l · H)) (k · H)) fun t853 H =>
 aGuardJ t848 true H (fun k => aPure H (fun l => aBuildS 3 [(.int .i64 0), (.int .i64 0), .snil] 2 [(0, t851), (1, t853)] (l · H)) (k · H)) fun t854 H =>
 aGuardJ t848 true H (fun k => aPureX H (fun H l => ACalls tP n_zq79 [t849, t854] H l) (k · H)) fun t855 H =>
 aPure H (fun k => aPick t848 t855 (.bool false) (k · H)) fun t856 =>
 aPure H (fun k => k t856 H) fun t857 =>
 aGuardJ t857 true H (fun k => aPure H (fun l => l t11 H) (k · H)) fun t858 H =>
 aGuardJ t857 true H (fun k => aPure H (fun l => aIdxA 1 t858 (.int .i64 0) (l · H)) (k · H)) fun t859 H =>
 aGuardJ t857 true H (fun k => aPure H (fun l => aLoad false 1 t859 H (l · H)) (k · H)) fun t860 H =>
 aGuardJ t857 true H (fun k => aPure H (fun l => aLen 1 t860 (l · H)) (k · H)) fun t861 H =>
 aGuardJ t857 true H (fun k => aPure H (fun l => aBin .eql false t861 (.int .i64 0) (l · H)) (k · H)) fun t862 H =>
 aPure H (fun k => aPick t857 t862 (.bool false) (k · H)) fun t863 =>
 aPure H (fun k => k t863 H) fun t864 =>
 aGuardJ t864 true H (fun k => aPure H (fun l => l t11 H) (k · H)) fun t865 H =>
 aGuardJ t864 true H (fun k => aPure H (fun l => aIdxA 1 t865 (.int .i64 1) (l · H)) (k · H)) fun t866 H =>
 aGuardJ t864 true H (fun k => aPure H (fun l => aLoad false 1 t866 H (l · H)) (k · H)) fun t867 H =>
 aGuardJ t864 true H (fun k => aPure H (fun l => aLoad true 3 t17 H (l · H)) (k · H)) fun t868 H =>
 aGuardJ t864 true H (fun k => aPure H (fun l => aBuildS 3 [(.int .i64 0), (.int .i64 0), .snil] 1 [(0, t868)] (l · H)) (k · H)) fun t869 H =>
 aGuardJ t864 true H (fun k => aPureX H (fun H l => ACalls tP n_zq79 [t867, t869] H l) (k · H)) fun t870 H =>
 aPure H (fun k => aPick t864 t870 (.bool false) (k · H)) fun t871 =>
 aPure H (fun k => k t871 H) fun t4 =>
 K t4 H)
 (K (.bool false) H))))))
noncomputable def zq51_j7_c : Code := codeAt [1, 1, 1, 1, 1, 1, 1, 1, 1, 1, 1, 0, 1, 0, 1, 1, 1, 1, 1, 1, 1, 1, 1, 1, 1, 1, 1, 1, 1, 1, 1, 1, 1, 1, 1, 1, 1, 1, 1, 1, 1] zq51_c
def zq51_j7_Q (K : Kt) : AExit → List AV → Heap → Prop := contAt tP zq51_M [1, 1, 1, 1, 1, 1, 1, 1, 1, 1, 1, 0, 1, 0, 1, 1, 1, 1, 1, 1, 1, 1, 1, 1, 1, 1, 1, 1, 1, 1, 1, 1, 1, 1, 1, 1, 1, 1, 1, 1, 1] zq51_c (retQ tP zq51_r K)
def zq51_j7 (t3 t5 t6 t11 t17 t19 t20 t21 t22 t120 t566 : AV) (H : Heap) (K : Kt) : Prop := AWp tP zq51_j7_c (zq51_j7_Q K) (ux 3 (t3 :: ux 1 (t5 :: t6 :: ux 4 (t11 :: ux 5 (t17 :: ux 1 (t19 :: t20 :: t21 :: t22 :: ux 97 (t120 :: ux 445 (t566 :: ux 305 [])))))))) H
def zq51_j7b (t3 t5 t6 t11 t17 t19 t20 t21 t22 t120 t566 : AV) (H : Heap) (K : Kt) : Prop :=
 aTest t566
 (aFld 1 t3 fun t568 =>
 aLoad false 1 t568 H fun t569 =>
 aBin .geq false t569 (.int .i64 6) fun t570 =>
 aTest t570
 (zq51_j8 t3 t5 t17 t20 t22 (.int .i64 2) H K)
 (zq51_j8 t3 t5 t17 t20 t22 (.int .i64 1) H K))
 (aBin .eql false t120 (.int .i64 15) fun t595 =>
 aTest t595
 (aPure H (fun k => k t21 H) fun t596 =>
 aPure H (fun k => k t596 H) fun t597 =>
 aGuardJ t597 true H (fun k => aPure H (fun l => l t22 H) (k · H)) fun t598 H =>
 aPure H (fun k => aPick t597 t598 (.bool false) (k · H)) fun t599 =>
 aPure H (fun k => k t599 H) fun t600 =>
 aGuardJ t600 true H (fun k => aPure H (fun l => l t5 H) (k · H)) fun t601 H =>
 aGuardJ t600 true H (fun k => aPure H (fun l => aLen 1 t601 (l · H)) (k · H)) fun t602 H =>
 aGuardJ t600 true H (fun k => aPure H (fun l => aBin .eql false t602 (.int .i64 2) (l · H)) (k · H)) fun t603 H =>
 aPure H (fun k => aPick t600 t603 (.bool false) (k · H)) fun t604 =>
 aPure H (fun k => k t604 H) fun t605 =>
 aGuardJ t605 true H (fun k => aPure H (fun l => l t20 H) (k · H)) fun t606 H =>
 aGuardJ t605 true H (fun k => aPure H (fun l => aBin .eql false t606 (.int .i64 7) (l · H)) (k · H)) fun t607 H =>
 aPure H (fun k => aPick t605 t607 (.bool false) (k · H)) fun t608 =>
 aPure H (fun k => k t608 H) fun t609 =>
 aGuardJ t609 true H (fun k => aPure H (fun l => l t5 H) (k · H)) fun t610 H =>
 aGuardJ t609 true H (fun k => aPure H (fun l => aLoad true 3 t17 H (l · H)) (k · H)) fun t611 H =>
 aGuardJ t609 true H (fun k => aPure H (fun l => aFld 5 t3 (l · H)) (k · H)) fun t612 H =>
 aGuardJ t609 true H (fun k => aPure H (fun l => aFld 2 t612 (l · H)) (k · H)) fun t613 H =>
 aGuardJ t609 true H (fun k => aPure H (fun l => aLoad false 1 t613 H (l · H)) (k · H)) fun t614 H =>
 aGuardJ t609 true H (fun k => aPure H (fun l => aIdxA 3 t614 (.int .i64 0) (l · H)) (k · H)) fun t615 H =>
 aGuardJ t609 true H (fun k => aPure H (fun l => aLoad true 3 t615 H (l · H)) (k · H)) fun t616 H =>
 aGuardJ t609 true H (fun k => aPure H (fun l => aBuildS 3 [(.int .i64 0), (.int .i64 0), .snil] 2 [(0, t611), (1, t616)] (l · H)) (k · H)) fun t617 H =>
 aGuardJ t609 true H (fun k => aPureX H (fun H l => ACalls tP n_zq79 [t610, t617] H l) (k · H)) fun t618 H =>
 aPure H (fun k => aPick t609 t618 (.bool false) (k · H)) fun t619 =>
 aPure H (fun k => k t619 H) fun t4 =>
 K t4 H)
 (aBin .eql false t120 (.int .i64 16) fun t621 =>
 aTest t621
 (aPure H (fun k => k t21 H) fun t622 =>
 aPure H (fun k => k t622 H) fun t623 =>
 aGuardJ t623 true H (fun k => aPure H (fun l => l t22 H) (k · H)) fun t624 H =>
 aPure H (fun k => aPick t623 t624 (.bool false) (k · H)) fun t625 =>
 aPure H (fun k => k t625 H) fun t626 =>
 aGuardJ t626 true H (fun k => aPure H (fun l => l t5 H) (k · H)) fun t627 H =>
 aGuardJ t626 true H (fun k => aPure H (fun l => aLen 1 t627 (l · H)) (k · H)) fun t628 H =>
 aGuardJ t626 true H (fun k => aPure H (fun l => aBin .eql false t628 (.int .i64 2) (l · H)) (k · H)) fun t629 H =>
 aPure H (fun k => aPick t626 t629 (.bool false) (k · H)) fun t630 =>
 aPure H (fun k => k t630 H) fun t631 =>
 aGuardJ t631 true H (fun k => aPure H (fun l => l t5 H) (k · H)) fun t632 H =>
 aGuardJ t631 true H (fun k => aPure H (fun l => aIdxA 3 t632 (.int .i64 0) (l · H)) (k · H)) fun t633 H =>
 aGuardJ t631 true H (fun k => aPure H (fun l => aFld 0 t633 (l · H)) (k · H)) fun t634 H =>
 aGuardJ t631 true H (fun k => aPure H (fun l => aLoad false 1 t634 H (l · H)) (k · H)) fun t635 H =>
 aGuardJ t631 true H (fun k => aPure H (fun l => aBin .eql false t635 (.int .i64 7) (l · H)) (k · H)) fun t636 H =>
 aPure H (fun k => aPick t631 t636 (.bool false) (k · H)) fun t637 =>
 aPure H (fun k => k t637 H) fun t638 =>
 aGuardJ t638 true H (fun k => aPure H (fun l => l t5 H) (k · H)) fun t639 H =>
 aGuardJ t638 true H (fun k => aPure H (fun l => aSlice 1 3 t639 (some (.int .i64 1)) none (l · H)) (k · H)) fun t640 H =>
 aGuardJ t638 true H (fun k => aPure H (fun l => aLoad true 3 t17 H (l · H)) (k · H)) fun t641 H =>
 aGuardJ t638 true H (fun k => aPure H (fun l => aBuildS 3 [(.int .i64 0), (.int .i64 0), .snil] 1 [(0, t641)] (l · H)) (k · H)) fun t642 H =>
 aGuardJ t638 true H (fun k => aPureX H (fun H l => ACalls tP n_zq79 [t640, t642] H l) (k · H)) fun t643 H =>
 aPure H (fun k => aPick t638 t643 (.bool false) (k · H)) fun t644 =>
 aPure H (fun k => k t644 H) fun t645 =>
 aGuardJ t645 true H (fun k => aPure H (fun l => l t5 H) (k · H)) fun t646 H =>
 aGuardJ t645 true H (fun k => aPure H (fun l => aIdxA 3 t646 (.int .i64 0) (l · H)) (k · H)) fun t647 H =>
 aGuardJ t645 true H (fun k => aPure H (fun l => aFld 2 t647 (l · H)) (k · H)) fun t648 H =>
 aGuardJ t645 true H (fun k => aPure H (fun l => aLoad false 1 t648 H (l · H)) (k · H)) fun t649 H =>
 aGuardJ t645 true H (fun k => aPure H (fun l => aIdxA 3 t649 (.int .i64 0) (l · H)) (k · H)) fun t650 H =>
 aGuardJ t645 true H (fun k => aPure H (fun l => aLoad true 3 t650 H (l · H)) (k · H)) fun t651 H =>
 aGuardJ t645 true H (fun k => aPure H (fun l => aFld 5 t3 (l · H)) (k · H)) fun t652 H =>
 aGuardJ t645 true H (fun k => aPure H (fun l => aLoad true 3 t652 H (l · H)) (k · H)) fun t653 H =>
 aGuardJ t645 true H (fun k => aPureX H (fun H l => ACalls tP n_zq49 [t651, t653] H l) (k · H)) fun t654 H =>
 aPure H (fun k => aPick t645 t654 (.bool false) (k · H)) fun t655 =>
 aPure H (fun k => k t655 H) fun t4 =>
 K t4 H)
 (aBin .eql false t120 (.int .i64 17) fun t657 =>
 aTest t657
 (aPure H (fun k => k t21 H) fun t658 =>
 aPure H (fun k => k t658 H) fun t659 =>
 aGuardJ t659 true H (fun k => aPure H (fun l => l t22 H) (k · H)) fun t660 H =>
 aPure H (fun k => aPick t659 t660 (.bool false) (k · H)) fun t661 =>
 aPure H (fun k => k t661 H) fun t662 =>
 aGuardJ t662 true H (fun k => aPure H (fun l => l t5 H) (k · H)) fun t663 H =>
 aGuardJ t662 true H (fun k => aPure H (fun l => aLen 1 t663 (l · H)) (k · H)) fun t664 H =>
 aGuardJ t662 true H (fun k => aPure H (fun l => aBin .eql false t664 (.int .i64 3) (l · H)) (k · H)) fun t665 H =>
 aPure H (fun k => aPick t662 t665 (.bool false) (k · H)) fun t666 =>
 aPure H (fun k => k t666 H) fun t667 =>
 aGuardJ t667 true H (fun k => aPure H (fun l => l t5 H) (k · H)) fun t668 H =>
 aGuardJ t667 true H (fun k => aPure H (fun l => aIdxA 3 t668 (.int .i64 0) (l · H)) (k · H)) fun t669 H =>
 aGuardJ t667 true H (fun k => aPure H (fun l => aFld 0 t669 (l · H)) (k · H)) fun t670 H =>
 aGuardJ t667 true H (fun k => aPure H (fun l => aLoad false 1 t670 H (l · H)) (k · H)) fun t671 H =>
 aGuardJ t667 true H (fun k => aPure H (fun l => aBin .eql false t671 (.int .i64 7) (l · H)) (k · H)) fun t672 H =>
 aPure H (fun k => aPick t667 t672 (.bool false) (k · H)) fun t673 =>
 aPure H (fun k => k t673 H) fun t674 =>
 aGuardJ t674 true H (fun k => aPure H (fun l => l t5 H) (k · H)) fun t675 H =>
 aGuardJ t674 true H (fun k => aPure H (fun l => aSlice 1 3 t675 (some (.int .i64 1)) none (l · H)) (k · H)) fun t676 H =>
 aGuardJ t674 true H (fun k => aPure H (fun l => aLoad true 3 t17 H (l · H)) (k · H)) fun t677 H =>
 aGuardJ t674 true H (fun k => aPure H (fun l => l t5 H) (k · H)) fun t678 H =>
 aGuardJ t674 true H (fun k => aPure H (fun l => aIdxA 3 t678 (.int .i64 0) (l · H)) (k · H)) fun t679 H =>
 aGuardJ t674 true H (fun k => aPure H (fun l => aFld 2 t679 (l · H)) (k · H)) fun t680 H =>
 aGuardJ t674 true H (fun k => aPure H (fun l => aLoad false 1 t680 H (l · H)) (k · H)) fun t681 H =>
 aGuardJ t674 true H (fun k => aPure H (fun l => aIdxA 3 t681 (.int .i64 0) (l · H)) (k · H)) fun t682 H =>
 aGuardJ t674 true H (fun k => aPure H (fun l => aLoad true 3 t682 H (l · H)) (k · H)) fun t683 H =>
 aGuardJ t674 true H (fun k => aPure H (fun l => aBuildS 3 [(.int .i64 0), (.int .i64 0), .snil] 2 [(0, t677), (1, t683)] (l · H)) (k · H)) fun t684 H =>
 aGuardJ t674 true H (fun k => aPureX H (fun H l => ACalls tP n_zq79 [t676, t684] H l) (k · H)) fun t685 H =>
 aPure H (fun k => aPick t674 t685 (.bool false) (k · H)) fun t686 =>
 aPure H (fun k => k t686 H) fun t687 =>
 aGuardJ t687 true H (fun k => aPure H (fun l => aFld 5 t3 (l · H)) (k · H)) fun t688 H =>
 aGuardJ t687 true H (fun k => aPure H (fun l => aLoad true 3 t688 H (l · H)) (k · H)) fun t689 H =>
 aGuardJ t687 true H (fun k => aPure H (fun l => aLoad true 3 t19 H (l · H)) (k · H)) fun t690 H =>
 aGuardJ t687 true H (fun k => aPureX H (fun H l => ACalls tP n_zq49 [t689, t690] H l) (k · H)) fun t691 H =>
 aPure H (fun k => aPick t687 t691 (.bool false) (k · H)) fun t692 =>
 aPure H (fun k => k t692 H) fun t4 =>
 K t4 H)
 (aBin .eql false t120 (.int .i64 18) fun t694 =>
 aTest t694
 (aGuardJ t21 true H (fun k => k t22 H) fun t697 H =>
 aPick t21 t697 (.bool false) fun t698 =>
 aGuardJ t698 true H (fun k => k t5 H) fun t700 H =>
 aGuardJ t698 true H (fun k => aLen 1 t700 (k · H)) fun t701 H =>
 aGuardJ t698 true H (fun k => aBin .eql false t701 (.int .i64 1) (k · H)) fun t702 H =>
 aPick t698 t702 (.bool false) fun t703 =>
 aGuardJ t703 true H (fun k => k t5 H) fun t705 H =>
 aGuardJ t703 true H (fun k => aIdxA 3 t705 (.int .i64 0) (k · H)) fun t706 H =>
 aGuardJ t703 true H (fun k => aFld 0 t706 (k · H)) fun t707 H =>
 aGuardJ t703 true H (fun k => aLoad false 1 t707 H (k · H)) fun t708 H =>
 aGuardJ t703 true H (fun k => aBin .eql false t708 (.int .i64 7) (k · H)) fun t709 H =>
 aPick t703 t709 (.bool false) fun t710 =>
 aGuardJ t710 true H (fun k => k t20 H) fun t712 H =>
 aGuardJ t710 true H (fun k => aBin .eql false t712 (.int .i64 1) (k · H)) fun t713 H =>
 aPick t710 t713 (.bool false) fun t714 =>
 K t714 H)
 (aBin .eql false t120 (.int .i64 19) fun t716 =>
 zq51_j9 t3 t5 t6 t11 t17 t19 t20 t21 t22 t120 t716 H K)))))
noncomputable def zq51_j6_c : Code := codeAt [1, 1, 1, 1, 1, 1, 1, 1, 1, 1, 1, 0, 1, 0, 1, 1, 1, 1, 1, 1, 1, 1, 1, 1, 1, 1, 1, 1, 1, 1, 1] zq51_c
def zq51_j6_Q (K : Kt) : AExit → List AV → Heap → Prop := contAt tP zq51_M [1, 1, 1, 1, 1, 1, 1, 1, 1, 1, 1, 0, 1, 0, 1, 1, 1, 1, 1, 1, 1, 1, 1, 1, 1, 1, 1, 1, 1, 1, 1] zq51_c (retQ tP zq51_r K)
def zq51_j6 (t2 t3 t5 t6 t11 t17 t18 t19 t20 t21 t22 t120 t315 : AV) (H : Heap) (K : Kt) : Prop := AWp tP zq51_j6_c (zq51_j6_Q K) (ux 2 (t2 :: t3 :: ux 1 (t5 :: t6 :: ux 4 (t11 :: ux 5 (t17 :: t18 :: t19 :: t20 :: t21 :: t22 :: ux 97 (t120 :: ux 194 (t315 :: ux 556 []))))))) H
def zq51_j6b (t2 t3 t5 t6 t11 t17 t18 t19 t20 t21 t22 t120 t315 : AV) (H : Heap) (K : Kt) : Prop :=
 aTest t315
 (aGuardJ t21 true H (fun k => k t5 H) fun t319 H =>
 aGuardJ t21 true H (fun k => aLoad true 3 t18 H (k · H)) fun t320 H =>
 aGuardJ t21 true H (fun k => aBuildS 3 [(.int .i64 0), (.int .i64 0), .snil] 1 [(0, t320)] (k · H)) fun t321 H =>
 aGuardJ t21 true H (fun k => ACalls tP n_zq79 [t319, t321] H k) fun t322 H =>
 aPick t21 t322 (.bool false) fun t323 =>
 aGuardJ t323 true H (fun k => k t6 H) fun t325 H =>
 aGuardJ t323 true H (fun k => aFld 5 t3 (k · H)) fun t326 H =>
 aGuardJ t323 true H (fun k => aLoad true 3 t326 H (k · H)) fun t327 H =>
 aGuardJ t323 true H (fun k => aFld 5 t3 (k · H)) fun t328 H =>
 aGuardJ t323 true H (fun k => aLoad true 3 t328 H (k · H)) fun t329 H =>
 aGuardJ t323 true H (fun k => aBuildS 3 [(.int .i64 0), (.int .i64 0), .snil] 2 [(0, t327), (1, t329)] (k · H)) fun t330 H =>
 aGuardJ t323 true H (fun k => ACalls tP n_zq79 [t325, t330] H k) fun t331 H =>
 aPick t323 t331 (.bool false) fun t332 =>
 aGuardJ t332 true H (fun k => k t11 H) fun t334 H =>
 aGuardJ t332 true H (fun k => aIdxA 1 t334 (.int .i64 0) (k · H)) fun t335 H =>
 aGuardJ t332 true H (fun k => aLoad false 1 t335 H (k · H)) fun t336 H =>
 aGuardJ t332 true H (fun k => aLen 1 t336 (k · H)) fun t337 H =>
 aGuardJ t332 true H (fun k => aBin .eql false t337 (.int .i64 0) (k · H)) fun t338 H =>
 aPick t332 t338 (.bool false) fun t339 =>
 aGuardJ t339 true H (fun k => k t11 H) fun t341 H =>
 aGuardJ t339 true H (fun k => aIdxA 1 t341 (.int .i64 1) (k · H)) fun t342 H =>
 aGuardJ t339 true H (fun k => aLoad false 1 t342 H (k · H)) fun t343 H =>
 aGuardJ t339 true H (fun k => aLen 1 t343 (k · H)) fun t344 H =>
 aGuardJ t339 true H (fun k => aBin .eql false t344 (.int .i64 0) (k · H)) fun t345 H =>
 aPick t339 t345 (.bool false) fun t346 =>
 K t346 H)
 (aBin .eql false t120 (.int .i64 10) fun t348 =>
 aTest t348
 (aPure H (fun k => k t21 H) fun t349 =>
 aPure H (fun k => aUn .not t349 (k · H)) fun t350 =>
 aPure H (fun k => k t350 H) fun t351 =>
 aGuardJ t351 false H (fun k => aPure H (fun l => l t5 H) (k · H)) fun t352 H =>
 aGuardJ t351 false H (fun k => aPure H (fun l => aLen 1 t352 (l · H)) (k · H)) fun t353 H =>
 aGuardJ t351 false H (fun k => aPure H (fun l => aBin .neq false t353 (.int .i64 1) (l · H)) (k · H)) fun t354 H =>
 aPure H (fun k => aPick t351 (.bool true) t354 (k · H)) fun t355 =>
 aPure H (fun k => k t355 H) fun t356 =>
 aGuardJ t356 false H (fun k => aPure H (fun l => l t5 H) (k · H)) fun t357 H =>
 aGuardJ t356 false H (fun k => aPure H (fun l => aIdxA 3 t357 (.int .i64 0) (l · H)) (k · H)) fun t358 H =>
 aGuardJ t356 false H (fun k => aPure H (fun l => aFld 0 t358 (l · H)) (k · H)) fun t359 H =>
 aGuardJ t356 false H (fun k => aPure H (fun l => aLoad false 1 t359 H (l · H)) (k · H)) fun t360 H =>
 aGuardJ t356 false H (fun k => aPure H (fun l => aBin .neq false t360 (.int .i64 5) (l · H)) (k · H)) fun t361 H =>
 aPure H (fun k => aPick t356 (.bool true) t361 (k · H)) fun t362 =>
 aPure H (fun k => k t362 H) fun t363 =>
 aGuardJ t363 false H (fun k => aPure H (fun l => l t6 H) (k · H)) fun t364 H =>
 aGuardJ t363 false H (fun k => aPure H (fun l => aLen 1 t364 (l · H)) (k · H)) fun t365 H =>
 aGuardJ t363 false H (fun k => aPure H (fun l => aFld 0 t2 (l · H)) (k · H)) fun t366 H =>
 aGuardJ t363 false H (fun k => aPure H (fun l => aLoad false 1 t366 H (l · H)) (k · H)) fun t367 H =>
 aGuardJ t363 false H (fun k => aPure H (fun l => l t5 H) (k · H)) fun t368 H =>
 aGuardJ t363 false H (fun k => aPure H (fun l => aIdxA 3 t368 (.int .i64 0) (l · H)) (k · H)) fun t369 H =>
 aGuardJ t363 false H (fun k => aPure H (fun l => aFld 1 t369 (l · H)) (k · H)) fun t370 H =>
 aGuardJ t363 false H (fun k => aPure H (fun l => aLoad false 1 t370 H (l · H)) (k · H)) fun t371 H =>
 aGuardJ t363 false H (fun k => aPure H (fun l => aIdxA 3 t367 t371 (l · H)) (k · H)) fun t372 H =>
 aGuardJ t363 false H (fun k => aPure H (fun l => aFld 2 t372 (l · H)) (k · H)) fun t373 H =>
 aGuardJ t363 false H (fun k => aPure H (fun l => aLoad false 1 t373 H (l · H)) (k · H)) fun t374 H =>
 aGuardJ t363 false H (fun k => aPure H (fun l => aLen 1 t374 (l · H)) (k · H)) fun t375 H =>
 aGuardJ t363 false H (fun k => aPure H (fun l => aBin .neq false t365 t375 (l · H)) (k · H)) fun t376 H =>
 aPure H (fun k => aPick t363 (.bool true) t376 (k · H)) fun t377 =>
 aTest t377
 (K (.bool false) H)
 (aLen 1 t6 fun t379 =>
 zq51_l56 t2 t3 t5 t6 t11 t379 (.int .i64 0) H K))
 (aBin .eql false t120 (.int .i64 11) fun t416 =>
 aTest t416
 (aFld 1 t2 fun t417 =>
 aLoad false 1 t417 H fun t418 =>
 aFld 1 t3 fun t419 =>
 aLoad false 1 t419 H fun t420 =>
 aIdxA 7 t418 t420 fun t421 =>
 aLoad true 7 t421 H fun t422 =>
 aNew [(.str []), .snil, .snil, (.int .i64 0), (.int .i64 0), .snil, (.int .i64 0)] H fun t28 H =>
 aStore 7 t28 t422 H fun H =>
 aFld 1 t28 fun t423 =>
 aLoad false 1 t423 H fun t424 =>
 aLen 1 t424 fun t425 =>
 zq51_l67 t2 t3 t5 t20 t22 t28 .snil .snil t424 t425 (.int .i64 0) H K)
 (aBin .eql false t120 (.int .i64 12) fun t477 =>
 aTest t477
 (aFld 1 t3 fun t478 =>
 aLoad false 1 t478 H fun t479 =>
 aBin .lss false t479 (.int .i64 0) fun t480 =>
 aGuardJ t480 false H (fun k => aFld 1 t3 (k · H)) fun t482 H =>
 aGuardJ t480 false H (fun k => aLoad false 1 t482 H (k · H)) fun t483 H =>
 aGuardJ t480 false H (fun k => aFld 1 t2 (k · H)) fun t484 H =>
 aGuardJ t480 false H (fun k => aLoad false 1 t484 H (k · H)) fun t485 H =>
 aGuardJ t480 false H (fun k => aLen 1 t485 (k · H)) fun t486 H =>
 aGuardJ t480 false H (fun k => aBin .geq false t483 t486 (k · H)) fun t487 H =>
 aPick t480 (.bool true) t487 fun t488 =>
 aGuardJ t488 false H (fun k => aFld 1 t2 (k · H)) fun t490 H =>
 aGuardJ t488 false H (fun k => aLoad false 1 t490 H (k · H)) fun t491 H =>
 aGuardJ t488 false H (fun k => aFld 1 t3 (k · H)) fun t492 H =>
 aGuardJ t488 false H (fun k => aLoad false 1 t492 H (k · H)) fun t493 H =>
 aGuardJ t488 false H (fun k => aIdxA 7 t491 t493 (k · H)) fun t494 H =>
 aGuardJ t488 false H (fun k => aFld 0 t494 (k · H)) fun t495 H =>
 aGuardJ t488 false H (fun k => aLoad false 1 t495 H (k · H)) fun t496 H =>
 aGuardJ t488 false H (fun k => aBin .eql false t496 (.str []) (k · H)) fun t497 H =>
 aPick t488 (.bool true) t497 fun t498 =>
 aTest t498
 (K (.bool false) H)
 (aFld 1 t2 fun t499 =>
 aLoad false 1 t499 H fun t500 =>
 aFld 1 t3 fun t501 =>
 aLoad false 1 t501 H fun t502 =>
 aIdxA 7 t500 t502 fun t503 =>
 aLoad true 7 t503 H fun t504 =>
 aNew [(.str []), .snil, .snil, (.int .i64 0), (.int .i64 0), .snil, (.int .i64 0)] H fun t35 H =>
 aStore 7 t35 t504 H fun H =>
 aFld 1 t35 fun t505 =>
 aLoad false 1 t505 H fun t506 =>
 aLen 1 t506 fun t507 =>
 zq51_l83 t2 t3 t5 t22 t35 .snil t506 t507 (.int .i64 0) H K))
 (aBin .eql false t120 (.int .i64 13) fun t535 =>
 aTest t535
 (aPure H (fun k => k t21 H) fun t536 =>
 aPure H (fun k => k t536 H) fun t537 =>
 aGuardJ t537 true H (fun k => aPure H (fun l => l t22 H) (k · H)) fun t538 H =>
 aPure H (fun k => aPick t537 t538 (.bool false) (k · H)) fun t539 =>
 aPure H (fun k => k t539 H) fun t540 =>
 aGuardJ t540 true H (fun k => aPure H (fun l => l t5 H) (k · H)) fun t541 H =>
 aGuardJ t540 true H (fun k => aPure H (fun l => aLen 1 t541 (l · H)) (k · H)) fun t542 H =>
 aGuardJ t540 true H (fun k => aPure H (fun l => aBin .geq false t542 (.int .i64 1) (l · H)) (k · H)) fun t543 H =>
 aPure H (fun k => aPick t540 t543 (.bool false) (k · H)) fun t544 =>
 aPure H (fun k => k t544 H) fun t545 =>
 aGuardJ t545 true H (fun k => aPure H (fun l => l t5 H) (k · H)) fun t546 H =>
 aGuardJ t545 true H (fun k => aPure H (fun l => aIdxA 3 t546 (.int .i64 0) (l · H)) (k · H)) fun t547 H =>
 aGuardJ t545 true H (fun k => aPure H (fun l => aFld 0 t547 (l · H)) (k · H)) fun t548 H =>
 aGuardJ t545 true H (fun k => aPure H (fun l => aLoad false 1 t548 H (l · H)) (k · H)) fun t549 H =>
 aGuardJ t545 true H (fun k => aPure H (fun l => aBin .eql false t549 (.int .i64 9) (l · H)) (k · H)) fun t550 H =>
 aPure H (fun k => aPick t545 t550 (.bool false) (k · H)) fun t551 =>
 aPure H (fun k => k t551 H) fun t552 =>
 aGuardJ t552 true H (fun k => aPure H (fun l => l t5 H) (k · H)) fun t553 H =>
 aGuardJ t552 true H (fun k => aPure H (fun l => aSlice 1 3 t553 (some (.int .i64 1)) none (l · H)) (k · H)) fun t554 H =>
 aGuardJ t552 true H (fun k => aAppend e_api_Type 3 40 .snil t554 H k) fun t555 H =>
 aGuardJ t552 true H (fun k => aPure H (fun l => aFld 5 t3 (l · H)) (k · H)) fun t556 H =>
 aGuardJ t552 true H (fun k => aPure H (fun l => aLoad true 3 t556 H (l · H)) (k · H)) fun t557 H =>
 aGuardJ t552 true H (fun k => aPure H (fun l => aBuildS 3 [(.int .i64 0), (.int .i64 0), .snil] 1 [(0, t557)] (l · H)) (k · H)) fun t558 H =>
 aGuardJ t552 true H (fun k => aAppend e_api_Type 3 40 t555 t558 H k) fun t559 H =>
 aGuardJ t552 true H (fun k => aPure H (fun l => l t5 H) (k · H)) fun t560 H =>
 aGuardJ t552 true H (fun k => aPure H (fun l => aIdxA 3 t560 (.int .i64 0) (l · H)) (k · H)) fun t561 H =>
 aGuardJ t552 true H (fun k => aPure H (fun l => aFld 2 t561 (l · H)) (k · H)) fun t562 H =>
 aGuardJ t552 true H (fun k => aPure H (fun l => aLoad false 1 t562 H (l · H)) (k · H)) fun t563 H =>
 aGuardJ t552 true H (fun k => aPureX H (fun H l => ACalls tP n_zq80 [t559, t563] H l) (k · H)) fun t564 H =>
 aPure H (fun k => aPick t552 t564 (.bool false) (k · H)) fun t565 =>
 aPure H (fun k => k t565 H) fun t4 =>
 K t4 H)
 (aBin .eql false t120 (.int .i64 14) fun t567 =>
 zq51_j7 t3 t5 t6 t11 t17 t19 t20 t21 t22 t120 t567 H K)))))
noncomputable def zq51_j5_c : Code := codeAt [1, 1, 1, 1, 1, 1, 1, 1, 1, 1, 1, 0, 1, 0, 1, 1, 1, 1, 1, 1, 1] zq51_c
def zq51_j5_Q (K : Kt) : AExit → List AV → Heap → Prop := contAt tP zq51_M [1, 1, 1, 1, 1, 1, 1, 1, 1, 1, 1, 0, 1, 0, 1, 1, 1, 1, 1, 1, 1] zq51_c (retQ tP zq51_r K)
def zq51_j5 (t2 t3 t5 t6 t11 t17 t18 t19 t20 t21 t22 t120 t180 : AV) (H : Heap) (K : Kt) : Prop := AWp tP zq51_j5_c (zq51_j5_Q K) (ux 2 (t2 :: t3 :: ux 1 (t5 :: t6 :: ux 4 (t11 :: ux 5 (t17 :: t18 :: t19 :: t20 :: t21 :: t22 :: ux 97 (t120 :: ux 59 (t180 :: ux 691 []))))))) H
def zq51_j5b (t2 t3 t5 t6 t11 t17 t18 t19 t20 t21 t22 t120 t180 : AV) (H : Heap) (K : Kt) : Prop :=
 aTest t180
 (aGuardJ t21 true H (fun k => k t22 H) fun t184 H =>
 aPick t21 t184 (.bool false) fun t185 =>
 aGuardJ t185 true H (fun k => k t5 H) fun t187 H =>
 aGuardJ t185 true H (fun k => aFld 5 t3 (k · H)) fun t188 H =>
 aGuardJ t185 true H (fun k => aLoad true 3 t188 H (k · H)) fun t189 H =>
 aGuardJ t185 true H (fun k => aBuildS 3 [(.int .i64 0), (.int .i64 0), .snil] 1 [(0, t189)] (k · H)) fun t190 H =>
 aGuardJ t185 true H (fun k => ACalls tP n_zq79 [t187, t190] H k) fun t191 H =>
 aPick t185 t191 (.bool false) fun t192 =>
 K t192 H)
 (aBin .eql false t120 (.int .i64 5) fun t194 =>
 aTest t194
 (aGuardJ t21 true H (fun k => k t22 H) fun t197 H =>
 aPick t21 t197 (.bool false) fun t198 =>
 aGuardJ t198 true H (fun k => k t20 H) fun t200 H =>
 aGuardJ t198 true H (fun k => aBin .eql false t200 (.int .i64 6) (k · H)) fun t201 H =>
 aPick t198 t201 (.bool false) fun t202 =>
 aGuardJ t202 true H (fun k => k t5 H) fun t204 H =>
 aGuardJ t202 true H (fun k => aFld 5 t3 (k · H)) fun t205 H =>
 aGuardJ t202 true H (fun k => aFld 2 t205 (k · H)) fun t206 H =>
 aGuardJ t202 true H (fun k => aLoad false 1 t206 H (k · H)) fun t207 H =>
 aGuardJ t202 true H (fun k => ACalls tP n_zq80 [t204, t207] H k) fun t208 H =>
 aPick t202 t208 (.bool false) fun t209 =>
 K t209 H)
 (aBin .eql false t120 (.int .i64 6) fun t211 =>
 aTest t211
 (aFld 1 t3 fun t212 =>
 aLoad false 1 t212 H fun t213 =>
 aBin .lss false t213 (.int .i64 0) fun t214 =>
 aGuardJ t214 false H (fun k => aFld 1 t3 (k · H)) fun t216 H =>
 aGuardJ t214 false H (fun k => aLoad false 1 t216 H (k · H)) fun t217 H =>
 aGuardJ t214 false H (fun k => aBin .geq false t217 (.int .i64 8) (k · H)) fun t218 H =>
 aPick t214 (.bool true) t218 fun t219 =>
 aTest t219
 (K (.bool false) H)
 (aFld 0 t2 fun t221 =>
 aLoad false 1 t221 H fun t222 =>
 aFld 5 t3 fun t223 =>
 aLoad true 3 t223 H fun t224 =>
 aFld 1 t3 fun t225 =>
 aLoad false 1 t225 H fun t226 =>
 ACalls tP n_zq81 [t222, t224, t226] H fun t227 H =>
 aExt t227 0 fun t228 =>
 aExt t227 1 fun t229 =>
 aGuardJ t22 true H (fun k => k t229 H) fun t232 H =>
 aPick t22 t232 (.bool false) fun t233 =>
 aGuardJ t233 true H (fun k => k t5 H) fun t235 H =>
 aGuardJ t233 true H (fun k => k t228 H) fun t236 H =>
 aGuardJ t233 true H (fun k => ACalls tP n_zq80 [t235, t236] H k) fun t237 H =>
 aPick t233 t237 (.bool false) fun t238 =>
 K t238 H))
 (aBin .eql false t120 (.int .i64 7) fun t240 =>
 aTest t240
 (aPure H (fun k => k t21 H) fun t241 =>
 aPure H (fun k => k t241 H) fun t242 =>
 aGuardJ t242 true H (fun k => aPure H (fun l => l t5 H) (k · H)) fun t243 H =>
 aGuardJ t242 true H (fun k => aPure H (fun l => aLen 1 t243 (l · H)) (k · H)) fun t244 H =>
 aGuardJ t242 true H (fun k => aPure H (fun l => aBin .eql false t244 (.int .i64 0) (l · H)) (k · H)) fun t245 H =>
 aPure H (fun k => aPick t242 t245 (.bool false) (k · H)) fun t246 =>
 aPure H (fun k => k t246 H) fun t247 =>
 aGuardJ t247 true H (fun k => aPure H (fun l => l t6 H) (k · H)) fun t248 H =>
 aGuardJ t247 true H (fun k => aPure H (fun l => aLen 1 t248 (l · H)) (k · H)) fun t249 H =>
 aGuardJ t247 true H (fun k => aPure H (fun l => aBin .eql false t249 (.int .i64 2) (l · H)) (k · H)) fun t250 H =>
 aPure H (fun k => aPick t247 t250 (.bool false) (k · H)) fun t251 =>
 aPure H (fun k => k t251 H) fun t252 =>
 aGuardJ t252 true H (fun k => aPure H (fun l => l t11 H) (k · H)) fun t253 H =>
 aGuardJ t252 true H (fun k => aPure H (fun l => aIdxA 1 t253 (.int .i64 0) (l · H)) (k · H)) fun t254 H =>
 aGuardJ t252 true H (fun k => aPure H (fun l => aLoad false 1 t254 H (l · H)) (k · H)) fun t255 H =>
 aGuardJ t252 true H (fun k => aPure H (fun l => aLen 1 t255 (l · H)) (k · H)) fun t256 H =>
 aGuardJ t252 true H (fun k => aPure H (fun l => aBin .eql false t256 (.int .i64 0) (l · H)) (k · H)) fun t257 H =>
 aPure H (fun k => aPick t252 t257 (.bool false) (k · H)) fun t258 =>
 aPure H (fun k => k t258 H) fun t259 =>
 aGuardJ t259 true H (fun k => aPure H (fun l => l t11 H) (k · H)) fun t260 H =>
 aGuardJ t259 true H (fun k => aPure H (fun l => aIdxA 1 t260 (.int .i64 1) (l · H)) (k · H)) fun t261 H =>
 aGuardJ t259 true H (fun k => aPure H (fun l => aLoad false 1 t261 H (l · H)) (k · H)) fun t262 H =>
 aGuardJ t259 true H (fun k => aPure H (fun l => l t6 H) (k · H)) fun t263 H =>
 aGuardJ t259 true H (fun k => aPure H (fun l => aIdxA 3 t263 (.int .i64 0) (l · H)) (k · H)) fun t264 H =>
 aGuardJ t259 true H (fun k => aPure H (fun l => aLoad true 3 t264 H (l · H)) (k · H)) fun t265 H =>
 aGuardJ t259 true H (fun k => aPure H (fun l => aBuildS 3 [(.int .i64 0), (.int .i64 0), .snil] 1 [(0, t265)] (l · H)) (k · H)) fun t266 H =>
 aGuardJ t259 true H (fun k => aPureX H (fun H l => ACalls tP n_zq79 [t262, t266] H l) (k · H)) fun t267 H =>
 aPure H (fun k => aPick t259 t267 (.bool false) (k · H)) fun t268 =>
 aPure H (fun k => k t268 H) fun t269 =>
 aGuardJ t269 true H (fun k => aPure H (fun l => l t6 H) (k · H)) fun t270 H =>
 aGuardJ t269 true H (fun k => aPure H (fun l => aIdxA 3 t270 (.int .i64 1) (l · H)) (k · H)) fun t271 H =>
 aGuardJ t269 true H (fun k => aPure H (fun l => aLoad true 3 t271 H (l · H)) (k · H)) fun t272 H =>
 aGuardJ t269 true H (fun k => aPure H (fun l => aFld 5 t3 (l · H)) (k · H)) fun t273 H =>
 aGuardJ t269 true H (fun k => aPure H (fun l => aLoad true 3 t273 H (l · H)) (k · H)) fun t274 H =>
 aGuardJ t269 true H (fun k => aPureX H (fun H l => ACalls tP n_zq49 [t272, t274] H l) (k · H)) fun t275 H =>
 aPure H (fun k => aPick t269 t275 (.bool false) (k · H)) fun t276 =>
 aPure H (fun k => k t276 H) fun t4 =>
 K t4 H)
 (aBin .eql false t120 (.int .i64 8) fun t278 =>
 aTest t278
 (aPure H (fun k => k t21 H) fun t279 =>
 aPure H (fun k => k t279 H) fun t280 =>
 aGuardJ t280 true H (fun k => aPure H (fun l => l t5 H) (k · H)) fun t281 H =>
 aGuardJ t280 true H (fun k => aPure H (fun l => aLen 1 t281 (l · H)) (k · H)) fun t282 H =>
 aGuardJ t280 true H (fun k => aPure H (fun l => aBin .eql false t282 (.int .i64 1) (l · H)) (k · H)) fun t283 H =>
 aPure H (fun k => aPick t280 t283 (.bool false) (k · H)) fun t284 =>
 aPure H (fun k => k t284 H) fun t285 =>
 aGuardJ t285 true H (fun k => aPure H (fun l => l t5 H) (k · H)) fun t286 H =>
 aGuardJ t285 true H (fun k => aPure H (fun l => aIdxA 3 t286 (.int .i64 0) (l · H)) (k · H)) fun t287 H =>
 aGuardJ t285 true H (fun k => aPure H (fun l => aFld 0 t287 (l · H)) (k · H)) fun t288 H =>
 aGuardJ t285 true H (fun k => aPure H (fun l => aLoad false 1 t288 H (l · H)) (k · H)) fun t289 H =>
 aGuardJ t285 true H (fun k => aPure H (fun l => aBin .eql false t289 (.int .i64 6) (l · H)) (k · H)) fun t290 H =>
 aPure H (fun k => aPick t285 t290 (.bool false) (k · H)) fun t291 =>
 aPure H (fun k => k t291 H) fun t292 =>
 aGuardJ t292 true H (fun k => aPure H (fun l => l t6 H) (k · H)) fun t293 H =>
 aGuardJ t292 true H (fun k => aPure H (fun l => aLen 1 t293 (l · H)) (k · H)) fun t294 H =>
 aGuardJ t292 true H (fun k => aPure H (fun l => aBin .eql false t294 (.int .i64 1) (l · H)) (k · H)) fun t295 H =>
 aPure H (fun k => aPick t292 t295 (.bool false) (k · H)) fun t296 =>
 aPure H (fun k => k t296 H) fun t297 =>
 aGuardJ t297 true H (fun k => aPure H (fun l => l t11 H) (k · H)) fun t298 H =>
 aGuardJ t297 true H (fun k => aPure H (fun l => aIdxA 1 t298 (.int .i64 0) (l · H)) (k · H)) fun t299 H =>
 aGuardJ t297 true H (fun k => aPure H (fun l => aLoad false 1 t299 H (l · H)) (k · H)) fun t300 H =>
 aGuardJ t297 true H (fun k => aPure H (fun l => l t5 H) (k · H)) fun t301 H =>
 aGuardJ t297 true H (fun k => aPure H (fun l => aIdxA 3 t301 (.int .i64 0) (l · H)) (k · H)) fun t302 H =>
 aGuardJ t297 true H (fun k => aPure H (fun l => aFld 2 t302 (l · H)) (k · H)) fun t303 H =>
 aGuardJ t297 true H (fun k => aPure H (fun l => aLoad false 1 t303 H (l · H)) (k · H)) fun t304 H =>
 aGuardJ t297 true H (fun k => aPureX H (fun H l => ACalls tP n_zq80 [t300, t304] H l) (k · H)) fun t305 H =>
 aPure H (fun k => aPick t297 t305 (.bool false) (k · H)) fun t306 =>
 aPure H (fun k => k t306 H) fun t307 =>
 aGuardJ t307 true H (fun k => aPure H (fun l => l t6 H) (k · H)) fun t308 H =>
 aGuardJ t307 true H (fun k => aPure H (fun l => aIdxA 3 t308 (.int .i64 0) (l · H)) (k · H)) fun t309 H =>
 aGuardJ t307 true H (fun k => aPure H (fun l => aLoad true 3 t309 H (l · H)) (k · H)) fun t310 H =>
 aGuardJ t307 true H (fun k => aPure H (fun l => aFld 5 t3 (l · H)) (k · H)) fun t311 H =>
 aGuardJ t307 true H (fun k => aPure H (fun l => aLoad true 3 t311 H (l · H)) (k · H)) fun t312 H =>
 aGuardJ t307 true H (fun k => aPureX H (fun H l => ACalls tP n_zq49 [t310, t312] H l) (k · H)) fun t313 H =>
 aPure H (fun k => aPick t307 t313 (.bool false) (k · H)) fun t314 =>
 aPure H (fun k => k t314 H) fun t4 =>
 K t4 H)
 (aBin .eql false t120 (.int .i64 9) fun t316 =>
 zq51_j6 t2 t3 t5 t6 t11 t17 t18 t19 t20 t21 t22 t120 t316 H K)))))
noncomputable def zq51_j4_c : Code := codeAt [1, 1, 1, 1, 1, 1, 1, 1, 1, 1, 1] zq51_c
def zq51_j4_Q (K : Kt) : AExit → List AV → Heap → Prop := contAt tP zq51_M [1, 1, 1, 1, 1, 1, 1, 1, 1, 1, 1] zq51_c (retQ tP zq51_r K)
def zq51_j4 (t2 t3 t5 t6 t11 t17 t18 t19 t20 t21 t22 : AV) (H : Heap) (K : Kt) : Prop := AWp tP zq51_j4_c (zq51_j4_Q K) (ux 2 (t2 :: t3 :: ux 1 (t5 :: t6 :: ux 4 (t11 :: ux 5 (t17 :: t18 :: t19 :: t20 :: t21 :: t22 :: ux 849 []))))) H
def zq51_j4b (t2 t3 t5 t6 t11 t17 t18 t19 t20 t21 t22 : AV) (H : Heap) (K : Kt) : Prop :=
 aFld 0 t3 fun t119 =>
 aLoad false 1 t119 H fun t120 =>
 aBin .eql false t120 (.int .i64 1) fun t122 =>
 aTest t122
 (aGuardJ t21 true H (fun k => k t22 H) fun t125 H =>
 aPick t21 t125 (.bool false) fun t126 =>
 aGuardJ t126 true H (fun k => k t5 H) fun t128 H =>
 aGuardJ t126 true H (fun k => aLen 1 t128 (k · H)) fun t129 H =>
 aGuardJ t126 true H (fun k => aBin .eql false t129 (.int .i64 0) (k · H)) fun t130 H =>
 aPick t126 t130 (.bool false) fun t131 =>
 aGuardJ t131 true H (fun k => k t20 H) fun t133 H =>
 aGuardJ t131 true H (fun k => aBin .eql false t133 (.int .i64 3) (k · H)) fun t134 H =>
 aPick t131 t134 (.bool false) fun t135 =>
 K t135 H)
 (aBin .eql false t120 (.int .i64 2) fun t137 =>
 aTest t137
 (aFld 1 t3 fun t138 =>
 aLoad false 1 t138 H fun t139 =>
 aBin .eql false t139 (.int .i64 0) fun t140 =>
 aGuardJ t140 false H (fun k => aFld 1 t3 (k · H)) fun t142 H =>
 aGuardJ t140 false H (fun k => aLoad false 1 t142 H (k · H)) fun t143 H =>
 aGuardJ t140 false H (fun k => aBin .eql false t143 (.int .i64 1) (k · H)) fun t144 H =>
 aPick t140 (.bool true) t144 fun t145 =>
 aGuardJ t145 true H (fun k => k t22 H) fun t147 H =>
 aPick t145 t147 (.bool false) fun t148 =>
 aGuardJ t148 true H (fun k => k t5 H) fun t150 H =>
 aGuardJ t148 true H (fun k => aLen 1 t150 (k · H)) fun t151 H =>
 aGuardJ t148 true H (fun k => aBin .eql false t151 (.int .i64 0) (k · H)) fun t152 H =>
 aPick t148 t152 (.bool false) fun t153 =>
 aGuardJ t153 true H (fun k => k t20 H) fun t155 H =>
 aGuardJ t153 true H (fun k => aBin .eql false t155 (.int .i64 2) (k · H)) fun t156 H =>
 aPick t153 t156 (.bool false) fun t157 =>
 K t157 H)
 (aBin .eql false t120 (.int .i64 3) fun t159 =>
 aTest t159
 (aFld 1 t3 fun t160 =>
 aLoad false 1 t160 H fun t161 =>
 aBin .geq false t161 (.int .i64 (-1000000)) fun t162 =>
 aGuardJ t162 true H (fun k => aFld 1 t3 (k · H)) fun t164 H =>
 aGuardJ t162 true H (fun k => aLoad false 1 t164 H (k · H)) fun t165 H =>
 aGuardJ t162 true H (fun k => aBin .leq false t165 (.int .i64 1000000) (k · H)) fun t166 H =>
 aPick t162 t166 (.bool false) fun t167 =>
 aGuardJ t167 true H (fun k => k t22 H) fun t169 H =>
 aPick t167 t169 (.bool false) fun t170 =>
 aGuardJ t170 true H (fun k => k t5 H) fun t172 H =>
 aGuardJ t170 true H (fun k => aLen 1 t172 (k · H)) fun t173 H =>
 aGuardJ t170 true H (fun k => aBin .eql false t173 (.int .i64 0) (k · H)) fun t174 H =>
 aPick t170 t174 (.bool false) fun t175 =>
 aGuardJ t175 true H (fun k => k t20 H) fun t177 H =>
 aGuardJ t175 true H (fun k => aBin .eql false t177 (.int .i64 1) (k · H)) fun t178 H =>
 aPick t175 t178 (.bool false) fun t179 =>
 K t179 H)
 (aBin .eql false t120 (.int .i64 4) fun t181 =>
 zq51_j5 t2 t3 t5 t6 t11 t17 t18 t19 t20 t21 t22 t120 t181 H K)))
noncomputable def zq51_j3_c : Code := codeAt [1, 1, 1, 1, 1, 1, 1, 1] zq51_c
def zq51_j3_Q (K : Kt) : AExit → List AV → Heap → Prop := contAt tP zq51_M [1, 1, 1, 1, 1, 1, 1, 1] zq51_c (retQ tP zq51_r K)
def zq51_j3 (t2 t3 t5 t6 t11 t17 t18 t19 : AV) (H : Heap) (K : Kt) : Prop := AWp tP zq51_j3_c (zq51_j3_Q K) (ux 2 (t2 :: t3 :: ux 1 (t5 :: t6 :: ux 4 (t11 :: ux 5 (t17 :: t18 :: t19 :: ux 852 []))))) H
def zq51_j3b (t2 t3 t5 t6 t11 t17 t18 t19 : AV) (H : Heap) (K : Kt) : Prop :=
 aFld 5 t3 fun t109 =>
 aFld 0 t109 fun t110 =>
 aLoad false 1 t110 H fun t111 =>
 aFld 1 t3 fun t112 =>
 aLoad false 1 t112 H fun t113 =>
 aBin .eql false t113 (.int .i64 0) fun t114 =>
 aFld 4 t3 fun t115 =>
 aLoad false 1 t115 H fun t116 =>
 aLen 1 t116 fun t117 =>
 aBin .eql false t117 (.int .i64 0) fun t118 =>
 zq51_j4 t2 t3 t5 t6 t11 t17 t18 t19 t111 t114 t118 H K
def zq51_b16 (t2 t3 t5 t6 t11 t80 t81 t82 : AV) (H : Heap) (K : Kt) (Kb16 : Lt) : Prop :=
 aBin .lss false t82 t81 fun t83 =>
 aTest t83
 (aIdxA 1 t80 t82 fun t84 =>
 aLoad false 1 t84 H fun t85 =>
 aLen 1 t85 fun t87 =>
 zq51_l20 t2 t3 t5 t6 t11 .snil t80 t81 t82 t85 t87 (.int .i64 0) H K Kb16)
 (aBuild [(.int .i64 0), (.int .i64 0), .snil] [(0, 1), (1, 1), (2, 1)] [(0, (.int .i64 1))] fun t106 =>
 aBuild [(.int .i64 0), (.int .i64 0), .snil] [(0, 1), (1, 1), (2, 1)] [(0, (.int .i64 2))] fun t107 =>
 aBuild [(.int .i64 0), (.int .i64 0), .snil] [(0, 1), (1, 1), (2, 1)] [(0, (.int .i64 3))] fun t108 =>
 aNew [(.int .i64 0), (.int .i64 0), .snil] H fun t17 H =>
 aNew [(.int .i64 0), (.int .i64 0), .snil] H fun t18 H =>
 aNew [(.int .i64 0), (.int .i64 0), .snil] H fun t19 H =>
 aStore 3 t17 t106 H fun H =>
 aStore 3 t18 t107 H fun H =>
 aStore 3 t19 t108 H fun H =>
 zq51_j3 t2 t3 t5 t6 t11 t17 t18 t19 H K)
noncomputable def zq51_j2_c : Code := codeAt [1, 1, 1, 1, 1] zq51_c
def zq51_j2_Q (K : Kt) : AExit → List AV → Heap → Prop := contAt tP zq51_M [1, 1, 1, 1, 1] zq51_c (retQ tP zq51_r K)
def zq51_j2 (t2 t3 t5 t6 : AV) (H : Heap) (K : Kt) : Prop := AWp tP zq51_j2_c (zq51_j2_Q K) (ux 2 (t2 :: t3 :: ux 1 (t5 :: t6 :: ux 865 []))) H
def zq51_j2b (t2 t3 t5 t6 : AV) (H : Heap) (K : Kt) : Prop :=
 aFld 3 t3 fun t79 =>
 aLoad false 1 t79 H fun t80 =>
 aLen 1 t80 fun t81 =>
 zq51_l16 t2 t3 t5 t6 .snil t80 t81 (.int .i64 0) H K
def zq51_b10 (t2 t3 t5 t6 t63 t64 t65 : AV) (H : Heap) (K : Kt) (Kb10 : Lt) : Prop :=
 aBin .lss false t65 t64 fun t66 =>
 aTest t66
 (aIdxA 1 t63 t65 fun t67 =>
 aLoad false 1 t67 H fun t68 =>
 aFld 3 t2 fun t70 =>
 aLoad false 1 t70 H fun t71 =>
 aIdxA 8 t71 t68 fun t73 =>
 aFld 5 t73 fun t74 =>
 aLoad true 3 t74 H fun t75 =>
 aBuildS 3 [(.int .i64 0), (.int .i64 0), .snil] 1 [(0, t75)] fun t76 =>
 aAppend e_api_Type 3 40 t6 t76 H fun t77 H =>
 aBin .add false t65 (.int .i64 1) fun t78 =>
 Kb10 (zq51_fr10 t2 t3 t5 t77 t63 t64 t78) H)
 (zq51_j2 t2 t3 t5 t6 H K)
def zq51_b5 (t2 t3 t5 t6 t47 t48 t49 : AV) (H : Heap) (K : Kt) (Kb5 : Lt) : Prop :=
 aBin .lss false t49 t48 fun t50 =>
 aTest t50
 (aIdxA 1 t47 t49 fun t51 =>
 aLoad false 1 t51 H fun t52 =>
 aFld 2 t2 fun t54 =>
 aLoad false 1 t54 H fun t55 =>
 aIdxA 3 t55 t52 fun t57 =>
 aLoad true 3 t57 H fun t58 =>
 aBuildS 3 [(.int .i64 0), (.int .i64 0), .snil] 1 [(0, t58)] fun t59 =>
 aAppend e_api_Type 3 40 t5 t59 H fun t60 H =>
 aBin .add false t49 (.int .i64 1) fun t61 =>
 Kb5 (zq51_fr5 t2 t3 t60 t6 t47 t48 t61) H)
 (aFld 4 t3 fun t62 =>
 aLoad false 1 t62 H fun t63 =>
 aLen 1 t63 fun t64 =>
 zq51_l10 t2 t3 t5 t6 t63 t64 (.int .i64 0) H K)
noncomputable def zq51_j1_c : Code := codeAt [1, 1] zq51_c
def zq51_j1_Q (K : Kt) : AExit → List AV → Heap → Prop := contAt tP zq51_M [1, 1] zq51_c (retQ tP zq51_r K)
def zq51_j1 (t2 t3 : AV) (H : Heap) (K : Kt) : Prop := AWp tP zq51_j1_c (zq51_j1_Q K) (ux 2 (t2 :: t3 :: ux 868 [])) H
def zq51_j1b (t2 t3 : AV) (H : Heap) (K : Kt) : Prop :=
 aFld 2 t3 fun t46 =>
 aLoad false 1 t46 H fun t47 =>
 aLen 1 t47 fun t48 =>
 zq51_l5 t2 t3 .snil .snil t47 t48 (.int .i64 0) H K
def zq51 (t0 t1 : AV) (H : Heap) (K : Kt) : Prop :=
 aBox t0 H fun t2 H =>
 aBox t1 H fun t3 H =>
 aFld 0 t2 fun t40 =>
 aLoad false 1 t40 H fun t41 =>
 aFld 5 t3 fun t42 =>
 aLoad true 3 t42 H fun t43 =>
 ACalls tP n_zq47 [t41, t43, (.int .i64 0)] H fun t44 H =>
 aUn .not t44 fun t45 =>
 aTest t45
 (K (.bool false) H)
 (zq51_j1 t2 t3 H K)
theorem zq51_b20_eq (t2 t3 t5 t6 t11 t14 t80 t81 t82 t86 t87 t88 : AV) (H : Heap) (K : Kt) (Kb16 : Lt) (Kb20 : Lt) : awp tP zq51_M zq51_c20 (roundQ zq51_m20 Kb20 (zq51_Q20 K Kb16)) (zq51_fr20 t2 t3 t5 t6 t11 t14 t80 t81 t82 t86 t87 t88) H = zq51_b20 t2 t3 t5 t6 t11 t14 t80 t81 t82 t86 t87 t88 H K Kb16 Kb20 := by kernel_rfl
theorem zq51_loop20 {t2 t3 t5 t6 t11 t14 t80 t81 t82 t86 t87 t88 : AV} {H : Heap} {K : Kt} {Kb16 : Lt} (Inv : Nat → AV → AV → Heap → Prop) (n : Nat) (h0 : HSc H → Inv n t14 t88 H)
   (round : ∀ n t14 t88 H', Inv n t14 t88 H' → HSc H' → H.length ≤ H'.length → (zq51_fr20 t2 t3 t5 t6 t11 t14 t80 t81 t82 t86 t87 t88).all (AV.sc H'.length) = true → ∀ Kb20 : Lt, (∀ F'' H'', (∃ n', n' < n ∧ Back H.length (fun F2 H2 => ∃ t14 t88, F2 = zq51_fr20 t2 t3 t5 t6 t11 t14 t80 t81 t82 t86 t87 t88 ∧ Inv n' t14 t88 H2) F'' H'') → Kb20 F'' H'') → zq51_b20 t2 t3 t5 t6 t11 t14 t80 t81 t82 t86 t87 t88 H' K Kb16 Kb20) : zq51_l20 t2 t3 t5 t6 t11 t14 t80 t81 t82 t86 t87 t88 H K Kb16 :=
 aloop (M := zq51_M) zq51_m20 (fun n F H => ∃ t14 t88, F = zq51_fr20 t2 t3 t5 t6 t11 t14 t80 t81 t82 t86 t87 t88 ∧ Inv n t14 t88 H) n (fun hs _ => ⟨t14, t88, rfl, h0 hs⟩) (fun n F H' ⟨t14, t88, hF, hI⟩ h1 h2 h3 => by subst hF; rw [zq51_b20_eq]; exact round n t14 t88 H' hI h1 h2 h3 _ (fun _ _ h => h))
theorem zq51_b56_eq (t2 t3 t5 t6 t11 t379 t380 : AV) (H : Heap) (K : Kt) (Kb56 : Lt) : awp tP zq51_M zq51_c56 (roundQ zq51_m56 Kb56 (zq51_Q56 K)) (zq51_fr56 t2 t3 t5 t6 t11 t379 t380) H = zq51_b56 t2 t3 t5 t6 t11 t379 t380 H K Kb56 := by kernel_rfl
theorem zq51_loop56 {t2 t3 t5 t6 t11 t379 t380 : AV} {H : Heap} {K : Kt} (Inv : Nat → AV → Heap → Prop) (n : Nat) (h0 : HSc H → Inv n t380 H)
   (round : ∀ n t380 H', Inv n t380 H' → HSc H' → H.length ≤ H'.length → (zq51_fr56 t2 t3 t5 t6 t11 t379 t380).all (AV.sc H'.length) = true → ∀ Kb56 : Lt, (∀ F'' H'', (∃ n', n' < n ∧ Back H.length (fun F2 H2 => ∃ t380, F2 = zq51_fr56 t2 t3 t5 t6 t11 t379 t380 ∧ Inv n' t380 H2) F'' H'') → Kb56 F'' H'') → zq51_b56 t2 t3 t5 t6 t11 t379 t380 H' K Kb56) : zq51_l56 t2 t3 t5 t6 t11 t379 t380 H K :=
 aloop (M := zq51_M) zq51_m56 (fun n F H => ∃ t380, F = zq51_fr56 t2 t3 t5 t6 t11 t379 t380 ∧ Inv n t380 H) n (fun hs _ => ⟨t380, rfl, h0 hs⟩) (fun n F H' ⟨t380, hF, hI⟩ h1 h2 h3 => by subst hF; rw [zq51_b56_eq]; exact round n t380 H' hI h1 h2 h3 _ (fun _ _ h => h))
theorem zq51_b72_eq (t2 t3 t5 t20 t22 t28 t29 t30 t440 t441 t442 : AV) (H : Heap) (K : Kt) (Kb72 : Lt) : awp tP zq51_M zq51_c72 (roundQ zq51_m72 Kb72 (zq51_Q72 K)) (zq51_fr72 t2 t3 t5 t20 t22 t28 t29 t30 t440 t441 t442) H = zq51_b72 t2 t3 t5 t20 t22 t28 t29 t30 t440 t441 t442 H K Kb72 := by kernel_rfl
theorem zq51_loop72 {t2 t3 t5 t20 t22 t28 t29 t30 t440 t441 t442 : AV} {H : Heap} {K : Kt} (Inv : Nat → AV → AV → Heap → Prop) (n : Nat) (h0 : HSc H → Inv n t30 t442 H)
   (round : ∀ n t30 t442 H', Inv n t30 t442 H' → HSc H' → H.length ≤ H'.length → (zq51_fr72 t2 t3 t5 t20 t22 t28 t29 t30 t440 t441 t442).all (AV.sc H'.length) = true → ∀ Kb72 : Lt, (∀ F'' H'', (∃ n', n' < n ∧ Back H.length (fun F2 H2 => ∃ t30 t442, F2 = zq51_fr72 t2 t3 t5 t20 t22 t28 t29 t30 t440 t441 t442 ∧ Inv n' t30 t442 H2) F'' H'') → Kb72 F'' H'') → zq51_b72 t2 t3 t5 t20 t22 t28 t29 t30 t440 t441 t442 H' K Kb72) : zq51_l72 t2 t3 t5 t20 t22 t28 t29 t30 t440 t441 t442 H K :=
 aloop (M := zq51_M) zq51_m72 (fun n F H => ∃ t30 t442, F = zq51_fr72 t2 t3 t5 t20 t22 t28 t29 t30 t440 t441 t442 ∧ Inv n t30 t442 H) n (fun hs _ => ⟨t30, t442, rfl, h0 hs⟩) (fun n F H' ⟨t30, t442, hF, hI⟩ h1 h2 h3 => by subst hF; rw [zq51_b72_eq]; exact round n t30 t442 H' hI h1 h2 h3 _ (fun _ _ h => h))
theorem zq51_b67_eq (t2 t3 t5 t20 t22 t28 t29 t30 t424 t425 t426 : AV) (H : Heap) (K : Kt) (Kb67 : Lt) : awp tP zq51_M zq51_c67 (roundQ zq51_m67 Kb67 (zq51_Q67 K)) (zq51_fr67 t2 t3 t5 t20 t22 t28 t29 t30 t424 t425 t426) H = zq51_b67 t2 t3 t5 t20 t22 t28 t29 t30 t424 t425 t426 H K Kb67 := by kernel_rfl
theorem zq51_loop67 {t2 t3 t5 t20 t22 t28 t29 t30 t424 t425 t426 : AV} {H : Heap} {K : Kt} (Inv : Nat → AV → AV → Heap → Prop) (n : Nat) (h0 : HSc H → Inv n t29 t426 H)
   (round : ∀ n t29 t426 H', Inv n t29 t426 H' → HSc H' → H.length ≤ H'.length → (zq51_fr67 t2 t3 t5 t20 t22 t28 t29 t30 t424 t425 t426).all (AV.sc H'.length) = true → ∀ Kb67 : Lt, (∀ F'' H'', (∃ n', n' < n ∧ Back H.length (fun F2 H2 => ∃ t29 t426, F2 = zq51_fr67 t2 t3 t5 t20 t22 t28 t29 t30 t424 t425 t426 ∧ Inv n' t29 t426 H2) F'' H'') → Kb67 F'' H'') → zq51_b67 t2 t3 t5 t20 t22 t28 t29 t30 t424 t425 t426 H' K Kb67) : zq51_l67 t2 t3 t5 t20 t22 t28 t29 t30 t424 t425 t426 H K :=
 aloop (M := zq51_M) zq51_m67 (fun n F H => ∃ t29 t426, F = zq51_fr67 t2 t3 t5 t20 t22 t28 t29 t30 t424 t425 t426 ∧ Inv n t29 t426 H) n (fun hs _ => ⟨t29, t426, rfl, h0 hs⟩) (fun n F H' ⟨t29, t426, hF, hI⟩ h1 h2 h3 => by subst hF; rw [zq51_b67_eq]; exact round n t29 t426 H' hI h1 h2 h3 _ (fun _ _ h => h))
theorem zq51_b83_eq (t2 t3 t5 t22 t35 t36 t506 t507 t508 : AV) (H : Heap) (K : Kt) (Kb83 : Lt) : awp tP zq51_M zq51_c83 (roundQ zq51_m83 Kb83 (zq51_Q83 K)) (zq51_fr83 t2 t3 t5 t22 t35 t36 t506 t507 t508) H = zq51_b83 t2 t3 t5 t22 t35 t36 t506 t507 t508 H K Kb83 := by kernel_rfl
theorem zq51_loop83 {t2 t3 t5 t22 t35 t36 t506 t507 t508 : AV} {H : Heap} {K : Kt} (Inv : Nat → AV → AV → Heap → Prop) (n : Nat) (h0 : HSc H → Inv n t36 t508 H)
   (round : ∀ n t36 t508 H', Inv n t36 t508 H' → HSc H' → H.length ≤ H'.length → (zq51_fr83 t2 t3 t5 t22 t35 t36 t506 t507 t508).all (AV.sc H'.length) = true → ∀ Kb83 : Lt, (∀ F'' H'', (∃ n', n' < n ∧ Back H.length (fun F2 H2 => ∃ t36 t508, F2 = zq51_fr83 t2 t3 t5 t22 t35 t36 t506 t507 t508 ∧ Inv n' t36 t508 H2) F'' H'') → Kb83 F'' H'') → zq51_b83 t2 t3 t5 t22 t35 t36 t506 t507 t508 H' K Kb83) : zq51_l83 t2 t3 t5 t22 t35 t36 t506 t507 t508 H K :=
 aloop (M := zq51_M) zq51_m83 (fun n F H => ∃ t36 t508, F = zq51_fr83 t2 t3 t5 t22 t35 t36 t506 t507 t508 ∧ Inv n t36 t508 H) n (fun hs _ => ⟨t36, t508, rfl, h0 hs⟩) (fun n F H' ⟨t36, t508, hF, hI⟩ h1 h2 h3 => by subst hF; rw [zq51_b83_eq]; exact round n t36 t508 H' hI h1 h2 h3 _ (fun _ _ h => h))
theorem zq51_j8_eq (t3 t5 t17 t20 t22 t39 : AV) (H : Heap) (K : Kt) : awp tP zq51_M zq51_j8_c (zq51_j8_Q K) (ux 3 (t3 :: ux 1 (t5 :: ux 11 (t17 :: ux 2 (t20 :: ux 1 (t22 :: ux 16 (t39 :: ux 832 []))))))) H = zq51_j8b t3 t5 t17 t20 t22 t39 H K := by kernel_rfl
theorem zq51_j8_ok {t3 t5 t17 t20 t22 t39 : AV} {H : Heap} {K : Kt} (h : HSc H → zq51_j8b t3 t5 t17 t20 t22 t39 H K) : zq51_j8 t3 t5 t17 t20 t22 t39 H K :=
 fun B w G a hH hF hd => awp_sound (M := zq51_M) _ _ _ _ ((zq51_j8_eq t3 t5 t17 t20 t22 t39 H K).mpr (h hH.sc)) B w G a hH hF hd
theorem zq51_j9_eq (t3 t5 t6 t11 t17 t19 t20 t21 t22 t120 t715 : AV) (H : Heap) (K : Kt) : awp tP zq51_M zq51_j9_c (zq51_j9_Q K) (ux 3 (t3 :: ux 1 (t5 :: t6 :: ux 4 (t11 :: ux 5 (t17 :: ux 1 (t19 :: t20 :: t21 :: t22 :: ux 97 (t120 :: ux 594 (t715 :: ux 156 [])))))))) H = zq51_j9b t3 t5 t6 t11 t17 t19 t20 t21 t22 t120 t715 H K := by kernel_rfl
theorem zq51_j9_ok {t3 t5 t6 t11 t17 t19 t20 t21 t22 t120 t715 : AV} {H : Heap} {K : Kt} (h : HSc H → zq51_j9b t3 t5 t6 t11 t17 t19 t20 t21 t22 t120 t715 H K) : zq51_j9 t3 t5 t6 t11 t17 t19 t20 t21 t22 t120 t715 H K :=
 fun B w G a hH hF hd => awp_sound (M := zq51_M) _ _ _ _ ((zq51_j9_eq t3 t5 t6 t11 t17 t19 t20 t21 t22 t120 t715 H K).mpr (h hH.sc)) B w G a hH hF hd
theorem zq51_j7_eq (t3 t5 t6 t11 t17 t19 t20 t21 t22 t120 t566 : AV) (H : Heap) (K : Kt) : awp tP zq51_M zq51_j7_c (zq51_j7_Q K) (ux 3 (t3 :: ux 1 (t5 :: t6 :: ux 4 (t11 :: ux 5 (t17 :: ux 1 (t19 :: t20 :: t21 :: t22 :: ux 97 (t120 :: ux 445 (t566 :: ux 305 [])))))))) H = zq51_j7b t3 t5 t6 t11 t17 t19 t20 t21 t22 t120 t566 H K := by kernel_rfl
theorem zq51_j7_ok {t3 t5 t6 t11 t17 t19 t20 t21 t22 t120 t566 : AV} {H : Heap} {K : Kt} (h : HSc H → zq51_j7b t3 t5 t6 t11 t17 t19 t20 t21 t22 t120 t566 H K) : zq51_j7 t3 t5 t6 t11 t17 t19 t20 t21 t22 t120 t566 H K :=
 fun B w G a hH hF hd => awp_sound (M := zq51_M) _ _ _ _ ((zq51_j7_eq t3 t5 t6 t11 t17 t19 t20 t21 t22 t120 t566 H K).mpr (h hH.sc)) B w G a hH hF hd
theorem zq51_j6_eq (t2 t3 t5 t6 t11 t17 t18 t19 t20 t21 t22 t120 t315 : AV) (H : Heap) (K : Kt) : awp tP zq51_M zq51_j6_c (zq51_j6_Q K) (ux 2 (t2 :: t3 :: ux 1 (t5 :: t6 :: ux 4 (t11 :: ux 5 (t17 :: t18 :: t19 :: t20 :: t21 :: t22 :: ux 97 (t120 :: ux 194 (t315 :: ux 556 []))))))) H = zq51_j6b t2 t3 t5 t6 t11 t17 t18 t19 t20 t21 t22 t120 t315 H K := by kernel_rfl
theorem zq51_j6_ok {t2 t3 t5 t6 t11 t17 t18 t19 t20 t21 t22 t120 t315 : AV} {H : Heap} {K : Kt} (h : HSc H → zq51_j6b t2 t3 t5 t6 t11 t17 t18 t19 t20 t21 t22 t120 t315 H K) : zq51_j6 t2 t3 t5 t6 t11 t17 t18 t19 t20 t21 t22 t120 t315 H K :=
 fun B w G a hH hF hd => awp_sound (M := zq51_M) _ _ _ _ ((zq51_j6_eq t2 t3 t5 t6 t11 t17 t18 t19 t20 t21 t22 t120 t315 H K).mpr (h hH.sc)) B w G a hH hF hd
theorem zq51_j5_eq (t2 t3 t5 t6 t11 t17 t18 t19 t20 t21 t22 t120 t180 : AV) (H : Heap) (K : Kt) : awp tP zq51_M zq51_j5_c (zq51_j5_Q K) (ux 2 (t2 :: t3 :: ux 1 (t5 :: t6 :: ux 4 (t11 :: ux 5 (t17 :: t18 :: t19 :: t20 :: t21 :: t22 :: ux 97 (t120 :: ux 59 (t180 :: ux 691 []))))))) H = zq51_j5b t2 t3 t5 t6 t11 t17 t18 t19 t20 t21 t22 t120 t180 H K := by kernel_rfl
theorem zq51_j5_ok {t2 t3 t5 t6 t11 t17 t18 t19 t20 t21 t22 t120 t180 : AV} {H : Heap} {K : Kt} (h : HSc H → zq51_j5b t2 t3 t5 t6 t11 t17 t18 t19 t20 t21 t22 t120 t180 H K) : zq51_j5 t2 t3 t5 t6 t11 t17 t18 t19 t20 t21 t22 t120 t180 H K :=
 fun B w G a hH hF hd => awp_sound (M := zq51_M) _ _ _ _ ((zq51_j5_eq t2 t3 t5 t6 t11 t17 t18 t19 t20 t21 t22 t120 t180 H K).mpr (h hH.sc)) B w G a hH hF hd
theorem zq51_j4_eq (t2 t3 t5 t6 t11 t17 t18 t19 t20 t21 t22 : AV) (H : Heap) (K : Kt) : awp tP zq51_M zq51_j4_c (zq51_j4_Q K) (ux 2 (t2 :: t3 :: ux 1 (t5 :: t6 :: ux 4 (t11 :: ux 5 (t17 :: t18 :: t19 :: t20 :: t21 :: t22 :: ux 849 []))))) H = zq51_j4b t2 t3 t5 t6 t11 t17 t18 t19 t20 t21 t22 H K := by kernel_rfl
theorem zq51_j4_ok {t2 t3 t5 t6 t11 t17 t18 t19 t20 t21 t22 : AV} {H : Heap} {K : Kt} (h : HSc H → zq51_j4b t2 t3 t5 t6 t11 t17 t18 t19 t20 t21 t22 H K) : zq51_j4 t2 t3 t5 t6 t11 t17 t18 t19 t20 t21 t22 H K :=
 fun B w G a hH hF hd => awp_sound (M := zq51_M) _ _ _ _ ((zq51_j4_eq t2 t3 t5 t6 t11 t17 t18 t19 t20 t21 t22 H K).mpr (h hH.sc)) B w G a hH hF hd
theorem zq51_j3_eq (t2 t3 t5 t6 t11 t17 t18 t19 : AV) (H : Heap) (K : Kt) : awp tP zq51_M zq51_j3_c (zq51_j3_Q K) (ux 2 (t2 :: t3 :: ux 1 (t5 :: t6 :: ux 4 (t11 :: ux 5 (t17 :: t18 :: t19 :: ux 852 []))))) H = zq51_j3b t2 t3 t5 t6 t11 t17 t18 t19 H K := by kernel_rfl
theorem zq51_j3_ok {t2 t3 t5 t6 t11 t17 t18 t19 : AV} {H : Heap} {K : Kt} (h : HSc H → zq51_j3b t2 t3 t5 t6 t11 t17 t18 t19 H K) : zq51_j3 t2 t3 t5 t6 t11 t17 t18 t19 H K :=
 fun B w G a hH hF hd => awp_sound (M := zq51_M) _ _ _ _ ((zq51_j3_eq t2 t3 t5 t6 t11 t17 t18 t19 H K).mpr (h hH.sc)) B w G a hH hF hd
theorem zq51_b16_eq (t2 t3 t5 t6 t11 t80 t81 t82 : AV) (H : Heap) (K : Kt) (Kb16 : Lt) : awp tP zq51_M zq51_c16 (roundQ zq51_m16 Kb16 (zq51_Q16 K)) (zq51_fr16 t2 t3 t5 t6 t11 t80 t81 t82) H = zq51_b16 t2 t3 t5 t6 t11 t80 t81 t82 H K Kb16 := by kernel_rfl
theorem zq51_loop16 {t2 t3 t5 t6 t11 t80 t81 t82 : AV} {H : Heap} {K : Kt} (Inv : Nat → AV → AV → Heap → Prop) (n : Nat) (h0 : HSc H → Inv n t11 t82 H)
   (round : ∀ n t11 t82 H', Inv n t11 t82 H' → HSc H' → H.length ≤ H'.length → (zq51_fr16 t2 t3 t5 t6 t11 t80 t81 t82).all (AV.sc H'.length) = true → ∀ Kb16 : Lt, (∀ F'' H'', (∃ n', n' < n ∧ Back H.length (fun F2 H2 => ∃ t11 t82, F2 = zq51_fr16 t2 t3 t5 t6 t11 t80 t81 t82 ∧ Inv n' t11 t82 H2) F'' H'') → Kb16 F'' H'') → zq51_b16 t2 t3 t5 t6 t11 t80 t81 t82 H' K Kb16) : zq51_l16 t2 t3 t5 t6 t11 t80 t81 t82 H K :=
 aloop (M := zq51_M) zq51_m16 (fun n F H => ∃ t11 t82, F = zq51_fr16 t2 t3 t5 t6 t11 t80 t81 t82 ∧ Inv n t11 t82 H) n (fun hs _ => ⟨t11, t82, rfl, h0 hs⟩) (fun n F H' ⟨t11, t82, hF, hI⟩ h1 h2 h3 => by subst hF; rw [zq51_b16_eq]; exact round n t11 t82 H' hI h1 h2 h3 _ (fun _ _ h => h))
theorem zq51_j2_eq (t2 t3 t5 t6 : AV) (H : Heap) (K : Kt) : awp tP zq51_M zq51_j2_c (zq51_j2_Q K) (ux 2 (t2 :: t3 :: ux 1 (t5 :: t6 :: ux 865 []))) H = zq51_j2b t2 t3 t5 t6 H K := by kernel_rfl
theorem zq51_j2_ok {t2 t3 t5 t6 : AV} {H : Heap} {K : Kt} (h : HSc H → zq51_j2b t2 t3 t5 t6 H K) : zq51_j2 t2 t3 t5 t6 H K :=
 fun B w G a hH hF hd => awp_sound (M := zq51_M) _ _ _ _ ((zq51_j2_eq t2 t3 t5 t6 H K).mpr (h hH.sc)) B w G a hH hF hd
theorem zq51_b10_eq (t2 t3 t5 t6 t63 t64 t65 : AV) (H : Heap) (K : Kt) (Kb10 : Lt) : awp tP zq51_M zq51_c10 (roundQ zq51_m10 Kb10 (zq51_Q10 K)) (zq51_fr10 t2 t3 t5 t6 t63 t64 t65) H = zq51_b10 t2 t3 t5 t6 t63 t64 t65 H K Kb10 := by kernel_rfl
theorem zq51_loop10 {t2 t3 t5 t6 t63 t64 t65 : AV} {H : Heap} {K : Kt} (Inv : Nat → AV → AV → Heap → Prop) (n : Nat) (h0 : HSc H → Inv n t6 t65 H)
   (round : ∀ n t6 t65 H', Inv n t6 t65 H' → HSc H' → H.length ≤ H'.length → (zq51_fr10 t2 t3 t5 t6 t63 t64 t65).all (AV.sc H'.length) = true → ∀ Kb10 : Lt, (∀ F'' H'', (∃ n', n' < n ∧ Back H.length (fun F2 H2 => ∃ t6 t65, F2 = zq51_fr10 t2 t3 t5 t6 t63 t64 t65 ∧ Inv n' t6 t65 H2) F'' H'') → Kb10 F'' H'') → zq51_b10 t2 t3 t5 t6 t63 t64 t65 H' K Kb10) : zq51_l10 t2 t3 t5 t6 t63 t64 t65 H K :=
 aloop (M := zq51_M) zq51_m10 (fun n F H => ∃ t6 t65, F = zq51_fr10 t2 t3 t5 t6 t63 t64 t65 ∧ Inv n t6 t65 H) n (fun hs _ => ⟨t6, t65, rfl, h0 hs⟩) (fun n F H' ⟨t6, t65, hF, hI⟩ h1 h2 h3 => by subst hF; rw [zq51_b10_eq]; exact round n t6 t65 H' hI h1 h2 h3 _ (fun _ _ h => h))
theorem zq51_b5_eq (t2 t3 t5 t6 t47 t48 t49 : AV) (H : Heap) (K : Kt) (Kb5 : Lt) : awp tP zq51_M zq51_c5 (roundQ zq51_m5 Kb5 (zq51_Q5 K)) (zq51_fr5 t2 t3 t5 t6 t47 t48 t49) H = zq51_b5 t2 t3 t5 t6 t47 t48 t49 H K Kb5 := by kernel_rfl
theorem zq51_loop5 {t2 t3 t5 t6 t47 t48 t49 : AV} {H : Heap} {K : Kt} (Inv : Nat → AV → AV → Heap → Prop) (n : Nat) (h0 : HSc H → Inv n t5 t49 H)
   (round : ∀ n t5 t49 H', Inv n t5 t49 H' → HSc H' → H.length ≤ H'.length → (zq51_fr5 t2 t3 t5 t6 t47 t48 t49).all (AV.sc H'.length) = true → ∀ Kb5 : Lt, (∀ F'' H'', (∃ n', n' < n ∧ Back H.length (fun F2 H2 => ∃ t5 t49, F2 = zq51_fr5 t2 t3 t5 t6 t47 t48 t49 ∧ Inv n' t5 t49 H2) F'' H'') → Kb5 F'' H'') → zq51_b5 t2 t3 t5 t6 t47 t48 t49 H' K Kb5) : zq51_l5 t2 t3 t5 t6 t47 t48 t49 H K :=
 aloop (M := zq51_M) zq51_m5 (fun n F H => ∃ t5 t49, F = zq51_fr5 t2 t3 t5 t6 t47 t48 t49 ∧ Inv n t5 t49 H) n (fun hs _ => ⟨t5, t49, rfl, h0 hs⟩) (fun n F H' ⟨t5, t49, hF, hI⟩ h1 h2 h3 => by subst hF; rw [zq51_b5_eq]; exact round n t5 t49 H' hI h1 h2 h3 _ (fun _ _ h => h))
theorem zq51_j1_eq (t2 t3 : AV) (H : Heap) (K : Kt) : awp tP zq51_M zq51_j1_c (zq51_j1_Q K) (ux 2 (t2 :: t3 :: ux 868 [])) H = zq51_j1b t2 t3 H K := by kernel_rfl
theorem zq51_j1_ok {t2 t3 : AV} {H : Heap} {K : Kt} (h : HSc H → zq51_j1b t2 t3 H K) : zq51_j1 t2 t3 H K :=
 fun B w G a hH hF hd => awp_sound (M := zq51_M) _ _ _ _ ((zq51_j1_eq t2 t3 H K).mpr (h hH.sc)) B w G a hH hF hd
theorem zq51_eq (t0 t1 : AV) (H : Heap) (K : Kt) : awp tP zq51_M zq51_c (retQ tP zq51_r K) (t0 :: t1 :: List.replicate 870 .unk) H = zq51 t0 t1 H K := by kernel_rfl
theorem zq51_ok {t0 t1 : AV} {H : Heap} {K : Kt} (h : HSc H → zq51 t0 t1 H K) : ACalls tP n_zq51 [t0, t1] H K :=
 acalls_body (M := zq51_M) Try.func53 (c := zq51_c) (by kernel_rfl) (fun hs => (zq51_eq t0 t1 H K).mpr (h hs))
end Go.Proofs.Ytkdmpbhbmmhijaa
