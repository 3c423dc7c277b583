import Derived.Test.YtkdmpbhbmmhijaaKNum
import Derived.Test.YtkdmpbhbmmhijaaProg
import Derived.KernelRfl
import Derived.Test.YtkdmpbhbmmhijaaKC3
set_option linter.unusedSimpArgs false
set_option linter.unusedVariables false
namespace Go.Proofs.Ytkdmpbhbmmhijaa
open Go Go.Abs
set_option maxRecDepth 100000
def zaY : Nat → List Bool
 | 5=>rl false [2,2,1,2,40,3,822]
 | 10=>rl false [2,2,1,2,56,3,806]
 | 16=>rl false [2,2,1,2,4,1,68,3,789]
 | 20=>rl false [2,2,1,2,4,1,2,1,65,3,3,3,783]
 | 56=>rl false [2,2,1,2,4,1,367,2,491]
 | 67=>rl false [2,2,1,1,14,1,1,1,5,3,393,3,445]
 | 72=>rl false [2,2,1,1,14,1,1,1,5,3,409,3,429]
 | 83=>rl false [2,2,1,1,16,1,12,2,469,3,363]
 | 100094=>rl false [3,1,1,1,11,1,2,1,1,1,16,1,832]
 | 254105=>rl false [3,1,1,2,4,1,5,1,1,4,97,1,594,1,156]
 | 241095=>rl false [3,1,1,2,4,1,5,1,1,4,97,1,445,1,305]
 | 201052=>rl false [2,2,1,2,4,1,5,6,97,1,194,1,556]
 | 188039=>rl false [2,2,1,2,4,1,5,6,97,1,59,1,691]
 | 100030=>rl false [2,2,1,2,4,1,5,6,849]
 | 100027=>rl false [2,2,1,2,4,1,5,3,852]
 | 100014=>rl false [2,2,1,2,865]
 | 100003=>rl false [2,2,868]
 | _=>[]
noncomputable def zbk : Code:=Try.f53.body.getD .skip
noncomputable def zcL : List ResultVar:=Try.f53.results.toList
def zkZ (t2 t3 t5 t6 t47 t48 t49 : AV) : List AV:=ux 2 (t2 :: t3 :: ux 1 (t5 :: t6 :: ux 40 (t47 :: t48 :: t49 :: ux 822 [])))
def zKE : List Bool:=zaY 5
noncomputable def zJY : Code:=zan [1,1,1,0,1,0,0] zbk
def zJR (K : Kt) : AExit → List AV → zaa → Prop:=zao tP zaY [1,1,1,0,1,0] zbk (zau tP zcL K)
def zhJ (t2 t3 t5 t6 t47 t48 t49 : AV) (H : zaa) (K : Kt) : Prop:=ALoop tP zJY (zJR K) (zkZ t2 t3 t5 t6 t47 t48 t49) H
def zkW (t2 t3 t5 t6 t63 t64 t65 : AV) : List AV:=ux 2 (t2 :: t3 :: ux 1 (t5 :: t6 :: ux 56 (t63 :: t64 :: t65 :: ux 806 [])))
def zKC : List Bool:=zaY 10
noncomputable def zJW : Code:=zan [1,1,1,1,0,1,0,0] zbk
def zJP (K : Kt) : AExit → List AV → zaa → Prop:=zao tP zaY [1,1,1,1,0,1,0] zbk (zau tP zcL K)
def zk6 (t2 t3 t5 t6 t63 t64 t65 : AV) (H : zaa) (K : Kt) : Prop:=ALoop tP zJW (zJP K) (zkW t2 t3 t5 t6 t63 t64 t65) H
def zkX (t2 t3 t5 t6 t11 t80 t81 t82 : AV) : List AV:=ux 2 (t2 :: t3 :: ux 1 (t5 :: t6 :: ux 4 (t11 :: ux 68 (t80 :: t81 :: t82 :: ux 789 []))))
def zxp : List Bool:=zaY 16
noncomputable def zqq : Code:=zan [1,1,1,1,1,1,0,1,0,0] zbk
def zxc (K : Kt) : AExit → List AV → zaa → Prop:=zao tP zaY [1,1,1,1,1,1,0,1,0] zbk (zau tP zcL K)
def zk7 (t2 t3 t5 t6 t11 t80 t81 t82 : AV) (H : zaa) (K : Kt) : Prop:=ALoop tP zqq (zxc K) (zkX t2 t3 t5 t6 t11 t80 t81 t82) H
def zkY (t2 t3 t5 t6 t11 t14 t80 t81 t82 t86 t87 t88 : AV) : List AV:=ux 2 (t2 :: t3 :: ux 1 (t5 :: t6 :: ux 4 (t11 :: ux 2 (t14 :: ux 65 (t80 :: t81 :: t82 :: ux 3 (t86 :: t87 :: t88 :: ux 783 []))))))
def zKD : List Bool:=zaY 20
noncomputable def zJX : Code:=zan [1,1,0,0,1,1,0,1,0,0] zqq
def zJQ (K : Kt) (Kb16 : Lt) : AExit → List AV → zaa → Prop:=zao tP zaY [1,1,0,0,1,1,0,1,0] zqq (zbj zxp Kb16 (zxc K))
def zk8 (t2 t3 t5 t6 t11 t14 t80 t81 t82 t86 t87 t88 : AV) (H : zaa) (K : Kt) (Kb16 : Lt) : Prop:=ALoop tP zJX (zJQ K Kb16) (zkY t2 t3 t5 t6 t11 t14 t80 t81 t82 t86 t87 t88) H
def zqm (t2 t3 t5 t6 t11 t14 t80 t81 t82 t86 t87 t88 : AV) (H : zaa) (K : Kt) (Kb16 : Lt) (Kb20 : Lt) : Prop:=
 zad .lss false t88 t87 fun t89=>
 zag t89
 (zai 1 t86 t88 fun t90=>
 zae false 1 t90 H fun t91=>
 zaf 2 t2 fun t93=>
 zae false 1 t93 H fun t94=>
 zai 3 t94 t91 fun t96=>
 zae true 3 t96 H fun t97=>
 zav 3 [(.int .i64 0),(.int .i64 0),.snil] 1 [(0,t97)] fun t98=>
 zaC zaB 3 40 t14 t98 H fun t99 H=>
 zad .add false t88 (.int .i64 1) fun t100=>
 Kb20 (zkY t2 t3 t5 t6 t11 t99 t80 t81 t82 t86 t87 t100) H)
 (zav 1 [.snil] 1 [(0,t14)] fun t103=>
 zaC zdL 1 24 t11 t103 H fun t104 H=>
 zad .add false t82 (.int .i64 1) fun t105=>
 Kb16 (zkX t2 t3 t5 t6 t104 t80 t81 t105) H)
def zk0 (t2 t3 t5 t6 t11 t379 t380 : AV) : List AV:=ux 2 (t2 :: t3 :: ux 1 (t5 :: t6 :: ux 4 (t11 :: ux 367 (t379 :: t380 :: ux 491 []))))
def zKF : List Bool:=zaY 56
noncomputable def zJZ : Code:=zan [1,1,1,1,1,1,1,1,1,1,1,0,1,0,1,1,1,1,1,1,1,1,1,1,1,1,1,1,1,1,1,1,1,0,1,0,1,0,0] zbk
def zJS (K : Kt) : AExit → List AV → zaa → Prop:=zao tP zaY [1,1,1,1,1,1,1,1,1,1,1,0,1,0,1,1,1,1,1,1,1,1,1,1,1,1,1,1,1,1,1,1,1,0,1,0,1,0] zbk (zau tP zcL K)
def zxo (t2 t3 t5 t6 t11 t379 t380 : AV) (H : zaa) (K : Kt) : Prop:=ALoop tP zJZ (zJS K) (zk0 t2 t3 t5 t6 t11 t379 t380) H
def zqo (t2 t3 t5 t6 t11 t379 t380 : AV) (H : zaa) (K : Kt) (Kb56 : Lt) : Prop:=
 zad .lss false t380 t379 fun t381=>
 zag t381
 (zac H (fun K'=>zaf 0 t2 (K' · H)) fun t384=>
 zac H (fun K'=>zak false 1 t384 H (K' · H)) fun t385=>
 zac H (fun K'=>K' t5 H) fun t386=>
 zac H (fun K'=>zai 3 t386 (.int .i64 0) (K' · H)) fun t387=>
 zac H (fun K'=>zak true 3 t387 H (K' · H)) fun t388=>
 zac H (fun K'=>K' t380 H) fun t389=>
 zaw H (fun H K'=>ACalls tP zg8 [t385,t388,t389] H K') fun t390=>
 zac H (fun K'=>K' t390 H) fun t383=>
 zac H (fun K'=>zbb t383 0 (K' · H)) fun t391=>
 zac H (fun K'=>zbb t383 1 (K' · H)) fun t392=>
 zac H (fun K'=>K' t391 H) fun t26=>
 zac H (fun K'=>K' t392 H) fun t27=>
 zac H (fun K'=>K' t27 H) fun t393=>
 zac H (fun K'=>aUn .not t393 (K' · H)) fun t394=>
 zac H (fun K'=>K' t394 H) fun t395=>
 zab t395 false H (fun K'=>zac H (fun K''=>K'' t11 H) (K' · H)) fun t396 H=>
 zab t395 false H (fun K'=>zac H (fun K''=>K'' t380 H) (K' · H)) fun t397 H=>
 zab t395 false H (fun K'=>zac H (fun K''=>zai 1 t396 t397 (K'' · H)) (K' · H)) fun t398 H=>
 zab t395 false H (fun K'=>zac H (fun K''=>zak false 1 t398 H (K'' · H)) (K' · H)) fun t399 H=>
 zab t395 false H (fun K'=>zac H (fun K''=>K'' t26 H) (K' · H)) fun t400 H=>
 zab t395 false H (fun K'=>zaw H (fun H K''=>ACalls tP zdl [t399,t400] H K'') (K' · H)) fun t401 H=>
 zab t395 false H (fun K'=>zac H (fun K''=>aUn .not t401 (K'' · H)) (K' · H)) fun t402 H=>
 zac H (fun K'=>zah t395 (.bool true) t402 (K' · H)) fun t403=>
 zac H (fun K'=>K' t403 H) fun t404=>
 zab t404 false H (fun K'=>zac H (fun K''=>K'' t6 H) (K' · H)) fun t405 H=>
 zab t404 false H (fun K'=>zac H (fun K''=>K'' t380 H) (K' · H)) fun t406 H=>
 zab t404 false H (fun K'=>zac H (fun K''=>zai 3 t405 t406 (K'' · H)) (K' · H)) fun t407 H=>
 zab t404 false H (fun K'=>zac H (fun K''=>zak true 3 t407 H (K'' · H)) (K' · H)) fun t408 H=>
 zab t404 false H (fun K'=>zac H (fun K''=>zaf 5 t3 (K'' · H)) (K' · H)) fun t409 H=>
 zab t404 false H (fun K'=>zac H (fun K''=>zak true 3 t409 H (K'' · H)) (K' · H)) fun t410 H=>
 zab t404 false H (fun K'=>zaw H (fun H K''=>ACalls tP zcE [t408,t410] H K'') (K' · H)) fun t411 H=>
 zab t404 false H (fun K'=>zac H (fun K''=>aUn .not t411 (K'' · H)) (K' · H)) fun t412 H=>
 zac H (fun K'=>zah t404 (.bool true) t412 (K' · H)) fun t413=>
 zag t413
 (K (.bool false) H)
 (zad .add false t380 (.int .i64 1) fun t414=>
 Kb56 (zk0 t2 t3 t5 t6 t11 t379 t414) H))
 (K (.bool true) H)
def zk1 (t2 t3 t5 t20 t22 t28 t29 t30 t424 t425 t426 : AV) : List AV:=ux 2 (t2 :: t3 :: ux 1 (t5 :: ux 14 (t20 :: ux 1 (t22 :: ux 5 (t28 :: t29 :: t30 :: ux 393 (t424 :: t425 :: t426 :: ux 445 []))))))
def zKG : List Bool:=zaY 67
noncomputable def zJ0 : Code:=zan [1,1,1,1,1,1,1,1,1,1,1,0,1,0,1,1,1,1,1,1,1,1,1,1,1,1,1,1,1,1,1,1,1,1,1,0,1,1,0,1,0,0] zbk
def zJT (K : Kt) : AExit → List AV → zaa → Prop:=zao tP zaY [1,1,1,1,1,1,1,1,1,1,1,0,1,0,1,1,1,1,1,1,1,1,1,1,1,1,1,1,1,1,1,1,1,1,1,0,1,1,0,1,0] zbk (zau tP zcL K)
def zhK (t2 t3 t5 t20 t22 t28 t29 t30 t424 t425 t426 : AV) (H : zaa) (K : Kt) : Prop:=ALoop tP zJ0 (zJT K) (zk1 t2 t3 t5 t20 t22 t28 t29 t30 t424 t425 t426) H
def zk2 (t2 t3 t5 t20 t22 t28 t29 t30 t440 t441 t442 : AV) : List AV:=ux 2 (t2 :: t3 :: ux 1 (t5 :: ux 14 (t20 :: ux 1 (t22 :: ux 5 (t28 :: t29 :: t30 :: ux 409 (t440 :: t441 :: t442 :: ux 429 []))))))
def zKH : List Bool:=zaY 72
noncomputable def zJ1 : Code:=zan [1,1,1,1,1,1,1,1,1,1,1,0,1,0,1,1,1,1,1,1,1,1,1,1,1,1,1,1,1,1,1,1,1,1,1,0,1,1,1,0,1,0,0] zbk
def zJU (K : Kt) : AExit → List AV → zaa → Prop:=zao tP zaY [1,1,1,1,1,1,1,1,1,1,1,0,1,0,1,1,1,1,1,1,1,1,1,1,1,1,1,1,1,1,1,1,1,1,1,0,1,1,1,0,1,0] zbk (zau tP zcL K)
def zk9 (t2 t3 t5 t20 t22 t28 t29 t30 t440 t441 t442 : AV) (H : zaa) (K : Kt) : Prop:=ALoop tP zJ1 (zJU K) (zk2 t2 t3 t5 t20 t22 t28 t29 t30 t440 t441 t442) H
def zhI (t2 t3 t5 t20 t22 t28 t29 t30 t440 t441 t442 : AV) (H : zaa) (K : Kt) (Kb72 : Lt) : Prop:=
 zad .lss false t442 t441 fun t443=>
 zag t443
 (zai 1 t440 t442 fun t444=>
 zae false 1 t444 H fun t445=>
 zaf 2 t2 fun t447=>
 zae false 1 t447 H fun t448=>
 zai 3 t448 t445 fun t450=>
 zae true 3 t450 H fun t451=>
 zav 3 [(.int .i64 0),(.int .i64 0),.snil] 1 [(0,t451)] fun t452=>
 zaC zaB 3 40 t30 t452 H fun t453 H=>
 zad .add false t442 (.int .i64 1) fun t454=>
 Kb72 (zk2 t2 t3 t5 t20 t22 t28 t29 t453 t440 t441 t454) H)
 (zac H (fun K'=>K' t22 H) fun t455=>
 zac H (fun K'=>K' t455 H) fun t456=>
 zab t456 true H (fun K'=>zac H (fun K''=>K'' t20 H) (K' · H)) fun t457 H=>
 zab t456 true H (fun K'=>zac H (fun K''=>zad .eql false t457 (.int .i64 9) (K'' · H)) (K' · H)) fun t458 H=>
 zac H (fun K'=>zah t456 t458 (.bool false) (K' · H)) fun t459=>
 zac H (fun K'=>K' t459 H) fun t460=>
 zab t460 true H (fun K'=>zac H (fun K''=>K'' t5 H) (K' · H)) fun t461 H=>
 zab t460 true H (fun K'=>zac H (fun K''=>K'' t30 H) (K' · H)) fun t462 H=>
 zab t460 true H (fun K'=>zaw H (fun H K''=>ACalls tP zdl [t461,t462] H K'') (K' · H)) fun t463 H=>
 zac H (fun K'=>zah t460 t463 (.bool false) (K' · H)) fun t464=>
 zac H (fun K'=>K' t464 H) fun t465=>
 zab t465 true H (fun K'=>zac H (fun K''=>zaf 5 t3 (K'' · H)) (K' · H)) fun t466 H=>
 zab t465 true H (fun K'=>zac H (fun K''=>zaf 2 t466 (K'' · H)) (K' · H)) fun t467 H=>
 zab t465 true H (fun K'=>zac H (fun K''=>zak false 1 t467 H (K'' · H)) (K' · H)) fun t468 H=>
 zab t465 true H (fun K'=>zac H (fun K''=>K'' t29 H) (K' · H)) fun t469 H=>
 zab t465 true H (fun K'=>zac H (fun K''=>zaf 3 t28 (K'' · H)) (K' · H)) fun t470 H=>
 zab t465 true H (fun K'=>zac H (fun K''=>zak true 3 t470 H (K'' · H)) (K' · H)) fun t471 H=>
 zab t465 true H (fun K'=>zac H (fun K''=>zav 3 [(.int .i64 0),(.int .i64 0),.snil] 1 [(0,t471)] (K'' · H)) (K' · H)) fun t472 H=>
 zab t465 true H (fun K'=>zaC zaB 3 40 t469 t472 H K') fun t473 H=>
 zab t465 true H (fun K'=>zaw H (fun H K''=>ACalls tP zdl [t468,t473] H K'') (K' · H)) fun t474 H=>
 zac H (fun K'=>zah t465 t474 (.bool false) (K' · H)) fun t475=>
 zac H (fun K'=>K' t475 H) fun t4=>
 K t4 H)
def zqp (t2 t3 t5 t20 t22 t28 t29 t30 t424 t425 t426 : AV) (H : zaa) (K : Kt) (Kb67 : Lt) : Prop:=
 zad .lss false t426 t425 fun t427=>
 zag t427
 (zai 1 t424 t426 fun t428=>
 zae false 1 t428 H fun t429=>
 zaf 2 t2 fun t431=>
 zae false 1 t431 H fun t432=>
 zai 3 t432 t429 fun t434=>
 zae true 3 t434 H fun t435=>
 zav 3 [(.int .i64 0),(.int .i64 0),.snil] 1 [(0,t435)] fun t436=>
 zaC zaB 3 40 t29 t436 H fun t437 H=>
 zad .add false t426 (.int .i64 1) fun t438=>
 Kb67 (zk1 t2 t3 t5 t20 t22 t28 t437 t30 t424 t425 t438) H)
 (zaf 2 t28 fun t439=>
 zae false 1 t439 H fun t440=>
 zaj 1 t440 fun t441=>
 zk9 t2 t3 t5 t20 t22 t28 t29 t30 t440 t441 (.int .i64 0) H K)
def zk3 (t2 t3 t5 t22 t35 t36 t506 t507 t508 : AV) : List AV:=ux 2 (t2 :: t3 :: ux 1 (t5 :: ux 16 (t22 :: ux 12 (t35 :: t36 :: ux 469 (t506 :: t507 :: t508 :: ux 363 [])))))
def zKI : List Bool:=zaY 83
noncomputable def zJ2 : Code:=zan [1,1,1,1,1,1,1,1,1,1,1,0,1,0,1,1,1,1,1,1,1,1,1,1,1,1,1,1,1,1,1,1,1,1,1,1,1,0,1,1,1,0,1,0,0] zbk
def zJV (K : Kt) : AExit → List AV → zaa → Prop:=zao tP zaY [1,1,1,1,1,1,1,1,1,1,1,0,1,0,1,1,1,1,1,1,1,1,1,1,1,1,1,1,1,1,1,1,1,1,1,1,1,0,1,1,1,0,1,0] zbk (zau tP zcL K)
def zhL (t2 t3 t5 t22 t35 t36 t506 t507 t508 : AV) (H : zaa) (K : Kt) : Prop:=ALoop tP zJ2 (zJV K) (zk3 t2 t3 t5 t22 t35 t36 t506 t507 t508) H
def zkV (t2 t3 t5 t22 t35 t36 t506 t507 t508 : AV) (H : zaa) (K : Kt) (Kb83 : Lt) : Prop:=
 zad .lss false t508 t507 fun t509=>
 zag t509
 (zai 1 t506 t508 fun t510=>
 zae false 1 t510 H fun t511=>
 zaf 2 t2 fun t513=>
 zae false 1 t513 H fun t514=>
 zai 3 t514 t511 fun t516=>
 zae true 3 t516 H fun t517=>
 zav 3 [(.int .i64 0),(.int .i64 0),.snil] 1 [(0,t517)] fun t518=>
 zaC zaB 3 40 t36 t518 H fun t519 H=>
 zad .add false t508 (.int .i64 1) fun t520=>
 Kb83 (zk3 t2 t3 t5 t22 t35 t519 t506 t507 t520) H)
 (zab t22 true H (fun K'=>K' t5 H) fun t523 H=>
 zab t22 true H (fun K'=>K' t36 H) fun t524 H=>
 zab t22 true H (fun K'=>ACalls tP zdl [t523,t524] H K') fun t525 H=>
 zah t22 t525 (.bool false) fun t526=>
 zab t526 true H (fun K'=>zaf 5 t3 (K' · H)) fun t528 H=>
 zab t526 true H (fun K'=>zae true 3 t528 H (K' · H)) fun t529 H=>
 zab t526 true H (fun K'=>zaf 3 t35 (K' · H)) fun t530 H=>
 zab t526 true H (fun K'=>zae true 3 t530 H (K' · H)) fun t531 H=>
 zab t526 true H (fun K'=>ACalls tP zcE [t529,t531] H K') fun t532 H=>
 zah t526 t532 (.bool false) fun t533=>
 K t533 H)
noncomputable def zKp : Code:=zan [1,1,1,1,1,1,1,1,1,1,1,0,1,0,1,1,1,1,1,1,1,1,1,1,1,1,1,1,1,1,1,1,1,1,1,1,1,1,1,1,1,0,1,1] zbk
def zKo (K : Kt) : AExit → List AV → zaa → Prop:=zao tP zaY [1,1,1,1,1,1,1,1,1,1,1,0,1,0,1,1,1,1,1,1,1,1,1,1,1,1,1,1,1,1,1,1,1,1,1,1,1,1,1,1,1,0,1,1] zbk (zau tP zcL K)
def zk5 (t3 t5 t17 t20 t22 t39 : AV) (H : zaa) (K : Kt) : Prop:=AWp tP zKp (zKo K) (ux 3 (t3 :: ux 1 (t5 :: ux 11 (t17 :: ux 2 (t20 :: ux 1 (t22 :: ux 16 (t39 :: ux 832 []))))))) H
def zxm (t3 t5 t17 t20 t22 t39 : AV) (H : zaa) (K : Kt) : Prop:=
 zaf 1 t3 fun t571=>
 zae false 1 t571 H fun t572=>
 zad .geq false t572 (.int .i64 1) fun t573=>
 zab t573 true H (fun K'=>zaf 1 t3 (K' · H)) fun t575 H=>
 zab t573 true H (fun K'=>zae false 1 t575 H (K' · H)) fun t576 H=>
 zab t573 true H (fun K'=>zad .leq false t576 (.int .i64 8) (K' · H)) fun t577 H=>
 zah t573 t577 (.bool false) fun t578=>
 zab t578 true H (fun K'=>K' t22 H) fun t580 H=>
 zah t578 t580 (.bool false) fun t581=>
 zab t581 true H (fun K'=>K' t5 H) fun t583 H=>
 zab t581 true H (fun K'=>zae true 3 t17 H (K' · H)) fun t584 H=>
 zab t581 true H (fun K'=>zae true 3 t17 H (K' · H)) fun t585 H=>
 zab t581 true H (fun K'=>zav 3 [(.int .i64 0),(.int .i64 0),.snil] 2 [(0,t584),(1,t585)] (K' · H)) fun t586 H=>
 zab t581 true H (fun K'=>ACalls tP zc4 [t583,t586] H K') fun t587 H=>
 zah t581 t587 (.bool false) fun t588=>
 zab t588 true H (fun K'=>K' t20 H) fun t590 H=>
 zab t588 true H (fun K'=>K' t39 H) fun t591 H=>
 zab t588 true H (fun K'=>zad .eql false t590 t591 (K' · H)) fun t592 H=>
 zah t588 t592 (.bool false) fun t593=>
 K t593 H
noncomputable def zKs : Code:=zan [1,1,1,1,1,1,1,1,1,1,1,0,1,0,1,1,1,1,1,1,1,1,1,1,1,1,1,1,1,1,1,1,1,1,1,1,1,1,1,1,1,1,1,1,1,1,1,1,1,1,1] zbk
def zKr (K : Kt) : AExit → List AV → zaa → Prop:=zao tP zaY [1,1,1,1,1,1,1,1,1,1,1,0,1,0,1,1,1,1,1,1,1,1,1,1,1,1,1,1,1,1,1,1,1,1,1,1,1,1,1,1,1,1,1,1,1,1,1,1,1,1,1] zbk (zau tP zcL K)
def zqv (t3 t5 t6 t11 t17 t19 t20 t21 t22 t120 t715 : AV) (H : zaa) (K : Kt) : Prop:=AWp tP zKs (zKr K) (ux 3 (t3 :: ux 1 (t5 :: t6 :: ux 4 (t11 :: ux 5 (t17 :: ux 1 (t19 :: t20 :: t21 :: t22 :: ux 97 (t120 :: ux 594 (t715 :: ux 156 [])))))))) H
def zxn (t3 t5 t6 t11 t17 t19 t20 t21 t22 t120 t715 : AV) (H : zaa) (K : Kt) : Prop:=
 zag t715
 (zac H (fun K'=>K' t21 H) fun t717=>
 zac H (fun K'=>K' t717 H) fun t718=>
 zab t718 true H (fun K'=>zac H (fun K''=>K'' t22 H) (K' · H)) fun t719 H=>
 zac H (fun K'=>zah t718 t719 (.bool false) (K' · H)) fun t720=>
 zac H (fun K'=>K' t720 H) fun t721=>
 zab t721 true H (fun K'=>zac H (fun K''=>K'' t5 H) (K' · H)) fun t722 H=>
 zab t721 true H (fun K'=>zac H (fun K''=>zaj 1 t722 (K'' · H)) (K' · H)) fun t723 H=>
 zab t721 true H (fun K'=>zac H (fun K''=>zad .eql false t723 (.int .i64 1) (K'' · H)) (K' · H)) fun t724 H=>
 zac H (fun K'=>zah t721 t724 (.bool false) (K' · H)) fun t725=>
 zac H (fun K'=>K' t725 H) fun t726=>
 zab t726 true H (fun K'=>zac H (fun K''=>K'' t20 H) (K' · H)) fun t727 H=>
 zab t726 true H (fun K'=>zac H (fun K''=>zad .eql false t727 (.int .i64 8) (K'' · H)) (K' · H)) fun t728 H=>
 zac H (fun K'=>zah t726 t728 (.bool false) (K' · H)) fun t729=>
 zac H (fun K'=>K' t729 H) fun t730=>
 zab t730 true H (fun K'=>zac H (fun K''=>K'' t5 H) (K' · H)) fun t731 H=>
 zab t730 true H (fun K'=>zac H (fun K''=>zai 3 t731 (.int .i64 0) (K'' · H)) (K' · H)) fun t732 H=>
 zab t730 true H (fun K'=>zac H (fun K''=>zak true 3 t732 H (K'' · H)) (K' · H)) fun t733 H=>
 zab t730 true H (fun K'=>zac H (fun K''=>zaf 5 t3 (K'' · H)) (K' · H)) fun t734 H=>
 zab t730 true H (fun K'=>zac H (fun K''=>zaf 2 t734 (K'' · H)) (K' · H)) fun t735 H=>
 zab t730 true H (fun K'=>zac H (fun K''=>zak false 1 t735 H (K'' · H)) (K' · H)) fun t736 H=>
 zab t730 true H (fun K'=>zac H (fun K''=>zai 3 t736 (.int .i64 0) (K'' · H)) (K' · H)) fun t737 H=>
 zab t730 true H (fun K'=>zac H (fun K''=>zak true 3 t737 H (K'' · H)) (K' · H)) fun t738 H=>
 zab t730 true H (fun K'=>zaw H (fun H K''=>ACalls tP zcE [t733,t738] H K'') (K' · H)) fun t739 H=>
 zac H (fun K'=>zah t730 t739 (.bool false) (K' · H)) fun t740=>
 zac H (fun K'=>K' t740 H) fun t4=>
 K t4 H)
 (zad .eql false t120 (.int .i64 20) fun t742=>
 zag t742
 (zac H (fun K'=>K' t21 H) fun t743=>
 zac H (fun K'=>K' t743 H) fun t744=>
 zab t744 true H (fun K'=>zac H (fun K''=>K'' t22 H) (K' · H)) fun t745 H=>
 zac H (fun K'=>zah t744 t745 (.bool false) (K' · H)) fun t746=>
 zac H (fun K'=>K' t746 H) fun t747=>
 zab t747 true H (fun K'=>zac H (fun K''=>K'' t5 H) (K' · H)) fun t748 H=>
 zab t747 true H (fun K'=>zac H (fun K''=>zaj 1 t748 (K'' · H)) (K' · H)) fun t749 H=>
 zab t747 true H (fun K'=>zac H (fun K''=>zad .eql false t749 (.int .i64 1) (K'' · H)) (K' · H)) fun t750 H=>
 zac H (fun K'=>zah t747 t750 (.bool false) (K' · H)) fun t751=>
 zac H (fun K'=>K' t751 H) fun t752=>
 zab t752 true H (fun K'=>zac H (fun K''=>K'' t5 H) (K' · H)) fun t753 H=>
 zab t752 true H (fun K'=>zac H (fun K''=>zai 3 t753 (.int .i64 0) (K'' · H)) (K' · H)) fun t754 H=>
 zab t752 true H (fun K'=>zac H (fun K''=>zaf 0 t754 (K'' · H)) (K' · H)) fun t755 H=>
 zab t752 true H (fun K'=>zac H (fun K''=>zak false 1 t755 H (K'' · H)) (K' · H)) fun t756 H=>
 zab t752 true H (fun K'=>zac H (fun K''=>zad .eql false t756 (.int .i64 8) (K'' · H)) (K' · H)) fun t757 H=>
 zac H (fun K'=>zah t752 t757 (.bool false) (K' · H)) fun t758=>
 zac H (fun K'=>K' t758 H) fun t759=>
 zab t759 true H (fun K'=>zac H (fun K''=>K'' t5 H) (K' · H)) fun t760 H=>
 zab t759 true H (fun K'=>zac H (fun K''=>zai 3 t760 (.int .i64 0) (K'' · H)) (K' · H)) fun t761 H=>
 zab t759 true H (fun K'=>zac H (fun K''=>zaf 2 t761 (K'' · H)) (K' · H)) fun t762 H=>
 zab t759 true H (fun K'=>zac H (fun K''=>zak false 1 t762 H (K'' · H)) (K' · H)) fun t763 H=>
 zab t759 true H (fun K'=>zac H (fun K''=>zai 3 t763 (.int .i64 0) (K'' · H)) (K' · H)) fun t764 H=>
 zab t759 true H (fun K'=>zac H (fun K''=>zak true 3 t764 H (K'' · H)) (K' · H)) fun t765 H=>
 zab t759 true H (fun K'=>zac H (fun K''=>zaf 5 t3 (K'' · H)) (K' · H)) fun t766 H=>
 zab t759 true H (fun K'=>zac H (fun K''=>zak true 3 t766 H (K'' · H)) (K' · H)) fun t767 H=>
 zab t759 true H (fun K'=>zaw H (fun H K''=>ACalls tP zcE [t765,t767] H K'') (K' · H)) fun t768 H=>
 zac H (fun K'=>zah t759 t768 (.bool false) (K' · H)) fun t769=>
 zac H (fun K'=>K' t769 H) fun t4=>
 K t4 H)
 (zad .eql false t120 (.int .i64 21) fun t771=>
 zag t771
 (zac H (fun K'=>K' t21 H) fun t772=>
 zac H (fun K'=>K' t772 H) fun t773=>
 zab t773 true H (fun K'=>zac H (fun K''=>K'' t22 H) (K' · H)) fun t774 H=>
 zac H (fun K'=>zah t773 t774 (.bool false) (K' · H)) fun t775=>
 zac H (fun K'=>K' t775 H) fun t776=>
 zab t776 true H (fun K'=>zac H (fun K''=>K'' t5 H) (K' · H)) fun t777 H=>
 zab t776 true H (fun K'=>zac H (fun K''=>zaj 1 t777 (K'' · H)) (K' · H)) fun t778 H=>
 zab t776 true H (fun K'=>zac H (fun K''=>zad .eql false t778 (.int .i64 2) (K'' · H)) (K' · H)) fun t779 H=>
 zac H (fun K'=>zah t776 t779 (.bool false) (K' · H)) fun t780=>
 zac H (fun K'=>K' t780 H) fun t781=>
 zab t781 true H (fun K'=>zac H (fun K''=>K'' t5 H) (K' · H)) fun t782 H=>
 zab t781 true H (fun K'=>zac H (fun K''=>zai 3 t782 (.int .i64 0) (K'' · H)) (K' · H)) fun t783 H=>
 zab t781 true H (fun K'=>zac H (fun K''=>zaf 0 t783 (K'' · H)) (K' · H)) fun t784 H=>
 zab t781 true H (fun K'=>zac H (fun K''=>zak false 1 t784 H (K'' · H)) (K' · H)) fun t785 H=>
 zab t781 true H (fun K'=>zac H (fun K''=>zad .eql false t785 (.int .i64 8) (K'' · H)) (K' · H)) fun t786 H=>
 zac H (fun K'=>zah t781 t786 (.bool false) (K' · H)) fun t787=>
 zac H (fun K'=>K' t787 H) fun t788=>
 zab t788 true H (fun K'=>zac H (fun K''=>K'' t5 H) (K' · H)) fun t789 H=>
 zab t788 true H (fun K'=>zac H (fun K''=>zai 3 t789 (.int .i64 0) (K'' · H)) (K' · H)) fun t790 H=>
 zab t788 true H (fun K'=>zac H (fun K''=>zaf 2 t790 (K'' · H)) (K' · H)) fun t791 H=>
 zab t788 true H (fun K'=>zac H (fun K''=>zak false 1 t791 H (K'' · H)) (K' · H)) fun t792 H=>
 zab t788 true H (fun K'=>zac H (fun K''=>zai 3 t792 (.int .i64 0) (K'' · H)) (K' · H)) fun t793 H=>
 zab t788 true H (fun K'=>zac H (fun K''=>zak true 3 t793 H (K'' · H)) (K' · H)) fun t794 H=>
 zab t788 true H (fun K'=>zac H (fun K''=>K'' t5 H) (K' · H)) fun t795 H=>
 zab t788 true H (fun K'=>zac H (fun K''=>zai 3 t795 (.int .i64 1) (K'' · H)) (K' · H)) fun t796 H=>
 zab t788 true H (fun K'=>zac H (fun K''=>zak true 3 t796 H (K'' · H)) (K' · H)) fun t797 H=>
 zab t788 true H (fun K'=>zaw H (fun H K''=>ACalls tP zcE [t794,t797] H K'') (K' · H)) fun t798 H=>
 zac H (fun K'=>zah t788 t798 (.bool false) (K' · H)) fun t799=>
 zac H (fun K'=>K' t799 H) fun t800=>
 zab t800 true H (fun K'=>zac H (fun K''=>zaf 5 t3 (K'' · H)) (K' · H)) fun t801 H=>
 zab t800 true H (fun K'=>zac H (fun K''=>zak true 3 t801 H (K'' · H)) (K' · H)) fun t802 H=>
 zab t800 true H (fun K'=>zac H (fun K''=>zak true 3 t19 H (K'' · H)) (K' · H)) fun t803 H=>
 zab t800 true H (fun K'=>zaw H (fun H K''=>ACalls tP zcE [t802,t803] H K'') (K' · H)) fun t804 H=>
 zac H (fun K'=>zah t800 t804 (.bool false) (K' · H)) fun t805=>
 zac H (fun K'=>K' t805 H) fun t4=>
 K t4 H)
 (zad .eql false t120 (.int .i64 22) fun t807=>
 zag t807
 (zaf 1 t3 fun t808=>
 zae false 1 t808 H fun t809=>
 zad .geq false t809 (.int .i64 (-1000)) fun t810=>
 zab t810 true H (fun K'=>zaf 1 t3 (K' · H)) fun t812 H=>
 zab t810 true H (fun K'=>zae false 1 t812 H (K' · H)) fun t813 H=>
 zab t810 true H (fun K'=>zad .leq false t813 (.int .i64 1000) (K' · H)) fun t814 H=>
 zah t810 t814 (.bool false) fun t815=>
 zab t815 true H (fun K'=>K' t22 H) fun t817 H=>
 zah t815 t817 (.bool false) fun t818=>
 zab t818 true H (fun K'=>K' t5 H) fun t820 H=>
 zab t818 true H (fun K'=>zaj 1 t820 (K' · H)) fun t821 H=>
 zab t818 true H (fun K'=>zad .eql false t821 (.int .i64 0) (K' · H)) fun t822 H=>
 zah t818 t822 (.bool false) fun t823=>
 zab t823 true H (fun K'=>K' t20 H) fun t825 H=>
 zab t823 true H (fun K'=>zad .eql false t825 (.int .i64 3) (K' · H)) fun t826 H=>
 zah t823 t826 (.bool false) fun t827=>
 K t827 H)
 (zad .eql false t120 (.int .i64 23) fun t829=>
 zag t829
 (zab t21 true H (fun K'=>K' t22 H) fun t832 H=>
 zah t21 t832 (.bool false) fun t833=>
 zab t833 true H (fun K'=>K' t5 H) fun t835 H=>
 zab t833 true H (fun K'=>zae true 3 t17 H (K' · H)) fun t836 H=>
 zab t833 true H (fun K'=>zav 3 [(.int .i64 0),(.int .i64 0),.snil] 1 [(0,t836)] (K' · H)) fun t837 H=>
 zab t833 true H (fun K'=>ACalls tP zc4 [t835,t837] H K') fun t838 H=>
 zah t833 t838 (.bool false) fun t839=>
 K t839 H)
 (zad .eql false t120 (.int .i64 24) fun t841=>
 zag t841
 (zac H (fun K'=>K' t21 H) fun t842=>
 zac H (fun K'=>K' t842 H) fun t843=>
 zab t843 true H (fun K'=>zac H (fun K''=>K'' t5 H) (K' · H)) fun t844 H=>
 zab t843 true H (fun K'=>zac H (fun K''=>zaj 1 t844 (K'' · H)) (K' · H)) fun t845 H=>
 zab t843 true H (fun K'=>zac H (fun K''=>zad .eql false t845 (.int .i64 0) (K'' · H)) (K' · H)) fun t846 H=>
 zac H (fun K'=>zah t843 t846 (.bool false) (K' · H)) fun t847=>
 zac H (fun K'=>K' t847 H) fun t848=>
 zab t848 true H (fun K'=>zac H (fun K''=>K'' t6 H) (K' · H)) fun t849 H=>
 zab t848 true H (fun K'=>zac H (fun K''=>zaf 5 t3 (K'' · H)) (K' · H)) fun t850 H=>
 zab t848 true H (fun K'=>zac H (fun K''=>zak true 3 t850 H (K'' · H)) (K' · H)) fun t851 H=>
 zab t848 true H (fun K'=>zac H (fun K''=>zaf 5 t3 (K'' · H)) (K' · H)) fun t852 H=>
 zab t848 true H (fun K'=>zac H (fun K''=>zak true 3 t852 H (K'' · H)) (K' · H)) fun t853 H=>
 zab t848 true H (fun K'=>zac H (fun K''=>zav 3 [(.int .i64 0),(.int .i64 0),.snil] 2 [(0,t851),(1,t853)] (K'' · H)) (K' · H)) fun t854 H=>
 zab t848 true H (fun K'=>zaw H (fun H K''=>ACalls tP zc4 [t849,t854] H K'') (K' · H)) fun t855 H=>
 zac H (fun K'=>zah t848 t855 (.bool false) (K' · H)) fun t856=>
 zac H (fun K'=>K' t856 H) fun t857=>
 zab t857 true H (fun K'=>zac H (fun K''=>K'' t11 H) (K' · H)) fun t858 H=>
 zab t857 true H (fun K'=>zac H (fun K''=>zai 1 t858 (.int .i64 0) (K'' · H)) (K' · H)) fun t859 H=>
 zab t857 true H (fun K'=>zac H (fun K''=>zak false 1 t859 H (K'' · H)) (K' · H)) fun t860 H=>
 zab t857 true H (fun K'=>zac H (fun K''=>zaj 1 t860 (K'' · H)) (K' · H)) fun t861 H=>
 zab t857 true H (fun K'=>zac H (fun K''=>zad .eql false t861 (.int .i64 0) (K'' · H)) (K' · H)) fun t862 H=>
 zac H (fun K'=>zah t857 t862 (.bool false) (K' · H)) fun t863=>
 zac H (fun K'=>K' t863 H) fun t864=>
 zab t864 true H (fun K'=>zac H (fun K''=>K'' t11 H) (K' · H)) fun t865 H=>
 zab t864 true H (fun K'=>zac H (fun K''=>zai 1 t865 (.int .i64 1) (K'' · H)) (K' · H)) fun t866 H=>
 zab t864 true H (fun K'=>zac H (fun K''=>zak false 1 t866 H (K'' · H)) (K' · H)) fun t867 H=>
 zab t864 true H (fun K'=>zac H (fun K''=>zak true 3 t17 H (K'' · H)) (K' · H)) fun t868 H=>
 zab t864 true H (fun K'=>zac H (fun K''=>zav 3 [(.int .i64 0),(.int .i64 0),.snil] 1 [(0,t868)] (K'' · H)) (K' · H)) fun t869 H=>
 zab t864 true H (fun K'=>zaw H (fun H K''=>ACalls tP zc4 [t867,t869] H K'') (K' · H)) fun t870 H=>
 zac H (fun K'=>zah t864 t870 (.bool false) (K' · H)) fun t871=>
 zac H (fun K'=>K' t871 H) fun t4=>
 K t4 H)
 (K (.bool false) H))))))
noncomputable def zKm : Code:=zan [1,1,1,1,1,1,1,1,1,1,1,0,1,0,1,1,1,1,1,1,1,1,1,1,1,1,1,1,1,1,1,1,1,1,1,1,1,1,1,1,1] zbk
def zKl (K : Kt) : AExit → List AV → zaa → Prop:=zao tP zaY [1,1,1,1,1,1,1,1,1,1,1,0,1,0,1,1,1,1,1,1,1,1,1,1,1,1,1,1,1,1,1,1,1,1,1,1,1,1,1,1,1] zbk (zau tP zcL K)
def zqu (t3 t5 t6 t11 t17 t19 t20 t21 t22 t120 t566 : AV) (H : zaa) (K : Kt) : Prop:=AWp tP zKm (zKl K) (ux 3 (t3 :: ux 1 (t5 :: t6 :: ux 4 (t11 :: ux 5 (t17 :: ux 1 (t19 :: t20 :: t21 :: t22 :: ux 97 (t120 :: ux 445 (t566 :: ux 305 [])))))))) H
def zxl (t3 t5 t6 t11 t17 t19 t20 t21 t22 t120 t566 : AV) (H : zaa) (K : Kt) : Prop:=
 zag t566
 (zaf 1 t3 fun t568=>
 zae false 1 t568 H fun t569=>
 zad .geq false t569 (.int .i64 6) fun t570=>
 zag t570
 (zk5 t3 t5 t17 t20 t22 (.int .i64 2) H K)
 (zk5 t3 t5 t17 t20 t22 (.int .i64 1) H K))
 (zad .eql false t120 (.int .i64 15) fun t595=>
 zag t595
 (zac H (fun K'=>K' t21 H) fun t596=>
 zac H (fun K'=>K' t596 H) fun t597=>
 zab t597 true H (fun K'=>zac H (fun K''=>K'' t22 H) (K' · H)) fun t598 H=>
 zac H (fun K'=>zah t597 t598 (.bool false) (K' · H)) fun t599=>
 zac H (fun K'=>K' t599 H) fun t600=>
 zab t600 true H (fun K'=>zac H (fun K''=>K'' t5 H) (K' · H)) fun t601 H=>
 zab t600 true H (fun K'=>zac H (fun K''=>zaj 1 t601 (K'' · H)) (K' · H)) fun t602 H=>
 zab t600 true H (fun K'=>zac H (fun K''=>zad .eql false t602 (.int .i64 2) (K'' · H)) (K' · H)) fun t603 H=>
 zac H (fun K'=>zah t600 t603 (.bool false) (K' · H)) fun t604=>
 zac H (fun K'=>K' t604 H) fun t605=>
 zab t605 true H (fun K'=>zac H (fun K''=>K'' t20 H) (K' · H)) fun t606 H=>
 zab t605 true H (fun K'=>zac H (fun K''=>zad .eql false t606 (.int .i64 7) (K'' · H)) (K' · H)) fun t607 H=>
 zac H (fun K'=>zah t605 t607 (.bool false) (K' · H)) fun t608=>
 zac H (fun K'=>K' t608 H) fun t609=>
 zab t609 true H (fun K'=>zac H (fun K''=>K'' t5 H) (K' · H)) fun t610 H=>
 zab t609 true H (fun K'=>zac H (fun K''=>zak true 3 t17 H (K'' · H)) (K' · H)) fun t611 H=>
 zab t609 true H (fun K'=>zac H (fun K''=>zaf 5 t3 (K'' · H)) (K' · H)) fun t612 H=>
 zab t609 true H (fun K'=>zac H (fun K''=>zaf 2 t612 (K'' · H)) (K' · H)) fun t613 H=>
 zab t609 true H (fun K'=>zac H (fun K''=>zak false 1 t613 H (K'' · H)) (K' · H)) fun t614 H=>
 zab t609 true H (fun K'=>zac H (fun K''=>zai 3 t614 (.int .i64 0) (K'' · H)) (K' · H)) fun t615 H=>
 zab t609 true H (fun K'=>zac H (fun K''=>zak true 3 t615 H (K'' · H)) (K' · H)) fun t616 H=>
 zab t609 true H (fun K'=>zac H (fun K''=>zav 3 [(.int .i64 0),(.int .i64 0),.snil] 2 [(0,t611),(1,t616)] (K'' · H)) (K' · H)) fun t617 H=>
 zab t609 true H (fun K'=>zaw H (fun H K''=>ACalls tP zc4 [t610,t617] H K'') (K' · H)) fun t618 H=>
 zac H (fun K'=>zah t609 t618 (.bool false) (K' · H)) fun t619=>
 zac H (fun K'=>K' t619 H) fun t4=>
 K t4 H)
 (zad .eql false t120 (.int .i64 16) fun t621=>
 zag t621
 (zac H (fun K'=>K' t21 H) fun t622=>
 zac H (fun K'=>K' t622 H) fun t623=>
 zab t623 true H (fun K'=>zac H (fun K''=>K'' t22 H) (K' · H)) fun t624 H=>
 zac H (fun K'=>zah t623 t624 (.bool false) (K' · H)) fun t625=>
 zac H (fun K'=>K' t625 H) fun t626=>
 zab t626 true H (fun K'=>zac H (fun K''=>K'' t5 H) (K' · H)) fun t627 H=>
 zab t626 true H (fun K'=>zac H (fun K''=>zaj 1 t627 (K'' · H)) (K' · H)) fun t628 H=>
 zab t626 true H (fun K'=>zac H (fun K''=>zad .eql false t628 (.int .i64 2) (K'' · H)) (K' · H)) fun t629 H=>
 zac H (fun K'=>zah t626 t629 (.bool false) (K' · H)) fun t630=>
 zac H (fun K'=>K' t630 H) fun t631=>
 zab t631 true H (fun K'=>zac H (fun K''=>K'' t5 H) (K' · H)) fun t632 H=>
 zab t631 true H (fun K'=>zac H (fun K''=>zai 3 t632 (.int .i64 0) (K'' · H)) (K' · H)) fun t633 H=>
 zab t631 true H (fun K'=>zac H (fun K''=>zaf 0 t633 (K'' · H)) (K' · H)) fun t634 H=>
 zab t631 true H (fun K'=>zac H (fun K''=>zak false 1 t634 H (K'' · H)) (K' · H)) fun t635 H=>
 zab t631 true H (fun K'=>zac H (fun K''=>zad .eql false t635 (.int .i64 7) (K'' · H)) (K' · H)) fun t636 H=>
 zac H (fun K'=>zah t631 t636 (.bool false) (K' · H)) fun t637=>
 zac H (fun K'=>K' t637 H) fun t638=>
 zab t638 true H (fun K'=>zac H (fun K''=>K'' t5 H) (K' · H)) fun t639 H=>
 zab t638 true H (fun K'=>zac H (fun K''=>za2 1 3 t639 (some (.int .i64 1)) none (K'' · H)) (K' · H)) fun t640 H=>
 zab t638 true H (fun K'=>zac H (fun K''=>zak true 3 t17 H (K'' · H)) (K' · H)) fun t641 H=>
 zab t638 true H (fun K'=>zac H (fun K''=>zav 3 [(.int .i64 0),(.int .i64 0),.snil] 1 [(0,t641)] (K'' · H)) (K' · H)) fun t642 H=>
 zab t638 true H (fun K'=>zaw H (fun H K''=>ACalls tP zc4 [t640,t642] H K'') (K' · H)) fun t643 H=>
 zac H (fun K'=>zah t638 t643 (.bool false) (K' · H)) fun t644=>
 zac H (fun K'=>K' t644 H) fun t645=>
 zab t645 true H (fun K'=>zac H (fun K''=>K'' t5 H) (K' · H)) fun t646 H=>
 zab t645 true H (fun K'=>zac H (fun K''=>zai 3 t646 (.int .i64 0) (K'' · H)) (K' · H)) fun t647 H=>
 zab t645 true H (fun K'=>zac H (fun K''=>zaf 2 t647 (K'' · H)) (K' · H)) fun t648 H=>
 zab t645 true H (fun K'=>zac H (fun K''=>zak false 1 t648 H (K'' · H)) (K' · H)) fun t649 H=>
 zab t645 true H (fun K'=>zac H (fun K''=>zai 3 t649 (.int .i64 0) (K'' · H)) (K' · H)) fun t650 H=>
 zab t645 true H (fun K'=>zac H (fun K''=>zak true 3 t650 H (K'' · H)) (K' · H)) fun t651 H=>
 zab t645 true H (fun K'=>zac H (fun K''=>zaf 5 t3 (K'' · H)) (K' · H)) fun t652 H=>
 zab t645 true H (fun K'=>zac H (fun K''=>zak true 3 t652 H (K'' · H)) (K' · H)) fun t653 H=>
 zab t645 true H (fun K'=>zaw H (fun H K''=>ACalls tP zcE [t651,t653] H K'') (K' · H)) fun t654 H=>
 zac H (fun K'=>zah t645 t654 (.bool false) (K' · H)) fun t655=>
 zac H (fun K'=>K' t655 H) fun t4=>
 K t4 H)
 (zad .eql false t120 (.int .i64 17) fun t657=>
 zag t657
 (zac H (fun K'=>K' t21 H) fun t658=>
 zac H (fun K'=>K' t658 H) fun t659=>
 zab t659 true H (fun K'=>zac H (fun K''=>K'' t22 H) (K' · H)) fun t660 H=>
 zac H (fun K'=>zah t659 t660 (.bool false) (K' · H)) fun t661=>
 zac H (fun K'=>K' t661 H) fun t662=>
 zab t662 true H (fun K'=>zac H (fun K''=>K'' t5 H) (K' · H)) fun t663 H=>
 zab t662 true H (fun K'=>zac H (fun K''=>zaj 1 t663 (K'' · H)) (K' · H)) fun t664 H=>
 zab t662 true H (fun K'=>zac H (fun K''=>zad .eql false t664 (.int .i64 3) (K'' · H)) (K' · H)) fun t665 H=>
 zac H (fun K'=>zah t662 t665 (.bool false) (K' · H)) fun t666=>
 zac H (fun K'=>K' t666 H) fun t667=>
 zab t667 true H (fun K'=>zac H (fun K''=>K'' t5 H) (K' · H)) fun t668 H=>
 zab t667 true H (fun K'=>zac H (fun K''=>zai 3 t668 (.int .i64 0) (K'' · H)) (K' · H)) fun t669 H=>
 zab t667 true H (fun K'=>zac H (fun K''=>zaf 0 t669 (K'' · H)) (K' · H)) fun t670 H=>
 zab t667 true H (fun K'=>zac H (fun K''=>zak false 1 t670 H (K'' · H)) (K' · H)) fun t671 H=>
 zab t667 true H (fun K'=>zac H (fun K''=>zad .eql false t671 (.int .i64 7) (K'' · H)) (K' · H)) fun t672 H=>
 zac H (fun K'=>zah t667 t672 (.bool false) (K' · H)) fun t673=>
 zac H (fun K'=>K' t673 H) fun t674=>
 zab t674 true H (fun K'=>zac H (fun K''=>K'' t5 H) (K' · H)) fun t675 H=>
 zab t674 true H (fun K'=>zac H (fun K''=>za2 1 3 t675 (some (.int .i64 1)) none (K'' · H)) (K' · H)) fun t676 H=>
 zab t674 true H (fun K'=>zac H (fun K''=>zak true 3 t17 H (K'' · H)) (K' · H)) fun t677 H=>
 zab t674 true H (fun K'=>zac H (fun K''=>K'' t5 H) (K' · H)) fun t678 H=>
 zab t674 true H (fun K'=>zac H (fun K''=>zai 3 t678 (.int .i64 0) (K'' · H)) (K' · H)) fun t679 H=>
 zab t674 true H (fun K'=>zac H (fun K''=>zaf 2 t679 (K'' · H)) (K' · H)) fun t680 H=>
 zab t674 true H (fun K'=>zac H (fun K''=>zak false 1 t680 H (K'' · H)) (K' · H)) fun t681 H=>
 zab t674 true H (fun K'=>zac H (fun K''=>zai 3 t681 (.int .i64 0) (K'' · H)) (K' · H)) fun t682 H=>
 zab t674 true H (fun K'=>zac H (fun K''=>zak true 3 t682 H (K'' · H)) (K' · H)) fun t683 H=>
 zab t674 true H (fun K'=>zac H (fun K''=>zav 3 [(.int .i64 0),(.int .i64 0),.snil] 2 [(0,t677),(1,t683)] (K'' · H)) (K' · H)) fun t684 H=>
 zab t674 true H (fun K'=>zaw H (fun H K''=>ACalls tP zc4 [t676,t684] H K'') (K' · H)) fun t685 H=>
 zac H (fun K'=>zah t674 t685 (.bool false) (K' · H)) fun t686=>
 zac H (fun K'=>K' t686 H) fun t687=>
 zab t687 true H (fun K'=>zac H (fun K''=>zaf 5 t3 (K'' · H)) (K' · H)) fun t688 H=>
 zab t687 true H (fun K'=>zac H (fun K''=>zak true 3 t688 H (K'' · H)) (K' · H)) fun t689 H=>
 zab t687 true H (fun K'=>zac H (fun K''=>zak true 3 t19 H (K'' · H)) (K' · H)) fun t690 H=>
 zab t687 true H (fun K'=>zaw H (fun H K''=>ACalls tP zcE [t689,t690] H K'') (K' · H)) fun t691 H=>
 zac H (fun K'=>zah t687 t691 (.bool false) (K' · H)) fun t692=>
 zac H (fun K'=>K' t692 H) fun t4=>
 K t4 H)
 (zad .eql false t120 (.int .i64 18) fun t694=>
 zag t694
 (zab t21 true H (fun K'=>K' t22 H) fun t697 H=>
 zah t21 t697 (.bool false) fun t698=>
 zab t698 true H (fun K'=>K' t5 H) fun t700 H=>
 zab t698 true H (fun K'=>zaj 1 t700 (K' · H)) fun t701 H=>
 zab t698 true H (fun K'=>zad .eql false t701 (.int .i64 1) (K' · H)) fun t702 H=>
 zah t698 t702 (.bool false) fun t703=>
 zab t703 true H (fun K'=>K' t5 H) fun t705 H=>
 zab t703 true H (fun K'=>zai 3 t705 (.int .i64 0) (K' · H)) fun t706 H=>
 zab t703 true H (fun K'=>zaf 0 t706 (K' · H)) fun t707 H=>
 zab t703 true H (fun K'=>zae false 1 t707 H (K' · H)) fun t708 H=>
 zab t703 true H (fun K'=>zad .eql false t708 (.int .i64 7) (K' · H)) fun t709 H=>
 zah t703 t709 (.bool false) fun t710=>
 zab t710 true H (fun K'=>K' t20 H) fun t712 H=>
 zab t710 true H (fun K'=>zad .eql false t712 (.int .i64 1) (K' · H)) fun t713 H=>
 zah t710 t713 (.bool false) fun t714=>
 K t714 H)
 (zad .eql false t120 (.int .i64 19) fun t716=>
 zqv t3 t5 t6 t11 t17 t19 t20 t21 t22 t120 t716 H K)))))
noncomputable def zKj : Code:=zan [1,1,1,1,1,1,1,1,1,1,1,0,1,0,1,1,1,1,1,1,1,1,1,1,1,1,1,1,1,1,1] zbk
def zKi (K : Kt) : AExit → List AV → zaa → Prop:=zao tP zaY [1,1,1,1,1,1,1,1,1,1,1,0,1,0,1,1,1,1,1,1,1,1,1,1,1,1,1,1,1,1,1] zbk (zau tP zcL K)
def zqt (t2 t3 t5 t6 t11 t17 t18 t19 t20 t21 t22 t120 t315 : AV) (H : zaa) (K : Kt) : Prop:=AWp tP zKj (zKi K) (ux 2 (t2 :: t3 :: ux 1 (t5 :: t6 :: ux 4 (t11 :: ux 5 (t17 :: t18 :: t19 :: t20 :: t21 :: t22 :: ux 97 (t120 :: ux 194 (t315 :: ux 556 []))))))) H
def zxk (t2 t3 t5 t6 t11 t17 t18 t19 t20 t21 t22 t120 t315 : AV) (H : zaa) (K : Kt) : Prop:=
 zag t315
 (zab t21 true H (fun K'=>K' t5 H) fun t319 H=>
 zab t21 true H (fun K'=>zae true 3 t18 H (K' · H)) fun t320 H=>
 zab t21 true H (fun K'=>zav 3 [(.int .i64 0),(.int .i64 0),.snil] 1 [(0,t320)] (K' · H)) fun t321 H=>
 zab t21 true H (fun K'=>ACalls tP zc4 [t319,t321] H K') fun t322 H=>
 zah t21 t322 (.bool false) fun t323=>
 zab t323 true H (fun K'=>K' t6 H) fun t325 H=>
 zab t323 true H (fun K'=>zaf 5 t3 (K' · H)) fun t326 H=>
 zab t323 true H (fun K'=>zae true 3 t326 H (K' · H)) fun t327 H=>
 zab t323 true H (fun K'=>zaf 5 t3 (K' · H)) fun t328 H=>
 zab t323 true H (fun K'=>zae true 3 t328 H (K' · H)) fun t329 H=>
 zab t323 true H (fun K'=>zav 3 [(.int .i64 0),(.int .i64 0),.snil] 2 [(0,t327),(1,t329)] (K' · H)) fun t330 H=>
 zab t323 true H (fun K'=>ACalls tP zc4 [t325,t330] H K') fun t331 H=>
 zah t323 t331 (.bool false) fun t332=>
 zab t332 true H (fun K'=>K' t11 H) fun t334 H=>
 zab t332 true H (fun K'=>zai 1 t334 (.int .i64 0) (K' · H)) fun t335 H=>
 zab t332 true H (fun K'=>zae false 1 t335 H (K' · H)) fun t336 H=>
 zab t332 true H (fun K'=>zaj 1 t336 (K' · H)) fun t337 H=>
 zab t332 true H (fun K'=>zad .eql false t337 (.int .i64 0) (K' · H)) fun t338 H=>
 zah t332 t338 (.bool false) fun t339=>
 zab t339 true H (fun K'=>K' t11 H) fun t341 H=>
 zab t339 true H (fun K'=>zai 1 t341 (.int .i64 1) (K' · H)) fun t342 H=>
 zab t339 true H (fun K'=>zae false 1 t342 H (K' · H)) fun t343 H=>
 zab t339 true H (fun K'=>zaj 1 t343 (K' · H)) fun t344 H=>
 zab t339 true H (fun K'=>zad .eql false t344 (.int .i64 0) (K' · H)) fun t345 H=>
 zah t339 t345 (.bool false) fun t346=>
 K t346 H)
 (zad .eql false t120 (.int .i64 10) fun t348=>
 zag t348
 (zac H (fun K'=>K' t21 H) fun t349=>
 zac H (fun K'=>aUn .not t349 (K' · H)) fun t350=>
 zac H (fun K'=>K' t350 H) fun t351=>
 zab t351 false H (fun K'=>zac H (fun K''=>K'' t5 H) (K' · H)) fun t352 H=>
 zab t351 false H (fun K'=>zac H (fun K''=>zaj 1 t352 (K'' · H)) (K' · H)) fun t353 H=>
 zab t351 false H (fun K'=>zac H (fun K''=>zad .neq false t353 (.int .i64 1) (K'' · H)) (K' · H)) fun t354 H=>
 zac H (fun K'=>zah t351 (.bool true) t354 (K' · H)) fun t355=>
 zac H (fun K'=>K' t355 H) fun t356=>
 zab t356 false H (fun K'=>zac H (fun K''=>K'' t5 H) (K' · H)) fun t357 H=>
 zab t356 false H (fun K'=>zac H (fun K''=>zai 3 t357 (.int .i64 0) (K'' · H)) (K' · H)) fun t358 H=>
 zab t356 false H (fun K'=>zac H (fun K''=>zaf 0 t358 (K'' · H)) (K' · H)) fun t359 H=>
 zab t356 false H (fun K'=>zac H (fun K''=>zak false 1 t359 H (K'' · H)) (K' · H)) fun t360 H=>
 zab t356 false H (fun K'=>zac H (fun K''=>zad .neq false t360 (.int .i64 5) (K'' · H)) (K' · H)) fun t361 H=>
 zac H (fun K'=>zah t356 (.bool true) t361 (K' · H)) fun t362=>
 zac H (fun K'=>K' t362 H) fun t363=>
 zab t363 false H (fun K'=>zac H (fun K''=>K'' t6 H) (K' · H)) fun t364 H=>
 zab t363 false H (fun K'=>zac H (fun K''=>zaj 1 t364 (K'' · H)) (K' · H)) fun t365 H=>
 zab t363 false H (fun K'=>zac H (fun K''=>zaf 0 t2 (K'' · H)) (K' · H)) fun t366 H=>
 zab t363 false H (fun K'=>zac H (fun K''=>zak false 1 t366 H (K'' · H)) (K' · H)) fun t367 H=>
 zab t363 false H (fun K'=>zac H (fun K''=>K'' t5 H) (K' · H)) fun t368 H=>
 zab t363 false H (fun K'=>zac H (fun K''=>zai 3 t368 (.int .i64 0) (K'' · H)) (K' · H)) fun t369 H=>
 zab t363 false H (fun K'=>zac H (fun K''=>zaf 1 t369 (K'' · H)) (K' · H)) fun t370 H=>
 zab t363 false H (fun K'=>zac H (fun K''=>zak false 1 t370 H (K'' · H)) (K' · H)) fun t371 H=>
 zab t363 false H (fun K'=>zac H (fun K''=>zai 3 t367 t371 (K'' · H)) (K' · H)) fun t372 H=>
 zab t363 false H (fun K'=>zac H (fun K''=>zaf 2 t372 (K'' · H)) (K' · H)) fun t373 H=>
 zab t363 false H (fun K'=>zac H (fun K''=>zak false 1 t373 H (K'' · H)) (K' · H)) fun t374 H=>
 zab t363 false H (fun K'=>zac H (fun K''=>zaj 1 t374 (K'' · H)) (K' · H)) fun t375 H=>
 zab t363 false H (fun K'=>zac H (fun K''=>zad .neq false t365 t375 (K'' · H)) (K' · H)) fun t376 H=>
 zac H (fun K'=>zah t363 (.bool true) t376 (K' · H)) fun t377=>
 zag t377
 (K (.bool false) H)
 (zaj 1 t6 fun t379=>
 zxo t2 t3 t5 t6 t11 t379 (.int .i64 0) H K))
 (zad .eql false t120 (.int .i64 11) fun t416=>
 zag t416
 (zaf 1 t2 fun t417=>
 zae false 1 t417 H fun t418=>
 zaf 1 t3 fun t419=>
 zae false 1 t419 H fun t420=>
 zai 7 t418 t420 fun t421=>
 zae true 7 t421 H fun t422=>
 zaA [(.str []),.snil,.snil,(.int .i64 0),(.int .i64 0),.snil,(.int .i64 0)] H fun t28 H=>
 zar 7 t28 t422 H fun H=>
 zaf 1 t28 fun t423=>
 zae false 1 t423 H fun t424=>
 zaj 1 t424 fun t425=>
 zhK t2 t3 t5 t20 t22 t28 .snil .snil t424 t425 (.int .i64 0) H K)
 (zad .eql false t120 (.int .i64 12) fun t477=>
 zag t477
 (zaf 1 t3 fun t478=>
 zae false 1 t478 H fun t479=>
 zad .lss false t479 (.int .i64 0) fun t480=>
 zab t480 false H (fun K'=>zaf 1 t3 (K' · H)) fun t482 H=>
 zab t480 false H (fun K'=>zae false 1 t482 H (K' · H)) fun t483 H=>
 zab t480 false H (fun K'=>zaf 1 t2 (K' · H)) fun t484 H=>
 zab t480 false H (fun K'=>zae false 1 t484 H (K' · H)) fun t485 H=>
 zab t480 false H (fun K'=>zaj 1 t485 (K' · H)) fun t486 H=>
 zab t480 false H (fun K'=>zad .geq false t483 t486 (K' · H)) fun t487 H=>
 zah t480 (.bool true) t487 fun t488=>
 zab t488 false H (fun K'=>zaf 1 t2 (K' · H)) fun t490 H=>
 zab t488 false H (fun K'=>zae false 1 t490 H (K' · H)) fun t491 H=>
 zab t488 false H (fun K'=>zaf 1 t3 (K' · H)) fun t492 H=>
 zab t488 false H (fun K'=>zae false 1 t492 H (K' · H)) fun t493 H=>
 zab t488 false H (fun K'=>zai 7 t491 t493 (K' · H)) fun t494 H=>
 zab t488 false H (fun K'=>zaf 0 t494 (K' · H)) fun t495 H=>
 zab t488 false H (fun K'=>zae false 1 t495 H (K' · H)) fun t496 H=>
 zab t488 false H (fun K'=>zad .eql false t496 (.str []) (K' · H)) fun t497 H=>
 zah t488 (.bool true) t497 fun t498=>
 zag t498
 (K (.bool false) H)
 (zaf 1 t2 fun t499=>
 zae false 1 t499 H fun t500=>
 zaf 1 t3 fun t501=>
 zae false 1 t501 H fun t502=>
 zai 7 t500 t502 fun t503=>
 zae true 7 t503 H fun t504=>
 zaA [(.str []),.snil,.snil,(.int .i64 0),(.int .i64 0),.snil,(.int .i64 0)] H fun t35 H=>
 zar 7 t35 t504 H fun H=>
 zaf 1 t35 fun t505=>
 zae false 1 t505 H fun t506=>
 zaj 1 t506 fun t507=>
 zhL t2 t3 t5 t22 t35 .snil t506 t507 (.int .i64 0) H K))
 (zad .eql false t120 (.int .i64 13) fun t535=>
 zag t535
 (zac H (fun K'=>K' t21 H) fun t536=>
 zac H (fun K'=>K' t536 H) fun t537=>
 zab t537 true H (fun K'=>zac H (fun K''=>K'' t22 H) (K' · H)) fun t538 H=>
 zac H (fun K'=>zah t537 t538 (.bool false) (K' · H)) fun t539=>
 zac H (fun K'=>K' t539 H) fun t540=>
 zab t540 true H (fun K'=>zac H (fun K''=>K'' t5 H) (K' · H)) fun t541 H=>
 zab t540 true H (fun K'=>zac H (fun K''=>zaj 1 t541 (K'' · H)) (K' · H)) fun t542 H=>
 zab t540 true H (fun K'=>zac H (fun K''=>zad .geq false t542 (.int .i64 1) (K'' · H)) (K' · H)) fun t543 H=>
 zac H (fun K'=>zah t540 t543 (.bool false) (K' · H)) fun t544=>
 zac H (fun K'=>K' t544 H) fun t545=>
 zab t545 true H (fun K'=>zac H (fun K''=>K'' t5 H) (K' · H)) fun t546 H=>
 zab t545 true H (fun K'=>zac H (fun K''=>zai 3 t546 (.int .i64 0) (K'' · H)) (K' · H)) fun t547 H=>
 zab t545 true H (fun K'=>zac H (fun K''=>zaf 0 t547 (K'' · H)) (K' · H)) fun t548 H=>
 zab t545 true H (fun K'=>zac H (fun K''=>zak false 1 t548 H (K'' · H)) (K' · H)) fun t549 H=>
 zab t545 true H (fun K'=>zac H (fun K''=>zad .eql false t549 (.int .i64 9) (K'' · H)) (K' · H)) fun t550 H=>
 zac H (fun K'=>zah t545 t550 (.bool false) (K' · H)) fun t551=>
 zac H (fun K'=>K' t551 H) fun t552=>
 zab t552 true H (fun K'=>zac H (fun K''=>K'' t5 H) (K' · H)) fun t553 H=>
 zab t552 true H (fun K'=>zac H (fun K''=>za2 1 3 t553 (some (.int .i64 1)) none (K'' · H)) (K' · H)) fun t554 H=>
 zab t552 true H (fun K'=>zaC zaB 3 40 .snil t554 H K') fun t555 H=>
 zab t552 true H (fun K'=>zac H (fun K''=>zaf 5 t3 (K'' · H)) (K' · H)) fun t556 H=>
 zab t552 true H (fun K'=>zac H (fun K''=>zak true 3 t556 H (K'' · H)) (K' · H)) fun t557 H=>
 zab t552 true H (fun K'=>zac H (fun K''=>zav 3 [(.int .i64 0),(.int .i64 0),.snil] 1 [(0,t557)] (K'' · H)) (K' · H)) fun t558 H=>
 zab t552 true H (fun K'=>zaC zaB 3 40 t555 t558 H K') fun t559 H=>
 zab t552 true H (fun K'=>zac H (fun K''=>K'' t5 H) (K' · H)) fun t560 H=>
 zab t552 true H (fun K'=>zac H (fun K''=>zai 3 t560 (.int .i64 0) (K'' · H)) (K' · H)) fun t561 H=>
 zab t552 true H (fun K'=>zac H (fun K''=>zaf 2 t561 (K'' · H)) (K' · H)) fun t562 H=>
 zab t552 true H (fun K'=>zac H (fun K''=>zak false 1 t562 H (K'' · H)) (K' · H)) fun t563 H=>
 zab t552 true H (fun K'=>zaw H (fun H K''=>ACalls tP zdl [t559,t563] H K'') (K' · H)) fun t564 H=>
 zac H (fun K'=>zah t552 t564 (.bool false) (K' · H)) fun t565=>
 zac H (fun K'=>K' t565 H) fun t4=>
 K t4 H)
 (zad .eql false t120 (.int .i64 14) fun t567=>
 zqu t3 t5 t6 t11 t17 t19 t20 t21 t22 t120 t567 H K)))))
noncomputable def zKg : Code:=zan [1,1,1,1,1,1,1,1,1,1,1,0,1,0,1,1,1,1,1,1,1] zbk
def zKf (K : Kt) : AExit → List AV → zaa → Prop:=zao tP zaY [1,1,1,1,1,1,1,1,1,1,1,0,1,0,1,1,1,1,1,1,1] zbk (zau tP zcL K)
def zqs (t2 t3 t5 t6 t11 t17 t18 t19 t20 t21 t22 t120 t180 : AV) (H : zaa) (K : Kt) : Prop:=AWp tP zKg (zKf K) (ux 2 (t2 :: t3 :: ux 1 (t5 :: t6 :: ux 4 (t11 :: ux 5 (t17 :: t18 :: t19 :: t20 :: t21 :: t22 :: ux 97 (t120 :: ux 59 (t180 :: ux 691 []))))))) H
def zxj (t2 t3 t5 t6 t11 t17 t18 t19 t20 t21 t22 t120 t180 : AV) (H : zaa) (K : Kt) : Prop:=
 zag t180
 (zab t21 true H (fun K'=>K' t22 H) fun t184 H=>
 zah t21 t184 (.bool false) fun t185=>
 zab t185 true H (fun K'=>K' t5 H) fun t187 H=>
 zab t185 true H (fun K'=>zaf 5 t3 (K' · H)) fun t188 H=>
 zab t185 true H (fun K'=>zae true 3 t188 H (K' · H)) fun t189 H=>
 zab t185 true H (fun K'=>zav 3 [(.int .i64 0),(.int .i64 0),.snil] 1 [(0,t189)] (K' · H)) fun t190 H=>
 zab t185 true H (fun K'=>ACalls tP zc4 [t187,t190] H K') fun t191 H=>
 zah t185 t191 (.bool false) fun t192=>
 K t192 H)
 (zad .eql false t120 (.int .i64 5) fun t194=>
 zag t194
 (zab t21 true H (fun K'=>K' t22 H) fun t197 H=>
 zah t21 t197 (.bool false) fun t198=>
 zab t198 true H (fun K'=>K' t20 H) fun t200 H=>
 zab t198 true H (fun K'=>zad .eql false t200 (.int .i64 6) (K' · H)) fun t201 H=>
 zah t198 t201 (.bool false) fun t202=>
 zab t202 true H (fun K'=>K' t5 H) fun t204 H=>
 zab t202 true H (fun K'=>zaf 5 t3 (K' · H)) fun t205 H=>
 zab t202 true H (fun K'=>zaf 2 t205 (K' · H)) fun t206 H=>
 zab t202 true H (fun K'=>zae false 1 t206 H (K' · H)) fun t207 H=>
 zab t202 true H (fun K'=>ACalls tP zdl [t204,t207] H K') fun t208 H=>
 zah t202 t208 (.bool false) fun t209=>
 K t209 H)
 (zad .eql false t120 (.int .i64 6) fun t211=>
 zag t211
 (zaf 1 t3 fun t212=>
 zae false 1 t212 H fun t213=>
 zad .lss false t213 (.int .i64 0) fun t214=>
 zab t214 false H (fun K'=>zaf 1 t3 (K' · H)) fun t216 H=>
 zab t214 false H (fun K'=>zae false 1 t216 H (K' · H)) fun t217 H=>
 zab t214 false H (fun K'=>zad .geq false t217 (.int .i64 8) (K' · H)) fun t218 H=>
 zah t214 (.bool true) t218 fun t219=>
 zag t219
 (K (.bool false) H)
 (zaf 0 t2 fun t221=>
 zae false 1 t221 H fun t222=>
 zaf 5 t3 fun t223=>
 zae true 3 t223 H fun t224=>
 zaf 1 t3 fun t225=>
 zae false 1 t225 H fun t226=>
 ACalls tP zg8 [t222,t224,t226] H fun t227 H=>
 zbb t227 0 fun t228=>
 zbb t227 1 fun t229=>
 zab t22 true H (fun K'=>K' t229 H) fun t232 H=>
 zah t22 t232 (.bool false) fun t233=>
 zab t233 true H (fun K'=>K' t5 H) fun t235 H=>
 zab t233 true H (fun K'=>K' t228 H) fun t236 H=>
 zab t233 true H (fun K'=>ACalls tP zdl [t235,t236] H K') fun t237 H=>
 zah t233 t237 (.bool false) fun t238=>
 K t238 H))
 (zad .eql false t120 (.int .i64 7) fun t240=>
 zag t240
 (zac H (fun K'=>K' t21 H) fun t241=>
 zac H (fun K'=>K' t241 H) fun t242=>
 zab t242 true H (fun K'=>zac H (fun K''=>K'' t5 H) (K' · H)) fun t243 H=>
 zab t242 true H (fun K'=>zac H (fun K''=>zaj 1 t243 (K'' · H)) (K' · H)) fun t244 H=>
 zab t242 true H (fun K'=>zac H (fun K''=>zad .eql false t244 (.int .i64 0) (K'' · H)) (K' · H)) fun t245 H=>
 zac H (fun K'=>zah t242 t245 (.bool false) (K' · H)) fun t246=>
 zac H (fun K'=>K' t246 H) fun t247=>
 zab t247 true H (fun K'=>zac H (fun K''=>K'' t6 H) (K' · H)) fun t248 H=>
 zab t247 true H (fun K'=>zac H (fun K''=>zaj 1 t248 (K'' · H)) (K' · H)) fun t249 H=>
 zab t247 true H (fun K'=>zac H (fun K''=>zad .eql false t249 (.int .i64 2) (K'' · H)) (K' · H)) fun t250 H=>
 zac H (fun K'=>zah t247 t250 (.bool false) (K' · H)) fun t251=>
 zac H (fun K'=>K' t251 H) fun t252=>
 zab t252 true H (fun K'=>zac H (fun K''=>K'' t11 H) (K' · H)) fun t253 H=>
 zab t252 true H (fun K'=>zac H (fun K''=>zai 1 t253 (.int .i64 0) (K'' · H)) (K' · H)) fun t254 H=>
 zab t252 true H (fun K'=>zac H (fun K''=>zak false 1 t254 H (K'' · H)) (K' · H)) fun t255 H=>
 zab t252 true H (fun K'=>zac H (fun K''=>zaj 1 t255 (K'' · H)) (K' · H)) fun t256 H=>
 zab t252 true H (fun K'=>zac H (fun K''=>zad .eql false t256 (.int .i64 0) (K'' · H)) (K' · H)) fun t257 H=>
 zac H (fun K'=>zah t252 t257 (.bool false) (K' · H)) fun t258=>
 zac H (fun K'=>K' t258 H) fun t259=>
 zab t259 true H (fun K'=>zac H (fun K''=>K'' t11 H) (K' · H)) fun t260 H=>
 zab t259 true H (fun K'=>zac H (fun K''=>zai 1 t260 (.int .i64 1) (K'' · H)) (K' · H)) fun t261 H=>
 zab t259 true H (fun K'=>zac H (fun K''=>zak false 1 t261 H (K'' · H)) (K' · H)) fun t262 H=>
 zab t259 true H (fun K'=>zac H (fun K''=>K'' t6 H) (K' · H)) fun t263 H=>
 zab t259 true H (fun K'=>zac H (fun K''=>zai 3 t263 (.int .i64 0) (K'' · H)) (K' · H)) fun t264 H=>
 zab t259 true H (fun K'=>zac H (fun K''=>zak true 3 t264 H (K'' · H)) (K' · H)) fun t265 H=>
 zab t259 true H (fun K'=>zac H (fun K''=>zav 3 [(.int .i64 0),(.int .i64 0),.snil] 1 [(0,t265)] (K'' · H)) (K' · H)) fun t266 H=>
 zab t259 true H (fun K'=>zaw H (fun H K''=>ACalls tP zc4 [t262,t266] H K'') (K' · H)) fun t267 H=>
 zac H (fun K'=>zah t259 t267 (.bool false) (K' · H)) fun t268=>
 zac H (fun K'=>K' t268 H) fun t269=>
 zab t269 true H (fun K'=>zac H (fun K''=>K'' t6 H) (K' · H)) fun t270 H=>
 zab t269 true H (fun K'=>zac H (fun K''=>zai 3 t270 (.int .i64 1) (K'' · H)) (K' · H)) fun t271 H=>
 zab t269 true H (fun K'=>zac H (fun K''=>zak true 3 t271 H (K'' · H)) (K' · H)) fun t272 H=>
 zab t269 true H (fun K'=>zac H (fun K''=>zaf 5 t3 (K'' · H)) (K' · H)) fun t273 H=>
 zab t269 true H (fun K'=>zac H (fun K''=>zak true 3 t273 H (K'' · H)) (K' · H)) fun t274 H=>
 zab t269 true H (fun K'=>zaw H (fun H K''=>ACalls tP zcE [t272,t274] H K'') (K' · H)) fun t275 H=>
 zac H (fun K'=>zah t269 t275 (.bool false) (K' · H)) fun t276=>
 zac H (fun K'=>K' t276 H) fun t4=>
 K t4 H)
 (zad .eql false t120 (.int .i64 8) fun t278=>
 zag t278
 (zac H (fun K'=>K' t21 H) fun t279=>
 zac H (fun K'=>K' t279 H) fun t280=>
 zab t280 true H (fun K'=>zac H (fun K''=>K'' t5 H) (K' · H)) fun t281 H=>
 zab t280 true H (fun K'=>zac H (fun K''=>zaj 1 t281 (K'' · H)) (K' · H)) fun t282 H=>
 zab t280 true H (fun K'=>zac H (fun K''=>zad .eql false t282 (.int .i64 1) (K'' · H)) (K' · H)) fun t283 H=>
 zac H (fun K'=>zah t280 t283 (.bool false) (K' · H)) fun t284=>
 zac H (fun K'=>K' t284 H) fun t285=>
 zab t285 true H (fun K'=>zac H (fun K''=>K'' t5 H) (K' · H)) fun t286 H=>
 zab t285 true H (fun K'=>zac H (fun K''=>zai 3 t286 (.int .i64 0) (K'' · H)) (K' · H)) fun t287 H=>
 zab t285 true H (fun K'=>zac H (fun K''=>zaf 0 t287 (K'' · H)) (K' · H)) fun t288 H=>
 zab t285 true H (fun K'=>zac H (fun K''=>zak false 1 t288 H (K'' · H)) (K' · H)) fun t289 H=>
 zab t285 true H (fun K'=>zac H (fun K''=>zad .eql false t289 (.int .i64 6) (K'' · H)) (K' · H)) fun t290 H=>
 zac H (fun K'=>zah t285 t290 (.bool false) (K' · H)) fun t291=>
 zac H (fun K'=>K' t291 H) fun t292=>
 zab t292 true H (fun K'=>zac H (fun K''=>K'' t6 H) (K' · H)) fun t293 H=>
 zab t292 true H (fun K'=>zac H (fun K''=>zaj 1 t293 (K'' · H)) (K' · H)) fun t294 H=>
 zab t292 true H (fun K'=>zac H (fun K''=>zad .eql false t294 (.int .i64 1) (K'' · H)) (K' · H)) fun t295 H=>
 zac H (fun K'=>zah t292 t295 (.bool false) (K' · H)) fun t296=>
 zac H (fun K'=>K' t296 H) fun t297=>
 zab t297 true H (fun K'=>zac H (fun K''=>K'' t11 H) (K' · H)) fun t298 H=>
 zab t297 true H (fun K'=>zac H (fun K''=>zai 1 t298 (.int .i64 0) (K'' · H)) (K' · H)) fun t299 H=>
 zab t297 true H (fun K'=>zac H (fun K''=>zak false 1 t299 H (K'' · H)) (K' · H)) fun t300 H=>
 zab t297 true H (fun K'=>zac H (fun K''=>K'' t5 H) (K' · H)) fun t301 H=>
 zab t297 true H (fun K'=>zac H (fun K''=>zai 3 t301 (.int .i64 0) (K'' · H)) (K' · H)) fun t302 H=>
 zab t297 true H (fun K'=>zac H (fun K''=>zaf 2 t302 (K'' · H)) (K' · H)) fun t303 H=>
 zab t297 true H (fun K'=>zac H (fun K''=>zak false 1 t303 H (K'' · H)) (K' · H)) fun t304 H=>
 zab t297 true H (fun K'=>zaw H (fun H K''=>ACalls tP zdl [t300,t304] H K'') (K' · H)) fun t305 H=>
 zac H (fun K'=>zah t297 t305 (.bool false) (K' · H)) fun t306=>
 zac H (fun K'=>K' t306 H) fun t307=>
 zab t307 true H (fun K'=>zac H (fun K''=>K'' t6 H) (K' · H)) fun t308 H=>
 zab t307 true H (fun K'=>zac H (fun K''=>zai 3 t308 (.int .i64 0) (K'' · H)) (K' · H)) fun t309 H=>
 zab t307 true H (fun K'=>zac H (fun K''=>zak true 3 t309 H (K'' · H)) (K' · H)) fun t310 H=>
 zab t307 true H (fun K'=>zac H (fun K''=>zaf 5 t3 (K'' · H)) (K' · H)) fun t311 H=>
 zab t307 true H (fun K'=>zac H (fun K''=>zak true 3 t311 H (K'' · H)) (K' · H)) fun t312 H=>
 zab t307 true H (fun K'=>zaw H (fun H K''=>ACalls tP zcE [t310,t312] H K'') (K' · H)) fun t313 H=>
 zac H (fun K'=>zah t307 t313 (.bool false) (K' · H)) fun t314=>
 zac H (fun K'=>K' t314 H) fun t4=>
 K t4 H)
 (zad .eql false t120 (.int .i64 9) fun t316=>
 zqt t2 t3 t5 t6 t11 t17 t18 t19 t20 t21 t22 t120 t316 H K)))))
noncomputable def zKd : Code:=zan [1,1,1,1,1,1,1,1,1,1,1] zbk
def zKc (K : Kt) : AExit → List AV → zaa → Prop:=zao tP zaY [1,1,1,1,1,1,1,1,1,1,1] zbk (zau tP zcL K)
def zqr (t2 t3 t5 t6 t11 t17 t18 t19 t20 t21 t22 : AV) (H : zaa) (K : Kt) : Prop:=AWp tP zKd (zKc K) (ux 2 (t2 :: t3 :: ux 1 (t5 :: t6 :: ux 4 (t11 :: ux 5 (t17 :: t18 :: t19 :: t20 :: t21 :: t22 :: ux 849 []))))) H
def zxi (t2 t3 t5 t6 t11 t17 t18 t19 t20 t21 t22 : AV) (H : zaa) (K : Kt) : Prop:=
 zaf 0 t3 fun t119=>
 zae false 1 t119 H fun t120=>
 zad .eql false t120 (.int .i64 1) fun t122=>
 zag t122
 (zab t21 true H (fun K'=>K' t22 H) fun t125 H=>
 zah t21 t125 (.bool false) fun t126=>
 zab t126 true H (fun K'=>K' t5 H) fun t128 H=>
 zab t126 true H (fun K'=>zaj 1 t128 (K' · H)) fun t129 H=>
 zab t126 true H (fun K'=>zad .eql false t129 (.int .i64 0) (K' · H)) fun t130 H=>
 zah t126 t130 (.bool false) fun t131=>
 zab t131 true H (fun K'=>K' t20 H) fun t133 H=>
 zab t131 true H (fun K'=>zad .eql false t133 (.int .i64 3) (K' · H)) fun t134 H=>
 zah t131 t134 (.bool false) fun t135=>
 K t135 H)
 (zad .eql false t120 (.int .i64 2) fun t137=>
 zag t137
 (zaf 1 t3 fun t138=>
 zae false 1 t138 H fun t139=>
 zad .eql false t139 (.int .i64 0) fun t140=>
 zab t140 false H (fun K'=>zaf 1 t3 (K' · H)) fun t142 H=>
 zab t140 false H (fun K'=>zae false 1 t142 H (K' · H)) fun t143 H=>
 zab t140 false H (fun K'=>zad .eql false t143 (.int .i64 1) (K' · H)) fun t144 H=>
 zah t140 (.bool true) t144 fun t145=>
 zab t145 true H (fun K'=>K' t22 H) fun t147 H=>
 zah t145 t147 (.bool false) fun t148=>
 zab t148 true H (fun K'=>K' t5 H) fun t150 H=>
 zab t148 true H (fun K'=>zaj 1 t150 (K' · H)) fun t151 H=>
 zab t148 true H (fun K'=>zad .eql false t151 (.int .i64 0) (K' · H)) fun t152 H=>
 zah t148 t152 (.bool false) fun t153=>
 zab t153 true H (fun K'=>K' t20 H) fun t155 H=>
 zab t153 true H (fun K'=>zad .eql false t155 (.int .i64 2) (K' · H)) fun t156 H=>
 zah t153 t156 (.bool false) fun t157=>
 K t157 H)
 (zad .eql false t120 (.int .i64 3) fun t159=>
 zag t159
 (zaf 1 t3 fun t160=>
 zae false 1 t160 H fun t161=>
 zad .geq false t161 (.int .i64 (-1000000)) fun t162=>
 zab t162 true H (fun K'=>zaf 1 t3 (K' · H)) fun t164 H=>
 zab t162 true H (fun K'=>zae false 1 t164 H (K' · H)) fun t165 H=>
 zab t162 true H (fun K'=>zad .leq false t165 (.int .i64 1000000) (K' · H)) fun t166 H=>
 zah t162 t166 (.bool false) fun t167=>
 zab t167 true H (fun K'=>K' t22 H) fun t169 H=>
 zah t167 t169 (.bool false) fun t170=>
 zab t170 true H (fun K'=>K' t5 H) fun t172 H=>
 zab t170 true H (fun K'=>zaj 1 t172 (K' · H)) fun t173 H=>
 zab t170 true H (fun K'=>zad .eql false t173 (.int .i64 0) (K' · H)) fun t174 H=>
 zah t170 t174 (.bool false) fun t175=>
 zab t175 true H (fun K'=>K' t20 H) fun t177 H=>
 zab t175 true H (fun K'=>zad .eql false t177 (.int .i64 1) (K' · H)) fun t178 H=>
 zah t175 t178 (.bool false) fun t179=>
 K t179 H)
 (zad .eql false t120 (.int .i64 4) fun t181=>
 zqs t2 t3 t5 t6 t11 t17 t18 t19 t20 t21 t22 t120 t181 H K)))
noncomputable def zKa : Code:=zan [1,1,1,1,1,1,1,1] zbk
def zJ9 (K : Kt) : AExit → List AV → zaa → Prop:=zao tP zaY [1,1,1,1,1,1,1,1] zbk (zau tP zcL K)
def zk4 (t2 t3 t5 t6 t11 t17 t18 t19 : AV) (H : zaa) (K : Kt) : Prop:=AWp tP zKa (zJ9 K) (ux 2 (t2 :: t3 :: ux 1 (t5 :: t6 :: ux 4 (t11 :: ux 5 (t17 :: t18 :: t19 :: ux 852 []))))) H
def zxh (t2 t3 t5 t6 t11 t17 t18 t19 : AV) (H : zaa) (K : Kt) : Prop:=
 zaf 5 t3 fun t109=>
 zaf 0 t109 fun t110=>
 zae false 1 t110 H fun t111=>
 zaf 1 t3 fun t112=>
 zae false 1 t112 H fun t113=>
 zad .eql false t113 (.int .i64 0) fun t114=>
 zaf 4 t3 fun t115=>
 zae false 1 t115 H fun t116=>
 zaj 1 t116 fun t117=>
 zad .eql false t117 (.int .i64 0) fun t118=>
 zqr t2 t3 t5 t6 t11 t17 t18 t19 t111 t114 t118 H K
def zql (t2 t3 t5 t6 t11 t80 t81 t82 : AV) (H : zaa) (K : Kt) (Kb16 : Lt) : Prop:=
 zad .lss false t82 t81 fun t83=>
 zag t83
 (zai 1 t80 t82 fun t84=>
 zae false 1 t84 H fun t85=>
 zaj 1 t85 fun t87=>
 zk8 t2 t3 t5 t6 t11 .snil t80 t81 t82 t85 t87 (.int .i64 0) H K Kb16)
 (zaL [(.int .i64 0),(.int .i64 0),.snil] [(0,1),(1,1),(2,1)] [(0,(.int .i64 1))] fun t106=>
 zaL [(.int .i64 0),(.int .i64 0),.snil] [(0,1),(1,1),(2,1)] [(0,(.int .i64 2))] fun t107=>
 zaL [(.int .i64 0),(.int .i64 0),.snil] [(0,1),(1,1),(2,1)] [(0,(.int .i64 3))] fun t108=>
 zaA [(.int .i64 0),(.int .i64 0),.snil] H fun t17 H=>
 zaA [(.int .i64 0),(.int .i64 0),.snil] H fun t18 H=>
 zaA [(.int .i64 0),(.int .i64 0),.snil] H fun t19 H=>
 zar 3 t17 t106 H fun H=>
 zar 3 t18 t107 H fun H=>
 zar 3 t19 t108 H fun H=>
 zk4 t2 t3 t5 t6 t11 t17 t18 t19 H K)
noncomputable def zJ7 : Code:=zan [1,1,1,1,1] zbk
def zJ6 (K : Kt) : AExit → List AV → zaa → Prop:=zao tP zaY [1,1,1,1,1] zbk (zau tP zcL K)
def zxf (t2 t3 t5 t6 : AV) (H : zaa) (K : Kt) : Prop:=AWp tP zJ7 (zJ6 K) (ux 2 (t2 :: t3 :: ux 1 (t5 :: t6 :: ux 865 []))) H
def zxg (t2 t3 t5 t6 : AV) (H : zaa) (K : Kt) : Prop:=
 zaf 3 t3 fun t79=>
 zae false 1 t79 H fun t80=>
 zaj 1 t80 fun t81=>
 zk7 t2 t3 t5 t6 .snil t80 t81 (.int .i64 0) H K
def zqk (t2 t3 t5 t6 t63 t64 t65 : AV) (H : zaa) (K : Kt) (Kb10 : Lt) : Prop:=
 zad .lss false t65 t64 fun t66=>
 zag t66
 (zai 1 t63 t65 fun t67=>
 zae false 1 t67 H fun t68=>
 zaf 3 t2 fun t70=>
 zae false 1 t70 H fun t71=>
 zai 8 t71 t68 fun t73=>
 zaf 5 t73 fun t74=>
 zae true 3 t74 H fun t75=>
 zav 3 [(.int .i64 0),(.int .i64 0),.snil] 1 [(0,t75)] fun t76=>
 zaC zaB 3 40 t6 t76 H fun t77 H=>
 zad .add false t65 (.int .i64 1) fun t78=>
 Kb10 (zkW t2 t3 t5 t77 t63 t64 t78) H)
 (zxf t2 t3 t5 t6 H K)
def zqn (t2 t3 t5 t6 t47 t48 t49 : AV) (H : zaa) (K : Kt) (Kb5 : Lt) : Prop:=
 zad .lss false t49 t48 fun t50=>
 zag t50
 (zai 1 t47 t49 fun t51=>
 zae false 1 t51 H fun t52=>
 zaf 2 t2 fun t54=>
 zae false 1 t54 H fun t55=>
 zai 3 t55 t52 fun t57=>
 zae true 3 t57 H fun t58=>
 zav 3 [(.int .i64 0),(.int .i64 0),.snil] 1 [(0,t58)] fun t59=>
 zaC zaB 3 40 t5 t59 H fun t60 H=>
 zad .add false t49 (.int .i64 1) fun t61=>
 Kb5 (zkZ t2 t3 t60 t6 t47 t48 t61) H)
 (zaf 4 t3 fun t62=>
 zae false 1 t62 H fun t63=>
 zaj 1 t63 fun t64=>
 zk6 t2 t3 t5 t6 t63 t64 (.int .i64 0) H K)
noncomputable def zJ4 : Code:=zan [1,1] zbk
def zJ3 (K : Kt) : AExit → List AV → zaa → Prop:=zao tP zaY [1,1] zbk (zau tP zcL K)
def zxd (t2 t3 : AV) (H : zaa) (K : Kt) : Prop:=AWp tP zJ4 (zJ3 K) (ux 2 (t2 :: t3 :: ux 868 [])) H
def zxe (t2 t3 : AV) (H : zaa) (K : Kt) : Prop:=
 zaf 2 t3 fun t46=>
 zae false 1 t46 H fun t47=>
 zaj 1 t47 fun t48=>
 zhJ t2 t3 .snil .snil t47 t48 (.int .i64 0) H K
def zxb (t0 t1 : AV) (H : zaa) (K : Kt) : Prop:=
 zaF t0 H fun t2 H=>
 zaF t1 H fun t3 H=>
 zaf 0 t2 fun t40=>
 zae false 1 t40 H fun t41=>
 zaf 5 t3 fun t42=>
 zae true 3 t42 H fun t43=>
 ACalls tP zfW [t41,t43,(.int .i64 0)] H fun t44 H=>
 aUn .not t44 fun t45=>
 zag t45
 (K (.bool false) H)
 (zxd t2 t3 H K)
theorem zKw {t2 t3 t5 t6 t11 t14 t80 t81 t82 t86 t87 t88 : AV} {H : zaa} {K : Kt} {Kb16 : Lt} (Inv : Nat → AV → AV → zaa → Prop) (n : Nat) (h0 : HSc H → Inv n t14 t88 H)
  (round : Rd2 (fun t14=>fun t88=>zkY t2 t3 t5 t6 t11 t14 t80 t81 t82 t86 t87 t88) (fun t14=>fun t88=>fun H Kb20=>zqm t2 t3 t5 t6 t11 t14 t80 t81 t82 t86 t87 t88 H K Kb16 Kb20) H Inv) : zk8 t2 t3 t5 t6 t11 t14 t80 t81 t82 t86 t87 t88 H K Kb16:=
 lp2 (M:=zaY) zKD t14 t88 (by kernel_rfl) Inv n h0 round
theorem zKy {t2 t3 t5 t6 t11 t379 t380 : AV} {H : zaa} {K : Kt} (Inv : Nat → AV → zaa → Prop) (n : Nat) (h0 : HSc H → Inv n t380 H)
  (round : Rd1 (fun t380=>zk0 t2 t3 t5 t6 t11 t379 t380) (fun t380=>fun H Kb56=>zqo t2 t3 t5 t6 t11 t379 t380 H K Kb56) H Inv) : zxo t2 t3 t5 t6 t11 t379 t380 H K:=
 lp1 (M:=zaY) zKF t380 (by kernel_rfl) Inv n h0 round
theorem zKA {t2 t3 t5 t20 t22 t28 t29 t30 t440 t441 t442 : AV} {H : zaa} {K : Kt} (Inv : Nat → AV → AV → zaa → Prop) (n : Nat) (h0 : HSc H → Inv n t30 t442 H)
  (round : Rd2 (fun t30=>fun t442=>zk2 t2 t3 t5 t20 t22 t28 t29 t30 t440 t441 t442) (fun t30=>fun t442=>fun H Kb72=>zhI t2 t3 t5 t20 t22 t28 t29 t30 t440 t441 t442 H K Kb72) H Inv) : zk9 t2 t3 t5 t20 t22 t28 t29 t30 t440 t441 t442 H K:=
 lp2 (M:=zaY) zKH t30 t442 (by kernel_rfl) Inv n h0 round
theorem zKz {t2 t3 t5 t20 t22 t28 t29 t30 t424 t425 t426 : AV} {H : zaa} {K : Kt} (Inv : Nat → AV → AV → zaa → Prop) (n : Nat) (h0 : HSc H → Inv n t29 t426 H)
  (round : Rd2 (fun t29=>fun t426=>zk1 t2 t3 t5 t20 t22 t28 t29 t30 t424 t425 t426) (fun t29=>fun t426=>fun H Kb67=>zqp t2 t3 t5 t20 t22 t28 t29 t30 t424 t425 t426 H K Kb67) H Inv) : zhK t2 t3 t5 t20 t22 t28 t29 t30 t424 t425 t426 H K:=
 lp2 (M:=zaY) zKG t29 t426 (by kernel_rfl) Inv n h0 round
theorem zKB {t2 t3 t5 t22 t35 t36 t506 t507 t508 : AV} {H : zaa} {K : Kt} (Inv : Nat → AV → AV → zaa → Prop) (n : Nat) (h0 : HSc H → Inv n t36 t508 H)
  (round : Rd2 (fun t36=>fun t508=>zk3 t2 t3 t5 t22 t35 t36 t506 t507 t508) (fun t36=>fun t508=>fun H Kb83=>zkV t2 t3 t5 t22 t35 t36 t506 t507 t508 H K Kb83) H Inv) : zhL t2 t3 t5 t22 t35 t36 t506 t507 t508 H K:=
 lp2 (M:=zaY) zKI t36 t508 (by kernel_rfl) Inv n h0 round
theorem zKq {t3 t5 t17 t20 t22 t39 : AV} {H : zaa} {K : Kt} (h : HSc H → zxm t3 t5 t17 t20 t22 t39 H K) : zk5 t3 t5 t17 t20 t22 t39 H K:=
 fun B w G a hH hF hd=>zbH (M:=zaY) _ _ _ _ (Eq.mpr (by kernel_rfl) (h hH.sc)) B w G a hH hF hd
theorem zKt {t3 t5 t6 t11 t17 t19 t20 t21 t22 t120 t715 : AV} {H : zaa} {K : Kt} (h : HSc H → zxn t3 t5 t6 t11 t17 t19 t20 t21 t22 t120 t715 H K) : zqv t3 t5 t6 t11 t17 t19 t20 t21 t22 t120 t715 H K:=
 fun B w G a hH hF hd=>zbH (M:=zaY) _ _ _ _ (Eq.mpr (by kernel_rfl) (h hH.sc)) B w G a hH hF hd
theorem zKn {t3 t5 t6 t11 t17 t19 t20 t21 t22 t120 t566 : AV} {H : zaa} {K : Kt} (h : HSc H → zxl t3 t5 t6 t11 t17 t19 t20 t21 t22 t120 t566 H K) : zqu t3 t5 t6 t11 t17 t19 t20 t21 t22 t120 t566 H K:=
 fun B w G a hH hF hd=>zbH (M:=zaY) _ _ _ _ (Eq.mpr (by kernel_rfl) (h hH.sc)) B w G a hH hF hd
theorem zKk {t2 t3 t5 t6 t11 t17 t18 t19 t20 t21 t22 t120 t315 : AV} {H : zaa} {K : Kt} (h : HSc H → zxk t2 t3 t5 t6 t11 t17 t18 t19 t20 t21 t22 t120 t315 H K) : zqt t2 t3 t5 t6 t11 t17 t18 t19 t20 t21 t22 t120 t315 H K:=
 fun B w G a hH hF hd=>zbH (M:=zaY) _ _ _ _ (Eq.mpr (by kernel_rfl) (h hH.sc)) B w G a hH hF hd
theorem zKh {t2 t3 t5 t6 t11 t17 t18 t19 t20 t21 t22 t120 t180 : AV} {H : zaa} {K : Kt} (h : HSc H → zxj t2 t3 t5 t6 t11 t17 t18 t19 t20 t21 t22 t120 t180 H K) : zqs t2 t3 t5 t6 t11 t17 t18 t19 t20 t21 t22 t120 t180 H K:=
 fun B w G a hH hF hd=>zbH (M:=zaY) _ _ _ _ (Eq.mpr (by kernel_rfl) (h hH.sc)) B w G a hH hF hd
theorem zKe {t2 t3 t5 t6 t11 t17 t18 t19 t20 t21 t22 : AV} {H : zaa} {K : Kt} (h : HSc H → zxi t2 t3 t5 t6 t11 t17 t18 t19 t20 t21 t22 H K) : zqr t2 t3 t5 t6 t11 t17 t18 t19 t20 t21 t22 H K:=
 fun B w G a hH hF hd=>zbH (M:=zaY) _ _ _ _ (Eq.mpr (by kernel_rfl) (h hH.sc)) B w G a hH hF hd
theorem zKb {t2 t3 t5 t6 t11 t17 t18 t19 : AV} {H : zaa} {K : Kt} (h : HSc H → zxh t2 t3 t5 t6 t11 t17 t18 t19 H K) : zk4 t2 t3 t5 t6 t11 t17 t18 t19 H K:=
 fun B w G a hH hF hd=>zbH (M:=zaY) _ _ _ _ (Eq.mpr (by kernel_rfl) (h hH.sc)) B w G a hH hF hd
theorem zKv {t2 t3 t5 t6 t11 t80 t81 t82 : AV} {H : zaa} {K : Kt} (Inv : Nat → AV → AV → zaa → Prop) (n : Nat) (h0 : HSc H → Inv n t11 t82 H)
  (round : Rd2 (fun t11=>fun t82=>zkX t2 t3 t5 t6 t11 t80 t81 t82) (fun t11=>fun t82=>fun H Kb16=>zql t2 t3 t5 t6 t11 t80 t81 t82 H K Kb16) H Inv) : zk7 t2 t3 t5 t6 t11 t80 t81 t82 H K:=
 lp2 (M:=zaY) zxp t11 t82 (by kernel_rfl) Inv n h0 round
theorem zJ8 {t2 t3 t5 t6 : AV} {H : zaa} {K : Kt} (h : HSc H → zxg t2 t3 t5 t6 H K) : zxf t2 t3 t5 t6 H K:=
 fun B w G a hH hF hd=>zbH (M:=zaY) _ _ _ _ (Eq.mpr (by kernel_rfl) (h hH.sc)) B w G a hH hF hd
theorem zKu {t2 t3 t5 t6 t63 t64 t65 : AV} {H : zaa} {K : Kt} (Inv : Nat → AV → AV → zaa → Prop) (n : Nat) (h0 : HSc H → Inv n t6 t65 H)
  (round : Rd2 (fun t6=>fun t65=>zkW t2 t3 t5 t6 t63 t64 t65) (fun t6=>fun t65=>fun H Kb10=>zqk t2 t3 t5 t6 t63 t64 t65 H K Kb10) H Inv) : zk6 t2 t3 t5 t6 t63 t64 t65 H K:=
 lp2 (M:=zaY) zKC t6 t65 (by kernel_rfl) Inv n h0 round
theorem zKx {t2 t3 t5 t6 t47 t48 t49 : AV} {H : zaa} {K : Kt} (Inv : Nat → AV → AV → zaa → Prop) (n : Nat) (h0 : HSc H → Inv n t5 t49 H)
  (round : Rd2 (fun t5=>fun t49=>zkZ t2 t3 t5 t6 t47 t48 t49) (fun t5=>fun t49=>fun H Kb5=>zqn t2 t3 t5 t6 t47 t48 t49 H K Kb5) H Inv) : zhJ t2 t3 t5 t6 t47 t48 t49 H K:=
 lp2 (M:=zaY) zKE t5 t49 (by kernel_rfl) Inv n h0 round
theorem zJ5 {t2 t3 : AV} {H : zaa} {K : Kt} (h : HSc H → zxe t2 t3 H K) : zxd t2 t3 H K:=
 fun B w G a hH hF hd=>zbH (M:=zaY) _ _ _ _ (Eq.mpr (by kernel_rfl) (h hH.sc)) B w G a hH hF hd
theorem zKJ {t0 t1 : AV} {H : zaa} {K : Kt} (h : HSc H → zxb t0 t1 H K) : ACalls tP znA [t0,t1] H K:=
 zax (M:=zaY) Try.func53 (c:=zbk) (by kernel_rfl) (fun hs=>Eq.mpr (by kernel_rfl) (h hs))
end Go.Proofs.Ytkdmpbhbmmhijaa
namespace Go.Proofs.Ytkdmpbhbmmhijaa
open Go Go.Abs
set_option maxRecDepth 8000
def hd0 (l : List VT) : VT:=l.getD 0 (.mk 0 0 [])
def hd1 (l : List VT) : VT:=l.getD 1 (.mk 0 0 [])
def bAt (bs : List (List VT)) (k : Nat) : List VT:=bs.getD k []
def caseR (c : Cor) (t u : VT) (ks : List VT) (bs : List (List VT)) (k : Nat) : Bool:=(match zbx c.data t k with | some fs=>VT.sameL (bAt bs k) fs | none=>false) && (ks.getD k (.mk 0 0 [])).same u
def zdh (c : Cor) (n : Int) : Cod:=(c.codes[n.toNat]?).getD ⟨[],[],[],.mk 0 0 [],0⟩
def refR9 (c : Cor) (e : CEx) (nz lf : Bool) (vs ks : List VT) (bs : List (List VT)) : Bool:=
 if e.op = 19 then nz && (lf && (((vs.length : Int) == 1) && ((e.ty.kind == 8) && (hd0 vs).same (zb9 e.ty))))
 else if e.op = 20 then nz && (lf && (((vs.length : Int) == 1) && (((hd0 vs).kind == 8) && (zb9 (hd0 vs)).same e.ty)))
 else if e.op = 21 then nz && (lf && (((vs.length : Int) == 2) && (((hd0 vs).kind == 8) && ((zb9 (hd0 vs)).same (hd1 vs) && e.ty.same (sm 3)))))
 else if e.op = 22 then decide (-1000 ≤ e.num) && (decide (e.num ≤ 1000) && (lf && (((vs.length : Int) == 0) && (e.ty.kind == 3))))
 else if e.op = 23 then nz && (lf && VT.sameL vs [sm 1])
 else if e.op = 24 then nz && (((vs.length : Int) == 0) && (VT.sameL ks [e.ty,e.ty] && (((bAt bs 0).length : Int) == 0 && VT.sameL (bAt bs 1) [sm 1])))
 else false
def refR7 (c : Cor) (e : CEx) (nz lf : Bool) (vs ks : List VT) (bs : List (List VT)) : Bool:=
 if e.op = 14 then decide (1 ≤ e.num) && (decide (e.num ≤ 8) && (lf && (VT.sameL vs [sm 1,sm 1] && (e.ty.kind == if 6 ≤ e.num then 2 else 1))))
 else if e.op = 15 then nz && (lf && (((vs.length : Int) == 2) && ((e.ty.kind == 7) && VT.sameL vs [sm 1,zb9 e.ty])))
 else if e.op = 16 then nz && (lf && (((vs.length : Int) == 2) && (((hd0 vs).kind == 7) && (VT.sameL (vs.drop 1) [sm 1] && (zb9 (hd0 vs)).same e.ty))))
 else if e.op = 17 then nz && (lf && (((vs.length : Int) == 3) && (((hd0 vs).kind == 7) && (VT.sameL (vs.drop 1) [sm 1,zb9 (hd0 vs)] && e.ty.same (sm 3)))))
 else if e.op = 18 then nz && (lf && (((vs.length : Int) == 1) && (((hd0 vs).kind == 7) && (e.ty.kind == 1))))
 else refR9 c e nz lf vs ks bs
def refR6 (c : Cor) (e : CEx) (nz lf : Bool) (vs ks : List VT) (bs : List (List VT)) : Bool:=
 if e.op = 9 then nz && (VT.sameL vs [sm 2] && (VT.sameL ks [e.ty,e.ty] && (((bAt bs 0).length : Int) == 0 && ((bAt bs 1).length : Int) == 0)))
 else if e.op = 10 then nz && (((vs.length : Int) == 1) && (((hd0 vs).kind == 5) && ((ks.length : Int) == zfP c (hd0 vs) && (List.range ks.length).all (caseR c (hd0 vs) e.ty ks bs))))
 else if e.op = 11 then lf && ((e.ty.kind == 9) && (VT.sameL vs (zam c (zdh c e.num).capt) && VT.sameL e.ty.kids (zam c (zdh c e.num).params ++ [(zdh c e.num).res])))
 else if e.op = 12 then decide (0 ≤ e.num) && (decide (e.num < c.codes.length) && (!(zdh c e.num).name.isEmpty && (lf && (VT.sameL vs (zam c (zdh c e.num).params) && e.ty.same (zdh c e.num).res))))
 else if e.op = 13 then nz && (lf && (decide (1 ≤ (vs.length : Int)) && (((hd0 vs).kind == 9) && VT.sameL (vs.drop 1 ++ [e.ty]) (hd0 vs).kids)))
 else refR7 c e nz lf vs ks bs
def refR5 (c : Cor) (e : CEx) (nz lf : Bool) (vs ks : List VT) (bs : List (List VT)) : Bool:=
 if e.op = 4 then nz && (lf && VT.sameL vs [e.ty])
 else if e.op = 5 then nz && (lf && ((e.ty.kind == 6) && VT.sameL vs e.ty.kids))
 else if e.op = 6 then decide (0 ≤ e.num) && (decide (e.num < 8) && (lf && (match zbx c.data e.ty e.num with | some fs=>VT.sameL vs fs | none=>false)))
 else if e.op = 7 then nz && (((vs.length : Int) == 0) && (((ks.length : Int) == 2) && (((bAt bs 0).length : Int) == 0 && (VT.sameL (bAt bs 1) [hd0 ks] && (hd1 ks).same e.ty))))
 else if e.op = 8 then nz && (((vs.length : Int) == 1) && (((hd0 vs).kind == 6) && (((ks.length : Int) == 1) && (VT.sameL (bAt bs 0) (hd0 vs).kids && (hd0 ks).same e.ty))))
 else refR6 c e nz lf vs ks bs
def refR4 (c : Cor) (e : CEx) (nz lf : Bool) (vs ks : List VT) (bs : List (List VT)) : Bool:=
 if e.op = 1 then nz && (lf && (((vs.length : Int) == 0) && (e.ty.kind == 3)))
 else if e.op = 2 then (e.num == 0 || e.num == 1) && (lf && (((vs.length : Int) == 0) && (e.ty.kind == 2)))
 else if e.op = 3 then decide (-1000000 ≤ e.num) && (decide (e.num ≤ 1000000) && (lf && (((vs.length : Int) == 0) && (e.ty.kind == 1))))
 else refR5 c e nz lf vs ks bs
def bsV (bs : List (List VT)) : List (List AV):=bs.map fun b=>[.sl (VT.css b) .none]
def zal (e : CEx) : List AV:=[.int .i64 e.op,.int .i64 e.num,.sl (ints e.vars) .none,.sl (rows e.binds) .none,.sl (ints e.kids) .none,.int .i64 e.ty.kind,.int .i64 e.ty.num,.sl (VT.css e.ty.kids) .none]
def zap (H : zaa) (c : Cor) (e : CEx) (P1 P2 P3 : AB) : zaa:=H ++ [.cells [.sl (c.data.map Dat.cs) .none,.sl (c.codes.map Cod.cs) .none,.sl (VT.css c.vars) .none,.sl (c.exprs.map CEx.cs) .none],.cells (zal e),P1,P2,P3,.cells [.int .i64 1,.int .i64 0,.sl [] .none],.cells [.int .i64 2,.int .i64 0,.sl [] .none],.cells [.int .i64 3,.int .i64 0,.sl [] .none]]
structure RIn (c : Cor) (e : CEx) (vs ks : List VT) (bs : List (List VT)) : Prop where
 kcore : zaP c
 ety : zaz c.data 0 e.ty = true
 en : e.ty.nodes ≤ 250
 vsP : ∀ v ∈ vs,zaz c.data 0 v = true ∧ v.nodes ≤ 250
 vl : vs.length ≤ 40
 ksP : ∀ v ∈ ks,v.nodes ≤ 250
 kl : ks.length ≤ 10
 bl : bs.length = ks.length
 bsP : ∀ b ∈ bs,b.length ≤ 10 ∧ ∀ v ∈ b,v.nodes ≤ 250
 codes : ∀ f ∈ c.codes,inV c f.params ∧ inV c f.capt
 lam : e.op = 11 → ∃ n : Nat,e.num = n ∧ n < c.codes.length
theorem zek (x ts : List VT) (hx : ∀ v ∈ x,v.nodes ≤ 250) (hl : x.length ≤ 1000) {es fs : List (List AV)} {t1 t2 : Tok} (he : es = VT.css x) (hf : fs = VT.css ts) (H : zaa) (K : AV → zaa → Prop) (hK : K (.bool (VT.sameL x ts)) H) : ACalls tP zdl [.sl es t1,.sl fs t2] H K:=by
 subst he hf
 exact ACalls.wk (zNq x ts (fun v hv=>by have:=hx v hv; omega) (by omega) H K hK) ⟨.atom (.sl _ _),.atom (.sl _ _),trivial⟩
theorem zdC (x ts : List VT) (hx : ∀ v ∈ x,v.nodes ≤ 250) (hl : x.length ≤ 1000) {es fs : List (List AV)} {t1 t2 : Tok} (he : es = VT.css x) (hf : fs = VT.css ts) (H : zaa) (K : AV → zaa → Prop) (hK : K (.bool (VT.sameL x ts)) H) : ACalls tP zc4 [.sl es t1,.sl fs t2] H K:=by
 refine zNj fun hs=>?_
 simp [zyt]
 exact zek x ts hx hl he hf H K hK
theorem zdA {v u : VT} (hv : v.nodes ≤ 1000) (H : zaa) (K : AV → zaa → Prop) (hK : K (.bool (v.same u)) H) : ACalls tP zcE [.agg v.cs,.agg u.cs] H K:=zw5 _ v u (Nat.le_refl _) (by omega) H K hK
theorem zt6 {c : Cor} (hc : zaP c) {t : VT} (ht : t.nodes ≤ 1000) (k : Int) (H : zaa) (K : AV → zaa → Prop) (hK : K (zcA (zbx c.data t k)) H) : ACalls tP zg8 [.sl (c.data.map Dat.cs) .none,.agg t.cs,.int .i64 k] H K:=
 zNx c.data (by obtain ⟨⟨k1,_⟩,_⟩:=hc; omega) (zgV hc).1 (zgV hc).2 t ht k H K hK
theorem zcB {α : Type} {l : List α} (h : ((l.length : Int) == 1) = true) : ∃ a,l = [a]:=by
 have : l.length = 1:=by have:=eq_of_beq h; omega
 match l,this with
 | [a],_=>exact ⟨a,rfl⟩
theorem zcC {α : Type} {l : List α} (h : ((l.length : Int) == 2) = true) : ∃ a b,l = [a,b]:=by
 have : l.length = 2:=by have:=eq_of_beq h; omega
 match l,this with
 | [a,b],_=>exact ⟨a,b,rfl⟩
theorem ztm {α : Type} {l : List α} (h : ((l.length : Int) == 3) = true) : ∃ a b c,l = [a,b,c]:=by
 have : l.length = 3:=by have:=eq_of_beq h; omega
 match l,this with
 | [a,b,d],_=>exact ⟨a,b,d,rfl⟩
theorem zat (v : VT) : v.cs = [.int .i64 v.kind,.int .i64 v.num,.sl (VT.css v.kids) .none]:=by cases v; rfl
theorem zfk {c : Cor} {t : VT} (h : zaz c.data 0 t = true) (hk : (t.kind == 7) = true ∨ (t.kind == 8) = true) : ∃ a,t.kids = [a] ∧ zb9 t = a:=by
 obtain ⟨a,ha,_⟩:=zuX h (by rcases hk with h | h <;> simp at h <;> simp [h])
 exact ⟨a,ha,by simp [zb9,ha]⟩
theorem ze8 {t a : VT} (h : t.kids = [a]) (ht : t.nodes ≤ 250) : a.nodes ≤ 250:=by
 obtain ⟨k,n,ks⟩:=t
 simp only [VT.kids] at h
 subst h
 simp [VT.nodes,VT.nodesL] at ht
 omega
end Go.Proofs.Ytkdmpbhbmmhijaa
