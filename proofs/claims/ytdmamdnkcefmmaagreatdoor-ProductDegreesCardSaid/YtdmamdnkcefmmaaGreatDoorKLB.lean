import Derived.Test.YtdmamdnkcefmmaaGreatDoorKNum
import Derived.Test.YtdmamdnkcefmmaaGreatDoorProg
import Derived.KernelRfl
import Derived.Test.YtdmamdnkcefmmaaGreatDoorKOJ
import Derived.Test.YtdmamdnkcefmmaaGreatDoorKME
import Derived.Test.YtdmamdnkcefmmaaGreatDoorKGQ1
import Derived.Test.YtdmamdnkcefmmaaGreatDoorKI7
import Derived.Test.YtdmamdnkcefmmaaGreatDoorVT
set_option linter.unusedSimpArgs false
set_option linter.unusedVariables false
set_option maxRecDepth 8000
namespace Go.Proofs.YtdmamdnkcefmmaaGreatDoor
open Go Go.Abs
set_option maxRecDepth 100000
def zdU:Nat→List Bool
 | 6=>rl false [9,1,24,3,66]
 | 13=>rl false [9,1,50,3,40]
 | 20=>rl false [9,1,76,3,14]
 | _=>[]
noncomputable def zfz:Code:=Tryz.f43.body.getD .skip
noncomputable def zsm:List ResultVar:=Tryz.f43.results.toList
def zl4 (t9 t34 t35 t36:AV):List AV:=ux 9 (t9::ux 24 (t34::t35::t36::ux 66 []))
def zPH:List Bool:=zdU 6
noncomputable def zPB:Code:=zaq [1,1,0,1,0,1,0,1,0,0] zfz
def zPy (K:Kt):AExit→List AV→zaa→Prop:=zar tP zdU [1,1,0,1,0,1,0,1,0] zfz (zax tP zsm K)
def zl9 (t9 t34 t35 t36:AV) (H:zaa) (K:Kt):Prop:=ALoop tP zPB (zPy K) (zl4 t9 t34 t35 t36) H
def zl5 (t9:AV) (H:zaa) (K:Kt):Prop:=
 K t9 H
def zfA (t9:AV) (H:zaa) (K:Kt):Prop:=
 zl5 t9 H K
def zsk (t9 t34 t35 t36:AV) (H:zaa) (K:Kt) (Kb6:Lt):Prop:=
 zab .lss false t36 t35 fun t37=>
 zag t37
 (zai 4 t34 t36 fun t38=>
 zae true 4 t38 H fun t39=>
 zay [.snil,(.bool false),.snil,.snil] H fun t11 H=>
 zan 4 t11 t39 H fun H=>
 zaf 0 t11 fun t41=>
 zae false 1 t41 H fun t42=>
 zas [(.int .i64 0),.snil] [(0,1),(1,1)] [(1,t42)] fun t43=>
 zaf 1 t11 fun t44=>
 zae true 3 t44 H fun t45=>
 zas [(.int .i64 0),.snil,(.bool false),.snil,.snil] [(0,2),(2,3)] [(0,t43),(1,t45)] fun t46=>
 zau 5 [(.int .i64 0),.snil,(.bool false),.snil,.snil] 1 [(0,t46)] fun t47=>
 zaw zaB 5 88 t9 t47 H fun t48 H=>
 zab .add false t36 (.int .i64 1) fun t49=>
 Kb6 (zl4 t48 t34 t35 t49) H)
 (zfA t9 H K)
def zhQ (t9 t60 t61 t62:AV):List AV:=ux 9 (t9::ux 50 (t60::t61::t62::ux 40 []))
def zPF:List Bool:=zdU 13
noncomputable def zPz:Code:=zaq [1,1,0,1,0,1,1,1,0,1,1,0,0] zfz
def zPw (K:Kt):AExit→List AV→zaa→Prop:=zar tP zdU [1,1,0,1,0,1,1,1,0,1,1,0] zfz (zax tP zsm K)
def zl7 (t9 t60 t61 t62:AV) (H:zaa) (K:Kt):Prop:=ALoop tP zPz (zPw K) (zhQ t9 t60 t61 t62) H
def zsl (t9 t60 t61 t62:AV) (H:zaa) (K:Kt) (Kb13:Lt):Prop:=
 zab .add false t62 (.int .i64 1) fun t77=>
 Kb13 (zhQ t9 t60 t61 t77) H
def zl6 (t9 t60 t61 t62:AV) (H:zaa) (K:Kt) (Kb13:Lt):Prop:=
 zsl t9 t60 t61 t62 H K Kb13
def zsi (t9 t60 t61 t62:AV) (H:zaa) (K:Kt) (Kb13:Lt):Prop:=
 zab .lss false t62 t61 fun t63=>
 zag t63
 (zai 3 t60 t62 fun t65=>
 zae true 3 t65 H fun t66=>
 zay [(.bool false),.snil,.snil] H fun t15 H=>
 zan 3 t15 t66 H fun H=>
 zae true 3 t15 H fun t67=>
 ACalls tP ziZ [t67] H fun t68 H=>
 zab .neq false t68 (.int .i64 0) fun t69=>
 zag t69
 (zas [(.int .i64 0),.snil] [(0,1),(1,1)] [(0,t62)] fun t72=>
 zae true 3 t15 H fun t73=>
 zas [(.int .i64 0),.snil,(.bool false),.snil,.snil] [(0,2),(2,3)] [(0,t72),(1,t73)] fun t74=>
 zau 5 [(.int .i64 0),.snil,(.bool false),.snil,.snil] 1 [(0,t74)] fun t75=>
 zaw zaB 5 88 t9 t75 H fun t76 H=>
 zl6 t76 t60 t61 t62 H K Kb13)
 (zl6 t9 t60 t61 t62 H K Kb13))
 (zfA t9 H K)
def zl3 (t9 t86 t87 t88:AV):List AV:=ux 9 (t9::ux 76 (t86::t87::t88::ux 14 []))
def zPG:List Bool:=zdU 20
noncomputable def zPA:Code:=zaq [1,1,0,1,0,1,1,1,1,1,0,1,0,0] zfz
def zPx (K:Kt):AExit→List AV→zaa→Prop:=zar tP zdU [1,1,0,1,0,1,1,1,1,1,0,1,0] zfz (zax tP zsm K)
def zl8 (t9 t86 t87 t88:AV) (H:zaa) (K:Kt):Prop:=ALoop tP zPA (zPx K) (zl3 t9 t86 t87 t88) H
def zsj (t9 t86 t87 t88:AV) (H:zaa) (K:Kt) (Kb20:Lt):Prop:=
 zab .lss false t88 t87 fun t89=>
 zag t89
 (zai 4 t86 t88 fun t90=>
 zae true 4 t90 H fun t91=>
 zay [.snil,(.bool false),.snil,.snil] H fun t17 H=>
 zan 4 t17 t91 H fun H=>
 zaf 0 t17 fun t93=>
 zae false 1 t93 H fun t94=>
 zas [(.int .i64 0),.snil] [(0,1),(1,1)] [(1,t94)] fun t95=>
 zaf 1 t17 fun t96=>
 zae true 3 t96 H fun t97=>
 zas [(.int .i64 0),.snil,(.bool false),.snil,.snil] [(0,2),(2,3)] [(0,t95),(1,t97)] fun t98=>
 zau 5 [(.int .i64 0),.snil,(.bool false),.snil,.snil] 1 [(0,t98)] fun t99=>
 zaw zaB 5 88 t9 t99 H fun t100 H=>
 zab .add false t88 (.int .i64 1) fun t101=>
 Kb20 (zl3 t100 t86 t87 t101) H)
 (zfA t9 H K)
def zhP (t0 t1 t2 t3:AV) (H:zaa) (K:Kt):Prop:=
 zav t1 H fun t5 H=>
 zav t2 H fun t6 H=>
 zav t3 H fun t7 H=>
 zaf 0 t5 fun t18=>
 zae false 1 t18 H fun t19=>
 zab .eql false t19 (.int .i64 6) fun t26=>
 zag t26
 (zaf 2 t5 fun t28=>
 zae false 1 t28 H fun t29=>
 zaf 1 t6 fun t30=>
 zae false 1 t30 H fun t31=>
 zaf 1 t7 fun t32=>
 zae false 1 t32 H fun t33=>
 ACalls tP ziY [t0,t29,t31,t33] H fun t34 H=>
 zah 1 t34 fun t35=>
 zl9 .snil t34 t35 (.int .i64 0) H K)
 (zab .eql false t19 (.int .i64 7) fun t51=>
 zag t51
 (zaf 0 t6 fun t53=>
 zae false 1 t53 H fun t54=>
 zaf 0 t7 fun t55=>
 zae false 1 t55 H fun t56=>
 ACalls tP zoM [t54,t56] H fun t57 H=>
 zaz t57 0 fun t58=>
 zaz t57 1 fun t59=>
 zah 1 t58 fun t61=>
 zl7 .snil t58 t61 (.int .i64 0) H K)
 (zab .eql false t19 (.int .i64 5) fun t79=>
 zag t79
 (zae true 3 t5 H fun t81=>
 zaf 1 t6 fun t82=>
 zae false 1 t82 H fun t83=>
 zaf 1 t7 fun t84=>
 zae false 1 t84 H fun t85=>
 ACalls tP zfW [t0,t81,t83,t85] H fun t86 H=>
 zah 1 t86 fun t87=>
 zl8 .snil t86 t87 (.int .i64 0) H K)
 (ACalls tP zde [(.int .i64 1)] H fun t21 H=>
 zas [(.int .i64 0),.snil,(.bool false),.snil,.snil] [(0,2),(2,3)] [(1,t21)] fun t22=>
 zau 5 [(.int .i64 0),.snil,(.bool false),.snil,.snil] 1 [(0,t22)] fun t23=>
 zaw zaB 5 88 .snil t23 H fun t24 H=>
 zfA t24 H K)))
theorem zPE {t9 t34 t35 t36:AV} {H:zaa} {K:Kt} (Inv:Nat→AV→AV→zaa→Prop) (n:Nat) (h0:HSc H→Inv n t9 t36 H)
  (round:Rd2 (fun t9=>fun t36=>zl4 t9 t34 t35 t36) (fun t9=>fun t36=>fun H Kb6=>zsk t9 t34 t35 t36 H K Kb6) H Inv):zl9 t9 t34 t35 t36 H K:=
 lp2 (M:=zdU) zPH t9 t36 (by kernel_rfl) Inv n h0 round
theorem zPC {t9 t60 t61 t62:AV} {H:zaa} {K:Kt} (Inv:Nat→AV→AV→zaa→Prop) (n:Nat) (h0:HSc H→Inv n t9 t62 H)
  (round:Rd2 (fun t9=>fun t62=>zhQ t9 t60 t61 t62) (fun t9=>fun t62=>fun H Kb13=>zsi t9 t60 t61 t62 H K Kb13) H Inv):zl7 t9 t60 t61 t62 H K:=
 lp2 (M:=zdU) zPF t9 t62 (by kernel_rfl) Inv n h0 round
theorem zPD {t9 t86 t87 t88:AV} {H:zaa} {K:Kt} (Inv:Nat→AV→AV→zaa→Prop) (n:Nat) (h0:HSc H→Inv n t9 t88 H)
  (round:Rd2 (fun t9=>fun t88=>zl3 t9 t86 t87 t88) (fun t9=>fun t88=>fun H Kb20=>zsj t9 t86 t87 t88 H K Kb20) H Inv):zl8 t9 t86 t87 t88 H K:=
 lp2 (M:=zdU) zPG t9 t88 (by kernel_rfl) Inv n h0 round
theorem zPI {t0 t1 t2 t3:AV} {H:zaa} {K:Kt} (h:HSc H→zhP t0 t1 t2 t3 H K):ACalls tP ziQ [t0,t1,t2,t3] H K:=
 zao (M:=zdU) Tryz.func43 (c:=zfz) (by kernel_rfl) (fun hs=>Eq.mpr (by kernel_rfl) (h hs))
def zmD:Nat→List Bool
 | 200007=>rl false [0,5]
 | 200008=>rl false [0,5]
 | 12=>rl false [2,1,6,3,73,3,17]
 | 200014=>rl false [0,5]
 | _=>[]
noncomputable def zsS:Code:=Tryz.f81.body.getD .skip
noncomputable def zRv:List ResultVar:=Tryz.f81.results.toList
def zmE (t2 t9 t10 t11 t85 t86 t87:AV):List AV:=ux 2 (t2::ux 6 (t9::t10::t11::ux 73 (t85::t86::t87::ux 17 [])))
def zRt:List Bool:=zmD 12
noncomputable def zRr:Code:=zaq [1,1,1,1,1,1,1,0,1,0,1,1,0,0] zsS
def zRq (K:Kt):AExit→List AV→zaa→Prop:=zar tP zmD [1,1,1,1,1,1,1,0,1,0,1,1,0] zsS (zax tP zRv K)
def zBe (t2 t9 t10 t11 t85 t86 t87:AV) (H:zaa) (K:Kt):Prop:=ALoop tP zRr (zRq K) (zmE t2 t9 t10 t11 t85 t86 t87) H
def zmF (t9:AV) (H:zaa) (K:Kt):Prop:=
 zae false 1 t9 H fun t104=>
 K t104 H
def zsR (t2 t9 t10 t11 t85 t86 t87:AV) (H:zaa) (K:Kt) (Kb12:Lt):Prop:=
 zab .lss false t87 t86 fun t88=>
 zag t88
 (zai 4 t85 t87 fun t89=>
 zae true 4 t89 H fun t90=>
 zay [.snil,(.bool false),.snil,.snil] H fun t13 H=>
 zan 4 t13 t90 H fun H=>
 zad H (fun K'=>K' t10 H) fun t91=>
 zad H (fun K'=>K' t2 H) fun t92=>
 zad H (fun K'=>zai 2 t92 (.int .i64 0) (K' · H)) fun t93=>
 zad H (fun K'=>zaf 0 t93 (K' · H)) fun t94=>
 zad H (fun K'=>zal false 1 t94 H (K' · H)) fun t95=>
 zad H (fun K'=>zaf 0 t13 (K' · H)) fun t96=>
 zad H (fun K'=>zal false 1 t96 H (K' · H)) fun t97=>
 zad H (fun K'=>zas [(.int .i64 0),.snil] [(0,1),(1,1)] [(0,t95),(1,t97)] (K' · H)) fun t98=>
 zad H (fun K'=>zaf 1 t13 (K' · H)) fun t99=>
 zad H (fun K'=>zal true 3 t99 H (K' · H)) fun t100=>
 zad H (fun K'=>K' t11 H) fun t101=>
 aCallV tP t91 [t98,t100,t101] H fun t102 H=>
 zab .add false t87 (.int .i64 1) fun t103=>
 Kb12 (zmE t2 t9 t10 t11 t85 t86 t103) H)
 (zmF t9 H K)
def zmC (t0 t1 t2 t3:AV) (H:zaa) (K:Kt):Prop:=
 zav t1 H fun t5 H=>
 zah 1 t2 fun t15=>
 zab .eql false t15 (.int .i64 0) fun t16=>
 zag t16
 (ACalls tP zde [(.int .i64 1)] H fun t18 H=>
 zas [.snil,(.bool false),.snil,.snil] [(0,1),(1,3)] [(0,t3),(1,t18)] fun t19=>
 zau 4 [.snil,(.bool false),.snil,.snil] 1 [(0,t19)] fun t20=>
 K t20 H)
 (zah 1 t3 fun t22=>
 zab .eql false t22 (.int .i64 0) fun t23=>
 zag t23
 (ACalls tP zde [(.int .i64 1)] H fun t25 H=>
 zas [.snil,(.bool false),.snil,.snil] [(0,1),(1,3)] [(0,t2),(1,t25)] fun t26=>
 zau 4 [.snil,(.bool false),.snil,.snil] 1 [(0,t26)] fun t27=>
 K t27 H)
 (zay [.snil] H fun t9 H=>
 zcq zis [t9] fun t28=>
 zad H (fun K'=>K' t28 H) fun t29=>
 zad H (fun K'=>K' t2 H) fun t30=>
 zad H (fun K'=>zai 2 t30 (.int .i64 0) (K' · H)) fun t31=>
 zad H (fun K'=>zal true 2 t31 H (K' · H)) fun t32=>
 zaF H (fun H K'=>ACalls tP zde [(.int .i64 1)] H K') fun t33=>
 zad H (fun K'=>K' t0 H) fun t34=>
 zad H (fun K'=>zal true 3 t5 H (K' · H)) fun t35=>
 zad H (fun K'=>K' t2 H) fun t36=>
 zad H (fun K'=>zaN 1 2 t36 (some (.int .i64 1)) none (K' · H)) fun t37=>
 zad H (fun K'=>K' t3 H) fun t38=>
 zaF H (fun H K'=>ACalls tP zfW [t34,t35,t37,t38] H K') fun t39=>
 aCallV tP t29 [t32,t33,t39] H fun t40 H=>
 zad H (fun K'=>K' t28 H) fun t41=>
 zad H (fun K'=>K' t3 H) fun t42=>
 zad H (fun K'=>zai 2 t42 (.int .i64 0) (K' · H)) fun t43=>
 zad H (fun K'=>zal true 2 t43 H (K' · H)) fun t44=>
 zaF H (fun H K'=>ACalls tP zde [(.int .i64 1)] H K') fun t45=>
 zad H (fun K'=>K' t0 H) fun t46=>
 zad H (fun K'=>zal true 3 t5 H (K' · H)) fun t47=>
 zad H (fun K'=>K' t2 H) fun t48=>
 zad H (fun K'=>K' t3 H) fun t49=>
 zad H (fun K'=>zaN 1 2 t49 (some (.int .i64 1)) none (K' · H)) fun t50=>
 zaF H (fun H K'=>ACalls tP zfW [t46,t47,t48,t50] H K') fun t51=>
 aCallV tP t41 [t44,t45,t51] H fun t52 H=>
 zad H (fun K'=>K' t2 H) fun t53=>
 zad H (fun K'=>zai 2 t53 (.int .i64 0) (K' · H)) fun t54=>
 zad H (fun K'=>zaf 0 t54 (K' · H)) fun t55=>
 zad H (fun K'=>zal false 1 t55 H (K' · H)) fun t56=>
 zad H (fun K'=>K' t3 H) fun t57=>
 zad H (fun K'=>zai 2 t57 (.int .i64 0) (K' · H)) fun t58=>
 zad H (fun K'=>zaf 0 t58 (K' · H)) fun t59=>
 zad H (fun K'=>zal false 1 t59 H (K' · H)) fun t60=>
 zad H (fun K'=>zab .eql false t56 t60 (K' · H)) fun t61=>
 zag t61
 (zad H (fun K'=>K' t0 H) fun t62=>
 zad H (fun K'=>zal true 3 t5 H (K' · H)) fun t63=>
 zad H (fun K'=>K' t2 H) fun t64=>
 zad H (fun K'=>zaN 1 2 t64 (some (.int .i64 1)) none (K' · H)) fun t65=>
 zad H (fun K'=>K' t3 H) fun t66=>
 zad H (fun K'=>zaN 1 2 t66 (some (.int .i64 1)) none (K' · H)) fun t67=>
 zaF H (fun H K'=>ACalls tP zfW [t62,t63,t65,t67] H K') fun t68=>
 zad H (fun K'=>K' t68 H) fun t11=>
 zad H (fun K'=>K' t0 H) fun t69=>
 zad H (fun K'=>K' t0 H) fun t70=>
 zad H (fun K'=>zal true 3 t5 H (K' · H)) fun t71=>
 zad H (fun K'=>K' t2 H) fun t72=>
 zad H (fun K'=>zai 2 t72 (.int .i64 0) (K' · H)) fun t73=>
 zad H (fun K'=>zaf 0 t73 (K' · H)) fun t74=>
 zad H (fun K'=>zal false 1 t74 H (K' · H)) fun t75=>
 zaF H (fun H K'=>ACalls tP zn6 [t70,t71,t75] H K') fun t76=>
 zad H (fun K'=>K' t2 H) fun t77=>
 zad H (fun K'=>zai 2 t77 (.int .i64 0) (K' · H)) fun t78=>
 zad H (fun K'=>zaf 1 t78 (K' · H)) fun t79=>
 zad H (fun K'=>zal false 1 t79 H (K' · H)) fun t80=>
 zad H (fun K'=>K' t3 H) fun t81=>
 zad H (fun K'=>zai 2 t81 (.int .i64 0) (K' · H)) fun t82=>
 zad H (fun K'=>zaf 1 t82 (K' · H)) fun t83=>
 zad H (fun K'=>zal false 1 t83 H (K' · H)) fun t84=>
 zaF H (fun H K'=>ACalls tP ziY [t69,t76,t80,t84] H K') fun t85=>
 zad H (fun K'=>zah 1 t85 (K' · H)) fun t86=>
 zad H (fun K'=>K' (.int .i64 0) H) fun t87=>
 zBe t2 t9 t28 t11 t85 t86 t87 H K)
 (zmF t9 H K)))
theorem zRs {t2 t9 t10 t11 t85 t86 t87:AV} {H:zaa} {K:Kt} (Inv:Nat→AV→zaa→Prop) (n:Nat) (h0:HSc H→Inv n t87 H)
  (round:Rd1 (fun t87=>zmE t2 t9 t10 t11 t85 t86 t87) (fun t87=>fun H Kb12=>zsR t2 t9 t10 t11 t85 t86 t87 H K Kb12) H Inv):zBe t2 t9 t10 t11 t85 t86 t87 H K:=
 lp1 (M:=zmD) zRt t87 (by kernel_rfl) Inv n h0 round
theorem zRu {t0 t1 t2 t3:AV} {H:zaa} {K:Kt} (h:HSc H→zmC t0 t1 t2 t3 H K):ACalls tP zfW [t0,t1,t2,t3] H K:=
 zao (M:=zmD) Tryz.func81 (c:=zsS) (by kernel_rfl) (fun hs=>Eq.mpr (by kernel_rfl) (h hs))
def zke:Nat→List Bool
 | 2=>rl false [3,3,3,3,18]
 | _=>[]
noncomputable def zqi:Code:=Tryz.f133.body.getD .skip
noncomputable def zIy:List ResultVar:=Tryz.f133.results.toList
def zkf (t3 t4 t5 t9 t10 t11:AV):List AV:=ux 3 (t3::t4::t5::ux 3 (t9::t10::t11::ux 18 []))
def zIw:List Bool:=zke 2
noncomputable def zIu:Code:=zaq [1,1,0,0] zqi
def zIt (K:Kt):AExit→List AV→zaa→Prop:=zar tP zke [1,1,0] zqi (zax tP zIy K)
def zx8 (t3 t4 t5 t9 t10 t11:AV) (H:zaa) (K:Kt):Prop:=ALoop tP zIu (zIt K) (zkf t3 t4 t5 t9 t10 t11) H
def zqh (t3 t4 t5 t9 t10 t11:AV) (H:zaa) (K:Kt) (Kb2:Lt):Prop:=
 zab .lss false t11 t10 fun t12=>
 zag t12
 (zai 4 t9 t11 fun t13=>
 zae true 4 t13 H fun t14=>
 zay [.snil,(.bool false),.snil,.snil] H fun t8 H=>
 zan 4 t8 t14 H fun H=>
 zad H (fun K'=>zal false 1 t3 H (K' · H)) fun t15=>
 zad H (fun K'=>zal true 2 t4 H (K' · H)) fun t16=>
 zad H (fun K'=>zau 2 [(.int .i64 0),.snil] 1 [(0,t16)] (K' · H)) fun t17=>
 zad H (fun K'=>zaf 0 t8 (K' · H)) fun t18=>
 zad H (fun K'=>zal false 1 t18 H (K' · H)) fun t19=>
 zad H (fun K'=>zau 1 [.snil] 2 [(0,t17),(1,t19)] (K' · H)) fun t20=>
 zaF H (fun H K'=>ACalls tP zn5 [t20] H K') fun t21=>
 zad H (fun K'=>zal true 3 t5 H (K' · H)) fun t22=>
 zad H (fun K'=>zaf 1 t8 (K' · H)) fun t23=>
 zad H (fun K'=>zal true 3 t23 H (K' · H)) fun t24=>
 zaF H (fun H K'=>ACalls tP zfb [t22,t24] H K') fun t25=>
 zad H (fun K'=>zas [.snil,(.bool false),.snil,.snil] [(0,1),(1,3)] [(0,t21),(1,t25)] (K' · H)) fun t26=>
 zad H (fun K'=>zau 4 [.snil,(.bool false),.snil,.snil] 1 [(0,t26)] (K' · H)) fun t27=>
 zaw zbi 4 80 t15 t27 H fun t28 H=>
 zan 1 t3 t28 H fun H=>
 zab .add false t11 (.int .i64 1) fun t29=>
 Kb2 (zkf t3 t4 t5 t9 t10 t29) H)
 (zaC [] (K · H))
def zx7 (t0 t1 t2 t3:AV) (H:zaa) (K:Kt):Prop:=
 zav t0 H fun t4 H=>
 zav t1 H fun t5 H=>
 zah 1 t2 fun t10=>
 zx8 t3 t4 t5 t2 t10 (.int .i64 0) H K
theorem zIv {t3 t4 t5 t9 t10 t11:AV} {H:zaa} {K:Kt} (Inv:Nat→AV→zaa→Prop) (n:Nat) (h0:HSc H→Inv n t11 H)
  (round:Rd1 (fun t11=>zkf t3 t4 t5 t9 t10 t11) (fun t11=>fun H Kb2=>zqh t3 t4 t5 t9 t10 t11 H K Kb2) H Inv):zx8 t3 t4 t5 t9 t10 t11 H K:=
 lp1 (M:=zke) zIw t11 (by kernel_rfl) Inv n h0 round
theorem zIx {t0 t1 t2 t3:AV} {H:zaa} {K:Kt} (h:HSc H→zx7 t0 t1 t2 t3 H K):ACalls tP zis [t0,t1,t2,t3] H K:=
 zao (M:=zke) Tryz.func133 (c:=zqi) (by kernel_rfl) (fun hs=>Eq.mpr (by kernel_rfl) (h hs))
end Go.Proofs.YtdmamdnkcefmmaaGreatDoor
namespace Go.Proofs.YtdmamdnkcefmmaaGreatDoor
open Go Go.Abs
def bw (H:zaa) (io iv:Nat) (l:List (List IT × Nat)):zaa:=(H.set iv (.vec zbi 4 l.length (zaM l).flatten)).set io (.cells [.ov iv l.length])
structure Bw (H:zaa) (io iv:Nat) (l:List (List IT × Nat)):Prop where
 ne:io≠iv
 h1:H[io]?=some (.cells [.ov iv l.length])
 h2:H[iv]?=some (.vec zbi 4 l.length (zaM l).flatten)
section
variable {H J:zaa} {io iv:Nat} {l l':List (List IT × Nat)}
@[simp] theorem znk:(bw H io iv l).length=H.length:=by simp[bw]
theorem Bw.app (h:Bw H io iv l):Bw (H++J) io iv l:=⟨h.ne,zb2 h.h1,zb2 h.h2⟩
theorem Bw.bw_app (h:Bw H io iv l):bw (H++J) io iv l'=bw H io iv l'++J:=by
 unfold bw
 rw[List.set_append_left _ _ (zbj h.h2),List.set_append_left _ _ (by simpa using zbj h.h1)]
theorem zCv (hne:io≠iv):bw (bw H io iv l) io iv l'=bw H io iv l':=by
 unfold bw
 rw[List.set_comm _ _ hne,List.set_set,List.set_set]
theorem Bw.next (h:Bw H io iv l):Bw (bw H io iv l') io iv l':=by
 have l1:=zbj h.h1
 have l2:=zbj h.h2
 refine⟨h.ne,?_,?_⟩
 ·unfold bw;rw[List.getElem?_set_self (by simpa using l1)]
 ·unfold bw;rw[List.getElem?_set_ne h.ne,List.getElem?_set_self l2]
theorem zwc (l:List (List IT × Nat)) (n:Nat):(zaM l).flatten.all (AV.scA n)=true:=by
 rw[List.all_eq_true]
 intro x hx
 obtain⟨c,hc,hx⟩:=List.mem_flatten.1 hx
 obtain⟨r,_,rfl⟩:=List.mem_map.1 hc
 rcases List.mem_cons.1 hx with rfl | hx
 ·rfl
 ·exact List.all_eq_true.1 (zjh _ _) x hx
theorem Bw.hsc (h:Bw H io iv l) (hs:HSc H):HSc (bw H io iv l'):=by
 have l2:=zbj h.h2
 unfold bw
 refine HSc.set (HSc.set hs (by simp only[AB.sc];exact zwc _ _)) ?_
 simp[AB.sc,AV.scA,AV.scB]
 omega
theorem Bw.self (h:Bw H io iv l):bw H io iv l=H:=by
 unfold bw
 have e1:H.set iv (.vec zbi 4 l.length (zaM l).flatten)=H:=by
  refine List.ext_getElem? fun i=>?_
  by_cases hi:iv=i
  ·subst hi;rw[List.getElem?_set_self (zbj h.h2),h.h2]
  ·rw[List.getElem?_set_ne hi]
 rw[e1]
 refine List.ext_getElem? fun i=>?_
 by_cases hi:io=i
 ·subst hi;rw[List.getElem?_set_self (zbj h.h1),h.h1]
 ·rw[List.getElem?_set_ne hi]
end
theorem zt7:zd1 tP zis=true:=by kernel_rfl
theorem zni (e:IT) (he:e.nodes≤1000) (c:Nat) (hc:c≤729) (rest:List (List IT × Nat)) (hr:∀ r∈rest,r.2≤729∧r.1.length≤1000) (hl:rest.length≤729) (H:zaa) (io iv:Nat) (l:List (List IT × Nat)) (hP:Bw H io iv l) (hll:l.length≤100000)
  (K:Kt) (hK:K (.tup []) (bw H io iv (l++rest.map fun r=>(e::r.1,c*r.2)))):ACalls tP zis [.agg e.cs,.agg (zak (c:Int)),.sl (zaM rest) .none,.ptr io 0] H K:=by
 refine ACalls.out (zIx fun hs=>?_)
 obtain⟨x,y,hvx,hx,hy⟩:=zdJ e
 obtain⟨g,hg⟩:∃ g:List IT × Nat→List IT × Nat,g=fun r=>(e::r.1,c*r.2):=⟨_,rfl⟩
 rw[←hg]at hK
 simp[zx7,Nat.add_assoc]
 have hsc:∀ l',HSc (bw H io iv l'++[.cells e.cs,.cells (zak (c:Int))]):=fun l'=>(hP.hsc hs).append (by
  obtain⟨a,b⟩:=e
  simp[AB.sc,IT.cs,zak,AV.scA,AV.scB])
 refine zIv (Inv:=fun q t11 H'=>∃ i:Nat,i≤rest.length∧rest.length-i=q∧t11=.int .i64 i∧H'=bw H io iv (l++(rest.take i).map g)++[.cells e.cs,.cells (zak (c:Int))]) rest.length ?_ ?_
 ·intro _;exact⟨0,by omega,rfl,rfl,by simp[hP.self]⟩
 ·rintro q t11 H' ⟨i,hi,rfl,rfl,rfl⟩ hsc2 hlen hsF Kb hKb
  by_cases hil:i<rest.length
  ·obtain⟨r1,r2⟩:=hr _ (List.getElem_mem hil)
   have hPi:Bw (bw H io iv (l++(rest.take i).map g)) io iv (l++(rest.take i).map g):=hP.next
   obtain⟨acc,hacc⟩:∃ acc,acc=l++(rest.take i).map g:=⟨_,rfl⟩
   have hgi:l++(rest.take (i+1)).map g=acc++[g rest[i]]:=by
    rw[hacc,List.take_succ_eq_append_getElem hil];simp only[List.map_append,List.map_cons,List.map_nil,List.append_assoc]
   have hal:acc.length=l.length+i:=by rw[hacc];simp;omega
   rw[←hacc]at hPi ⊢
   have g1:∀ J,(bw H io iv acc++J)[io]?=some (.cells [.ov iv acc.length]):=fun J=>zb2 hPi.h1
   have g2:∀ J,(bw H io iv acc++J)[iv]?=some (.vec zbi 4 acc.length (zaM acc).flatten):=fun J=>zb2 hPi.h2
   have g3:∀ b J,(bw H io iv acc++AB.cells b::J)[H.length]?=some (.cells b):=fun b J=>by rw[←znk (H:=H) (io:=io) (iv:=iv) (l:=acc)];simp
   have g4:∀ b b' J,(bw H io iv acc++AB.cells b::AB.cells b'::J)[H.length+1]?=some (.cells b'):=fun b b' J=>by rw[←znk (H:=H) (io:=io) (iv:=iv) (l:=acc)];simp
   have g5:∀ b b' b'' J,(bw H io iv acc++AB.cells b::AB.cells b'::AB.cells b''::J)[H.length+2]?=some (.cells b''):=fun b b' b'' J=>by rw[←znk (H:=H) (io:=io) (iv:=iv) (l:=acc)];simp
   have hp5:plain ([.int .i64 0,.snil]:List AV)=some [.int .i64 0,.sl [] .none]:=rfl
   simp[zqh,hil,g1,g3,g4,g5,zau,zaR,hp5,zjg,plain,AV.pd]
   refine zaE (.sl (IT.css (e::rest[i].1)) .none) (fun J=>by
    have:=zFe [e] rest[i].1 (by simp) (by simp;omega) (bw H io iv acc++[.cells e.cs,.cells (zak (c:Int)),.cells (.sl (IT.css rest[i].1) .none::zak (rest[i].2:Int))]++J) (fun v H'=>v=.sl (IT.css (e::rest[i].1)) .none∧H'=bw H io iv acc++[.cells e.cs,.cells (zak (c:Int)),.cells (.sl (IT.css rest[i].1) .none::zak (rest[i].2:Int))]++J) ⟨rfl,rfl⟩
    exact this) ?_
   refine zaE (.agg (zak ((c*rest[i].2:Nat):Int))) (fun J=>zmq _ _ (zdO (Nat.lt_of_le_of_lt hc (by decide))) (zdO (Nat.lt_of_le_of_lt r1 (by decide))) _ _ ⟨by rw[Int.natCast_mul],rfl⟩) ?_
   have hcell:([.sl (IT.css (e::rest[i].1)) .none::zak ((c*rest[i].2:Nat):Int)]:List (List AV))=zaM [g rest[i]]:=by rw[hg];rfl
   have hpl:plain (AV.sl (IT.css (e::rest[i].1)) .none::zak ((c*rest[i].2:Nat):Int))=some (.sl (IT.css (e::rest[i].1)) .none::zak ((c*rest[i].2:Nat):Int)):=by simp[plain,AV.pd,zcZ]
   rw[Int.natCast_mul]at hpl hcell
   have hset:∀ J:zaa,(((bw H io iv acc++J).set iv (.vec zbi 4 (acc.length+1) ((zaM acc).flatten++(.sl (IT.css (e::rest[i].1)) .none::zak ((c:Int)*(rest[i].2:Int)))))).set io (.cells [.ov iv (acc.length+1)]))=bw H io iv (acc++[g rest[i]])++J:=by
    intro J
    have h1:=hPi.bw_app (J:=J) (l':=acc++[g rest[i]])
    rw[zCv hP.ne]at h1
    rw[←h1]
    unfold bw
    rw[zpc,←hcell]
    simp
   have g6:∀ X J,((bw H io iv acc++J).set iv X)[io]?=some (.cells [.ov iv acc.length]):=fun X J=>by rw[List.getElem?_set_ne (fun h=>hP.ne h.symm)];exact g1 J
   simp[zas,zaH,hpl,zaw,zaK,zaG,g2,g6,wi i (by omega)]
   refine⟨⟨by omega,by omega⟩,?_⟩
   rw[hset,←hgi]
   exact hKb _ _ ⟨rest.length-(i+1),by omega,Back.at (J:=[.cells (.sl (IT.css rest[i].1) .none::zak (rest[i].2:Int))]) (H2:=bw H io iv (l++(rest.take (i+1)).map g)++[.cells e.cs,.cells (zak (c:Int))]) (by simp) (by simp) (hsc _) (by
    have l1:=zbj hP.h1
    simp[zkf,ux,AV.sc,AV.scA,AV.scB,AV.scV]
    try omega) ⟨_,rfl,i+1,by omega,rfl,rfl,rfl⟩⟩
  ·obtain rfl:i=rest.length:=by omega
   rw[List.take_length]at *
   simp[zqh]
   exact zGp (J:=[_,_]) rfl (by simp) (hP.hsc hs) hK
def hpB (H:zaa) (T:VT) (l:List (List IT × Nat)):zaa:=H++[.cells T.cs,.cells [.ov (H.length+2) l.length],.vec zbi 4 l.length (zaM l).flatten]
theorem hpB_B {H:zaa} {T:VT} {l:List (List IT × Nat)}:Bw (hpB H T l) (H.length+1) (H.length+2) l:=⟨by omega,by simp[hpB],by simp[hpB]⟩
theorem znE {H:zaa} {T:VT} {l l':List (List IT × Nat)}:bw (hpB H T l) (H.length+1) (H.length+2) l'=hpB H T l':=by
 simp[bw,hpB,List.set_append_right]
@[simp] theorem zVO {H:zaa} {T:VT} {l:List (List IT × Nat)}:(hpB H T l).length=H.length+3:=by simp[hpB]
@[simp] theorem zVM {H:zaa} {T:VT} {l:List (List IT × Nat)} (h:H.length<(hpB H T l).length):(hpB H T l)[H.length]=.cells T.cs:=by simp[hpB]
@[simp] theorem zuN {H:zaa} {T:VT} {l:List (List IT × Nat)}:(hpB H T l)[H.length]?=some (.cells T.cs):=by simp[hpB]
@[simp] theorem zVN {H:zaa} {T:VT} {l:List (List IT × Nat)} (h:H.length+1<(hpB H T l).length):(hpB H T l)[H.length+1]=.cells [.ov (H.length+2) l.length]:=by simp[hpB,List.getElem_append]
theorem zvY:∀ l:List (List IT × Nat),plain (zaM l).flatten=some (zaM l).flatten
 | []=>rfl
 | r::l=>by
  show plain ((.sl (IT.css r.1) .none::zak (r.2:Int))++(zaM l).flatten)=_
  exact zhk (by simp[plain,AV.pd,zcZ]) (zvY l)
theorem zEj {H:zaa} {T:VT} {K:Kt} (l:List (List IT × Nat)) (hs:HSc H) (hK:K (.sl (zaM l) .none) H):Out H.length K (.ov (H.length+2) l.length) (hpB H T l):=
 ⟨.sl (zaM l) .none,H,_,rfl,Nat.le_refl _,hs,.one (.vfz (H.length+2) zbi 4 l.length (zaM l).flatten (zaM l) (by omega) (by simp[hpB]) (zvY l) (by simp) (fun c hc=>by
  obtain⟨p,_,rfl⟩:=List.mem_map.1 hc;simp)),hK⟩
theorem zDL {data:List Dat} (hk:zbG data) (h8:∀ D∈data,D.cons.length≤8) (hD:zbq data=true) {f:Nat} (hQ:zh4 data f) (hM:zh3 data f):zh3 data (f+1):=by
 intro t l m hf htn htv ht5 hl hm h6 hn H K hK
 obtain⟨k,tn,tks⟩:=t
 simp only[VT.kind]at ht5
 subst ht5
 refine ACalls.out (zRu fun hs=>?_)
 have hTc:(VT.mk 5 tn tks).cs=[.int .i64 5,.int .i64 tn,.sl (VT.css tks) .none]:=rfl
 have hp4:plain ([.snil,.bool false,.snil,.snil]:List AV)=some [.sl [] .none,.bool false,.sl [] .none,.sl [] .none]:=rfl
 cases l with
 | nil=>
  have e:zaX data (f+1) (.mk 5 tn tks) [] m=[(m,1)]:=by rw[zaX]
  rw[e]at hK
  simp[zmC,IT.css,hTc,Nat.add_assoc]
  refine zel 1 (by omega) _ _ ?_
  simp[zas,zaH,zau,zaR,plain,AV.pd,AV.known,zcZ,hp4]
  exact Out.at (b:=.sl (zaM [(m,1)]) .none) rfl (Nat.le_refl _) hs (.atom (.sl _ _)) rfl rfl hK
 | cons a l=>
  cases m with
  | nil=>
   have e:zaX data (f+1) (.mk 5 tn tks) (a::l) []=[(a::l,1)]:=by rw[zaX]
   rw[e]at hK
   have hb:(((l.length:Int)+1) == 0)=false:=by simp;omega
   simp[zmC,hTc,hb,Nat.add_assoc]
   refine zel 1 (by omega) _ _ ?_
   simp[zas,zaH,zau,zaR,plain,AV.pd,AV.known,zcZ,hp4]
   exact Out.at (b:=.sl (zaM [(a::l,1)]) .none) rfl (Nat.le_refl _) hs (.atom (.sl _ _)) rfl rfl hK
  | cons b m=>
   obtain⟨ca,pa⟩:=a
   obtain⟨cb,pb⟩:=b
   obtain⟨la,ll,el⟩:=zjl h8 _ _ l hl
   obtain⟨mb,mm,em⟩:=zjl h8 _ _ m hm
   obtain⟨ca0,ca8,psa,hpa,hla,hra,ea⟩:=zhm la
   obtain⟨cb0,cb8,psb,hpb,hlb,hrb,eb⟩:=zhm mb
   have na:=(IT.mk ca pa).nodes_pos
   have nb:=(IT.mk cb pb).nodes_pos
   simp only[IT.nodesL]at hf hn
   have hb1:(((l.length:Int)+1) == 0)=false:=by simp;omega
   have hb2:(((m.length:Int)+1) == 0)=false:=by simp;omega
   have tl1:(List.take (l.length+1) (IT.css (.mk ca pa::l))).tail=IT.css l:=by simp[IT.css,List.take_of_length_le]
   have tl2:(List.take (m.length+1) (IT.css (.mk cb pb::m))).tail=IT.css m:=by simp[IT.css,List.take_of_length_le]
   have h2c:∀ (x:List IT),∀ c∈IT.css x,c.length=2:=fun x c hc=>by
    rw[IT.css_map]at hc
    obtain⟨v,_,rfl⟩:=List.mem_map.1 hc
    simp
   simp[zmC,hTc,hb1,hb2,Nat.add_assoc]
   refine⟨rfl,?_⟩
   refine zaE (.agg (zak ((1:Nat):Int))) (fun J=>zel 1 (by omega) _ _ ⟨rfl,rfl⟩) ?_
   refine⟨h2c _,?_⟩
   rw[tl1,←hTc]
   obtain⟨A,hA⟩:∃ A,A=zaX data f (.mk 5 tn tks) l (.mk cb pb::m):=⟨_,rfl⟩
   obtain⟨B,hB⟩:∃ B,B=zaX data f (.mk 5 tn tks) (.mk ca pa::l) m:=⟨_,rfl⟩
   obtain⟨C,hC⟩:∃ C,C=zaX data f (.mk 5 tn tks) l m:=⟨_,rfl⟩
   obtain⟨A1,A2,A3,A4⟩:=zia h8 (f:=f) (t:=.mk 5 tn tks) (l:=l) (m:=.mk cb pb::m) (by simp only[IT.nodesL];omega) ll hm (by omega)
   obtain⟨B1,B2,B3,B4⟩:=zia h8 (f:=f) (t:=.mk 5 tn tks) (l:=.mk ca pa::l) (m:=m) (by simp only[IT.nodesL];omega) hl mm (by omega)
   obtain⟨C1,C2,C3,C4⟩:=zia h8 (f:=f) (t:=.mk 5 tn tks) (l:=l) (m:=m) (by omega) ll mm (by omega)
   rw[←hA]at A1 A2 A3 A4
   rw[←hB]at B1 B2 B3 B4
   rw[←hC]at C1 C2 C3 C4
   simp only[IT.nodesL]at A1 B1
   refine zaE (.sl (zaM A) .none) (fun J=>by rw[hA];exact hM _ l (.mk cb pb::m) (by simp only[IT.nodesL];omega) htn htv rfl ll hm (by omega) (by simp only[IT.nodesL];omega) _ _ ⟨rfl,rfl⟩) ?_
   simp only[aCallV,zt7]
   refine ACalls.ovC (id:=H.length+1) (j:=0) (cs:=[.snil]) zbi 4 (by simp) rfl ?_
   have hset:(H++[AB.cells (VT.mk 5 tn tks).cs,.cells [.snil]]).set (H.length+1) (.cells ([AV.snil].set 0 (.ov (H++[AB.cells (VT.mk 5 tn tks).cs,.cells [.snil]]).length 0)))++[.vec zbi 4 0 []]=hpB H (.mk 5 tn tks) []:=by simp[hpB,List.set_append_right,zaM]
   rw[hset]
   have hlr:∀ r:List IT × Nat,IT.nodesL r.1≤700→r.1.length≤1000:=fun r h=>by have:=IT.len_le r.1;omega
   refine zni (.mk ca pa) (by simp only[IT.nodes]at hn ⊢;omega) 1 (by omega) A (fun r hr=>⟨(A1 r hr).2.1,hlr r (by have:=(A1 r hr).2.2.2.2;omega)⟩) A4 _ (H.length+1) (H.length+2) [] hpB_B (by simp) _ ?_
   rw[znE]
   simp only[List.nil_append,Nat.one_mul]
   obtain⟨s1,hs1⟩:∃ s1:List (List IT × Nat),s1=A.map fun r=>(IT.mk ca pa::r.1,r.2):=⟨_,rfl⟩
   rw[←hs1]
   have hs1l:s1.length≤729:=by rw[hs1];simpa using A4
   have h0:=zuN (H:=H) (T:=.mk 5 tn tks) (l:=s1)
   refine zaE (.agg (zak ((1:Nat):Int))) (fun J=>zel 1 (by omega) _ _ ⟨rfl,rfl⟩) ?_
   simp[h0,hTc]
   refine⟨h2c _,?_⟩
   rw[tl2,←hTc]
   refine zaE (.sl (zaM B) .none) (fun J=>by rw[hB];exact hM _ (.mk ca pa::l) m (by simp only[IT.nodesL];omega) htn htv rfl hl mm (by omega) (by simp only[IT.nodesL];omega) _ _ ⟨rfl,rfl⟩) ?_
   refine zni (.mk cb pb) (by simp only[IT.nodes]at hn ⊢;omega) 1 (by omega) B (fun r hr=>⟨(B1 r hr).2.1,hlr r (by have:=(B1 r hr).2.2.2.2;omega)⟩) B4 _ (H.length+1) (H.length+2) s1 hpB_B (by omega) _ ?_
   rw[znE]
   simp only[Nat.one_mul]
   obtain⟨s2,hs2⟩:∃ s2:List (List IT × Nat),s2=s1++B.map fun r=>(IT.mk cb pb::r.1,r.2):=⟨_,rfl⟩
   rw[←hs2]
   have hs2l:s2.length≤1458:=by rw[hs2];simp;omega
   have h02:=fun l'=>zuN (H:=H) (T:=.mk 5 tn tks) (l:=l')
   have hout:∀ l',l'=zaX data (f+1) (.mk 5 tn tks) (.mk ca pa::l) (.mk cb pb::m)→zmF (.ptr (H.length+1) 0) (hpB H (.mk 5 tn tks) l') (Out H.length K):=by
    rintro l' rfl
    have h1:=(hpB_B (H:=H) (T:=.mk 5 tn tks) (l:=zaX data (f+1) (.mk 5 tn tks) (.mk ca pa::l) (.mk cb pb::m))).h1
    have h2:=(hpB_B (H:=H) (T:=.mk 5 tn tks) (l:=zaX data (f+1) (.mk 5 tn tks) (.mk ca pa::l) (.mk cb pb::m))).h2
    simp[zmF,h1]
    exact zEj _ hs hK
   by_cases hab:ca=cb
   ·subst hab
    simp[h02,hTc,IT.cs]
    refine⟨h2c _,h2c _,?_⟩
    rw[←hTc]
    rw[hpa]at hpb
    cases hpb
    obtain⟨R,hR⟩:∃ R,R=zcg data f psa pa pb:=⟨_,rfl⟩
    obtain⟨R1,R2,R3,R4⟩:=zt0 h8 (f:=f) (ts:=psa) (l:=pa) (m:=pb) (by simp only[IT.nodes]at hf;omega) hla.symm hlb.symm hra hrb (by omega)
    rw[←hR]at R1 R2 R3 R4
    obtain⟨lf,hff⟩:∃ lf,zbe data (.mk 5 tn tks) ca=some lf:=by
     cases hff:zbe data (.mk 5 tn tks) ca with
     | none=>simp[za6,hff]at hpa
     | some lf=>exact⟨lf,rfl⟩
    obtain⟨bs,hbs,hlb2,hl8,hpay,h200,_⟩:=zvP hk hff
    rw[hpa]at hpay
    have hps:psa=pick lf bs:=Option.some.inj hpay
    have hpsl:psa.length≤8:=by rw[hps];have:=zje lf bs;omega
    have hpsv:∀ x∈psa,x.nodes≤1000∧zaZ data 0 x=true:=fun x hx=>by
     rw[hps]at hx
     have hm:=zhi hx
     have:=h200 x hm
     exact⟨by omega,zuA hD (zGr htv) hff _ hm⟩
    refine zaE (.sl (zaM C) .none) (fun J=>by rw[hC];exact hM _ l m (by omega) htn htv rfl ll mm (by omega) (by omega) _ _ ⟨rfl,rfl⟩) ?_
    refine zaE (.sl (VT.css psa) .none) (fun J=>zIO hk tn tks htn ca hpa _ _ ⟨rfl,rfl⟩) ?_
    refine zaE (.sl (zaM R) .none) (fun J=>by rw[hR];exact hQ psa pa pb (by simp only[IT.nodes]at hf;omega) hla.symm hlb.symm (by omega) hpsv hra hrb (by omega) (by simp only[IT.nodes]at hn;omega) _ _ ⟨rfl,rfl⟩) ?_
    simp
    obtain⟨F,hF⟩:∃ F:List IT × Nat→List (List IT × Nat),F=fun r=>C.map fun x=>(IT.mk ca r.1::x.1,r.2*x.2):=⟨_,rfl⟩
    have hmf:s2++R.flatMap F=zaX data (f+1) (.mk 5 tn tks) (.mk ca pa::l) (.mk ca pb::m):=by
     rw[zaX,if_pos (show zaQ (.mk ca pa)=zaQ (.mk ca pb) from rfl),hs2,hs1,hA,hB,hF,hR,hC]
     simp only[zaQ,zaD,hpa,Option.getD_some]
    have hRl:R.length*C.length≤729:=by
     refine Nat.le_trans (Nat.mul_le_mul (ze1 fun p hp=>(R1 p hp).1) (ze1 fun p hp=>(C1 p hp).1)) (Nat.le_trans (Nat.mul_le_mul R2 C2) ?_)
     rw[←zoU (by omega) (by omega)]
     exact zeB (by omega)
    have hFl:∀ i,((R.take i).flatMap F).length≤729:=fun i=>by
     have:∀ L:List (List IT × Nat),(L.flatMap F).length=L.length*C.length:=fun L=>by
      induction L with
      | nil=>simp
      | cons r L ih=>rw[List.flatMap_cons,List.length_append,ih,hF,List.length_map,List.length_cons,Nat.succ_mul];omega
     rw[this]
     exact Nat.le_trans (Nat.mul_le_mul_right _ (by simp;omega)) hRl
    have hscB:∀ l',HSc (hpB H (.mk 5 tn tks) l'):=fun l'=>hs.append (by simp only[AB.sc,List.all_cons,List.all_nil,zwc];simp[VT.cs,AV.scA,AV.scB])
    refine zRs (Inv:=fun q t87 H'=>∃ i:Nat,i≤R.length∧R.length-i=q∧t87=.int .i64 i∧H'=hpB H (.mk 5 tn tks) (s2++(R.take i).flatMap F)) R.length ?_ ?_
    ·intro _;exact⟨0,by omega,rfl,rfl,by simp⟩
    ·rintro q t87 H' ⟨i,hi,rfl,rfl,rfl⟩ hsc12 hlen hsF Kb hKb
     by_cases hil:i<R.length
     ·obtain⟨r1,r2,r3,_,_,r6⟩:=R1 _ (List.getElem_mem hil)
      have hgi:s2++(R.take (i+1)).flatMap F=(s2++(R.take i).flatMap F)++F R[i]:=by
       rw[List.take_succ_eq_append_getElem hil];simp only[List.flatMap_append,List.flatMap_cons,List.flatMap_nil,List.append_nil,List.append_assoc]
      have hfl:=hFl i
      obtain⟨acc,hacc⟩:∃ acc,acc=s2++(R.take i).flatMap F:=⟨_,rfl⟩
      have hal:acc.length≤3000:=by rw[hacc,List.length_append];omega
      rw[←hacc]at hgi ⊢
      simp[zsR,hil,IT.cs,IT.css,zas,zaH,AV.known]
      simp only[aCallV,zt7]
      have hBa:Bw (hpB H (.mk 5 tn tks) acc++[.cells (.sl (IT.css R[i].1) .none::zak (R[i].2:Int))]) (H.length+1) (H.length+2) acc:=hpB_B.app
      refine zni (.mk ca R[i].1) (by simp only[IT.nodes]at hn ⊢;omega) R[i].2 (by omega) C (fun r hr=>⟨(C1 r hr).2.1,hlr r (by have:=(C1 r hr).2.2.2.2;omega)⟩) C4 _ (H.length+1) (H.length+2) acc hBa (by omega) _ ?_
      rw[hpB_B.bw_app,znE]
      have hFi:F R[i]=C.map fun r=>(IT.mk ca R[i].1::r.1,R[i].2*r.2):=by rw[hF]
      rw[←hFi,←hgi,wi i (by omega)]
      exact hKb _ _ ⟨R.length-(i+1),by omega,Back.at (J:=[.cells (.sl (IT.css R[i].1) .none::zak (R[i].2:Int))]) (H2:=hpB H (.mk 5 tn tks) (s2++(R.take (i+1)).flatMap F)) rfl (by simp) (hscB _) (by simp[zmE,ux,AV.sc,AV.scA,AV.scB,AV.scV]) ⟨_,rfl,i+1,by omega,rfl,rfl,rfl⟩⟩
     ·obtain rfl:i=R.length:=by omega
      rw[List.take_length,hmf]
      simp[zsR]
      exact hout _ rfl
   ·have hcb:(ca == cb)=false:=by simpa using hab
    simp[h02,IT.cs,hcb]
    refine hout s2 ?_
    rw[zaX,if_neg (by simpa[zaQ]using hab),List.append_nil,hs2,hs1,hA,hB]
theorem zw5 {n:Nat} {H2 J H':zaa} {K:Kt} (he:H'=H2++J) (hn:n≤H2.length) (hs:HSc H2) (h:K (.tup []) H2):Out n K (.tup []) H':=by
 subst he
 exact⟨.tup [],H2,J,rfl,hn,hs,.tup trivial,h⟩
theorem zxv:∀ (ks:List IT) (k:IT),zbb (ks++[k])=zbb ks++wrI k++[44]
 | [],k=>by simp[zbb]
 | x::ks,k=>by
  have:=zxv ks k
  simp[zbb,this]
theorem zvz:∀ (ks:List IT) (k:IT),IT.nodesL (ks++[k])=IT.nodesL ks+k.nodes
 | [],k=>by simp[IT.nodesL]
 | x::ks,k=>by
  have:=zvz ks k
  simp only[List.cons_append,IT.nodesL,this];omega
theorem zFl (n:Nat) (h:n≤9):small n=[UInt8.ofNat (48+n)]:=by
 have:∀ n≤9,small n=[UInt8.ofNat (48+n)]:=by decide
 exact this n h
theorem zQ6:∀ (m:Nat) (i:IT),i.nodes≤m→i.nodes≤1000→Dig i→∀ (H:zaa) (id id2:Nat) (l:List UInt8),Wb H id id2 l→l.length+4*i.nodes≤1000000→∀ K:Kt,K (.tup []) (wb H id id2 (l++wrI i))→ACalls tP ziX [.ptr id 0,.agg i.cs] H K:=by
 intro m
 induction m with
 | zero=>intro i h;have:=i.nodes_pos;omega
 | succ m ih=>
  intro i hm hn hd H id id2 l hB hl K hK
  obtain⟨n,ks⟩:=i
  rw[Dig]at hd
  obtain⟨hd0,hd9,hdk⟩:=hd
  obtain⟨a,rfl⟩:∃ a:Nat,n=a:=⟨n.toNat,by omega⟩
  have hnl:IT.nodesL ks+1≤m+1:=by simpa[IT.nodes]using hm
  have hnn:IT.nodesL ks+1≤1000:=by simpa[IT.nodes]using hn
  have hln:l.length+4*(IT.nodesL ks+1)≤1000000:=by simpa[IT.nodes]using hl
  have hkl:=IT.len_le ks
  refine ACalls.out (zQ4 fun hs=>?_)
  have hIc:(IT.mk (a:Int) ks).cs=[.int .i64 a,.sl (IT.css ks) .none]:=rfl
  rw[wrI,Int.toNat_natCast]at hK
  obtain⟨dg,hdg⟩:∃ dg,dg=UInt8.ofNat (48+a):=⟨_,rfl⟩
  have hsm:=zFl a (by omega)
  rw[←hdg]at hK hsm
  have hO:∀ r J,r=l++(dg::if ks.length=0 then [] else 40::(zbb ks++[41]))→Out H.length K (.tup []) (wb H id id2 r++J):=fun r J h=>zw5 rfl (by simp) (hB.hsc hs) (by rw[h];exact hK)
  simp[zA1,hIc,Nat.add_assoc]
  refine zBJ a (by omega) _ _ ?_
  rw[hsm]
  refine Ws hB.app (by simp;omega) ?_
  rw[hB.wb_app]
  by_cases hne:ks.length=0
  ·obtain rfl:=List.eq_nil_of_length_eq_zero hne
   simp[IT.css]
   exact hO _ _ (by simp)
  ·have hpos:0<ks.length:=by omega
   simp[hpos]
   have hB1:Wb (wb H id id2 (l++[dg])) id id2 (l++[dg]):=hB.next
   refine Wy (c:=40) hB1.app (by simp;omega) ?_
   rw[hB1.wb_app,zjK hB.ne]
   simp
   obtain⟨p,hp⟩:∃ p,p=l++[dg,40]:=⟨_,rfl⟩
   have hpl:p.length=l.length+2:=by rw[hp];simp
   rw[←hp]
   have hBp:∀ q,Wb (wb H id id2 (p++q)) id id2 (p++q):=fun q=>hB.next
   refine zQ2 (Inv:=fun q t20 H'=>∃ j:Nat,j≤ks.length∧ks.length-j=q∧t20=.int .i64 j∧H'=wb H id id2 (p++zbb (ks.take j))++[.cells [.int .i64 a,.sl (IT.css ks) .none]]) ks.length ?_ ?_
   ·intro _;exact⟨0,by omega,rfl,rfl,by simp[zbb]⟩
   ·rintro q t20 H' ⟨j,hj,rfl,rfl,rfl⟩ hsc' hlen hsF Kb hKb
    have hwl:=zjL (ks.take j)
    have htl:=IT.nodesL_take_le ks j
    by_cases hjl:j<ks.length
    ·have hk1:=zd8 hjl
     have hdj:=ztd hdk _ (List.getElem_mem hjl)
     have hts:=IT.nodesL_take_le ks (j+1)
     have hst:zbb (ks.take (j+1))=zbb (ks.take j)++wrI ks[j]++[44]:=by rw[List.take_succ_eq_append_getElem hjl,zxv]
     have hwl1:=zjL (ks.take (j+1))
     have hns:IT.nodesL (ks.take (j+1))=IT.nodesL (ks.take j)+ks[j].nodes:=by rw[List.take_succ_eq_append_getElem hjl,zvz]
     obtain⟨x2,y2,hvx2,hx2,hy2⟩:=zdJ ks[j]
     have hw1:=zpN ks[j]
     simp[zsI,hjl,hvx2,hx2,hy2]
     rw[←hvx2]
     refine ih ks[j] (by omega) (by omega) hdj _ id id2 _ ((hBp (zbb (ks.take j))).app) (by simp;omega) _ ?_
     rw[(hBp (zbb (ks.take j))).wb_app,zjK hB.ne]
     have hB2:Wb (wb H id id2 (p++zbb (ks.take j)++wrI ks[j])) id id2 (p++zbb (ks.take j)++wrI ks[j]):=hB.next
     refine Wy (c:=44) hB2.app (by simp;omega) ?_
     rw[hB2.wb_app,zjK hB.ne]
     have hst2:p++zbb (ks.take j)++wrI ks[j]++[44]=p++zbb (ks.take (j+1)):=by rw[hst];simp
     rw[hst2,wi j (by omega)]
     exact hKb _ _ ⟨ks.length-(j+1),by omega,Back.at (J:=[.cells ks[j].cs]) (H2:=wb H id id2 (p++zbb (ks.take (j+1)))++[.cells [.int .i64 a,.sl (IT.css ks) .none]]) (by simp) (by simp) ((hB.hsc hs).append (by simp[AB.sc,AV.scA,AV.scB])) (by
      have:=hB.lt1
      simp[zmz,ux,AV.sc,AV.scA,AV.scB,AV.scV];omega) ⟨_,rfl,j+1,by omega,rfl,rfl,rfl⟩⟩
    ·obtain rfl:j=ks.length:=by omega
     rw[List.take_length]at *
     simp[zsI]
     refine Wy (c:=41) (hBp _).app (by simp;omega) ?_
     rw[(hBp _).wb_app,zjK hB.ne]
     simp
     exact hO _ _ (by rw[hp,if_neg hne];simp)
def sw (H:zaa) (is im iv:Nat) (c:List AV) (s:List (IT × Nat)):zaa:=
 ((H.set iv (.vec zaB 5 s.length (tms s))).set im (.map (kvS s 0))).set is (.cells (c++[.map im,.ov iv s.length]))
structure Sw (H:zaa) (is im iv:Nat) (c:List AV) (s:List (IT × Nat)):Prop where
 c4:c.length=4
 n1:is≠im
 n2:is≠iv
 n3:im≠iv
 h1:H[is]?=some (.cells (c++[.map im,.ov iv s.length]))
 h2:H[im]?=some (.map (kvS s 0))
 h3:H[iv]?=some (.vec zaB 5 s.length (tms s))
section
variable {H J:zaa} {is im iv:Nat} {c:List AV} {s s':List (IT × Nat)}
@[simp] theorem zGb:(sw H is im iv c s).length=H.length:=by simp[sw]
theorem Sw.app (h:Sw H is im iv c s):Sw (H++J) is im iv c s:=⟨h.c4,h.n1,h.n2,h.n3,zb2 h.h1,zb2 h.h2,zb2 h.h3⟩
theorem Sw.next (h:Sw H is im iv c s):Sw (sw H is im iv c s') is im iv c s':=by
 have l1:=zbj h.h1
 have l2:=zbj h.h2
 have l3:=zbj h.h3
 refine⟨h.c4,h.n1,h.n2,h.n3,?_,?_,?_⟩
 ·unfold sw;rw[List.getElem?_set_self (by simpa using l1)]
 ·unfold sw;rw[List.getElem?_set_ne h.n1,List.getElem?_set_self (by simpa using l2)]
 ·unfold sw;rw[List.getElem?_set_ne h.n2,List.getElem?_set_ne h.n3,List.getElem?_set_self l3]
theorem Sw.self (h:Sw H is im iv c s):sw H is im iv c s=H:=by
 unfold sw
 have e:∀ (H:zaa) (i:Nat) (b:AB),H[i]?=some b→H.set i b=H:=fun H i b hb=>by
  refine List.ext_getElem? fun j=>?_
  by_cases hj:i=j
  ·subst hj;rw[List.getElem?_set_self (zbj hb),hb]
  ·rw[List.getElem?_set_ne hj]
 rw[e H iv _ h.h3,e H im _ h.h2,e H is _ h.h1]
theorem Sw.hsc (h:Sw H is im iv c s) (hs:HSc H):HSc (sw H is im iv c s'):=by
 have l2:=zbj h.h2
 have l3:=zbj h.h3
 have hc:(c.all (AV.scA H.length))=true:=by
  have:=hs _ (List.mem_of_getElem? h.h1)
  simp only[AB.sc,List.all_append,Bool.and_eq_true]at this
  exact this.1
 unfold sw
 refine HSc.set (HSc.set (HSc.set hs (by simp only[AB.sc];exact zpy _ _)) (by simp only[AB.sc];exact zuX _ _)) ?_
 simp only[AB.sc,List.all_append,List.length_set,hc,Bool.true_and]
 simp[AV.scA,AV.scB]
 omega
end
theorem zGa {H:zaa} {is im iv:Nat} {c:List AV} {s s':List (IT × Nat)} (h1:is≠im) (h2:is≠iv) (h3:im≠iv) (hl:s.length=s'.length) (hk:kvS s 0=kvS s' 0) :
  (sw H is im iv c s).set iv (.vec zaB 5 s.length (tms s'))=sw H is im iv c s':=by
 refine List.ext_getElem? fun i=>?_
 unfold sw
 rw[hk,hl]
 simp only[List.getElem?_set,List.length_set]
 repeat' split
 all_goals first | rfl | omega | simp_all
theorem zGc {H:zaa} {is im iv:Nat} {c:List AV} {s s':List (IT × Nat)} (h1:is≠im) (h2:is≠iv) (h3:im≠iv) {a b d:AB} (ha:a=.map (kvS s' 0)) (hb:b=.vec zaB 5 s'.length (tms s')) (hd:d=.cells (c++[.map im,.ov iv s'.length])) :
  (((sw H is im iv c s).set im a).set iv b).set is d=sw H is im iv c s':=by
 subst ha hb hd
 refine List.ext_getElem? fun i=>?_
 unfold sw
 simp only[List.getElem?_set,List.length_set]
 repeat' split
 all_goals first | rfl | omega | simp_all
theorem ztF (i:IT) (c:Nat):∀ s:List (IT × Nat),(za4 s i c).length≤s.length+1
 | []=>by simp[za4]
 | p::s=>by
  have:=ztF i c s
  unfold za4
  split <;> simp <;> omega
theorem znn:∀ (l s:List (IT × Nat)),(zbo s l).length≤s.length+l.length
 | [],s=>by simp[zbo]
 | p::l,s=>by
  have h1:=znn l (za4 s p.1 p.2)
  have h2:=ztF p.1 p.2 s
  have e:zbo s (p::l)=zbo (za4 s p.1 p.2) l:=rfl
  rw[e,List.length_cons];omega
theorem zuh:∀ (l s:List (IT × Nat)),∀ p∈zbo s l,(∃ q∈s,q.1=p.1)∨∃ q∈l,q.1=p.1
 | [],s,p,hp=>.inl ⟨p,hp,rfl⟩
 | x::l,s,p,hp=>by
  have e:zbo s (x::l)=zbo (za4 s x.1 x.2) l:=rfl
  rw[e]at hp
  rcases zuh l _ p hp with ⟨q,hq,h⟩ | ⟨q,hq,h⟩
  ·rcases zgr hq with ⟨h1,_⟩ | h1
   ·exact .inr ⟨x,by simp,by rw[←h,h1]⟩
   ·exact .inl ⟨q,h1,h⟩
  ·exact .inr ⟨q,by simp[hq],h⟩
theorem zF8 (l:List (IT × Nat)) (hl:∀ p∈l,p.1.nodes≤1000∧Dig p.1) (H:zaa) (is im iv:Nat) (c:List AV) (s:List (IT × Nat)) (hS:Sw H is im iv c s) (hsn:(s.map Prod.fst).Nodup) (hsd:∀ p∈s,Dig p.1)
  (hb:zaJ (fun _=>1) s+zaJ (fun _=>1) l<1000000000 ^ 20) (hle:s.length+l.length≤100000) (K:Kt) (hK:K (.tup []) (sw H is im iv c (zbo s l))) :
  ACalls tP zoG [.ptr is 0,.sl (zaT l) .none] H K:=by
 refine ACalls.out (zPu fun hs=>?_)
 simp[zAv,Nat.add_assoc]
 have hcl:∀ j,((zbo s (l.take j)).map Prod.fst).Nodup:=fun j=>zno _ _ hsn
 have hcd:∀ j,∀ p∈zbo s (l.take j),Dig p.1:=fun j p hp=>by
  rcases zuh _ _ p hp with ⟨q,hq,he⟩ | ⟨q,hq,he⟩
  ·rw[←he];exact hsd q hq
  ·rw[←he];exact (hl q (List.mem_of_mem_take hq)).2
 have hcn:∀ j,(zbo s (l.take j)).length≤s.length+l.length:=fun j=>Nat.le_trans (znn _ _) (by simp[List.length_take];omega)
 refine zPs (Inv:=fun q t11 H'=>∃ j:Nat,j≤l.length∧l.length-j=q∧t11=.int .i64 j∧H'=sw H is im iv c (zbo s (l.take j))) l.length ?_ ?_
 ·intro _;exact⟨0,by omega,rfl,rfl,by rw[List.take_zero,zCH,hS.self]⟩
 ·rintro q t11 H' ⟨j,hj,rfl,rfl,rfl⟩ hsc' hlen hsF Kb hKb
  by_cases hjl:j<l.length
  ·have hst:zbo s (l.take (j+1))=za4 (zbo s (l.take j)) l[j].1 l[j].2:=by rw[List.take_succ_eq_append_getElem hjl,zCI]
   have hcj:=hcl j
   have hdj:=hcd j
   have hnj:=hcn j
   have hsum:zaJ (fun _=>1) (zbo s (l.take j))+l[j].2≤zaJ (fun _=>1) s+zaJ (fun _=>1) l:=by
    have h1:=znp (fun _=>1) (l.take (j+1)) s
    rw[hst,znb]at h1
    have h2:=zF6 (fun _=>1) l (j+1)
    rw[zc1]at h2 ⊢
    simp only[zc1,Nat.mul_one]at h1 h2 ⊢
    omega
   obtain⟨hn,hd⟩:=hl _ (List.getElem_mem hjl)
   generalize hu:zbo s (l.take j)=u at *
   have hSj:Sw (sw H is im iv c u) is im iv c u:=hS.next
   obtain⟨x2,y2,hvx2,hx2,hy2⟩:=zdJ l[j].1
   simp[zsf,hjl,zfn,zfm,zdA,Nat.add_assoc]
   refine⟨zfn _,?_⟩
   have hlen0:(sw H is im iv c u).length=H.length:=zGb
   simp only[zm7]
   have hg0:∀ J,(sw H is im iv c u++(AB.cells (tmC l[j])::J))[H.length]?=some (.cells (tmC l[j])):=fun J=>by simp[List.getElem?_append]
   simp[hg0,zdA,Nat.add_assoc]
   obtain⟨txt,htxt⟩:∃ txt,txt=wrI l[j].1:=⟨_,rfl⟩
   have htl:=zpN l[j].1
   have htne:txt≠[]:=by rw[htxt];obtain⟨r,hr⟩:=zpM l[j].1 [];rw[List.append_nil]at hr;rw[hr];simp
   have htp:0<txt.length:=List.length_pos_iff.2 htne
   refine ACalls.ownB (id:=H.length+1) (t:=112) (p:=.nilp) 5 1 (by simp[List.getElem?_append]) ?_
   have hX1:(sw H is im iv c u++[AB.cells (tmC l[j]),.bld 112 [.nilp,.snil]]).set (H.length+1) (.bld 112 [.nilp,.sl [] (.own (sw H is im iv c u++[AB.cells (tmC l[j]),.bld 112 [.nilp,.snil]]).length)])++[.perm 5 1 0] =
     sw H is im iv c u++[AB.cells (tmC l[j]),.bld 112 [.nilp,.sl (bcs []) (.own (H.length+2))],.perm 5 1 0]:=by simp[List.set_append_right,bcs]
   rw[hX1]
   have hWb:Wb (sw H is im iv c u++[AB.cells (tmC l[j]),.bld 112 [.nilp,.sl (bcs []) (.own (H.length+2))],.perm 5 1 0]) (H.length+1) (H.length+2) []:=⟨by omega,⟨.nilp,.inl rfl,by simp[List.getElem?_append]⟩,by simp[List.getElem?_append]⟩
   refine ACalls.toFrz (zQ6 _ l[j].1 (Nat.le_refl _) hn hd _ _ _ [] hWb (by simp;omega) _ ?_)
   rw[List.nil_append,←htxt]
   refine⟨H.length+2,5,txt.length,htp,hWb.next.h2,?_⟩
   have hX2:(wb (sw H is im iv c u++[AB.cells (tmC l[j]),.bld 112 [.nilp,.sl (bcs []) (.own (H.length+2))],.perm 5 1 0]) (H.length+1) (H.length+2) txt).set (H.length+2) (.frz 5 1 txt.length) =
     sw H is im iv c u++[AB.cells (tmC l[j]),.bld 112 [.ptr (H.length+1) 0,.sl (bcs txt) (.own (H.length+2))],.frz 5 1 txt.length]:=by simp[wb,List.set_append_right]
   rw[hX2]
   obtain⟨E,hE⟩:∃ E,E=[AB.cells (tmC l[j]),.bld 112 [.ptr (H.length+1) 0,.sl (bcs txt) (.own (H.length+2))],.frz 5 1 txt.length]:=⟨_,rfl⟩
   rw[←hE]
   have hSE:∀ J,Sw (sw H is im iv c u++(E++J)) is im iv c u:=fun J=>hSj.app
   have e1:∀ J,(sw H is im iv c u++(E++J))[H.length]?=some (.cells (tmC l[j])):=fun J=>by rw[hE];simp[List.getElem?_append]
   have e2:∀ J,(sw H is im iv c u++(E++J))[H.length+1]?=some (.bld 112 [.ptr (H.length+1) 0,.sl (bcs txt) (.own (H.length+2))]):=fun J=>by rw[hE];simp[List.getElem?_append]
   have e3:∀ J,(sw H is im iv c u++(E++J))[H.length+2]?=some (.frz 5 1 txt.length):=fun J=>by rw[hE];simp[List.getElem?_append]
   have hc4:(c++[.map im,.ov iv u.length])[4]?=some (.map im):=by rw[List.getElem?_append_right (by rw[hS.c4];omega),hS.c4];rfl
   have hc5:(c++[.map im,.ov iv u.length])[5]?=some (.ov iv u.length):=by rw[List.getElem?_append_right (by rw[hS.c4];omega),hS.c4];rfl
   have hSE0:=hSE []
   rw[List.append_nil]at hSE0
   have e10:=e1 []
   rw[List.append_nil]at e10
   have hstr:∀ (J:zaa) (r:AV→zaa→Prop),r (.str txt) (sw H is im iv c u++(E++J))→ACalls tP zha [.ptr (H.length+1) 0] (sw H is im iv c u++(E++J)) r:=fun J r h=>zBP htne (e2 J) (e3 J) h
   simp[hSE0.h1,zc5 _ hc4]
   refine zaE (.str txt) (fun J=>by rw[List.append_assoc];exact hstr J _ ⟨rfl,rfl⟩) ?_
   simp[hSE0.h2]
   have hdone:∀ E:zaa,Kb (zhO (.ptr is 0) (.sl (zaT l) .none) (.int .i64 l.length) (.int .i64 (j+1))) (sw H is im iv c (za4 u l[j].1 l[j].2)++E):=fun E=>
    hKb _ _ ⟨l.length-(j+1),by omega,Back.at (J:=E) (H2:=sw H is im iv c (za4 u l[j].1 l[j].2)) rfl (by simp) (hS.hsc hs) (by
     have:=zbj hS.h1
     simp[zhO,ux,AV.sc,AV.scA,AV.scB,AV.scV];omega) ⟨_,rfl,j+1,by omega,rfl,rfl,by rw[hst]⟩⟩
   by_cases hex:∃ k,∃ h:k<u.length,u[k].1=l[j].1
   ·obtain⟨k,hku,hke⟩:=hex
    have hkv:=zuY hd u 0 k hku hdj hcj hke
    rw[Nat.zero_add,←htxt]at hkv
    simp[hkv,hSE0.h1,zc5 _ hc5,hku]
    have hku2:=znS (List.getElem_mem hku)
    have hbb:zaJ (fun _=>1) s+zaJ (fun _=>1) l<1000000000 ^ 30:=Nat.lt_of_lt_of_le hb (by decide)
    have hb1:u[k].2<1000000000 ^ 30:=by omega
    have hb2:l[j].2<1000000000 ^ 30:=by omega
    have hu':za4 u l[j].1 l[j].2=u.set k (u[k].1,u[k].2+l[j].2):=ztE hku hke hcj
    have hrk:∀ x∈zak ((u[k].2+l[j].2:Nat):Int),x.known=true:=List.all_eq_true.1 (zhl _)
    simp[hSE0.h3,zGg hku,e10,zc2]
    refine⟨by omega,?_⟩
    refine zaE (.agg (zak ((u[k].2+l[j].2:Nat):Int))) (fun J=>zRa _ _ hb1 hb2 _ _ ⟨rfl,rfl⟩) ?_
    have hst3:=zGj hku (u[k].2+l[j].2)
    rw[List.append_assoc]at hst3
    simp[hSE0.h3,zl2,zsh,wi j (by omega)]
    refine⟨by omega,?_⟩
    rw[Int.natCast_add]at hst3
    rw[hst3,←hu']
    have hfl:u.length=(za4 u l[j].1 l[j].2).length:=by rw[hu'];simp
    have hkk:kvS u 0=kvS (za4 u l[j].1 l[j].2) 0:=by rw[hu',zDy u hku]
    have hset:=zGa (H:=H) (c:=c) hS.n1 hS.n2 hS.n3 hfl hkk
    have hset2:(sw H is im iv c u++E).set iv (.vec zaB 5 u.length (tms (za4 u l[j].1 l[j].2)))=sw H is im iv c (za4 u l[j].1 l[j].2)++E:=by
     rw[List.set_append_left _ _ (by simpa using zbj hS.h3),hset]
    rw[hset2]
    exact hdone E
   ·have hnone:=zuW hd u 0 hdj (fun p hp he=>by
     obtain⟨k,hk,rfl⟩:=List.getElem_of_mem hp
     exact hex ⟨k,hk,he⟩)
    rw[←htxt]at hnone
    obtain⟨hk1,hk2⟩:=hnone
    simp[hk1,hSE0.h1,zc5 _ hc4]
    refine zaE (.str txt) (fun J=>by rw[List.append_assoc];exact hstr J _ ⟨rfl,rfl⟩) ?_
    simp[hSE0.h1,zc5 _ hc5,hSE0.h2]
    have hu':za4 u l[j].1 l[j].2=u++[l[j]]:=ztH (fun p hp he=>by
     obtain⟨k,hk,rfl⟩:=List.getElem_of_mem hp
     exact hex ⟨k,hk,he⟩)
    have hmp:=hk2 l[j].2
    rw[Nat.zero_add]at hmp
    have him:=zbj hS.h2
    have hiv:=zbj hS.h3
    have his:=zbj hS.h1
    obtain⟨M,hM⟩:∃ M,M=AB.map (zct (kvS u 0) txt (.int .i64 u.length)):=⟨_,rfl⟩
    rw[←hM]
    have g1:((sw H is im iv c u++E).set im M)[is]?=some (.cells (c++[.map im,.ov iv u.length])):=by rw[List.getElem?_set_ne hS.n1.symm];exact hSE0.h1
    have g2:((sw H is im iv c u++E).set im M)[iv]?=some (.vec zaB 5 u.length (tms u)):=by rw[List.getElem?_set_ne hS.n3];exact hSE0.h3
    have g3:((sw H is im iv c u++E).set im M)[H.length]?=some (.cells (tmC l[j])):=by rw[List.getElem?_set_ne (by omega)];exact e10
    have hp0:plain ([.int .i64 0,.snil,.bool false,.snil,.snil]:List AV)=some [.int .i64 0,.sl [] .none,.bool false,.sl [] .none,.sl [] .none]:=rfl
    simp[g1,zc5 _ hc5,g3,zfm,zau,zaR,zoZ,hp0]
    simp only[zaw,zaK,zaG,g2]
    simp[g1]
    refine⟨by omega,?_⟩
    have g4:(((sw H is im iv c u++E).set im M).set iv (.vec zaB 5 (u.length+1) (tms u++tmC l[j])))[is]?=some (.cells (c++[.map im,.ov iv u.length])):=by rw[List.getElem?_set_ne hS.n2.symm];exact g1
    have ht5:List.take 5 (c++[.map im,.ov iv u.length])=c++[.map im]:=by
     have:c++[.map im,.ov iv u.length]=(c++[.map im])++[.ov iv u.length]:=by simp
     rw[this,List.take_append_of_le_length (by simp[hS.c4]),List.take_of_length_le (by simp[hS.c4])]
    have hd5:List.drop (5+1) (c++[.map im,.ov iv u.length])=[]:=List.drop_of_length_le (by simp[hS.c4])
    rw[g4]
    simp only[zB5,ht5,hd5]
    simp[AV.known,hS.c4,zl2,zsh,wi j (by omega)]
    have hlu:u.length+1=(u++[l[j]]).length:=by simp
    have hset:=zGc (H:=H) (c:=c) (s:=u) (s':=u++[l[j]]) hS.n1 hS.n2 hS.n3 (a:=M) (b:=.vec zaB 5 (u.length+1) (tms u++tmC l[j])) (d:=.cells (c++[.map im,.ov iv (u.length+1)]))
     (by rw[hM,hmp]) (by rw[hlu,zjC];simp[tms]) (by rw[hlu])
    have hset2:(((sw H is im iv c u++E).set im M).set iv (.vec zaB 5 (u.length+1) (tms u++tmC l[j]))).set is (.cells (c++[.map im,.ov iv (u.length+1)]))=sw H is im iv c (za4 u l[j].1 l[j].2)++E:=by
     rw[List.set_append_left _ _ (by simpa using him),List.set_append_left _ _ (by simpa using hiv),List.set_append_left _ _ (by simpa using his),hset,hu']
    rw[hset2]
    exact hdone E
  ·obtain rfl:j=l.length:=by omega
   rw[List.take_length]at *
   simp[zsf]
   exact zw5 (J:=[]) (by simp) (by simp) (hS.hsc hs) hK
end Go.Proofs.YtdmamdnkcefmmaaGreatDoor
namespace Go.Abs
open Go Go.RowKit
variable {P:Program} {B:Nat} {w:World} {G:Gh} {H:zaa}
inductive OutX (H:zaa) (n:Nat):AV→AV→Prop
 | two {a b:AV} (h:OutW H n a b):OutX H n a b
 | msr (id len:Nat) (cs:List AV) (rs:List (List (List AV))) (hid:n≤id) (hH:H[id]?=some (.cells cs)) (hm:rs.length=len)
   (hall:All2 (OutV H n) cs (rs.map fun r=>.sl r .none)):OutX H n (.ms id 0 len len) (.sl (rs.map fun r=>[.sl r .none]) .none)
theorem OutX.vrel (hH:HRel B w G H) {n:Nat} {v:Value} {a b:AV} (h:OutX H n a b) (hr:TRel w G v a):VRel w (G.cut w n) v b:=by
 cases h with
 | two h=>exact h.vrel hH hr
 | msr id len cs rs hid hHid hm hall=>
  obtain⟨b,hμ,rfl⟩:=hr
  obtain⟨hB,hL,vs,e,hw,hcs⟩:=hH.ok id _ _ hHid hμ
  subst hm
  show DRel w (G.cut w n).L _ _
  by_cases hne:rs=[]
  ·subst hne;exact .slE _ _
  ·have hd:All2 (DRel w (G.cut w n).L) vs.toList (rs.map fun r=>AV.sl r .none):=All2.of_get (hcs.length.trans hall.length) fun i x y hx hy=>by
    obtain⟨a,ha,hxa⟩:=All2.get' hcs hx
    obtain⟨y',hy',hay⟩:=All2.get' hall ha
    rw[hy]at hy'
    cases hy'
    obtain⟨r,hr,rfl⟩:∃ r,rs[i]?=some r∧AV.sl r .none=y:=by simpa using hy
    exact hay.vrel hH (TRel.of_v (VRel.of_a hxa))
   have hfl:∀ l:List (List (List AV)),(l.map fun r=>[AV.sl r .none]).flatten=l.map fun r=>AV.sl r .none:=by
    intro l
    induction l with
    | nil=>rfl
    | cons r l ih=>simp[ih]
   have hvl:=hcs.length
   have hal:=hall.length
   have:=DRel.of_flat_at (w:=w) (L:=(G.cut w n).L) (g:=b) (off:=0) (size:=1) (cap:=rs.length) (es:=rs.map fun r=>[AV.sl r .none]) (zs:=vs.toList) (by simp) (by simpa using hne) (by simp) ?_ (by rw[hfl rs];exact hd) ?_
   ·simpa using this
   ·have:(G.cut w n).L b=vs.size:=by
     simp only[Gh.cut]
     rw[if_pos (cut_dropped.2 ⟨id,_,hid,hμ,rfl⟩),hw]
    rw[this]
    simp at hvl hal ⊢
    omega
   ·intro j u hj
    rw[Nat.zero_add]
    simp only[World.cell?,hw]
    simpa using hj
inductive OutT3 (H:zaa) (n:Nat):AV→AV→Prop
 | one {a b:AV} (h:OutX H n a b):OutT3 H n a b
 | tup {asx bs:List AV} (h:All2 (OutX H n) asx bs):OutT3 H n (.tup asx) (.tup bs)
/- Slots that are appended to: a block of their own for each. -/
theorem ALoop.ovC {c:Code} {Q:AExit→List AV→zaa→Prop} {F:List AV} {id j:Nat} {cs:List AV} (e size:Nat) (hid:H[id]?=some (.cells cs)) (hj:cs[j]?=some .snil)
  (h:ALoop P c Q F (H.set id (.cells (cs.set j (.ov H.length 0)))++[.vec e size 0 []])):ALoop P c Q F H:=by
 intro B w G a hH hF hd
 obtain⟨G',hE,hH'⟩:=hH.ovCell e size hid hj
 refine wp_mono (h B w G' a hH' (hF.ext hE) hd) fun e a' w' hp=>?_
 obtain⟨F'',H'',G'',e'',rfl,k1,k2,k3,k4,k5⟩:=hp
 exact⟨F'',H'',G'',e'',rfl,hE.trans k1,k2,k3,k4,k5⟩
section
variable {α:Type}
def vcs:Nat→List (List α)→List AV
 | _,[]=>[]
 | b,l::ls=>.ov b l.length::vcs (b+1) ls
def vbs (f:α→List AV) (e size:Nat) (ls:List (List α)):List AB:=ls.map fun l=>.vec e size l.length (l.flatMap f)
@[simp] theorem zxo:∀ (b:Nat) (ls:List (List α)),(vcs b ls).length=ls.length
 | _,[]=>rfl
 | b,l::ls=>by simp[vcs,zxo (b+1) ls]
@[simp] theorem zWE (f:α→List AV) (e size:Nat) (ls:List (List α)):(vbs f e size ls).length=ls.length:=by simp[vbs]
theorem zjJ:∀ (b:Nat) (ls:List (List α)) (k:Nat),(vcs b ls)[k]?=ls[k]?.map fun l=>.ov (b+k) l.length
 | _,[],k=>by simp[vcs]
 | b,l::ls,0=>by simp[vcs]
 | b,l::ls,k+1=>by simp[vcs,zjJ (b+1) ls k];cases ls[k]? <;> simp;omega
theorem zGw (f:α→List AV) (e size:Nat) (ls:List (List α)) (k:Nat):(vbs f e size ls)[k]?=ls[k]?.map fun l=>.vec e size l.length (l.flatMap f):=by simp[vbs]
theorem zpI:∀ (b:Nat) (ls:List (List α)) (k:Nat) (l:List α),(vcs b ls).set k (.ov (b+k) l.length)=vcs b (ls.set k l)
 | _,[],k,l=>by simp[vcs]
 | b,x::ls,0,l=>by simp[vcs]
 | b,x::ls,k+1,l=>by
  have:=zpI (b+1) ls k l
  rw[show b+1+k=b+(k+1) by omega]at this
  simp[vcs,this]
theorem zGx (f:α→List AV) (e size:Nat) (ls:List (List α)) (k:Nat) (l:List α):(vbs f e size ls).set k (.vec e size l.length (l.flatMap f))=vbs f e size (ls.set k l):=by
 simp[vbs,List.map_set]
theorem zGy:∀ (b n:Nat),vcs b (List.replicate (n+1) ([]:List α))=.ov b 0::vcs (b+1) (List.replicate n ([]:List α))
 | b,n=>rfl
theorem ALoop.ovCs {c:Code} {Q:AExit→List AV→zaa→Prop} {F:List AV} (α:Type) (f:α→List AV) {id:Nat} (e size:Nat):∀ (n:Nat) (pre:List AV) (H:zaa),H[id]?=some (.cells (pre++List.replicate n .snil)) →
  ALoop P c Q F (H.set id (.cells (pre++vcs H.length (List.replicate n ([]:List α))))++vbs f e size (List.replicate n ([]:List α)))→ALoop P c Q F H
 | 0,pre,H,hid,h=>by
  have hs:H.set id (.cells (pre++vcs H.length (List.replicate 0 ([]:List α))))=H:=by
   refine List.ext_getElem? fun i=>?_
   rw[List.getElem?_set]
   split
   ·rename_i hi;subst hi;rw[if_pos (List.getElem?_eq_some_iff.1 hid).1,hid];simp[vcs]
   ·rfl
  rw[hs]at h
  simpa[vbs]using h
 | n+1,pre,H,hid,h=>by
  refine ALoop.ovC e size hid (j:=pre.length) (by simp) ?_
  have hlt:=(List.getElem?_eq_some_iff.1 hid).1
  have h1:(pre++List.replicate (n+1) AV.snil).set pre.length (.ov H.length 0)=(pre++[.ov H.length 0])++List.replicate n .snil:=by
   rw[List.set_append_right _ _ (Nat.le_refl _)];simp[List.replicate_succ]
  rw[h1]
  refine ALoop.ovCs α f e size n (pre++[.ov H.length 0]) _ (by rw[List.getElem?_append_left (by simpa using hlt),List.getElem?_set_self hlt]) ?_
  have h2:(H.set id (.cells (pre++[AV.ov H.length 0]++List.replicate n AV.snil))++[AB.vec e size 0 []]).set id (.cells (pre++[AV.ov H.length 0]++vcs (H.set id (.cells (pre++[AV.ov H.length 0]++List.replicate n AV.snil))++[AB.vec e size 0 []]).length (List.replicate n ([]:List α))))++vbs f e size (List.replicate n ([]:List α))
    = H.set id (.cells (pre++vcs H.length (List.replicate (n+1) ([]:List α))))++vbs f e size (List.replicate (n+1) ([]:List α)):=by
   rw[List.set_append_left _ _ (by simpa using hlt),List.set_set,List.append_assoc]
   simp[zGy,vbs,List.replicate_succ,vcs]
  rw[h2]
  exact h
def RdC (H:zaa) (lo:Nat) (f:α→List AV) (e size:Nat) (c:AV) (l:List α):Prop:=
 (l=[]∧c=.snil)∨∃ b,lo≤b∧c=.ov b l.length∧H[b]?=some (.vec e size l.length (l.flatMap f))
def RdL (H:zaa) (lo:Nat) (f:α→List AV) (e size:Nat) (a:AV) (ls:List (List α)):Prop:=
 ∃ id cs,lo≤id∧a=.ms id 0 ls.length ls.length∧H[id]?=some (.cells cs)∧All2 (RdC H lo f e size) cs ls
theorem RdC.pre {H H':zaa} {lo lo':Nat} {f:α→List AV} {e size:Nat} {c:AV} {l:List α} (h:RdC H lo f e size c l) (hp:H <+: H') (hl:lo'≤lo):RdC H' lo' f e size c l:=by
 rcases h with h | ⟨b,h1,h2,h3⟩
 ·exact .inl h
 ·obtain⟨J,rfl⟩:=hp
  exact .inr ⟨b,by omega,h2,by rw[List.getElem?_append_left (List.getElem?_eq_some_iff.1 h3).1];exact h3⟩
theorem RdL.pre {H H':zaa} {lo lo':Nat} {f:α→List AV} {e size:Nat} {a:AV} {ls:List (List α)} (h:RdL H lo f e size a ls) (hp:H <+: H') (hl:lo'≤lo):RdL H' lo' f e size a ls:=by
 obtain⟨id,cs,h1,h2,h3,h4⟩:=h
 refine⟨id,cs,by omega,h2,?_,h4.mono fun _ _ hc=>hc.pre hp hl⟩
 obtain⟨J,rfl⟩:=hp
 rw[List.getElem?_append_left (List.getElem?_eq_some_iff.1 h3).1];exact h3
theorem RdL.get {H:zaa} {lo:Nat} {f:α→List AV} {e size:Nat} {a:AV} {ls:List (List α)} (h:RdL H lo f e size a ls):∃ id cs,a=.ms id 0 ls.length ls.length∧H[id]?=some (.cells cs)∧cs.length=ls.length∧∀ k (hk:k<ls.length),∃ c,cs[k]?=some c∧RdC H lo f e size c ls[k]:=by
 obtain⟨id,cs,h1,h2,h3,h4⟩:=h
 refine⟨id,cs,h2,h3,h4.length,fun k hk=>?_⟩
 exact All2.get h4 (List.getElem?_eq_getElem hk)
theorem zjf:∀ {a b a' b':List AV},plain a=some a'→plain b=some b'→plain (a++b)=some (a'++b')
 | [],b,a',b',h1,h2=>by
  simp[plain]at h1
  subst h1;simpa using h2
 | x::a,b,a',b',h1,h2=>by
  simp only[plain]at h1
  cases hx:x.pd with
  | none=>rw[hx]at h1;simp at h1
  | some d=>
   cases ha:plain a with
   | none=>rw[hx,ha]at h1;simp at h1
   | some ds=>
    rw[hx,ha]at h1
    simp at h1
    subst h1
    simp[plain,hx,zjf ha h2]
theorem RdC.out {H:zaa} {lo:Nat} {f g:α→List AV} {e size:Nat} {c:AV} {l:List α} (h:RdC H lo f e size c l) (hp:∀ x∈l,plain (f x)=some (g x)) (hs:∀ x,(g x).length=size):OutV H lo c (.sl (l.map g) .none):=by
 rcases h with ⟨rfl,rfl⟩ | ⟨b,h1,rfl,h3⟩
 ·exact .wk (.atom .snil) rfl rfl
 ·refine .vfz b e size l.length _ _ h1 h3 ?_ (by simp) fun c hc=>by
   obtain⟨x,_,rfl⟩:=List.mem_map.1 hc
   exact hs x
  clear h3
  induction l with
  | nil=>rfl
  | cons x l ih=>
   rw[List.flatMap_cons,List.map_cons,List.flatten_cons]
   exact zjf (hp x (by simp)) (ih fun y hy=>hp y (by simp[hy]))
theorem RdL.out {H:zaa} {lo:Nat} {f g:α→List AV} {e size:Nat} {a:AV} {ls:List (List α)} (h:RdL H lo f e size a ls) (hp:∀ l∈ls,∀ x∈l,plain (f x)=some (g x)) (hs:∀ x,(g x).length=size):OutX H lo a (.sl (ls.map fun l=>[.sl (l.map g) .none]) .none):=by
 obtain⟨id,cs,h1,rfl,h3,h4⟩:=h
 have:=OutX.msr (H:=H) (n:=lo) id ls.length cs (ls.map fun l=>l.map g) h1 h3 (by simp) (All2.of_get (by simpa using h4.length) fun i x y hx hy=>by
  obtain⟨l,hl,hc⟩:=All2.get' h4 hx
  simp only[List.map_map,List.getElem?_map,hl,Option.map_some,Function.comp_apply,Option.some.injEq]at hy
  subst hy
  exact hc.out (hp l (List.mem_of_getElem? hl)) hs)
 rw[List.map_map]at this
 exact this
def NX (f:α→List AV) (e size:Nat) (H1:zaa) (st:List (List α)):zaa:=H1++(.cells (vcs (H1.length+1) st)::vbs f e size st)
theorem zen (f:α→List AV) (e size:Nat) (H1:zaa) (st:List (List α)):(NX f e size H1 st).length=H1.length+1+st.length:=by simp[NX];omega
theorem ztm (f:α→List AV) (e size:Nat) (H1:zaa) (st:List (List α)):H1 <+: NX f e size H1 st:=⟨_,rfl⟩
theorem ztj (f:α→List AV) (e size:Nat) (H1 J:zaa) (st:List (List α)):(NX f e size H1 st++J)[H1.length]?=some (.cells (vcs (H1.length+1) st)):=by simp[NX]
theorem ztk (f:α→List AV) (e size:Nat) (H1:zaa) (st:List (List α)):(NX f e size H1 st)[H1.length]?=some (.cells (vcs (H1.length+1) st)):=by simp[NX]
theorem zth (f:α→List AV) (e size:Nat) (H1 J:zaa) (st:List (List α)) {k:Nat} (hk:k<st.length):(NX f e size H1 st++J)[H1.length+1+k]?=some (.vec e size st[k].length (st[k].flatMap f)):=by
 rw[List.getElem?_append_left (by rw[zen];omega),NX,List.getElem?_append_right (by omega),show H1.length+1+k-H1.length=k+1 by omega,List.getElem?_cons_succ,zGw,List.getElem?_eq_getElem hk]
 rfl
theorem zti (f:α→List AV) (e size:Nat) (H1 J:zaa) {st:List (List α)} {k:Nat} {l:List α} (h:st[k]?=some l):(NX f e size H1 st++J)[H1.length+1+k]?=some (.vec e size l.length (l.flatMap f)):=by
 obtain⟨hk,rfl⟩:=List.getElem?_eq_some_iff.1 h
 exact zth f e size H1 J st hk
theorem zpH (b:Nat) {st:List (List α)} {k:Nat} {l:List α} (h:st[k]?=some l):(vcs b st)[k]?=some (.ov (b+k) l.length):=by rw[zjJ,h];rfl
theorem ztn (f:α→List AV) (e size:Nat) (H1 J:zaa) (st:List (List α)) {k:Nat} (hk:k<st.length) (l:List α):((NX f e size H1 st++J).set (H1.length+1+k) (.vec e size l.length (l.flatMap f))).set H1.length (.cells (vcs (H1.length+1) (st.set k l)))=NX f e size H1 (st.set k l)++J:=by
 rw[List.set_append_left _ _ (by rw[zen];omega),List.set_append_left _ _ (by simp[zen];omega)]
 congr 1
 unfold NX
 rw[List.set_append_right _ _ (by omega),List.set_append_right _ _ (by omega),show H1.length+1+k-H1.length=k+1 by omega,List.set_cons_succ,Nat.sub_self,List.set_cons_zero,zGx]
theorem zGz (b:Nat) (ls:List (List α)) {k:Nat} (hk:k<ls.length) (l:List α):(vcs b ls).take k++.ov (b+k) l.length::(vcs b ls).drop (k+1)=vcs b (ls.set k l):=by
 rw[←zpI,List.set_eq_take_append_cons_drop,if_pos (by simpa using hk)]
theorem zxp {n:Nat}:∀ (b:Nat) (ls:List (List α)),b+ls.length≤n→(vcs b ls).all (AV.scA n)=true
 | _,[],_=>rfl
 | b,l::ls,h=>by
  simp only[List.length_cons]at h
  have ih:=zxp (n:=n) (b+1) ls (by omega)
  have hb:b<n:=by omega
  rw[vcs,List.all_cons,ih,Bool.and_true]
  simpa[AV.scA,AV.scB]using hb
theorem zBM {f:α→List AV} {e size:Nat} {H1:zaa} {st:List (List α)} (hs:HSc H1) (hf:∀ x n,(f x).all (AV.scA n)=true):HSc (NX f e size H1 st):=by
 refine hs.append ?_
 rw[List.all_eq_true]
 intro b hb
 rcases List.mem_cons.1 hb with rfl | hb
 ·simp only[AB.sc]
  exact zxp _ _ (by simp;omega)
 ·obtain⟨l,_,rfl⟩:=List.mem_map.1 hb
  simp only[AB.sc,List.all_flatMap,hf]
  simp
theorem ALoop.nx {c:Code} {Q:AExit→List AV→zaa→Prop} {F:List AV} (f:α→List AV) (e size n:Nat) (h:ALoop P c Q F (NX f e size H (List.replicate n []))):ALoop P c Q F (H++[.cells (List.replicate n .snil)]):=by
 refine ALoop.ovCs α f (id:=H.length) e size n [] _ (by simp) ?_
 have:(H++[AB.cells (List.replicate n AV.snil)]).set H.length (.cells ([]++vcs (H++[AB.cells (List.replicate n AV.snil)]).length (List.replicate n ([]:List α))))++vbs f e size (List.replicate n ([]:List α))=NX f e size H (List.replicate n []):=by
  simp[NX,List.set_append_right]
 rw[this];exact h
theorem HRel.reVec (h:HRel B w G H) {id e size n:Nat} {cs cs':List AV} (hid:H[id]?=some (.vec e size n cs)) (hc:All2 WkA cs cs'):HRel B w G (H.set id (.vec e size n cs')):=by
 refine⟨by simp[h.len],?_,h.dist,h.fresh,h.lt,h.base⟩
 intro i ab gi h1 h2
 by_cases hi:i=id
 ·subst hi
  rw[List.getElem?_set_self (List.getElem?_eq_some_iff.1 hid).1]at h1
  cases h1
  have hok:=h.ok i _ _ hid h2
  cases gi with
  | blk b=>exact hok.elim
  | own v s n=>
   obtain⟨k1,k2,⟨xs,k3,k4⟩,k5⟩:=hok
   exact⟨k1,k2,⟨xs,k3,zpK (vs:=[]) hc k4⟩,k5⟩
  | gap=>exact hok.elim
 ·rw[List.getElem?_set_ne (fun h=>hi h.symm)]at h1
  exact h.ok i ab gi h1 h2
theorem ALoop.reVec {c:Code} {Q:AExit→List AV→zaa→Prop} {F:List AV} {id e size n:Nat} {cs cs':List AV} (hid:H[id]?=some (.vec e size n cs)) (hw:All2 WkA cs cs') (h:ALoop P c Q F (H.set id (.vec e size n cs'))):ALoop P c Q F H:=by
 intro B w G a hH hF hd
 exact h B w G a (hH.reVec hid hw) hF hd
theorem ACalls.reVec {f:FuncId} {args:List AV} {K:Kt} (h:ACalls P f args H fun r H'=>K r H'∨∃ id e size n cs cs',H'[id]?=some (.vec e size n cs)∧All2 WkA cs cs'∧K r (H'.set id (.vec e size n cs'))):ACalls P f args H K:=by
 intro B w G vs hH hv
 refine (h B w G vs hH hv).mono fun ex w' ⟨v,r,H',G',h1,h2,h3,h4,h5⟩=>?_
 rcases h5 with hk | ⟨id,e,size,n,cs,cs',hid,hw,hk⟩
 ·exact⟨v,r,H',G',h1,h2,h3,h4,hk⟩
 ·exact⟨v,r,_,G',h1,h2,h3.reVec hid hw,h4,hk⟩
end
end Go.Abs
