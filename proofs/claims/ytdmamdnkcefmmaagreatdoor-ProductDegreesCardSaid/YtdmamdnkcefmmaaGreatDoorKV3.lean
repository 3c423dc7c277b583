import Derived.Test.YtdmamdnkcefmmaaGreatDoorKNum
import Derived.Test.YtdmamdnkcefmmaaGreatDoorProg
import Derived.KernelRfl
import Derived.Test.YtdmamdnkcefmmaaGreatDoorKUA
set_option linter.unusedSimpArgs false
set_option linter.unusedVariables false
set_option maxRecDepth 8000
namespace Go.Proofs.YtdmamdnkcefmmaaGreatDoor
open Go Go.Abs
set_option maxRecDepth 100000
def zSG (_:Nat):List Bool:=[]
noncomputable def zSH:Code:=Tryz.f11.body.getD .skip
def zq9 (t0:AV) (H:zaa) (K:Kt):Prop:=
 zav t0 H fun t1 H=>
 zay [(.int .i64 0)] H fun t3 H=>
 zan 1 t3 (.int .i64 40) H fun H=>
 zae true 2 t1 H fun t4=>
 ACalls tP ziP [t4,t3] H fun t5 H=>
 K t5 H
theorem zSI {t0:AV} {H:zaa} {K:Kt} (h:HSc H→zq9 t0 H K):ACalls tP zi2 [t0] H K:=
 zao (M:=zSG) Tryz.func11 (c:=zSH) (by kernel_rfl) (fun hs=>Eq.mpr (by kernel_rfl) (h hs))
def zlX:Nat→List Bool
 | 5=>rl false [1,2,2,1,24]
 | _=>[]
noncomputable def zsb:Code:=Tryz.f39.body.getD .skip
noncomputable def zPb:List ResultVar:=Tryz.f39.results.toList
def zlY (t1 t2 t5:AV):List AV:=ux 1 (t1::t2::ux 2 (t5::ux 24 []))
def zO9:List Bool:=zlX 5
noncomputable def zO7:Code:=zaq [1,1,1,0,1,0,0] zsb
def zO6 (K:Kt):AExit→List AV→zaa→Prop:=zar tP zlX [1,1,1,0,1,0] zsb (zax tP zPb K)
def zAr (t1 t2 t5:AV) (H:zaa) (K:Kt):Prop:=ALoop tP zO7 (zO6 K) (zlY t1 t2 t5) H
def zsa (t1 t2 t5:AV) (H:zaa) (K:Kt) (Kb5:Lt):Prop:=
 zaf 1 t2 fun t16=>
 zae false 1 t16 H fun t17=>
 zah 1 t17 fun t18=>
 zab .lss false t5 t18 fun t19=>
 zag t19
 (zaf 1 t2 fun t22=>
 zae false 1 t22 H fun t23=>
 zai 2 t23 t5 fun t25=>
 zae true 2 t25 H fun t26=>
 ACalls tP ziP [t26,t1] H fun t28 H=>
 aUn .not t28 fun t29=>
 zag t29
 (K (.bool false) H)
 (zab .add false t5 (.int .i64 1) fun t21=>
 Kb5 (zlY t1 t2 t21) H))
 (K (.bool true) H)
def zAq (t0 t1:AV) (H:zaa) (K:Kt):Prop:=
 zav t0 H fun t2 H=>
 za2 t1 fun t7=>
 zae false 1 t7 H fun t8=>
 zab .sub false t8 (.int .i64 1) fun t9=>
 za2 t1 fun t10=>
 zan 1 t10 t9 H fun H=>
 za2 t1 fun t12=>
 zae false 1 t12 H fun t13=>
 zab .lss false t13 (.int .i64 0) fun t14=>
 zag t14
 (K (.bool false) H)
 (zAr t1 t2 (.int .i64 0) H K)
theorem zO8 {t1 t2 t5:AV} {H:zaa} {K:Kt} (Inv:Nat→AV→zaa→Prop) (n:Nat) (h0:HSc H→Inv n t5 H)
  (round:Rd1 (fun t5=>zlY t1 t2 t5) (fun t5=>fun H Kb5=>zsa t1 t2 t5 H K Kb5) H Inv):zAr t1 t2 t5 H K:=
 lp1 (M:=zlX) zO9 t5 (by kernel_rfl) Inv n h0 round
theorem zPa {t0 t1:AV} {H:zaa} {K:Kt} (h:HSc H→zAq t0 t1 H K):ACalls tP ziP [t0,t1] H K:=
 zao (M:=zlX) Tryz.func39 (c:=zsb) (by kernel_rfl) (fun hs=>Eq.mpr (by kernel_rfl) (h hs))
def zPd (_:Nat):List Bool:=[]
noncomputable def zPe:Code:=Tryz.f40.body.getD .skip
def zAs (t0 t1 t2:AV) (H:zaa) (K:Kt):Prop:=
 zav t1 H fun t4 H=>
 zav t2 H fun t5 H=>
 zae true 3 t4 H fun t10=>
 ACalls tP zoK [t0,t10] H fun t11 H=>
 aUn .not t11 fun t12=>
 zag t12
 (K (.int .i64 (-1)) H)
 (zae true 3 t4 H fun t15=>
 zae true 2 t5 H fun t16=>
 ACalls tP ziW [t0,t15,t16] H fun t17 H=>
 zaz t17 0 fun t18=>
 zaz t17 1 fun t19=>
 aUn .not t19 fun t21=>
 zag t21
 (K (.int .i64 (-1)) H)
 (K t18 H))
theorem zPf {t0 t1 t2:AV} {H:zaa} {K:Kt} (h:HSc H→zAs t0 t1 t2 H K):ACalls tP zg7 [t0,t1,t2] H K:=
 zao (M:=zPd) Tryz.func40 (c:=zPe) (by kernel_rfl) (fun hs=>Eq.mpr (by kernel_rfl) (h hs))
def zNu (_:Nat):List Bool:=[]
noncomputable def zNv:Code:=Tryz.f23.body.getD .skip
def zzQ (t0 t1 t2:AV) (H:zaa) (K:Kt):Prop:=
 zav t1 H fun t4 H=>
 zav t2 H fun t5 H=>
 zae true 3 t4 H fun t8=>
 ACalls tP zoJ [t0,t8] H fun t9 H=>
 aUn .not t9 fun t10=>
 zag t10
 (K (.int .i64 (-1)) H)
 (zae true 3 t4 H fun t12=>
 zae true 2 t5 H fun t13=>
 ACalls tP ziV [t0,t12,t13] H fun t14 H=>
 K t14 H)
theorem zNw {t0 t1 t2:AV} {H:zaa} {K:Kt} (h:HSc H→zzQ t0 t1 t2 H K):ACalls tP zg2 [t0,t1,t2] H K:=
 zao (M:=zNu) Tryz.func23 (c:=zNv) (by kernel_rfl) (fun hs=>Eq.mpr (by kernel_rfl) (h hs))
def zQP (_:Nat):List Bool:=[]
noncomputable def zQQ:Code:=Tryz.f73.body.getD .skip
def zAZ (t0 t1:AV) (H:zaa) (K:Kt):Prop:=
 zav t1 H fun t3 H=>
 zas [.snil,.snil,.snil,.snil] [(0,1),(1,1),(2,1),(3,1)] [(0,t0)] fun t6=>
 ACalls tP znY [t6] H fun t7 H=>
 zac t7 true H (fun K'=>K' t0 H) fun t9 H=>
 zac t7 true H (fun K'=>zae true 3 t3 H (K' · H)) fun t10 H=>
 zac t7 true H (fun K'=>ACalls tP zgY [t9,t10,(.int .i64 0)] H K') fun t11 H=>
 zaj t7 t11 (.bool false) fun t12=>
 K t12 H
theorem zQR {t0 t1:AV} {H:zaa} {K:Kt} (h:HSc H→zAZ t0 t1 H K):ACalls tP zoK [t0,t1] H K:=
 zao (M:=zQP) Tryz.func73 (c:=zQQ) (by kernel_rfl) (fun hs=>Eq.mpr (by kernel_rfl) (h hs))
def zmw:Nat→List Bool
 | 13=>rl false [0,1,3,1,3,1,44,3,42]
 | _=>[]
noncomputable def zsH:Code:=Tryz.f74.body.getD .skip
noncomputable def zQY:List ResultVar:=Tryz.f74.results.toList
def zmx (t0 t4 t8 t53 t54 t55:AV):List AV:=t0::ux 3 (t4::ux 3 (t8::ux 44 (t53::t54::t55::ux 42 [])))
def zQW:List Bool:=zmw 13
noncomputable def zQU:Code:=zaq [1,0,1,0,1,1,1,1,1,0,1,1,0,1,0,0] zsH
def zQT (K:Kt):AExit→List AV→zaa→Prop:=zar tP zmw [1,0,1,0,1,1,1,1,1,0,1,1,0,1,0] zsH (zax tP zQY K)
def zA0 (t0 t4 t8 t53 t54 t55:AV) (H:zaa) (K:Kt):Prop:=ALoop tP zQU (zQT K) (zmx t0 t4 t8 t53 t54 t55) H
def zsG (t0 t4 t8 t53 t54 t55:AV) (H:zaa) (K:Kt) (Kb13:Lt):Prop:=
 zab .lss false t55 t54 fun t56=>
 zag t56
 (zai 2 t53 t55 fun t57=>
 zae true 2 t57 H fun t58=>
 zay [(.int .i64 0),.snil] H fun t10 H=>
 zan 2 t10 t58 H fun H=>
 zae true 3 t4 H fun t61=>
 zaf 0 t10 fun t62=>
 zae false 1 t62 H fun t63=>
 ACalls tP znZ [t0,t61,t63] H fun t64 H=>
 zaz t64 0 fun t65=>
 zaz t64 1 fun t66=>
 aUn .not t66 fun t68=>
 zag t68
 (zaC [(.int .i64 0),(.bool false)] (K · H))
 (zaf 1 t10 fun t72=>
 zae false 1 t72 H fun t73=>
 ACalls tP zip [t0,t65,t73] H fun t74 H=>
 zaz t74 0 fun t75=>
 zaz t74 1 fun t76=>
 zab .add false (.int .i64 1) t75 fun t79=>
 zab .add false t8 t79 fun t80=>
 aUn .not t76 fun t82=>
 zac t82 false H (fun K'=>K' t80 H) fun t84 H=>
 zac t82 false H (fun K'=>zab .gtr false t84 (.int .i64 6) (K' · H)) fun t85 H=>
 zaj t82 (.bool true) t85 fun t86=>
 zag t86
 (zaC [(.int .i64 0),(.bool false)] (K · H))
 (zab .add false t55 (.int .i64 1) fun t87=>
 Kb13 (zmx t0 t4 t80 t53 t54 t87) H)))
 (zaC [t8,(.bool true)] (K · H))
def zdo (t0 t1 t2:AV) (H:zaa) (K:Kt):Prop:=
 zav t1 H fun t4 H=>
 zav t2 H fun t5 H=>
 zaf 0 t4 fun t14=>
 zae false 1 t14 H fun t15=>
 zab .eql false t15 (.int .i64 6) fun t17=>
 zag t17
 (zaf 0 t5 fun t18=>
 zae false 1 t18 H fun t19=>
 zab .neq false t19 (.int .i64 0) fun t20=>
 zag t20
 (zaC [(.int .i64 0),(.bool false)] (K · H))
 (zaf 2 t4 fun t22=>
 zae false 1 t22 H fun t23=>
 zaf 1 t5 fun t24=>
 zae false 1 t24 H fun t25=>
 ACalls tP zip [t0,t23,t25] H fun t26 H=>
 zaz t26 0 fun t27=>
 zaz t26 1 fun t28=>
 zaC [t27,t28] (K · H)))
 (zab .eql false t15 (.int .i64 7) fun t30=>
 zag t30
 (zad H (fun K'=>zaf 0 t5 (K' · H)) fun t31=>
 zad H (fun K'=>zal false 1 t31 H (K' · H)) fun t32=>
 zad H (fun K'=>zaf 0 t5 (K' · H)) fun t33=>
 zad H (fun K'=>zal false 1 t33 H (K' · H)) fun t34=>
 zad H (fun K'=>zab .geq false t34 (.int .i64 0) (K' · H)) fun t35=>
 zad H (fun K'=>K' t35 H) fun t36=>
 zac t36 true H (fun K'=>zad H (fun K''=>zaf 0 t5 (K'' · H)) (K' · H)) fun t37 H=>
 zac t36 true H (fun K'=>zad H (fun K''=>zal false 1 t37 H (K'' · H)) (K' · H)) fun t38 H=>
 zac t36 true H (fun K'=>zad H (fun K''=>zab .leq false t38 (.int .i64 6) (K'' · H)) (K' · H)) fun t39 H=>
 zad H (fun K'=>zaj t36 t39 (.bool false) (K' · H)) fun t40=>
 zad H (fun K'=>K' t40 H) fun t41=>
 zac t41 true H (fun K'=>zad H (fun K''=>zaf 1 t5 (K'' · H)) (K' · H)) fun t42 H=>
 zac t41 true H (fun K'=>zad H (fun K''=>zal false 1 t42 H (K'' · H)) (K' · H)) fun t43 H=>
 zac t41 true H (fun K'=>zad H (fun K''=>zah 1 t43 (K'' · H)) (K' · H)) fun t44 H=>
 zac t41 true H (fun K'=>zad H (fun K''=>zab .eql false t44 (.int .i64 0) (K'' · H)) (K' · H)) fun t45 H=>
 zad H (fun K'=>zaj t41 t45 (.bool false) (K' · H)) fun t46=>
 zad H (fun K'=>K' t32 H) fun t6=>
 zad H (fun K'=>K' t46 H) fun t7=>
 zaC [t6,t7] (K · H))
 (zab .eql false t15 (.int .i64 5) fun t48=>
 zag t48
 (zaf 0 t5 fun t49=>
 zae false 1 t49 H fun t50=>
 zab .neq false t50 (.int .i64 0) fun t51=>
 zag t51
 (zaC [(.int .i64 0),(.bool false)] (K · H))
 (zaf 1 t5 fun t52=>
 zae false 1 t52 H fun t53=>
 zah 1 t53 fun t54=>
 zA0 t0 t4 (.int .i64 0) t53 t54 (.int .i64 0) H K))
 (zad H (fun K'=>zaf 0 t5 (K' · H)) fun t89=>
 zad H (fun K'=>zal false 1 t89 H (K' · H)) fun t90=>
 zad H (fun K'=>zab .eql false t90 (.int .i64 0) (K' · H)) fun t91=>
 zad H (fun K'=>K' t91 H) fun t92=>
 zac t92 true H (fun K'=>zad H (fun K''=>zaf 1 t5 (K'' · H)) (K' · H)) fun t93 H=>
 zac t92 true H (fun K'=>zad H (fun K''=>zal false 1 t93 H (K'' · H)) (K' · H)) fun t94 H=>
 zac t92 true H (fun K'=>zad H (fun K''=>zah 1 t94 (K'' · H)) (K' · H)) fun t95 H=>
 zac t92 true H (fun K'=>zad H (fun K''=>zab .eql false t95 (.int .i64 0) (K'' · H)) (K' · H)) fun t96 H=>
 zad H (fun K'=>zaj t92 t96 (.bool false) (K' · H)) fun t97=>
 zad H (fun K'=>K' (.int .i64 0) H) fun t6=>
 zad H (fun K'=>K' t97 H) fun t7=>
 zaC [t6,t7] (K · H))))
theorem zQV {t0 t4 t8 t53 t54 t55:AV} {H:zaa} {K:Kt} (Inv:Nat→AV→AV→zaa→Prop) (n:Nat) (h0:HSc H→Inv n t8 t55 H)
  (round:Rd2 (fun t8=>fun t55=>zmx t0 t4 t8 t53 t54 t55) (fun t8=>fun t55=>fun H Kb13=>zsG t0 t4 t8 t53 t54 t55 H K Kb13) H Inv):zA0 t0 t4 t8 t53 t54 t55 H K:=
 lp2 (M:=zmw) zQW t8 t55 (by kernel_rfl) Inv n h0 round
theorem zQX {t0 t1 t2:AV} {H:zaa} {K:Kt} (h:HSc H→zdo t0 t1 t2 H K):ACalls tP ziW [t0,t1,t2] H K:=
 zao (M:=zmw) Tryz.func74 (c:=zsH) (by kernel_rfl) (fun hs=>Eq.mpr (by kernel_rfl) (h hs))
def zQa (_:Nat):List Bool:=[]
noncomputable def zQb:Code:=Tryz.f53.body.getD .skip
def zAK (t0 t1:AV) (H:zaa) (K:Kt):Prop:=
 zav t1 H fun t3 H=>
 ACalls tP zoI [t0] H fun t6 H=>
 zac t6 true H (fun K'=>K' t0 H) fun t8 H=>
 zac t6 true H (fun K'=>zae true 3 t3 H (K' · H)) fun t9 H=>
 zac t6 true H (fun K'=>ACalls tP ziR [t8,t9,(.int .i64 0)] H K') fun t10 H=>
 zaj t6 t10 (.bool false) fun t11=>
 K t11 H
theorem zQc {t0 t1:AV} {H:zaa} {K:Kt} (h:HSc H→zAK t0 t1 H K):ACalls tP zoJ [t0,t1] H K:=
 zao (M:=zQa) Tryz.func53 (c:=zQb) (by kernel_rfl) (fun hs=>Eq.mpr (by kernel_rfl) (h hs))
def zmo:Nat→List Bool
 | 15=>rl false [0,1,3,1,2,1,48,3,50]
 | _=>[]
noncomputable def zsA:Code:=Tryz.f59.body.getD .skip
noncomputable def zQw:List ResultVar:=Tryz.f59.results.toList
def zmp (t0 t4 t7 t56 t57 t58:AV):List AV:=t0::ux 3 (t4::ux 2 (t7::ux 48 (t56::t57::t58::ux 50 [])))
def zQu:List Bool:=zmo 15
noncomputable def zQs:Code:=zaq [1,0,1,0,1,1,1,1,1,0,1,1,0,1,0,0] zsA
def zQr (K:Kt):AExit→List AV→zaa→Prop:=zar tP zmo [1,0,1,0,1,1,1,1,1,0,1,1,0,1,0] zsA (zax tP zQw K)
def zAR (t0 t4 t7 t56 t57 t58:AV) (H:zaa) (K:Kt):Prop:=ALoop tP zQs (zQr K) (zmp t0 t4 t7 t56 t57 t58) H
def zhT (t0 t4 t7 t56 t57 t58:AV) (H:zaa) (K:Kt) (Kb15:Lt):Prop:=
 zab .lss false t58 t57 fun t59=>
 zag t59
 (zai 2 t56 t58 fun t60=>
 zae true 2 t60 H fun t61=>
 zay [(.int .i64 0),.snil] H fun t9 H=>
 zan 2 t9 t61 H fun H=>
 zaf 0 t9 fun t62=>
 zae false 1 t62 H fun t63=>
 zab .lss false t63 (.int .i64 0) fun t64=>
 zac t64 false H (fun K'=>zaf 0 t9 (K' · H)) fun t66 H=>
 zac t64 false H (fun K'=>zae false 1 t66 H (K' · H)) fun t67 H=>
 zac t64 false H (fun K'=>zab .geq false t67 (.int .i64 8) (K' · H)) fun t68 H=>
 zaj t64 (.bool true) t68 fun t69=>
 zag t69
 (K (.int .i64 (-1)) H)
 (zae true 3 t4 H fun t72=>
 zaf 0 t9 fun t73=>
 zae false 1 t73 H fun t74=>
 ACalls tP znV [t0,t72,t74] H fun t75 H=>
 zaz t75 0 fun t76=>
 zaz t75 1 fun t77=>
 aUn .not t77 fun t79=>
 zag t79
 (K (.int .i64 (-1)) H)
 (zaf 1 t9 fun t82=>
 zae false 1 t82 H fun t83=>
 ACalls tP zio [t0,t76,t83] H fun t84 H=>
 zab .lss false t84 (.int .i64 0) fun t86=>
 zac t86 false H (fun K'=>K' t7 H) fun t88 H=>
 zac t86 false H (fun K'=>zab .add false t88 (.int .i64 1) (K' · H)) fun t89 H=>
 zac t86 false H (fun K'=>K' t84 H) fun t90 H=>
 zac t86 false H (fun K'=>zab .add false t89 t90 (K' · H)) fun t91 H=>
 zac t86 false H (fun K'=>zab .gtr false t91 (.int .i64 6) (K' · H)) fun t92 H=>
 zaj t86 (.bool true) t92 fun t93=>
 zag t93
 (K (.int .i64 (-1)) H)
 (zab .add false (.int .i64 1) t84 fun t96=>
 zab .add false t7 t96 fun t97=>
 zab .add false t58 (.int .i64 1) fun t98=>
 Kb15 (zmp t0 t4 t97 t56 t57 t98) H))))
 (K t7 H)
def zc4 (t0 t1 t2:AV) (H:zaa) (K:Kt):Prop:=
 zav t1 H fun t4 H=>
 zav t2 H fun t5 H=>
 zaf 0 t4 fun t13=>
 zae false 1 t13 H fun t14=>
 zab .eql false t14 (.int .i64 6) fun t16=>
 zag t16
 (zaf 0 t5 fun t17=>
 zae false 1 t17 H fun t18=>
 zab .neq false t18 (.int .i64 0) fun t19=>
 zag t19
 (K (.int .i64 (-1)) H)
 (zaf 2 t4 fun t21=>
 zae false 1 t21 H fun t22=>
 zaf 1 t5 fun t23=>
 zae false 1 t23 H fun t24=>
 ACalls tP zio [t0,t22,t24] H fun t25 H=>
 K t25 H))
 (zab .eql false t14 (.int .i64 7) fun t27=>
 zag t27
 (zaf 0 t5 fun t28=>
 zae false 1 t28 H fun t29=>
 zab .lss false t29 (.int .i64 0) fun t30=>
 zac t30 false H (fun K'=>zaf 0 t5 (K' · H)) fun t32 H=>
 zac t30 false H (fun K'=>zae false 1 t32 H (K' · H)) fun t33 H=>
 zac t30 false H (fun K'=>zab .gtr false t33 (.int .i64 6) (K' · H)) fun t34 H=>
 zaj t30 (.bool true) t34 fun t35=>
 zac t35 false H (fun K'=>zaf 1 t5 (K' · H)) fun t37 H=>
 zac t35 false H (fun K'=>zae false 1 t37 H (K' · H)) fun t38 H=>
 zac t35 false H (fun K'=>zah 1 t38 (K' · H)) fun t39 H=>
 zac t35 false H (fun K'=>zab .gtr false t39 (.int .i64 0) (K' · H)) fun t40 H=>
 zaj t35 (.bool true) t40 fun t41=>
 zag t41
 (K (.int .i64 (-1)) H)
 (zaf 0 t5 fun t42=>
 zae false 1 t42 H fun t43=>
 K t43 H))
 (zab .eql false t14 (.int .i64 5) fun t45=>
 zag t45
 (zaf 0 t5 fun t46=>
 zae false 1 t46 H fun t47=>
 zab .neq false t47 (.int .i64 0) fun t48=>
 zac t48 false H (fun K'=>zaf 1 t5 (K' · H)) fun t50 H=>
 zac t48 false H (fun K'=>zae false 1 t50 H (K' · H)) fun t51 H=>
 zac t48 false H (fun K'=>zah 1 t51 (K' · H)) fun t52 H=>
 zac t48 false H (fun K'=>zab .gtr false t52 (.int .i64 6) (K' · H)) fun t53 H=>
 zaj t48 (.bool true) t53 fun t54=>
 zag t54
 (K (.int .i64 (-1)) H)
 (zaf 1 t5 fun t55=>
 zae false 1 t55 H fun t56=>
 zah 1 t56 fun t57=>
 zAR t0 t4 (.int .i64 0) t56 t57 (.int .i64 0) H K))
 (zaf 0 t5 fun t100=>
 zae false 1 t100 H fun t101=>
 zab .neq false t101 (.int .i64 0) fun t102=>
 zac t102 false H (fun K'=>zaf 1 t5 (K' · H)) fun t104 H=>
 zac t102 false H (fun K'=>zae false 1 t104 H (K' · H)) fun t105 H=>
 zac t102 false H (fun K'=>zah 1 t105 (K' · H)) fun t106 H=>
 zac t102 false H (fun K'=>zab .gtr false t106 (.int .i64 0) (K' · H)) fun t107 H=>
 zaj t102 (.bool true) t107 fun t108=>
 zag t108
 (K (.int .i64 (-1)) H)
 (K (.int .i64 0) H))))
theorem zQt {t0 t4 t7 t56 t57 t58:AV} {H:zaa} {K:Kt} (Inv:Nat→AV→AV→zaa→Prop) (n:Nat) (h0:HSc H→Inv n t7 t58 H)
  (round:Rd2 (fun t7=>fun t58=>zmp t0 t4 t7 t56 t57 t58) (fun t7=>fun t58=>fun H Kb15=>zhT t0 t4 t7 t56 t57 t58 H K Kb15) H Inv):zAR t0 t4 t7 t56 t57 t58 H K:=
 lp2 (M:=zmo) zQu t7 t58 (by kernel_rfl) Inv n h0 round
theorem zQv {t0 t1 t2:AV} {H:zaa} {K:Kt} (h:HSc H→zc4 t0 t1 t2 H K):ACalls tP ziV [t0,t1,t2] H K:=
 zao (M:=zmo) Tryz.func59 (c:=zsA) (by kernel_rfl) (fun hs=>Eq.mpr (by kernel_rfl) (h hs))
def zj6:Nat→List Bool
 | 5=>rl false [0,1,1,1,5,1,9,3,23]
 | _=>[]
noncomputable def zqa:Code:=Tryz.f124.body.getD .skip
noncomputable def zH1:List ResultVar:=Tryz.f124.results.toList
def zj7 (t0 t2 t8 t18 t19 t20:AV):List AV:=t0::ux 1 (t2::ux 5 (t8::ux 9 (t18::t19::t20::ux 23 [])))
def zHZ:List Bool:=zj6 5
noncomputable def zHX:Code:=zaq [1,1,1,0,1,0,0] zqa
def zHW (K:Kt):AExit→List AV→zaa→Prop:=zar tP zj6 [1,1,1,0,1,0] zqa (zax tP zH1 K)
def zxZ (t0 t2 t8 t18 t19 t20:AV) (H:zaa) (K:Kt):Prop:=ALoop tP zHX (zHW K) (zj7 t0 t2 t8 t18 t19 t20) H
def zp9 (t0 t2 t8 t18 t19 t20:AV) (H:zaa) (K:Kt) (Kb5:Lt):Prop:=
 zab .lss false t20 t19 fun t21=>
 zag t21
 (zai 3 t18 t20 fun t23=>
 zae true 3 t23 H fun t24=>
 zay [(.int .i64 0),(.int .i64 0),.snil] H fun t10 H=>
 zan 3 t10 t24 H fun H=>
 zad H (fun K'=>K' t0 H) fun t26=>
 zad H (fun K'=>zal true 3 t10 H (K' · H)) fun t27=>
 zad H (fun K'=>K' t2 H) fun t28=>
 zad H (fun K'=>K' t20 H) fun t29=>
 zad H (fun K'=>zai 2 t28 t29 (K' · H)) fun t30=>
 zad H (fun K'=>zal true 2 t30 H (K' · H)) fun t31=>
 zaF H (fun H K'=>ACalls tP ziW [t26,t27,t31] H K') fun t32=>
 zad H (fun K'=>K' t32 H) fun t25=>
 zad H (fun K'=>zaz t25 0 (K' · H)) fun t33=>
 zad H (fun K'=>zaz t25 1 (K' · H)) fun t34=>
 zad H (fun K'=>K' t33 H) fun t11=>
 zad H (fun K'=>K' t34 H) fun t12=>
 aUn .not t12 fun t36=>
 zag t36
 (zaC [(.int .i64 0),(.bool false)] (K · H))
 (zab .add false t8 t11 fun t39=>
 zab .add false t20 (.int .i64 1) fun t40=>
 Kb5 (zj7 t0 t2 t39 t18 t19 t40) H))
 (zab .leq false t8 (.int .i64 6) fun t43=>
 zaC [t8,t43] (K · H))
def zp8 (t0 t1 t2:AV) (H:zaa) (K:Kt):Prop:=
 zah 1 t1 fun t14=>
 zah 1 t2 fun t16=>
 zab .neq false t14 t16 fun t17=>
 zag t17
 (zaC [(.int .i64 0),(.bool false)] (K · H))
 (zah 1 t1 fun t19=>
 zxZ t0 t2 (.int .i64 0) t1 t19 (.int .i64 0) H K)
theorem zHY {t0 t2 t8 t18 t19 t20:AV} {H:zaa} {K:Kt} (Inv:Nat→AV→AV→zaa→Prop) (n:Nat) (h0:HSc H→Inv n t8 t20 H)
  (round:Rd2 (fun t8=>fun t20=>zj7 t0 t2 t8 t18 t19 t20) (fun t8=>fun t20=>fun H Kb5=>zp9 t0 t2 t8 t18 t19 t20 H K Kb5) H Inv):zxZ t0 t2 t8 t18 t19 t20 H K:=
 lp2 (M:=zj6) zHZ t8 t20 (by kernel_rfl) Inv n h0 round
theorem zH0 {t0 t1 t2:AV} {H:zaa} {K:Kt} (h:HSc H→zp8 t0 t1 t2 H K):ACalls tP zip [t0,t1,t2] H K:=
 zao (M:=zj6) Tryz.func124 (c:=zqa) (by kernel_rfl) (fun hs=>Eq.mpr (by kernel_rfl) (h hs))
def zj8:Nat→List Bool
 | 6=>rl false [8,1,1,1,15,3,15]
 | _=>[]
noncomputable def zqc:Code:=Tryz.f125.body.getD .skip
noncomputable def zH7:List ResultVar:=Tryz.f125.results.toList
def zj9 (t8 t10 t26 t27 t28:AV):List AV:=ux 8 (t8::ux 1 (t10::ux 15 (t26::t27::t28::ux 15 [])))
def zH5:List Bool:=zj8 6
noncomputable def zH3:Code:=zaq [1,1,1,1,0,1,0,0] zqc
def zH2 (K:Kt):AExit→List AV→zaa→Prop:=zar tP zj8 [1,1,1,1,0,1,0] zqc (zax tP zH7 K)
def zkb (t8 t10 t26 t27 t28:AV) (H:zaa) (K:Kt):Prop:=ALoop tP zH3 (zH2 K) (zj9 t8 t10 t26 t27 t28) H
def zx2 (t8 t10 t26 t27 t28:AV) (H:zaa) (K:Kt) (Kb6:Lt):Prop:=
 zab .add false t28 (.int .i64 1) fun t42=>
 Kb6 (zj9 t8 t10 t26 t27 t42) H
def zka (t8 t10 t26 t27 t28:AV) (H:zaa) (K:Kt) (Kb6:Lt):Prop:=
 zx2 t8 t10 t26 t27 t28 H K Kb6
def zqb (t8 t10 t26 t27 t28:AV) (H:zaa) (K:Kt) (Kb6:Lt):Prop:=
 zab .lss false t28 t27 fun t29=>
 zag t29
 (zai 1 t26 t28 fun t31=>
 zae false 1 t31 H fun t32=>
 aUn .not t32 fun t34=>
 zag t34
 (zai 3 t8 t28 fun t38=>
 zae true 3 t38 H fun t39=>
 zau 3 [(.int .i64 0),(.int .i64 0),.snil] 1 [(0,t39)] fun t40=>
 zaw zaV 3 40 t10 t40 H fun t41 H=>
 zka t8 t41 t26 t27 t28 H K Kb6)
 (zka t8 t10 t26 t27 t28 H K Kb6))
 (zaC [t10,(.bool true)] (K · H))
def zx1 (t0 t1 t2:AV) (H:zaa) (K:Kt):Prop:=
 zav t1 H fun t4 H=>
 zae true 3 t4 H fun t15=>
 ACalls tP ziy [t0,t15,t2] H fun t17 H=>
 zaz t17 0 fun t18=>
 zaz t17 1 fun t19=>
 aUn .not t19 fun t21=>
 zag t21
 (zaC [.snil,(.bool false)] (K · H))
 (zaf 1 t4 fun t23=>
 zae false 1 t23 H fun t24=>
 ACalls tP ze7 [t0,t24,t2] H fun t26 H=>
 zah 1 t26 fun t27=>
 zkb t18 .snil t26 t27 (.int .i64 0) H K)
theorem zH4 {t8 t10 t26 t27 t28:AV} {H:zaa} {K:Kt} (Inv:Nat→AV→AV→zaa→Prop) (n:Nat) (h0:HSc H→Inv n t10 t28 H)
  (round:Rd2 (fun t10=>fun t28=>zj9 t8 t10 t26 t27 t28) (fun t10=>fun t28=>fun H Kb6=>zqb t8 t10 t26 t27 t28 H K Kb6) H Inv):zkb t8 t10 t26 t27 t28 H K:=
 lp2 (M:=zj8) zH5 t10 t28 (by kernel_rfl) Inv n h0 round
theorem zH6 {t0 t1 t2:AV} {H:zaa} {K:Kt} (h:HSc H→zx1 t0 t1 t2 H K):ACalls tP znZ [t0,t1,t2] H K:=
 zao (M:=zj8) Tryz.func125 (c:=zqc) (by kernel_rfl) (fun hs=>Eq.mpr (by kernel_rfl) (h hs))
def zjM:Nat→List Bool
 | 7=>rl false [8,1,4,1,19,3,12]
 | _=>[]
noncomputable def zpQ:Code:=Tryz.f102.body.getD .skip
noncomputable def zGU:List ResultVar:=Tryz.f102.results.toList
def zjN (t8 t13 t33 t34 t35:AV):List AV:=ux 8 (t8::ux 4 (t13::ux 19 (t33::t34::t35::ux 12 [])))
def zGS:List Bool:=zjM 7
noncomputable def zGQ:Code:=zaq [1,1,1,1,1,0,1,0,0] zpQ
def zGP (K:Kt):AExit→List AV→zaa→Prop:=zar tP zjM [1,1,1,1,1,0,1,0] zpQ (zax tP zGU K)
def zjO (t8 t13 t33 t34 t35:AV) (H:zaa) (K:Kt):Prop:=ALoop tP zGQ (zGP K) (zjN t8 t13 t33 t34 t35) H
def zpP (t8 t13 t33 t34 t35:AV) (H:zaa) (K:Kt) (Kb7:Lt):Prop:=
 zab .lss false t35 t34 fun t36=>
 zag t36
 (zai 1 t33 t35 fun t37=>
 zae false 1 t37 H fun t38=>
 zai 3 t8 t38 fun t42=>
 zae true 3 t42 H fun t43=>
 zau 3 [(.int .i64 0),(.int .i64 0),.snil] 1 [(0,t43)] fun t44=>
 zaw zaV 3 40 t13 t44 H fun t45 H=>
 zab .add false t35 (.int .i64 1) fun t46=>
 Kb7 (zjN t8 t45 t33 t34 t46) H)
 (zaC [t13,(.bool true)] (K · H))
def zxC (t0 t1 t2:AV) (H:zaa) (K:Kt):Prop:=
 zav t1 H fun t4 H=>
 zae true 3 t4 H fun t18=>
 ACalls tP zhd [t0,t18,t2] H fun t20 H=>
 zaz t20 0 fun t21=>
 zaz t20 1 fun t22=>
 aUn .not t22 fun t24=>
 zag t24
 (zaC [.snil,(.bool false)] (K · H))
 (zae true 3 t4 H fun t27=>
 ACalls tP zoa [t0,t27,t2] H fun t29 H=>
 zaz t29 0 fun t30=>
 zaz t29 1 fun t31=>
 zaz t29 2 fun t32=>
 zah 1 t30 fun t34=>
 zjO t21 .snil t30 t34 (.int .i64 0) H K)
theorem zGR {t8 t13 t33 t34 t35:AV} {H:zaa} {K:Kt} (Inv:Nat→AV→AV→zaa→Prop) (n:Nat) (h0:HSc H→Inv n t13 t35 H)
  (round:Rd2 (fun t13=>fun t35=>zjN t8 t13 t33 t34 t35) (fun t13=>fun t35=>fun H Kb7=>zpP t8 t13 t33 t34 t35 H K Kb7) H Inv):zjO t8 t13 t33 t34 t35 H K:=
 lp2 (M:=zjM) zGS t13 t35 (by kernel_rfl) Inv n h0 round
theorem zGT {t0 t1 t2:AV} {H:zaa} {K:Kt} (h:HSc H→zxC t0 t1 t2 H K):ACalls tP znV [t0,t1,t2] H K:=
 zao (M:=zjM) Tryz.func102 (c:=zpQ) (by kernel_rfl) (fun hs=>Eq.mpr (by kernel_rfl) (h hs))
def zkB:Nat→List Bool
 | 6=>rl false [11,2,15,3,16]
 | _=>[]
noncomputable def zqA:Code:=Tryz.f149.body.getD .skip
noncomputable def zJy:List ResultVar:=Tryz.f149.results.toList
def zkD (t11 t12 t28 t29 t30:AV):List AV:=ux 11 (t11::t12::ux 15 (t28::t29::t30::ux 16 []))
def zJw:List Bool:=zkB 6
noncomputable def zJu:Code:=zaq [1,1,1,0,1,0,0] zqA
def zJt (K:Kt):AExit→List AV→zaa→Prop:=zar tP zkB [1,1,1,0,1,0] zqA (zax tP zJy K)
def zkF (t11 t12 t28 t29 t30:AV) (H:zaa) (K:Kt):Prop:=ALoop tP zJu (zJt K) (zkD t11 t12 t28 t29 t30) H
def zyo (t11 t12 t28 t29 t30:AV) (H:zaa) (K:Kt) (Kb6:Lt):Prop:=
 zab .add false t30 (.int .i64 1) fun t44=>
 Kb6 (zkD t11 t12 t28 t29 t44) H
def zkE (t11 t12 t28 t29 t30:AV) (H:zaa) (K:Kt) (Kb6:Lt):Prop:=
 zyo t11 t12 t28 t29 t30 H K Kb6
def zkC (t11 t12 t28 t29 t30:AV) (H:zaa) (K:Kt) (Kb6:Lt):Prop:=
 zab .lss false t30 t29 fun t31=>
 zag t31
 (zai 1 t28 t30 fun t33=>
 zae false 1 t33 H fun t34=>
 zag t34
 (zau 1 [(.int .i64 0)] 1 [(0,t30)] fun t38=>
 zaw zcA 1 8 t12 t38 H fun t39 H=>
 zkE t11 t39 t28 t29 t30 H K Kb6)
 (zau 1 [(.int .i64 0)] 1 [(0,t30)] fun t42=>
 zaw zcA 1 8 t11 t42 H fun t43 H=>
 zkE t43 t12 t28 t29 t30 H K Kb6))
 (zaC [t11,t12,(.bool true)] (K · H))
def zyn (t0 t1 t2:AV) (H:zaa) (K:Kt):Prop:=
 zav t1 H fun t4 H=>
 zae true 3 t4 H fun t17=>
 ACalls tP zhd [t0,t17,t2] H fun t19 H=>
 zaz t19 0 fun t20=>
 zaz t19 1 fun t21=>
 aUn .not t21 fun t23=>
 zag t23
 (zaC [.snil,.snil,(.bool false)] (K · H))
 (zaf 1 t4 fun t25=>
 zae false 1 t25 H fun t26=>
 ACalls tP zfV [t0,t26,t2] H fun t28 H=>
 zah 1 t28 fun t29=>
 zkF .snil .snil t28 t29 (.int .i64 0) H K)
theorem zJv {t11 t12 t28 t29 t30:AV} {H:zaa} {K:Kt} (Inv:Nat→AV→AV→AV→zaa→Prop) (n:Nat) (h0:HSc H→Inv n t11 t12 t30 H)
  (round:Rd3 (fun t11=>fun t12=>fun t30=>zkD t11 t12 t28 t29 t30) (fun t11=>fun t12=>fun t30=>fun H Kb6=>zkC t11 t12 t28 t29 t30 H K Kb6) H Inv):zkF t11 t12 t28 t29 t30 H K:=
 lp3 (M:=zkB) zJw t11 t12 t30 (by kernel_rfl) Inv n h0 round
theorem zJx {t0 t1 t2:AV} {H:zaa} {K:Kt} (h:HSc H→zyn t0 t1 t2 H K):ACalls tP zoa [t0,t1,t2] H K:=
 zao (M:=zkB) Tryz.func149 (c:=zqA) (by kernel_rfl) (fun hs=>Eq.mpr (by kernel_rfl) (h hs))
def zj2:Nat→List Bool
 | 5=>rl false [0,3,4,1,8,2,25]
 | _=>[]
noncomputable def zp1:Code:=Tryz.f111.body.getD .skip
noncomputable def zHx:List ResultVar:=Tryz.f111.results.toList
def zj3 (t0 t1 t2 t7 t16 t17:AV):List AV:=t0::t1::t2::ux 4 (t7::ux 8 (t16::t17::ux 25 []))
def zHv:List Bool:=zj2 5
noncomputable def zHt:Code:=zaq [1,1,1,0,1,0,0] zp1
def zHs (K:Kt):AExit→List AV→zaa→Prop:=zar tP zj2 [1,1,1,0,1,0] zp1 (zax tP zHx K)
def zxM (t0 t1 t2 t7 t16 t17:AV) (H:zaa) (K:Kt):Prop:=ALoop tP zHt (zHs K) (zj3 t0 t1 t2 t7 t16 t17) H
def zp0 (t0 t1 t2 t7 t16 t17:AV) (H:zaa) (K:Kt) (Kb5:Lt):Prop:=
 zab .lss false t17 t16 fun t18=>
 zag t18
 (zad H (fun K'=>K' t0 H) fun t20=>
 zad H (fun K'=>K' t1 H) fun t21=>
 zad H (fun K'=>K' t17 H) fun t22=>
 zad H (fun K'=>zai 3 t21 t22 (K' · H)) fun t23=>
 zad H (fun K'=>zal true 3 t23 H (K' · H)) fun t24=>
 zad H (fun K'=>K' t2 H) fun t25=>
 zad H (fun K'=>K' t17 H) fun t26=>
 zad H (fun K'=>zai 2 t25 t26 (K' · H)) fun t27=>
 zad H (fun K'=>zal true 2 t27 H (K' · H)) fun t28=>
 zaF H (fun H K'=>ACalls tP ziV [t20,t24,t28] H K') fun t29=>
 zad H (fun K'=>K' t29 H) fun t9=>
 zab .lss false t9 (.int .i64 0) fun t31=>
 zac t31 false H (fun K'=>K' t7 H) fun t33 H=>
 zac t31 false H (fun K'=>K' t9 H) fun t34 H=>
 zac t31 false H (fun K'=>zab .add false t33 t34 (K' · H)) fun t35 H=>
 zac t31 false H (fun K'=>zab .gtr false t35 (.int .i64 6) (K' · H)) fun t36 H=>
 zaj t31 (.bool true) t36 fun t37=>
 zag t37
 (K (.int .i64 (-1)) H)
 (zab .add false t7 t9 fun t40=>
 zab .add false t17 (.int .i64 1) fun t41=>
 Kb5 (zj3 t0 t1 t2 t40 t16 t41) H))
 (K t7 H)
def zpZ (t0 t1 t2:AV) (H:zaa) (K:Kt):Prop:=
 zah 1 t1 fun t11=>
 zah 1 t2 fun t13=>
 zab .neq false t11 t13 fun t14=>
 zag t14
 (K (.int .i64 (-1)) H)
 (zah 1 t1 fun t16=>
 zxM t0 t1 t2 (.int .i64 0) t16 (.int .i64 0) H K)
theorem zHu {t0 t1 t2 t7 t16 t17:AV} {H:zaa} {K:Kt} (Inv:Nat→AV→AV→zaa→Prop) (n:Nat) (h0:HSc H→Inv n t7 t17 H)
  (round:Rd2 (fun t7=>fun t17=>zj3 t0 t1 t2 t7 t16 t17) (fun t7=>fun t17=>fun H Kb5=>zp0 t0 t1 t2 t7 t16 t17 H K Kb5) H Inv):zxM t0 t1 t2 t7 t16 t17 H K:=
 lp2 (M:=zj2) zHv t7 t17 (by kernel_rfl) Inv n h0 round
theorem zHw {t0 t1 t2:AV} {H:zaa} {K:Kt} (h:HSc H→zpZ t0 t1 t2 H K):ACalls tP zio [t0,t1,t2] H K:=
 zao (M:=zj2) Tryz.func111 (c:=zp1) (by kernel_rfl) (fun hs=>Eq.mpr (by kernel_rfl) (h hs))
end Go.Proofs.YtdmamdnkcefmmaaGreatDoor

namespace Go.Proofs.YtdmamdnkcefmmaaGreatDoor
open Go Go.Abs
set_option maxRecDepth 100000
def zlt:Nat→List Bool
 | 5=>rl false [0,2,5,1,32,3,16]
 | _=>[]
noncomputable def zrr:Code:=Tryz.f196.body.getD .skip
noncomputable def zMu:List ResultVar:=Tryz.f196.results.toList
def zlu (t0 t1 t7 t40 t41 t42:AV):List AV:=t0::t1::ux 5 (t7::ux 32 (t40::t41::t42::ux 16 []))
def zMs:List Bool:=zlt 5
noncomputable def zMq:Code:=zaq [1,1,1,0,1,0,0] zrr
def zMp (K:Kt):AExit→List AV→zaa→Prop:=zar tP zlt [1,1,1,0,1,0] zrr (zax tP zMu K)
def zlv (t0 t1 t7 t40 t41 t42:AV) (H:zaa) (K:Kt):Prop:=ALoop tP zMq (zMp K) (zlu t0 t1 t7 t40 t41 t42) H
def zrq (t0 t1 t7 t40 t41 t42:AV) (H:zaa) (K:Kt) (Kb5:Lt):Prop:=
 zab .lss false t42 t41 fun t43=>
 zag t43
 (zai 3 t40 t42 fun t44=>
 zae true 3 t44 H fun t45=>
 zay [(.int .i64 0),(.int .i64 0),.snil] H fun t9 H=>
 zan 3 t9 t45 H fun H=>
 zad H (fun K'=>K' t7 H) fun t46=>
 zad H (fun K'=>zal true 3 t9 H (K' · H)) fun t47=>
 zad H (fun K'=>K' t1 H) fun t48=>
 zad H (fun K'=>K' t0 H) fun t49=>
 zad H (fun K'=>K' t1 H) fun t50=>
 zad H (fun K'=>zai 3 t49 t50 (K' · H)) fun t51=>
 zad H (fun K'=>zaf 1 t51 (K' · H)) fun t52=>
 zad H (fun K'=>zal false 1 t52 H (K' · H)) fun t53=>
 zaF H (fun H K'=>ACalls tP zi4 [t47,t48,t53] H K') fun t54=>
 zad H (fun K'=>zau 1 [(.bool false)] 1 [(0,t54)] (K' · H)) fun t55=>
 zaw zfL 1 1 t46 t55 H fun t56 H=>
 zad H (fun K'=>K' t56 H) fun t7=>
 zab .add false t42 (.int .i64 1) fun t57=>
 Kb5 (zlu t0 t1 t7 t40 t41 t57) H)
 (K t7 H)
def zzz (t0 t1 t2:AV) (H:zaa) (K:Kt):Prop:=
 zab .lss false t1 (.int .i64 0) fun t11=>
 zac t11 false H (fun K'=>K' t1 H) fun t13 H=>
 zac t11 false H (fun K'=>K' t0 H) fun t14 H=>
 zac t11 false H (fun K'=>zah 1 t14 (K' · H)) fun t15 H=>
 zac t11 false H (fun K'=>zab .geq false t13 t15 (K' · H)) fun t16 H=>
 zaj t11 (.bool true) t16 fun t17=>
 zac t17 false H (fun K'=>K' t2 H) fun t19 H=>
 zac t17 false H (fun K'=>zab .lss false t19 (.int .i64 0) (K' · H)) fun t20 H=>
 zaj t17 (.bool true) t20 fun t21=>
 zac t21 false H (fun K'=>K' t2 H) fun t23 H=>
 zac t21 false H (fun K'=>K' t0 H) fun t24 H=>
 zac t21 false H (fun K'=>K' t1 H) fun t25 H=>
 zac t21 false H (fun K'=>zai 3 t24 t25 (K' · H)) fun t26 H=>
 zac t21 false H (fun K'=>zaf 2 t26 (K' · H)) fun t27 H=>
 zac t21 false H (fun K'=>zae false 1 t27 H (K' · H)) fun t28 H=>
 zac t21 false H (fun K'=>zah 1 t28 (K' · H)) fun t29 H=>
 zac t21 false H (fun K'=>zab .geq false t23 t29 (K' · H)) fun t30 H=>
 zaj t21 (.bool true) t30 fun t31=>
 zag t31
 (K .snil H)
 (zai 3 t0 t1 fun t34=>
 zaf 2 t34 fun t35=>
 zae false 1 t35 H fun t36=>
 zai 2 t36 t2 fun t38=>
 zaf 1 t38 fun t39=>
 zae false 1 t39 H fun t40=>
 zah 1 t40 fun t41=>
 zlv t0 t1 .snil t40 t41 (.int .i64 0) H K)
theorem zMr {t0 t1 t7 t40 t41 t42:AV} {H:zaa} {K:Kt} (Inv:Nat→AV→AV→zaa→Prop) (n:Nat) (h0:HSc H→Inv n t7 t42 H)
  (round:Rd2 (fun t7=>fun t42=>zlu t0 t1 t7 t40 t41 t42) (fun t7=>fun t42=>fun H Kb5=>zrq t0 t1 t7 t40 t41 t42 H K Kb5) H Inv):zlv t0 t1 t7 t40 t41 t42 H K:=
 lp2 (M:=zlt) zMs t7 t42 (by kernel_rfl) Inv n h0 round
theorem zMt {t0 t1 t2:AV} {H:zaa} {K:Kt} (h:HSc H→zzz t0 t1 t2 H K):ACalls tP zfV [t0,t1,t2] H K:=
 zao (M:=zlt) Tryz.func196 (c:=zrr) (by kernel_rfl) (fun hs=>Eq.mpr (by kernel_rfl) (h hs))
end Go.Proofs.YtdmamdnkcefmmaaGreatDoor

namespace Go.Proofs.YtdmamdnkcefmmaaGreatDoor
open Go Go.Abs
def zbI (l:List Bool):List (List AV):=l.map fun b=>[.bool b]
theorem zzA (data:List Dat) (d:Nat) (c:Nat) (hd:d<data.length) (hc:c<(data[d]).cons.length) (hl:data.length≤1000000) (hcl:(data[d]).cons.length≤1000000) (hal:((data[d]).cons[c]).args.length≤1000000)
  (hb:∀ x∈((data[d]).cons[c]).args,x.nodes≤1000000) (H:zaa) (K:Kt)
  (hK:K (.sl (zbI (zcm d data[d] (data[d]).cons[c])) .none) H) :
  ACalls tP zfV [.sl (data.map Dat.cs) .none,.int .i64 d,.int .i64 c] H K:=by
 refine ACalls.out (zMt fun hs=>?_)
 have e1:(data.map Dat.cs)[d]?=some (data[d]).cs:=by simp[hd]
 have e2:((data[d]).cons.map Con.cs)[c]?=some ((data[d]).cons[c]).cs:=by simp[hc]
 generalize hD:data[d]=D at *
 generalize hA:D.cons[c]=C at *
 have h1:¬ (d:Int)<0:=by omega
 have h2:¬ (data.length:Int)≤d:=by omega
 have h3:¬ (c:Int)<0:=by omega
 have h4:¬ (D.cons.length:Int)≤c:=by omega
 simp[zzz,h1,h2,h3,h4,e1,e2,Dat.cs,Con.cs,hd,hD,hc,hA]
 unfold zlv
 refine ALoop.own 7 zfL 1 rfl ?_
 show zlv (.sl (data.map Dat.cs) .none) (.int .i64 d) (.sl [] (.own H.length)) (.sl (VT.css C.args) .none) (.int .i64 C.args.length) (.int .i64 0) (H++[.perm zfL 1 0]) (Out H.length K)
 have hperm:∀ n,HSc (H++[.perm zfL 1 n]):=fun n=>hs.append rfl
 refine zMr (Inv:=fun q t7 t42 H'=>∃ i:Nat,i≤C.args.length∧q=C.args.length-i∧t42=.int .i64 i∧t7=.sl (zbI ((zcm d D C).take i)) (.own H.length)∧H'=H++[.perm zfL 1 i]) C.args.length ?_ ?_
 ·intro _;exact⟨0,by omega,by omega,rfl,rfl,rfl⟩
 ·rintro q t7 t42 H' ⟨i,hi,rfl,rfl,rfl,rfl⟩ hsc hlen hsF Kb hKb
  have hrl:(zcm d D C).length=C.args.length:=by simp[zcm]
  by_cases hlt:i<C.args.length
  ·obtain⟨x,y,z,hvx,hx,hy,hz⟩:=zbt C.args[i]
   have hnb:=hb _ (List.getElem_mem hlt)
   simp[zrq,hlt,hvx,Nat.add_assoc,e1,hd,hD,Dat.cs]
   rw[←hvx]
   refine⟨⟨hx,hy,hz⟩,?_⟩
   refine zaE (.bool (zbU d D.vars C.args[i])) (fun J=>ztf _ _ _ hnb _ _ ⟨rfl,rfl⟩) ?_
   simp[zau,zaR,plain,AV.pd,zaw,zaK,zaG,zbI]
   have hmin:min i (zcm d D C).length=i:=by omega
   rw[hmin]
   refine⟨rfl,⟨by omega,by omega⟩,?_⟩
   rw[zat (by omega) (by omega)]
   have hst:List.take i (List.map (fun b=>[AV.bool b]) (zcm d D C))++[[AV.bool (zbU (↑d) D.vars C.args[i])]]=zbI ((zcm d D C).take (i+1)):=by
    rw[List.take_succ_eq_append_getElem (by omega)]
    simp[zbI,zcm]
   rw[hst]
   refine hKb _ _ ⟨C.args.length-(i+1),by omega,Back.at (J:=[.cells C.args[i].cs]) (H2:=H++[.perm zfL 1 (i+1)]) (by simp) (by simp) (hperm _) ?_ ⟨_,_,rfl,i+1,by omega,rfl,by simp,rfl,rfl⟩⟩
   simp[zlu,AV.sc,AV.scV,AV.scA,AV.scB]
  ·obtain rfl:i=C.args.length:=by omega
   rw[List.take_of_length_le (by omega)]
   simp[zrq]
   exact Out.at rfl (Nat.le_refl _) hs (.atom (.sl _ _)) rfl (by simp[zbI,AV.scV,AV.scA,AV.scB]) hK
end Go.Proofs.YtdmamdnkcefmmaaGreatDoor
namespace Go.Proofs.YtdmamdnkcefmmaaGreatDoor
open Go Go.Abs
set_option maxRecDepth 100000
def zHP (_:Nat):List Bool:=[]
noncomputable def zHQ:Code:=Tryz.f122.body.getD .skip
def zxW (t0:AV) (H:zaa) (K:Kt):Prop:=
 zav t0 H fun t1 H=>
 zaf 0 t1 fun t3=>
 zae false 1 t3 H fun t4=>
 ACalls tP zoc [t4] H fun t5 H=>
 zac t5 true H (fun K'=>zae true 4 t1 H (K' · H)) fun t7 H=>
 zac t5 true H (fun K'=>ACalls tP zod [t7] H K') fun t8 H=>
 zaj t5 t8 (.bool false) fun t9=>
 zac t9 true H (fun K'=>zae true 4 t1 H (K' · H)) fun t11 H=>
 zac t9 true H (fun K'=>ACalls tP zoe [t11] H K') fun t12 H=>
 zaj t9 t12 (.bool false) fun t13=>
 zac t13 true H (fun K'=>zae true 4 t1 H (K' · H)) fun t15 H=>
 zac t13 true H (fun K'=>ACalls tP zof [t15] H K') fun t16 H=>
 zaj t13 t16 (.bool false) fun t17=>
 zac t17 true H (fun K'=>zae true 4 t1 H (K' · H)) fun t19 H=>
 zac t17 true H (fun K'=>ACalls tP zog [t19] H K') fun t20 H=>
 zaj t17 t20 (.bool false) fun t21=>
 zac t21 true H (fun K'=>zae true 4 t1 H (K' · H)) fun t23 H=>
 zac t21 true H (fun K'=>ACalls tP zoh [t23] H K') fun t24 H=>
 zaj t21 t24 (.bool false) fun t25=>
 zac t25 true H (fun K'=>zae true 4 t1 H (K' · H)) fun t27 H=>
 zac t25 true H (fun K'=>ACalls tP zoi [t27] H K') fun t28 H=>
 zaj t25 t28 (.bool false) fun t29=>
 K t29 H
theorem zHS {t0:AV} {H:zaa} {K:Kt} (h:HSc H→zxW t0 H K):ACalls tP znY [t0] H K:=
 zao (M:=zHP) Tryz.func122 (c:=zHQ) (by kernel_rfl) (fun hs=>Eq.mpr (by kernel_rfl) (h hs))
def zJ9 (_:Nat):List Bool:=[]
noncomputable def zKa:Code:=Tryz.f160.body.getD .skip
def zyB (t0:AV) (H:zaa) (K:Kt):Prop:=
 zav t0 H fun t1 H=>
 zaf 2 t1 fun t3=>
 zae false 1 t3 H fun t4=>
 zah 1 t4 fun t5=>
 zab .leq false t5 (.int .i64 3000) fun t6=>
 zac t6 true H (fun K'=>zaf 2 t1 (K' · H)) fun t8 H=>
 zac t6 true H (fun K'=>zae false 1 t8 H (K' · H)) fun t9 H=>
 zac t6 true H (fun K'=>zcq zvq [t1] (K' · H)) fun t10 H=>
 zac t6 true H (fun K'=>ACalls tP ze8 [t9,t10] H K') fun t11 H=>
 zac t6 true H (fun K'=>aUn .not t11 (K' · H)) fun t12 H=>
 zaj t6 t12 (.bool false) fun t13=>
 K t13 H
theorem zKb {t0:AV} {H:zaa} {K:Kt} (h:HSc H→zyB t0 H K):ACalls tP zod [t0] H K:=
 zao (M:=zJ9) Tryz.func160 (c:=zKa) (by kernel_rfl) (fun hs=>Eq.mpr (by kernel_rfl) (h hs))
def zkV:Nat→List Bool
 | 6=>rl false [1,1,1,2,14,3,59]
 | _=>[]
noncomputable def zqM:Code:=Tryz.f161.body.getD .skip
noncomputable def zKh:List ResultVar:=Tryz.f161.results.toList
def zqN (t1 t3 t4 t19 t20 t21:AV):List AV:=ux 1 (t1::ux 1 (t3::t4::ux 14 (t19::t20::t21::ux 59 [])))
def zKf:List Bool:=zkV 6
noncomputable def zKd:Code:=zaq [1,1,1,1,0,1,0,0] zqM
def zKc (K:Kt):AExit→List AV→zaa→Prop:=zar tP zkV [1,1,1,1,0,1,0] zqM (zax tP zKh K)
def zyF (t1 t3 t4 t19 t20 t21:AV) (H:zaa) (K:Kt):Prop:=ALoop tP zKd (zKc K) (zqN t1 t3 t4 t19 t20 t21) H
def zyE (t1 t3 t4 t6 t19 t20 t21:AV) (H:zaa) (K:Kt) (Kb6:Lt):Prop:=
 zaf 0 t6 fun t42=>
 zae false 1 t42 H fun t43=>
 zcG t3 t43 (.bool true) H fun H=>
 zaf 1 t6 fun t44=>
 zae false 1 t44 H fun t45=>
 zah 1 t45 fun t46=>
 zab .gtr false t46 (.int .i64 6) fun t47=>
 zac t47 false H (fun K'=>zaf 0 t1 (K' · H)) fun t49 H=>
 zac t47 false H (fun K'=>zae false 1 t49 H (K' · H)) fun t50 H=>
 zac t47 false H (fun K'=>zaf 3 t6 (K' · H)) fun t51 H=>
 zac t47 false H (fun K'=>zae true 3 t51 H (K' · H)) fun t52 H=>
 zac t47 false H (fun K'=>ACalls tP zgY [t50,t52,(.int .i64 0)] H K') fun t53 H=>
 zac t47 false H (fun K'=>aUn .not t53 (K' · H)) fun t54 H=>
 zaj t47 (.bool true) t54 fun t55=>
 zag t55
 (K (.bool false) H)
 (zad H (fun K'=>zaf 6 t6 (K' · H)) fun t56=>
 zad H (fun K'=>zal false 1 t56 H (K' · H)) fun t57=>
 zad H (fun K'=>zab .lss false t57 (.int .i64 0) (K' · H)) fun t58=>
 zad H (fun K'=>K' t58 H) fun t59=>
 zac t59 false H (fun K'=>zad H (fun K''=>zaf 6 t6 (K'' · H)) (K' · H)) fun t60 H=>
 zac t59 false H (fun K'=>zad H (fun K''=>zal false 1 t60 H (K'' · H)) (K' · H)) fun t61 H=>
 zac t59 false H (fun K'=>zad H (fun K''=>zaf 3 t1 (K'' · H)) (K' · H)) fun t62 H=>
 zac t59 false H (fun K'=>zad H (fun K''=>zal false 1 t62 H (K'' · H)) (K' · H)) fun t63 H=>
 zac t59 false H (fun K'=>zad H (fun K''=>zah 1 t63 (K'' · H)) (K' · H)) fun t64 H=>
 zac t59 false H (fun K'=>zad H (fun K''=>zab .geq false t61 t64 (K'' · H)) (K' · H)) fun t65 H=>
 zad H (fun K'=>zaj t59 (.bool true) t65 (K' · H)) fun t66=>
 zad H (fun K'=>K' t66 H) fun t67=>
 zac t67 false H (fun K'=>zad H (fun K''=>zaf 3 t1 (K'' · H)) (K' · H)) fun t68 H=>
 zac t67 false H (fun K'=>zad H (fun K''=>zal false 1 t68 H (K'' · H)) (K' · H)) fun t69 H=>
 zac t67 false H (fun K'=>zad H (fun K''=>zaf 6 t6 (K'' · H)) (K' · H)) fun t70 H=>
 zac t67 false H (fun K'=>zad H (fun K''=>zal false 1 t70 H (K'' · H)) (K' · H)) fun t71 H=>
 zac t67 false H (fun K'=>zad H (fun K''=>zai 8 t69 t71 (K'' · H)) (K' · H)) fun t72 H=>
 zac t67 false H (fun K'=>zad H (fun K''=>zaf 5 t72 (K'' · H)) (K' · H)) fun t73 H=>
 zac t67 false H (fun K'=>zad H (fun K''=>zal true 3 t73 H (K'' · H)) (K' · H)) fun t74 H=>
 zac t67 false H (fun K'=>zad H (fun K''=>zaf 3 t6 (K'' · H)) (K' · H)) fun t75 H=>
 zac t67 false H (fun K'=>zad H (fun K''=>zal true 3 t75 H (K'' · H)) (K' · H)) fun t76 H=>
 zac t67 false H (fun K'=>zaF H (fun H K''=>ACalls tP zDU [t74,t76] H K'') (K' · H)) fun t77 H=>
 zac t67 false H (fun K'=>zad H (fun K''=>aUn .not t77 (K'' · H)) (K' · H)) fun t78 H=>
 zad H (fun K'=>zaj t67 (.bool true) t78 (K' · H)) fun t79=>
 zag t79
 (K (.bool false) H)
 (zab .add false t21 (.int .i64 1) fun t80=>
 Kb6 (zqN t1 t3 t4 t19 t20 t80) H))
def zyD (t1 t3 t4 t19 t20 t21:AV) (H:zaa) (K:Kt) (Kb6:Lt):Prop:=
 zab .lss false t21 t20 fun t22=>
 zag t22
 (zai 7 t19 t21 fun t23=>
 zae true 7 t23 H fun t24=>
 zay [(.str []),.snil,.snil,(.int .i64 0),(.int .i64 0),.snil,(.int .i64 0)] H fun t6 H=>
 zan 7 t6 t24 H fun H=>
 zaf 0 t6 fun t25=>
 zae false 1 t25 H fun t26=>
 zab .eql false t26 (.str []) fun t27=>
 zag t27
 (zyE t1 t3 (.bool true) t6 t19 t20 t21 H K Kb6)
 (zac t4 false H (fun K'=>K' t3 H) fun t30 H=>
 zac t4 false H (fun K'=>zaf 0 t6 (K' · H)) fun t31 H=>
 zac t4 false H (fun K'=>zae false 1 t31 H (K' · H)) fun t32 H=>
 zac t4 false H (fun K'=>zdq (.bool false) false t30 t32 H (K' · H)) fun t33 H=>
 zaj t4 (.bool true) t33 fun t34=>
 zac t34 false H (fun K'=>zaf 2 t6 (K' · H)) fun t36 H=>
 zac t34 false H (fun K'=>zae false 1 t36 H (K' · H)) fun t37 H=>
 zac t34 false H (fun K'=>zah 1 t37 (K' · H)) fun t38 H=>
 zac t34 false H (fun K'=>zab .gtr false t38 (.int .i64 0) (K' · H)) fun t39 H=>
 zaj t34 (.bool true) t39 fun t40=>
 zag t40
 (K (.bool false) H)
 (zyE t1 t3 t4 t6 t19 t20 t21 H K Kb6)))
 (K (.bool true) H)
def zyC (t0:AV) (H:zaa) (K:Kt):Prop:=
 zav t0 H fun t1 H=>
 zaf 1 t1 fun t7=>
 zae false 1 t7 H fun t8=>
 zah 1 t8 fun t9=>
 zab .gtr false t9 (.int .i64 64) fun t10=>
 zac t10 false H (fun K'=>zaf 3 t1 (K' · H)) fun t12 H=>
 zac t10 false H (fun K'=>zae false 1 t12 H (K' · H)) fun t13 H=>
 zac t10 false H (fun K'=>zah 1 t13 (K' · H)) fun t14 H=>
 zac t10 false H (fun K'=>zab .gtr false t14 (.int .i64 3000) (K' · H)) fun t15 H=>
 zaj t10 (.bool true) t15 fun t16=>
 zag t16
 (K (.bool false) H)
 (zdF H fun t17 H=>
 zaf 1 t1 fun t18=>
 zae false 1 t18 H fun t19=>
 zah 1 t19 fun t20=>
 zyF t1 t17 (.bool false) t19 t20 (.int .i64 0) H K)
theorem zKe {t1 t3 t4 t19 t20 t21:AV} {H:zaa} {K:Kt} (Inv:Nat→AV→AV→zaa→Prop) (n:Nat) (h0:HSc H→Inv n t4 t21 H)
  (round:Rd2 (fun t4=>fun t21=>zqN t1 t3 t4 t19 t20 t21) (fun t4=>fun t21=>fun H Kb6=>zyD t1 t3 t4 t19 t20 t21 H K Kb6) H Inv):zyF t1 t3 t4 t19 t20 t21 H K:=
 lp2 (M:=zkV) zKf t4 t21 (by kernel_rfl) Inv n h0 round
theorem zKg {t0:AV} {H:zaa} {K:Kt} (h:HSc H→zyC t0 H K):ACalls tP zoe [t0] H K:=
 zao (M:=zkV) Tryz.func161 (c:=zqM) (by kernel_rfl) (fun hs=>Eq.mpr (by kernel_rfl) (h hs))
def zeK:Nat→List Bool
 | 5=>rl false [1,1,2,2,12,3,54]
 | 11=>rl false [1,1,2,2,25,3,41]
 | 16=>rl false [1,1,2,2,2,1,22,3,12,3,26]
 | _=>[]
noncomputable def zhF:Code:=Tryz.f162.body.getD .skip
noncomputable def zyO:List ResultVar:=Tryz.f162.results.toList
def zqP (t1 t4 t5 t18 t19 t20:AV):List AV:=ux 1 (t1::ux 2 (t4::t5::ux 12 (t18::t19::t20::ux 54 [])))
def zKq:List Bool:=zeK 5
noncomputable def zKl:Code:=zaq [1,1,1,1,0,1,0,0] zhF
def zKj (K:Kt):AExit→List AV→zaa→Prop:=zar tP zeK [1,1,1,1,0,1,0] zhF (zax tP zyO K)
def zyM (t1 t4 t5 t18 t19 t20:AV) (H:zaa) (K:Kt):Prop:=ALoop tP zKl (zKj K) (zqP t1 t4 t5 t18 t19 t20) H
def zyK (t1 t4 t5 t31 t32 t33:AV):List AV:=ux 1 (t1::ux 2 (t4::t5::ux 25 (t31::t32::t33::ux 41 [])))
def zyN:List Bool:=zeK 11
noncomputable def zqO:Code:=zaq [1,1,1,1,1,0,1,0,0] zhF
def zyH (K:Kt):AExit→List AV→zaa→Prop:=zar tP zeK [1,1,1,1,1,0,1,0] zhF (zax tP zyO K)
def zyL (t1 t4 t5 t31 t32 t33:AV) (H:zaa) (K:Kt):Prop:=ALoop tP zqO (zyH K) (zyK t1 t4 t5 t31 t32 t33) H
def zKm (t1 t4 t5 t8 t31 t32 t33 t46 t47 t48:AV):List AV:=ux 1 (t1::ux 2 (t4::t5::ux 2 (t8::ux 22 (t31::t32::t33::ux 12 (t46::t47::t48::ux 26 [])))))
noncomputable def zKk:Code:=zaq [1,1,0,0,1,1,1,0,0] zqO
def zKi (K:Kt) (Kb11:Lt):AExit→List AV→zaa→Prop:=zar tP zeK [1,1,0,0,1,1,1,0] zqO (zb0 zyN Kb11 (zyH K))
def zKn (t1 t4 t5 t8 t31 t32 t33 t46 t47 t48:AV) (H:zaa) (K:Kt) (Kb11:Lt):Prop:=ALoop tP zKk (zKi K Kb11) (zKm t1 t4 t5 t8 t31 t32 t33 t46 t47 t48) H
def zyI (t1 t4 t5 t31 t32 t33:AV) (H:zaa) (K:Kt) (Kb11:Lt):Prop:=
 zab .lss false t33 t32 fun t34=>
 zag t34
 (zai 8 t31 t33 fun t36=>
 zae true 8 t36 H fun t37=>
 zay [(.int .i64 0),(.int .i64 0),.snil,.snil,.snil,(.int .i64 0),(.int .i64 0),.snil] H fun t9 H=>
 zan 8 t9 t37 H fun H=>
 zaf 3 t9 fun t38=>
 zae false 1 t38 H fun t39=>
 zah 1 t39 fun t40=>
 zaf 4 t9 fun t41=>
 zae false 1 t41 H fun t42=>
 zah 1 t42 fun t43=>
 zab .neq false t40 t43 fun t44=>
 zag t44
 (K (.bool false) H)
 (zaf 4 t9 fun t45=>
 zae false 1 t45 H fun t46=>
 zah 1 t46 fun t47=>
 zKn t1 t4 t5 t33 t31 t32 t33 t46 t47 (.int .i64 0) H K Kb11))
 (zae false 1 t4 H fun t70=>
 zaf 3 t1 fun t71=>
 zae false 1 t71 H fun t72=>
 zah 1 t72 fun t73=>
 zab .eql false t70 t73 fun t74=>
 K t74 H)
def zyJ (t1 t4 t5 t18 t19 t20:AV) (H:zaa) (K:Kt) (Kb5:Lt):Prop:=
 zab .lss false t20 t19 fun t21=>
 zag t21
 (zai 7 t18 t20 fun t22=>
 zae true 7 t22 H fun t23=>
 zay [(.str []),.snil,.snil,(.int .i64 0),(.int .i64 0),.snil,(.int .i64 0)] H fun t7 H=>
 zan 7 t7 t23 H fun H=>
 zaf 6 t7 fun t25=>
 zae false 1 t25 H fun t26=>
 aCallV tP t5 [t26] H fun t27 H=>
 aUn .not t27 fun t28=>
 zag t28
 (K (.bool false) H)
 (zab .add false t20 (.int .i64 1) fun t29=>
 Kb5 (zqP t1 t4 t5 t18 t19 t29) H))
 (zaf 3 t1 fun t30=>
 zae false 1 t30 H fun t31=>
 zah 1 t31 fun t32=>
 zyL t1 t4 t5 t31 t32 (.int .i64 0) H K)
def zyG (t0:AV) (H:zaa) (K:Kt):Prop:=
 zav t0 H fun t1 H=>
 zaf 3 t1 fun t12=>
 zae false 1 t12 H fun t13=>
 zah 1 t13 fun t14=>
 zbh 1 [(.bool false)] t14 t14 H fun t15 H=>
 zay [.snil] H fun t3 H=>
 zan 1 t3 t15 H fun H=>
 zay [(.int .i64 0)] H fun t4 H=>
 zan 1 t4 (.int .i64 0) H fun H=>
 zcq zDV [t3,t4] fun t16=>
 zaf 1 t1 fun t17=>
 zae false 1 t17 H fun t18=>
 zah 1 t18 fun t19=>
 zyM t1 t4 t16 t18 t19 (.int .i64 0) H K
theorem zKo {t1 t4 t5 t31 t32 t33:AV} {H:zaa} {K:Kt} (Inv:Nat→AV→zaa→Prop) (n:Nat) (h0:HSc H→Inv n t33 H)
  (round:Rd1 (fun t33=>zyK t1 t4 t5 t31 t32 t33) (fun t33=>fun H Kb11=>zyI t1 t4 t5 t31 t32 t33 H K Kb11) H Inv):zyL t1 t4 t5 t31 t32 t33 H K:=
 lp1 (M:=zeK) zyN t33 (by kernel_rfl) Inv n h0 round
theorem zKp {t1 t4 t5 t18 t19 t20:AV} {H:zaa} {K:Kt} (Inv:Nat→AV→zaa→Prop) (n:Nat) (h0:HSc H→Inv n t20 H)
  (round:Rd1 (fun t20=>zqP t1 t4 t5 t18 t19 t20) (fun t20=>fun H Kb5=>zyJ t1 t4 t5 t18 t19 t20 H K Kb5) H Inv):zyM t1 t4 t5 t18 t19 t20 H K:=
 lp1 (M:=zeK) zKq t20 (by kernel_rfl) Inv n h0 round
theorem zKr {t0:AV} {H:zaa} {K:Kt} (h:HSc H→zyG t0 H K):ACalls tP zof [t0] H K:=
 zao (M:=zeK) Tryz.func162 (c:=zhF) (by kernel_rfl) (fun hs=>Eq.mpr (by kernel_rfl) (h hs))
def zeL:Nat→List Bool
 | 5=>rl false [1,1,2,2,12,3,41]
 | 11=>rl false [1,1,2,2,32,3,21]
 | 14=>rl false [1,1,2,2,32,3,4,3,14]
 | _=>[]
noncomputable def zhG:Code:=Tryz.f163.body.getD .skip
noncomputable def zyX:List ResultVar:=Tryz.f163.results.toList
def zqR (t1 t4 t5 t18 t19 t20:AV):List AV:=ux 1 (t1::ux 2 (t4::t5::ux 12 (t18::t19::t20::ux 41 [])))
def zKA:List Bool:=zeL 5
noncomputable def zKv:Code:=zaq [1,1,1,1,0,1,0,0] zhG
def zKt (K:Kt):AExit→List AV→zaa→Prop:=zar tP zeL [1,1,1,1,0,1,0] zhG (zax tP zyX K)
def zyV (t1 t4 t5 t18 t19 t20:AV) (H:zaa) (K:Kt):Prop:=ALoop tP zKv (zKt K) (zqR t1 t4 t5 t18 t19 t20) H
def zyT (t1 t4 t5 t38 t39 t40:AV):List AV:=ux 1 (t1::ux 2 (t4::t5::ux 32 (t38::t39::t40::ux 21 [])))
def zyW:List Bool:=zeL 11
noncomputable def zqQ:Code:=zaq [1,1,1,1,1,0,1,0,0] zhG
def zyQ (K:Kt):AExit→List AV→zaa→Prop:=zar tP zeL [1,1,1,1,1,0,1,0] zhG (zax tP zyX K)
def zyU (t1 t4 t5 t38 t39 t40:AV) (H:zaa) (K:Kt):Prop:=ALoop tP zqQ (zyQ K) (zyT t1 t4 t5 t38 t39 t40) H
def zKw (t1 t4 t5 t38 t39 t40 t45 t46 t47:AV):List AV:=ux 1 (t1::ux 2 (t4::t5::ux 32 (t38::t39::t40::ux 4 (t45::t46::t47::ux 14 []))))
noncomputable def zKu:Code:=zaq [1,1,0,0,1,1,0,0] zqQ
def zKs (K:Kt) (Kb11:Lt):AExit→List AV→zaa→Prop:=zar tP zeL [1,1,0,0,1,1,0] zqQ (zb0 zyW Kb11 (zyQ K))
def zKx (t1 t4 t5 t38 t39 t40 t45 t46 t47:AV) (H:zaa) (K:Kt) (Kb11:Lt):Prop:=ALoop tP zKu (zKs K Kb11) (zKw t1 t4 t5 t38 t39 t40 t45 t46 t47) H
def zyR (t1 t4 t5 t38 t39 t40:AV) (H:zaa) (K:Kt) (Kb11:Lt):Prop:=
 zab .lss false t40 t39 fun t41=>
 zag t41
 (zai 8 t38 t40 fun t42=>
 zae true 8 t42 H fun t43=>
 zay [(.int .i64 0),(.int .i64 0),.snil,.snil,.snil,(.int .i64 0),(.int .i64 0),.snil] H fun t9 H=>
 zan 8 t9 t43 H fun H=>
 zaf 3 t9 fun t44=>
 zae false 1 t44 H fun t45=>
 zah 1 t45 fun t46=>
 zKx t1 t4 t5 t38 t39 t40 t45 t46 (.int .i64 0) H K Kb11)
 (zae false 1 t4 H fun t57=>
 zaf 2 t1 fun t58=>
 zae false 1 t58 H fun t59=>
 zah 1 t59 fun t60=>
 zab .eql false t57 t60 fun t61=>
 K t61 H)
def zyS (t1 t4 t5 t18 t19 t20:AV) (H:zaa) (K:Kt) (Kb5:Lt):Prop:=
 zab .lss false t20 t19 fun t21=>
 zag t21
 (zai 7 t18 t20 fun t22=>
 zae true 7 t22 H fun t23=>
 zay [(.str []),.snil,.snil,(.int .i64 0),(.int .i64 0),.snil,(.int .i64 0)] H fun t7 H=>
 zan 7 t7 t23 H fun H=>
 zaf 1 t7 fun t25=>
 zae false 1 t25 H fun t26=>
 aCallV tP t5 [t26] H fun t27 H=>
 aUn .not t27 fun t28=>
 zac t28 false H (fun K'=>K' t5 H) fun t30 H=>
 zac t28 false H (fun K'=>zaf 2 t7 (K' · H)) fun t31 H=>
 zac t28 false H (fun K'=>zae false 1 t31 H (K' · H)) fun t32 H=>
 zac t28 false H (fun K'=>aCallV tP t30 [t32] H K') fun t33 H=>
 zac t28 false H (fun K'=>aUn .not t33 (K' · H)) fun t34 H=>
 zaj t28 (.bool true) t34 fun t35=>
 zag t35
 (K (.bool false) H)
 (zab .add false t20 (.int .i64 1) fun t36=>
 Kb5 (zqR t1 t4 t5 t18 t19 t36) H))
 (zaf 3 t1 fun t37=>
 zae false 1 t37 H fun t38=>
 zah 1 t38 fun t39=>
 zyU t1 t4 t5 t38 t39 (.int .i64 0) H K)
def zyP (t0:AV) (H:zaa) (K:Kt):Prop:=
 zav t0 H fun t1 H=>
 zaf 2 t1 fun t12=>
 zae false 1 t12 H fun t13=>
 zah 1 t13 fun t14=>
 zbh 1 [(.bool false)] t14 t14 H fun t15 H=>
 zay [.snil] H fun t3 H=>
 zan 1 t3 t15 H fun H=>
 zay [(.int .i64 0)] H fun t4 H=>
 zan 1 t4 (.int .i64 0) H fun H=>
 zcq zDW [t3,t4] fun t16=>
 zaf 1 t1 fun t17=>
 zae false 1 t17 H fun t18=>
 zah 1 t18 fun t19=>
 zyV t1 t4 t16 t18 t19 (.int .i64 0) H K
theorem zKy {t1 t4 t5 t38 t39 t40:AV} {H:zaa} {K:Kt} (Inv:Nat→AV→zaa→Prop) (n:Nat) (h0:HSc H→Inv n t40 H)
  (round:Rd1 (fun t40=>zyT t1 t4 t5 t38 t39 t40) (fun t40=>fun H Kb11=>zyR t1 t4 t5 t38 t39 t40 H K Kb11) H Inv):zyU t1 t4 t5 t38 t39 t40 H K:=
 lp1 (M:=zeL) zyW t40 (by kernel_rfl) Inv n h0 round
theorem zKz {t1 t4 t5 t18 t19 t20:AV} {H:zaa} {K:Kt} (Inv:Nat→AV→zaa→Prop) (n:Nat) (h0:HSc H→Inv n t20 H)
  (round:Rd1 (fun t20=>zqR t1 t4 t5 t18 t19 t20) (fun t20=>fun H Kb5=>zyS t1 t4 t5 t18 t19 t20 H K Kb5) H Inv):zyV t1 t4 t5 t18 t19 t20 H K:=
 lp1 (M:=zeL) zKA t20 (by kernel_rfl) Inv n h0 round
theorem zKB {t0:AV} {H:zaa} {K:Kt} (h:HSc H→zyP t0 H K):ACalls tP zog [t0] H K:=
 zao (M:=zeL) Tryz.func163 (c:=zhG) (by kernel_rfl) (fun hs=>Eq.mpr (by kernel_rfl) (h hs))
def zkW:Nat→List Bool
 | 6=>rl false [4,2,9,3,25]
 | _=>[]
noncomputable def zqS:Code:=Tryz.f164.body.getD .skip
noncomputable def zKH:List ResultVar:=Tryz.f164.results.toList
def zqT (t4 t5 t15 t16 t17:AV):List AV:=ux 4 (t4::t5::ux 9 (t15::t16::t17::ux 25 []))
def zKF:List Bool:=zkW 6
noncomputable def zKD:Code:=zaq [1,1,1,1,1,0,1,0,0] zqS
def zKC (K:Kt):AExit→List AV→zaa→Prop:=zar tP zkW [1,1,1,1,1,0,1,0] zqS (zax tP zKH K)
def zy0 (t4 t5 t15 t16 t17:AV) (H:zaa) (K:Kt):Prop:=ALoop tP zKD (zKC K) (zqT t4 t5 t15 t16 t17) H
def zyZ (t4 t5 t15 t16 t17:AV) (H:zaa) (K:Kt) (Kb6:Lt):Prop:=
 zab .lss false t17 t16 fun t18=>
 zag t18
 (zai 7 t15 t17 fun t19=>
 zae true 7 t19 H fun t20=>
 zay [(.str []),.snil,.snil,(.int .i64 0),(.int .i64 0),.snil,(.int .i64 0)] H fun t7 H=>
 zan 7 t7 t20 H fun H=>
 zae false 1 t4 H fun t21=>
 zaf 1 t7 fun t22=>
 zae false 1 t22 H fun t23=>
 aCallV tP t21 [t23,(.bool true)] H fun t24 H=>
 zae false 1 t4 H fun t25=>
 zaf 2 t7 fun t26=>
 zae false 1 t26 H fun t27=>
 aCallV tP t25 [t27,(.bool true)] H fun t28 H=>
 zae false 1 t5 H fun t29=>
 zaf 6 t7 fun t30=>
 zae false 1 t30 H fun t31=>
 aCallV tP t29 [t31] H fun t32 H=>
 aUn .not t32 fun t33=>
 zag t33
 (K (.bool false) H)
 (zae false 1 t4 H fun t34=>
 zaf 1 t7 fun t35=>
 zae false 1 t35 H fun t36=>
 aCallV tP t34 [t36,(.bool false)] H fun t37 H=>
 zae false 1 t4 H fun t38=>
 zaf 2 t7 fun t39=>
 zae false 1 t39 H fun t40=>
 aCallV tP t38 [t40,(.bool false)] H fun t41 H=>
 zab .add false t17 (.int .i64 1) fun t42=>
 Kb6 (zqT t4 t5 t15 t16 t42) H))
 (K (.bool true) H)
def zyY (t0:AV) (H:zaa) (K:Kt):Prop:=
 zav t0 H fun t1 H=>
 zaf 2 t1 fun t8=>
 zae false 1 t8 H fun t9=>
 zah 1 t9 fun t10=>
 zbh 1 [(.bool false)] t10 t10 H fun t11 H=>
 zay [.snil] H fun t3 H=>
 zan 1 t3 t11 H fun H=>
 zcq zDX [t3] fun t12=>
 zay [.nilfn] H fun t4 H=>
 zan 1 t4 t12 H fun H=>
 zay [.nilfn] H fun t5 H=>
 zcq zDY [t1,t3,t4,t5] fun t13=>
 zan 1 t5 t13 H fun H=>
 zaf 1 t1 fun t14=>
 zae false 1 t14 H fun t15=>
 zah 1 t15 fun t16=>
 zy0 t4 t5 t15 t16 (.int .i64 0) H K
theorem zKE {t4 t5 t15 t16 t17:AV} {H:zaa} {K:Kt} (Inv:Nat→AV→zaa→Prop) (n:Nat) (h0:HSc H→Inv n t17 H)
  (round:Rd1 (fun t17=>zqT t4 t5 t15 t16 t17) (fun t17=>fun H Kb6=>zyZ t4 t5 t15 t16 t17 H K Kb6) H Inv):zy0 t4 t5 t15 t16 t17 H K:=
 lp1 (M:=zkW) zKF t17 (by kernel_rfl) Inv n h0 round
theorem zKG {t0:AV} {H:zaa} {K:Kt} (h:HSc H→zyY t0 H K):ACalls tP zoh [t0] H K:=
 zao (M:=zkW) Tryz.func164 (c:=zqS) (by kernel_rfl) (fun hs=>Eq.mpr (by kernel_rfl) (h hs))
def zft:Nat→List Bool
 | 3=>rl false [1,1,1,1,12,3,30]
 | 9=>rl false [3,1,24,3,18]
 | _=>[]
noncomputable def zhH:Code:=Tryz.f165.body.getD .skip
noncomputable def zy6:List ResultVar:=Tryz.f165.results.toList
def zqU (t1 t3 t16 t17 t18:AV):List AV:=ux 1 (t1::ux 1 (t3::ux 12 (t16::t17::t18::ux 30 [])))
def zKO:List Bool:=zft 3
noncomputable def zKK:Code:=zaq [1,1,0,1,0,0] zhH
def zKI (K:Kt):AExit→List AV→zaa→Prop:=zar tP zft [1,1,0,1,0] zhH (zax tP zy6 K)
def zy4 (t1 t3 t16 t17 t18:AV) (H:zaa) (K:Kt):Prop:=ALoop tP zKK (zKI K) (zqU t1 t3 t16 t17 t18) H
def zqV (t3 t28 t29 t30:AV):List AV:=ux 3 (t3::ux 24 (t28::t29::t30::ux 18 []))
def zKP:List Bool:=zft 9
noncomputable def zKL:Code:=zaq [1,1,1,0,1,0,0] zhH
def zKJ (K:Kt):AExit→List AV→zaa→Prop:=zar tP zft [1,1,1,0,1,0] zhH (zax tP zy6 K)
def zy5 (t3 t28 t29 t30:AV) (H:zaa) (K:Kt):Prop:=ALoop tP zKL (zKJ K) (zqV t3 t28 t29 t30) H
def zy3 (t3 t28 t29 t30:AV) (H:zaa) (K:Kt) (Kb9:Lt):Prop:=
 zab .lss false t30 t29 fun t31=>
 zag t31
 (zai 7 t28 t30 fun t33=>
 zae true 7 t33 H fun t34=>
 zay [(.str []),.snil,.snil,(.int .i64 0),(.int .i64 0),.snil,(.int .i64 0)] H fun t7 H=>
 zan 7 t7 t34 H fun H=>
 zaf 0 t7 fun t35=>
 zae false 1 t35 H fun t36=>
 zab .eql false t36 (.str []) fun t37=>
 zac t37 true H (fun K'=>K' t3 H) fun t39 H=>
 zac t37 true H (fun K'=>za2 t39 (K' · H)) fun t40 H=>
 zac t37 true H (fun K'=>zaf 4 t40 (K' · H)) fun t41 H=>
 zac t37 true H (fun K'=>zae false 1 t41 H (K' · H)) fun t42 H=>
 zac t37 true H (fun K'=>K' t30 H) fun t43 H=>
 zac t37 true H (fun K'=>zai 1 t42 t43 (K' · H)) fun t44 H=>
 zac t37 true H (fun K'=>zae false 1 t44 H (K' · H)) fun t45 H=>
 zac t37 true H (fun K'=>zab .neq false t45 (.int .i64 1) (K' · H)) fun t46 H=>
 zaj t37 t46 (.bool false) fun t47=>
 zag t47
 (K (.bool false) H)
 (zab .add false t30 (.int .i64 1) fun t48=>
 Kb9 (zqV t3 t28 t29 t48) H))
 (K (.bool true) H)
def zy2 (t1 t3 t16 t17 t18:AV) (H:zaa) (K:Kt) (Kb3:Lt):Prop:=
 zab .lss false t18 t17 fun t19=>
 zag t19
 (zai 8 t16 t18 fun t20=>
 zae true 8 t20 H fun t21=>
 zay [(.int .i64 0),(.int .i64 0),.snil,.snil,.snil,(.int .i64 0),(.int .i64 0),.snil] H fun t5 H=>
 zan 8 t5 t21 H fun H=>
 zae true 8 t5 H fun t23=>
 ACalls tP zDZ [t3,t23] H fun t24 H=>
 aUn .not t24 fun t25=>
 zag t25
 (K (.bool false) H)
 (zab .add false t18 (.int .i64 1) fun t26=>
 Kb3 (zqU t1 t3 t16 t17 t26) H))
 (zaf 1 t1 fun t27=>
 zae false 1 t27 H fun t28=>
 zah 1 t28 fun t29=>
 zy5 t3 t28 t29 (.int .i64 0) H K)
def zy1 (t0:AV) (H:zaa) (K:Kt):Prop:=
 zav t0 H fun t1 H=>
 zad H (fun K'=>zal true 4 t1 H (K' · H)) fun t8=>
 zad H (fun K'=>zaf 1 t1 (K' · H)) fun t9=>
 zad H (fun K'=>zal false 1 t9 H (K' · H)) fun t10=>
 zad H (fun K'=>zah 1 t10 (K' · H)) fun t11=>
 zbh 8 [(.int .i64 0)] t11 t11 H fun t12 H=>
 zad H (fun K'=>zas [.snil,.snil,.snil,.snil,.snil] [(0,4),(4,1)] [(0,t8),(1,t12)] (K' · H)) fun t13=>
 zav t13 H fun t14 H=>
 zad H (fun K'=>K' t14 H) fun t3=>
 zaf 3 t1 fun t15=>
 zae false 1 t15 H fun t16=>
 zah 1 t16 fun t17=>
 zy4 t1 t3 t16 t17 (.int .i64 0) H K
theorem zKN {t3 t28 t29 t30:AV} {H:zaa} {K:Kt} (Inv:Nat→AV→zaa→Prop) (n:Nat) (h0:HSc H→Inv n t30 H)
  (round:Rd1 (fun t30=>zqV t3 t28 t29 t30) (fun t30=>fun H Kb9=>zy3 t3 t28 t29 t30 H K Kb9) H Inv):zy5 t3 t28 t29 t30 H K:=
 lp1 (M:=zft) zKP t30 (by kernel_rfl) Inv n h0 round
theorem zKM {t1 t3 t16 t17 t18:AV} {H:zaa} {K:Kt} (Inv:Nat→AV→zaa→Prop) (n:Nat) (h0:HSc H→Inv n t18 H)
  (round:Rd1 (fun t18=>zqU t1 t3 t16 t17 t18) (fun t18=>fun H Kb3=>zy2 t1 t3 t16 t17 t18 H K Kb3) H Inv):zy4 t1 t3 t16 t17 t18 H K:=
 lp1 (M:=zft) zKO t18 (by kernel_rfl) Inv n h0 round
theorem zKQ {t0:AV} {H:zaa} {K:Kt} (h:HSc H→zy1 t0 H K):ACalls tP zoi [t0] H K:=
 zao (M:=zft) Tryz.func165 (c:=zhH) (by kernel_rfl) (fun hs=>Eq.mpr (by kernel_rfl) (h hs))
end Go.Proofs.YtdmamdnkcefmmaaGreatDoor

namespace Go.Proofs.YtdmamdnkcefmmaaGreatDoor
open Go Go.Abs
set_option maxRecDepth 100000
def zmj:Nat→List Bool
 | 21=>rl false [0,1,3,2,1,1,2,1,174]
 | _=>[]
noncomputable def zsw:Code:=Tryz.f51.body.getD .skip
noncomputable def zP9:List ResultVar:=Tryz.f51.results.toList
def zmk (t0 t4 t5 t7 t10:AV):List AV:=t0::ux 3 (t4::t5::ux 1 (t7::ux 2 (t10::ux 174 [])))
def zP7:List Bool:=zmj 21
noncomputable def zP5:Code:=zaq [1,1,0,1,0,1,1,1,1,1,1,1,1,1,1,1,0,1,0,1,0,0] zsw
def zP4 (K:Kt):AExit→List AV→zaa→Prop:=zar tP zmj [1,1,0,1,0,1,1,1,1,1,1,1,1,1,1,1,0,1,0,1,0] zsw (zax tP zP9 K)
def zsx (t0 t4 t5 t7 t10:AV) (H:zaa) (K:Kt):Prop:=ALoop tP zP5 (zP4 K) (zmk t0 t4 t5 t7 t10) H
def zsv (t0 t4 t5 t7 t10:AV) (H:zaa) (K:Kt) (Kb21:Lt):Prop:=
 zab .lss false t10 t7 fun t153=>
 zag t153
 (zad H (fun K'=>K' t0 H) fun t156=>
 zad H (fun K'=>zaf 2 t4 (K' · H)) fun t157=>
 zad H (fun K'=>zal false 1 t157 H (K' · H)) fun t158=>
 zad H (fun K'=>K' t10 H) fun t159=>
 zad H (fun K'=>zai 3 t158 t159 (K' · H)) fun t160=>
 zad H (fun K'=>zal true 3 t160 H (K' · H)) fun t161=>
 zad H (fun K'=>zaf 2 t5 (K' · H)) fun t162=>
 zad H (fun K'=>zal false 1 t162 H (K' · H)) fun t163=>
 zad H (fun K'=>zai 3 t163 (.int .i64 0) (K' · H)) fun t164=>
 zad H (fun K'=>zal true 3 t164 H (K' · H)) fun t165=>
 zaF H (fun H K'=>ACalls tP ziS [t156,t161,t165] H K') fun t166=>
 zad H (fun K'=>aUn .not t166 (K' · H)) fun t167=>
 zag t167
 (K (.bool false) H)
 (zab .add false t10 (.int .i64 1) fun t155=>
 Kb21 (zmk t0 t4 t5 t7 t155) H))
 (K (.bool true) H)
def zhS (t0 t4 t5 t7 t117:AV) (H:zaa) (K:Kt):Prop:=
 zag t117
 (zaf 0 t5 fun t120=>
 zae false 1 t120 H fun t121=>
 zab .eql false t121 (.int .i64 7) fun t122=>
 zac t122 true H (fun K'=>zaf 0 t4 (K' · H)) fun t124 H=>
 zac t122 true H (fun K'=>zae false 1 t124 H (K' · H)) fun t125 H=>
 zac t122 true H (fun K'=>zab .neq false t125 (.int .i64 6) (K' · H)) fun t126 H=>
 zac t122 true H (fun K'=>K' t126 H) fun t127 H=>
 zac t127 false H (fun K'=>K' t7 H) fun t128 H=>
 zac t127 false H (fun K'=>zab .gtr false t128 (.int .i64 4096) (K' · H)) fun t129 H=>
 zac t122 true H (fun K'=>zaj t127 (.bool true) t129 (K' · H)) fun t130 H=>
 zaj t122 t130 (.bool false) fun t131=>
 zac t131 false H (fun K'=>zaf 0 t5 (K' · H)) fun t133 H=>
 zac t131 false H (fun K'=>zae false 1 t133 H (K' · H)) fun t134 H=>
 zac t131 false H (fun K'=>zab .eql false t134 (.int .i64 8) (K' · H)) fun t135 H=>
 zac t131 false H (fun K'=>K' t135 H) fun t136 H=>
 zac t136 true H (fun K'=>zaf 0 t4 (K' · H)) fun t137 H=>
 zac t136 true H (fun K'=>zae false 1 t137 H (K' · H)) fun t138 H=>
 zac t136 true H (fun K'=>zab .neq false t138 (.int .i64 7) (K' · H)) fun t139 H=>
 zac t136 true H (fun K'=>K' t139 H) fun t140 H=>
 zac t140 false H (fun K'=>K' t7 H) fun t141 H=>
 zac t140 false H (fun K'=>zab .neq false t141 (.int .i64 1) (K' · H)) fun t142 H=>
 zac t136 true H (fun K'=>zaj t140 (.bool true) t142 (K' · H)) fun t143 H=>
 zac t131 false H (fun K'=>zaj t136 t143 (.bool false) (K' · H)) fun t144 H=>
 zaj t131 (.bool true) t144 fun t145=>
 zac t145 false H (fun K'=>zaf 1 t4 (K' · H)) fun t147 H=>
 zac t145 false H (fun K'=>zae false 1 t147 H (K' · H)) fun t148 H=>
 zac t145 false H (fun K'=>zab .neq false t148 (.int .i64 0) (K' · H)) fun t149 H=>
 zaj t145 (.bool true) t149 fun t150=>
 zag t150
 (K (.bool false) H)
 (zsx t0 t4 t5 t7 (.int .i64 0) H K))
 (zaf 0 t4 fun t168=>
 zae false 1 t168 H fun t169=>
 zab .eql false t169 (.int .i64 8) fun t170=>
 zac t170 true H (fun K'=>zaf 1 t4 (K' · H)) fun t172 H=>
 zac t170 true H (fun K'=>zae false 1 t172 H (K' · H)) fun t173 H=>
 zac t170 true H (fun K'=>zab .geq false t173 (.int .i64 0) (K' · H)) fun t174 H=>
 zaj t170 t174 (.bool false) fun t175=>
 zac t175 true H (fun K'=>zaf 1 t4 (K' · H)) fun t177 H=>
 zac t175 true H (fun K'=>zae false 1 t177 H (K' · H)) fun t178 H=>
 zac t175 true H (fun K'=>zab .lss false t178 (.int .i64 64) (K' · H)) fun t179 H=>
 zaj t175 t179 (.bool false) fun t180=>
 zac t180 true H (fun K'=>K' t7 H) fun t182 H=>
 zac t180 true H (fun K'=>zab .eql false t182 (.int .i64 0) (K' · H)) fun t183 H=>
 zaj t180 t183 (.bool false) fun t184=>
 K t184 H)
def zek (t0 t1 t2:AV) (H:zaa) (K:Kt):Prop:=
 zav t1 H fun t4 H=>
 zav t2 H fun t5 H=>
 zaf 2 t4 fun t11=>
 zae false 1 t11 H fun t12=>
 zah 1 t12 fun t13=>
 zaf 0 t5 fun t14=>
 zae false 1 t14 H fun t15=>
 zab .eql false t15 (.int .i64 3) fun t17=>
 zag t17
 (zaf 0 t4 fun t18=>
 zae false 1 t18 H fun t19=>
 zab .eql false t19 (.int .i64 1) fun t20=>
 zac t20 true H (fun K'=>zaf 1 t4 (K' · H)) fun t22 H=>
 zac t20 true H (fun K'=>zae false 1 t22 H (K' · H)) fun t23 H=>
 zac t20 true H (fun K'=>zab .eql false t23 (.int .i64 0) (K' · H)) fun t24 H=>
 zaj t20 t24 (.bool false) fun t25=>
 zac t25 true H (fun K'=>K' t13 H) fun t27 H=>
 zac t25 true H (fun K'=>zab .eql false t27 (.int .i64 0) (K' · H)) fun t28 H=>
 zaj t25 t28 (.bool false) fun t29=>
 K t29 H)
 (zab .eql false t15 (.int .i64 2) fun t31=>
 zag t31
 (zaf 0 t4 fun t32=>
 zae false 1 t32 H fun t33=>
 zab .eql false t33 (.int .i64 2) fun t34=>
 zac t34 true H (fun K'=>zaf 1 t4 (K' · H)) fun t36 H=>
 zac t34 true H (fun K'=>zae false 1 t36 H (K' · H)) fun t37 H=>
 zac t34 true H (fun K'=>zab .eql false t37 (.int .i64 0) (K' · H)) fun t38 H=>
 zac t34 true H (fun K'=>K' t38 H) fun t39 H=>
 zac t39 false H (fun K'=>zaf 1 t4 (K' · H)) fun t40 H=>
 zac t39 false H (fun K'=>zae false 1 t40 H (K' · H)) fun t41 H=>
 zac t39 false H (fun K'=>zab .eql false t41 (.int .i64 1) (K' · H)) fun t42 H=>
 zac t34 true H (fun K'=>zaj t39 (.bool true) t42 (K' · H)) fun t43 H=>
 zaj t34 t43 (.bool false) fun t44=>
 zac t44 true H (fun K'=>K' t13 H) fun t46 H=>
 zac t44 true H (fun K'=>zab .eql false t46 (.int .i64 0) (K' · H)) fun t47 H=>
 zaj t44 t47 (.bool false) fun t48=>
 K t48 H)
 (zab .eql false t15 (.int .i64 1) fun t50=>
 zag t50
 (zaf 0 t4 fun t51=>
 zae false 1 t51 H fun t52=>
 zab .eql false t52 (.int .i64 3) fun t53=>
 zac t53 true H (fun K'=>zaf 1 t4 (K' · H)) fun t55 H=>
 zac t53 true H (fun K'=>zae false 1 t55 H (K' · H)) fun t56 H=>
 zac t53 true H (fun K'=>zab .geq false t56 (.int .i64 (-1099511627776)) (K' · H)) fun t57 H=>
 zaj t53 t57 (.bool false) fun t58=>
 zac t58 true H (fun K'=>zaf 1 t4 (K' · H)) fun t60 H=>
 zac t58 true H (fun K'=>zae false 1 t60 H (K' · H)) fun t61 H=>
 zac t58 true H (fun K'=>zab .leq false t61 (.int .i64 1099511627776) (K' · H)) fun t62 H=>
 zaj t58 t62 (.bool false) fun t63=>
 zac t63 true H (fun K'=>K' t13 H) fun t65 H=>
 zac t63 true H (fun K'=>zab .eql false t65 (.int .i64 0) (K' · H)) fun t66 H=>
 zaj t63 t66 (.bool false) fun t67=>
 K t67 H)
 (zab .eql false t15 (.int .i64 6) fun t69=>
 zag t69
 (zaf 0 t4 fun t70=>
 zae false 1 t70 H fun t71=>
 zab .eql false t71 (.int .i64 4) fun t72=>
 zac t72 true H (fun K'=>zaf 1 t4 (K' · H)) fun t74 H=>
 zac t72 true H (fun K'=>zae false 1 t74 H (K' · H)) fun t75 H=>
 zac t72 true H (fun K'=>zab .eql false t75 (.int .i64 0) (K' · H)) fun t76 H=>
 zaj t72 t76 (.bool false) fun t77=>
 zac t77 true H (fun K'=>K' t0 H) fun t79 H=>
 zac t77 true H (fun K'=>zaf 2 t4 (K' · H)) fun t80 H=>
 zac t77 true H (fun K'=>zae false 1 t80 H (K' · H)) fun t81 H=>
 zac t77 true H (fun K'=>zaf 2 t5 (K' · H)) fun t82 H=>
 zac t77 true H (fun K'=>zae false 1 t82 H (K' · H)) fun t83 H=>
 zac t77 true H (fun K'=>ACalls tP zi6 [t79,t81,t83] H K') fun t84 H=>
 zaj t77 t84 (.bool false) fun t85=>
 K t85 H)
 (zab .eql false t15 (.int .i64 5) fun t87=>
 zag t87
 (zaf 0 t4 fun t88=>
 zae false 1 t88 H fun t89=>
 zab .neq false t89 (.int .i64 5) fun t90=>
 zac t90 false H (fun K'=>zaf 1 t4 (K' · H)) fun t92 H=>
 zac t90 false H (fun K'=>zae false 1 t92 H (K' · H)) fun t93 H=>
 zac t90 false H (fun K'=>zab .lss false t93 (.int .i64 0) (K' · H)) fun t94 H=>
 zaj t90 (.bool true) t94 fun t95=>
 zac t95 false H (fun K'=>zaf 1 t4 (K' · H)) fun t97 H=>
 zac t95 false H (fun K'=>zae false 1 t97 H (K' · H)) fun t98 H=>
 zac t95 false H (fun K'=>zab .geq false t98 (.int .i64 8) (K' · H)) fun t99 H=>
 zaj t95 (.bool true) t99 fun t100=>
 zag t100
 (K (.bool false) H)
 (zae true 3 t5 H fun t103=>
 zaf 1 t4 fun t104=>
 zae false 1 t104 H fun t105=>
 ACalls tP zhd [t0,t103,t105] H fun t106 H=>
 zaz t106 0 fun t107=>
 zaz t106 1 fun t108=>
 zac t108 true H (fun K'=>K' t0 H) fun t111 H=>
 zac t108 true H (fun K'=>zaf 2 t4 (K' · H)) fun t112 H=>
 zac t108 true H (fun K'=>zae false 1 t112 H (K' · H)) fun t113 H=>
 zac t108 true H (fun K'=>K' t107 H) fun t114 H=>
 zac t108 true H (fun K'=>ACalls tP zi6 [t111,t113,t114] H K') fun t115 H=>
 zaj t108 t115 (.bool false) fun t116=>
 K t116 H))
 (zab .eql false t15 (.int .i64 7) fun t118=>
 zag t118
 (zhS t0 t4 t5 t13 t118 H K)
 (zab .eql false t15 (.int .i64 8) fun t119=>
 zhS t0 t4 t5 t13 t119 H K))))))
theorem zP6 {t0 t4 t5 t7 t10:AV} {H:zaa} {K:Kt} (Inv:Nat→AV→zaa→Prop) (n:Nat) (h0:HSc H→Inv n t10 H)
  (round:Rd1 (fun t10=>zmk t0 t4 t5 t7 t10) (fun t10=>fun H Kb21=>zsv t0 t4 t5 t7 t10 H K Kb21) H Inv):zsx t0 t4 t5 t7 t10 H K:=
 lp1 (M:=zmj) zP7 t10 (by kernel_rfl) Inv n h0 round
theorem zP8 {t0 t1 t2:AV} {H:zaa} {K:Kt} (h:HSc H→zek t0 t1 t2 H K):ACalls tP ziS [t0,t1,t2] H K:=
 zao (M:=zmj) Tryz.func51 (c:=zsw) (by kernel_rfl) (fun hs=>Eq.mpr (by kernel_rfl) (h hs))
def zmT:Nat→List Bool
 | 4=>rl false [0,3,4,1,22]
 | _=>[]
noncomputable def zs9:Code:=Tryz.f97.body.getD .skip
noncomputable def zSz:List ResultVar:=Tryz.f97.results.toList
def zmU (t0 t1 t2 t7:AV):List AV:=t0::t1::t2::ux 4 (t7::ux 22 [])
def zSx:List Bool:=zmT 4
noncomputable def zSv:Code:=zaq [1,1,0,1,0,0] zs9
def zSu (K:Kt):AExit→List AV→zaa→Prop:=zar tP zmT [1,1,0,1,0] zs9 (zax tP zSz K)
def zBB (t0 t1 t2 t7:AV) (H:zaa) (K:Kt):Prop:=ALoop tP zSv (zSu K) (zmU t0 t1 t2 t7) H
def zs8 (t0 t1 t2 t7:AV) (H:zaa) (K:Kt) (Kb4:Lt):Prop:=
 zah 1 t1 fun t15=>
 zab .lss false t7 t15 fun t16=>
 zag t16
 (zad H (fun K'=>K' t0 H) fun t19=>
 zad H (fun K'=>K' t1 H) fun t20=>
 zad H (fun K'=>K' t7 H) fun t21=>
 zad H (fun K'=>zai 3 t20 t21 (K' · H)) fun t22=>
 zad H (fun K'=>zal true 3 t22 H (K' · H)) fun t23=>
 zad H (fun K'=>K' t2 H) fun t24=>
 zad H (fun K'=>K' t7 H) fun t25=>
 zad H (fun K'=>zai 3 t24 t25 (K' · H)) fun t26=>
 zad H (fun K'=>zal true 3 t26 H (K' · H)) fun t27=>
 zaF H (fun H K'=>ACalls tP ziS [t19,t23,t27] H K') fun t28=>
 zad H (fun K'=>aUn .not t28 (K' · H)) fun t29=>
 zag t29
 (K (.bool false) H)
 (zab .add false t7 (.int .i64 1) fun t18=>
 Kb4 (zmU t0 t1 t2 t18) H))
 (K (.bool true) H)
def zs7 (t0 t1 t2:AV) (H:zaa) (K:Kt):Prop:=
 zah 1 t1 fun t9=>
 zah 1 t2 fun t11=>
 zab .neq false t9 t11 fun t12=>
 zag t12
 (K (.bool false) H)
 (zBB t0 t1 t2 (.int .i64 0) H K)
theorem zSw {t0 t1 t2 t7:AV} {H:zaa} {K:Kt} (Inv:Nat→AV→zaa→Prop) (n:Nat) (h0:HSc H→Inv n t7 H)
  (round:Rd1 (fun t7=>zmU t0 t1 t2 t7) (fun t7=>fun H Kb4=>zs8 t0 t1 t2 t7 H K Kb4) H Inv):zBB t0 t1 t2 t7 H K:=
 lp1 (M:=zmT) zSx t7 (by kernel_rfl) Inv n h0 round
theorem zSy {t0 t1 t2:AV} {H:zaa} {K:Kt} (h:HSc H→zs7 t0 t1 t2 H K):ACalls tP zi6 [t0,t1,t2] H K:=
 zao (M:=zmT) Tryz.func97 (c:=zs9) (by kernel_rfl) (fun hs=>Eq.mpr (by kernel_rfl) (h hs))
end Go.Proofs.YtdmamdnkcefmmaaGreatDoor

namespace Go.Proofs.YtdmamdnkcefmmaaGreatDoor
open Go Go.Abs
def d4 (data:List Dat):AV:=.agg [.sl (data.map Dat.cs) .none,.snil,.snil,.snil]
section
variable {H:zaa} {K:Kt} (data:List Dat)
theorem zGv (hK:K (.bool true) H):ACalls tP zod [d4 data] H K:=by
 refine ACalls.out (zKb fun hs=>?_)
 simp[zyB,d4]
 refine⟨rfl,ACalls.wk (args':=[.sl (VT.css []) .none,.fn zvq [.ptr H.length 0]]) ?_ ⟨.atom .snil,.atom (.refl _),trivial⟩⟩
 refine znq [] (by simp) _ _ _ (by simp[AV.sc,AV.scV,AV.scA,AV.scB]) (fun _ H'=>H'=H++[.cells [.sl (data.map Dat.cs) .none,.snil,.snil,.snil]]) rfl (fun i h=>by simp at h) ?_
 rintro H' rfl
 simp
 exact Out.bool rfl (Nat.le_refl _) hs hK
theorem zCG (hK:K (.bool true) H):ACalls tP zoe [d4 data] H K:=by
 refine ACalls.out (zKg fun hs=>?_)
 simp[zyC,d4]
 refine zKe (Inv:=fun _ _ t H'=>t=.int .i64 0∧H'=_) 0 (fun _=>⟨rfl,rfl⟩) ?_
 rintro q t4 t H' ⟨rfl,rfl⟩ _ _ _ Kb hKb
 simp[zyD]
 exact Out.bool rfl (Nat.le_refl _) hs hK
theorem zGn (hK:K (.bool true) H):ACalls tP zof [d4 data] H K:=by
 refine ACalls.out (zKr fun hs=>?_)
 simp[zyG,d4,zbh]
 refine⟨⟨rfl,rfl⟩,zKp (Inv:=fun _ t H'=>t=.int .i64 0∧H'=_) 0 (fun _=>⟨rfl,rfl⟩) ?_⟩
 rintro q t H' ⟨rfl,rfl⟩ _ _ _ Kb hKb
 simp[zyJ]
 refine zKo (Inv:=fun _ t H'=>t=.int .i64 0∧H'=_) 0 (fun _=>⟨rfl,rfl⟩) ?_
 rintro q t H' ⟨rfl,rfl⟩ _ _ _ Kb2 hKb2
 simp[zyI,Nat.add_assoc]
 exact Out.bool rfl (Nat.le_refl _) hs hK
theorem zCq (hK:K (.bool true) H):ACalls tP zog [d4 data] H K:=by
 refine ACalls.out (zKB fun hs=>?_)
 simp[zyP,d4,zbh]
 refine⟨⟨rfl,rfl⟩,zKz (Inv:=fun _ t H'=>t=.int .i64 0∧H'=_) 0 (fun _=>⟨rfl,rfl⟩) ?_⟩
 rintro q t H' ⟨rfl,rfl⟩ _ _ _ Kb hKb
 simp[zyS]
 refine zKy (Inv:=fun _ t H'=>t=.int .i64 0∧H'=_) 0 (fun _=>⟨rfl,rfl⟩) ?_
 rintro q t H' ⟨rfl,rfl⟩ _ _ _ Kb2 hKb2
 simp[zyR,Nat.add_assoc]
 exact Out.bool rfl (Nat.le_refl _) hs hK
theorem zE0 (hK:K (.bool true) H):ACalls tP zoh [d4 data] H K:=by
 refine ACalls.out (zKG fun hs=>?_)
 simp[zyY,d4,zbh]
 refine⟨rfl,⟨rfl,rfl,rfl,rfl⟩,zKE (Inv:=fun _ t H'=>t=.int .i64 0∧H'=_) 0 (fun _=>⟨rfl,rfl⟩) ?_⟩
 rintro q t H' ⟨rfl,rfl⟩ _ _ _ Kb hKb
 simp[zyZ]
 exact Out.bool rfl (Nat.le_refl _) hs hK
theorem zC6 (hK:K (.bool true) H):ACalls tP zoi [d4 data] H K:=by
 refine ACalls.out (zKQ fun hs=>?_)
 simp[zy1,d4,zbh,zas,zaH]
 refine zKM (Inv:=fun _ t H'=>t=.int .i64 0∧H'=_) 0 (fun _=>⟨rfl,rfl⟩) ?_
 rintro q t H' ⟨rfl,rfl⟩ _ _ _ Kb hKb
 simp[zy2]
 refine zKN (Inv:=fun _ t H'=>t=.int .i64 0∧H'=_) 0 (fun _=>⟨rfl,rfl⟩) ?_
 rintro q t H' ⟨rfl,rfl⟩ _ _ _ Kb2 hKb2
 simp[zy3]
 exact Out.bool rfl (Nat.le_refl _) hs hK
theorem zHR (hB:zgl data) (hl:data.length≤1000000) (hK:K (.bool (zbq data)) H):ACalls tP znY [d4 data] H K:=by
 refine ACalls.out (zHS fun hs=>?_)
 simp[zxW,d4]
 refine zJ8 data hB hl _ _ ?_
 cases hd:zbq data with
 | false=>
  rw[hd]at hK
  simp
  exact Out.bool rfl (Nat.le_refl _) hs hK
 | true=>
  rw[hd]at hK
  simp
  refine zGv data ?_
  simp
  refine zCG data ?_
  simp
  refine zGn data ?_
  simp
  refine zCq data ?_
  simp
  refine zE0 data ?_
  simp
  refine zC6 data ?_
  exact Out.bool rfl (Nat.le_refl _) hs hK
def zbZ (data:List Dat) (t:VT):Bool:=zbq data && zaZ data 0 t
end
end Go.Proofs.YtdmamdnkcefmmaaGreatDoor
