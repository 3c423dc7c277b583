import Derived.Test.YtjkkonpjecoieaaGreatKNum
import Derived.Test.YtjkkonpjecoieaaGreatProg
import Derived.KernelRfl
import Derived.Test.YtjkkonpjecoieaaGreatKUQ
set_option linter.unusedSimpArgs false
set_option linter.unusedVariables false
namespace Go.Proofs.YtjkkonpjecoieaaGreat
open Go Go.Abs
set_option maxRecDepth 100000
def zIn (_:Nat):List Bool:=[]
noncomputable def zIo:Code:=Tryz.f12.body.getD .skip
def zyz (t0:AV) (H:zaa) (K:Kt):Prop:=
 zao t0 H fun t1 H=>
 zaw [(.int .i64 0)] H fun t3 H=>
 zam 1 t3 (.int .i64 40) H fun H=>
 zae true 2 t1 H fun t4=>
 ACalls tP zjz [t4,t3] H fun t5 H=>
 K t5 H
theorem zIp {t0:AV} {H:zaa} {K:Kt} (h:HSc H→zyz t0 H K):ACalls tP zjc [t0] H K:=
 zan (M:=zIn) Tryz.func12 (c:=zIo) (by kernel_rfl) (fun hs=>Eq.mpr (by kernel_rfl) (h hs))
def zmg:Nat→List Bool
 | 5=>rl false [1,2,2,1,24]
 | _=>[]
noncomputable def zsX:Code:=Tryz.f37.body.getD .skip
noncomputable def zOM:List ResultVar:=Tryz.f37.results.toList
def zmh (t1 t2 t5:AV):List AV:=ux 1 (t1::t2::ux 2 (t5::ux 24 []))
def zOK:List Bool:=zmg 5
noncomputable def zOI:Code:=zap [1,1,1,0,1,0,0] zsX
def zOH (K:Kt):AExit→List AV→zaa→Prop:=zaq tP zmg [1,1,1,0,1,0] zsX (zaA tP zOM K)
def zBi (t1 t2 t5:AV) (H:zaa) (K:Kt):Prop:=ALoop tP zOI (zOH K) (zmh t1 t2 t5) H
def zsW (t1 t2 t5:AV) (H:zaa) (K:Kt) (Kb5:Lt):Prop:=
 zaf 1 t2 fun t16=>
 zae false 1 t16 H fun t17=>
 zah 1 t17 fun t18=>
 zac .lss false t5 t18 fun t19=>
 zag t19
 (zaf 1 t2 fun t22=>
 zae false 1 t22 H fun t23=>
 zai 2 t23 t5 fun t25=>
 zae true 2 t25 H fun t26=>
 ACalls tP zjz [t26,t1] H fun t28 H=>
 aUn .not t28 fun t29=>
 zag t29
 (K (.bool false) H)
 (zac .add false t5 (.int .i64 1) fun t21=>
 Kb5 (zmh t1 t2 t21) H))
 (K (.bool true) H)
def zBh (t0 t1:AV) (H:zaa) (K:Kt):Prop:=
 zao t0 H fun t2 H=>
 zbj t1 fun t7=>
 zae false 1 t7 H fun t8=>
 zac .sub false t8 (.int .i64 1) fun t9=>
 zbj t1 fun t10=>
 zam 1 t10 t9 H fun H=>
 zbj t1 fun t12=>
 zae false 1 t12 H fun t13=>
 zac .lss false t13 (.int .i64 0) fun t14=>
 zag t14
 (K (.bool false) H)
 (zBi t1 t2 (.int .i64 0) H K)
theorem zOJ {t1 t2 t5:AV} {H:zaa} {K:Kt} (Inv:Nat→AV→zaa→Prop) (n:Nat) (h0:HSc H→Inv n t5 H)
  (round:Rd1 (fun t5=>zmh t1 t2 t5) (fun t5=>fun H Kb5=>zsW t1 t2 t5 H K Kb5) H Inv):zBi t1 t2 t5 H K:=
 lp1 (M:=zmg) zOK t5 (by kernel_rfl) Inv n h0 round
theorem zOL {t0 t1:AV} {H:zaa} {K:Kt} (h:HSc H→zBh t0 t1 H K):ACalls tP zjz [t0,t1] H K:=
 zan (M:=zmg) Tryz.func37 (c:=zsX) (by kernel_rfl) (fun hs=>Eq.mpr (by kernel_rfl) (h hs))
def zPt (_:Nat):List Bool:=[]
noncomputable def zPu:Code:=Tryz.f44.body.getD .skip
def zBy (t0 t1 t2:AV) (H:zaa) (K:Kt):Prop:=
 zao t1 H fun t4 H=>
 zao t2 H fun t5 H=>
 zae true 3 t4 H fun t8=>
 zae true 2 t5 H fun t9=>
 ACalls tP zpM [t0,t8,t9] H fun t10 H=>
 zac .geq false t10 (.int .i64 0) fun t11=>
 K t11 H
theorem zPv {t0 t1 t2:AV} {H:zaa} {K:Kt} (h:HSc H→zBy t0 t1 t2 H K):ACalls tP zpH [t0,t1,t2] H K:=
 zan (M:=zPt) Tryz.func44 (c:=zPu) (by kernel_rfl) (fun hs=>Eq.mpr (by kernel_rfl) (h hs))
def zKf (_:Nat):List Bool:=[]
noncomputable def zKg:Code:=Tryz.f16.body.getD .skip
def zzg (t0 t1 t2:AV) (H:zaa) (K:Kt):Prop:=
 zao t1 H fun t4 H=>
 zao t2 H fun t5 H=>
 zae true 3 t4 H fun t8=>
 zae true 2 t5 H fun t9=>
 ACalls tP zhJ [t0,t8,t9] H fun t10 H=>
 zac .geq false t10 (.int .i64 0) fun t11=>
 K t11 H
theorem zKh {t0 t1 t2:AV} {H:zaa} {K:Kt} (h:HSc H→zzg t0 t1 t2 H K):ACalls tP zpc [t0,t1,t2] H K:=
 zan (M:=zKf) Tryz.func16 (c:=zKg) (by kernel_rfl) (fun hs=>Eq.mpr (by kernel_rfl) (h hs))
def zSQ (_:Nat):List Bool:=[]
noncomputable def zSR:Code:=Tryz.f88.body.getD .skip
def zCH (t0 t1 t2:AV) (H:zaa) (K:Kt):Prop:=
 zao t1 H fun t4 H=>
 zao t2 H fun t5 H=>
 zae true 3 t4 H fun t10=>
 ACalls tP zhO [t0,t10] H fun t11 H=>
 aUn .not t11 fun t12=>
 zag t12
 (K (.int .i64 (-1)) H)
 (zae true 3 t4 H fun t15=>
 zae true 2 t5 H fun t16=>
 ACalls tP zji [t0,t15,t16] H fun t17 H=>
 zay t17 0 fun t18=>
 zay t17 1 fun t19=>
 aUn .not t19 fun t21=>
 zag t21
 (K (.int .i64 (-1)) H)
 (K t18 H))
theorem zSS {t0 t1 t2:AV} {H:zaa} {K:Kt} (h:HSc H→zCH t0 t1 t2 H K):ACalls tP zpM [t0,t1,t2] H K:=
 zan (M:=zSQ) Tryz.func88 (c:=zSR) (by kernel_rfl) (fun hs=>Eq.mpr (by kernel_rfl) (h hs))
def zPq (_:Nat):List Bool:=[]
noncomputable def zPr:Code:=Tryz.f43.body.getD .skip
def zBx (t0 t1 t2:AV) (H:zaa) (K:Kt):Prop:=
 zao t1 H fun t4 H=>
 zao t2 H fun t5 H=>
 zae true 3 t4 H fun t8=>
 ACalls tP zpG [t0,t8] H fun t9 H=>
 aUn .not t9 fun t10=>
 zag t10
 (K (.int .i64 (-1)) H)
 (zae true 3 t4 H fun t12=>
 zae true 2 t5 H fun t13=>
 ACalls tP zhQ [t0,t12,t13] H fun t14 H=>
 K t14 H)
theorem zPs {t0 t1 t2:AV} {H:zaa} {K:Kt} (h:HSc H→zBx t0 t1 t2 H K):ACalls tP zhJ [t0,t1,t2] H K:=
 zan (M:=zPq) Tryz.func43 (c:=zPr) (by kernel_rfl) (fun hs=>Eq.mpr (by kernel_rfl) (h hs))
def zRP (_:Nat):List Bool:=[]
noncomputable def zRQ:Code:=Tryz.f73.body.getD .skip
def zCm (t0 t1:AV) (H:zaa) (K:Kt):Prop:=
 zao t1 H fun t3 H=>
 zaz [.snil,.snil,.snil,.snil] [(0,1),(1,1),(2,1),(3,1)] [(0,t0)] fun t6=>
 ACalls tP zo8 [t6] H fun t7 H=>
 zab t7 true H (fun K'=>K' t0 H) fun t9 H=>
 zab t7 true H (fun K'=>zae true 3 t3 H (K' · H)) fun t10 H=>
 zab t7 true H (fun K'=>ACalls tP zhx [t9,t10,(.int .i64 0)] H K') fun t11 H=>
 zaj t7 t11 (.bool false) fun t12=>
 K t12 H
theorem zRR {t0 t1:AV} {H:zaa} {K:Kt} (h:HSc H→zCm t0 t1 H K):ACalls tP zhO [t0,t1] H K:=
 zan (M:=zRP) Tryz.func73 (c:=zRQ) (by kernel_rfl) (fun hs=>Eq.mpr (by kernel_rfl) (h hs))
def zk8:Nat→List Bool
 | 13=>rl false [0,1,3,1,3,1,44,3,42]
 | _=>[]
noncomputable def zrx:Code:=Tryz.f131.body.getD .skip
noncomputable def zJk:List ResultVar:=Tryz.f131.results.toList
def zk9 (t0 t4 t8 t53 t54 t55:AV):List AV:=t0::ux 3 (t4::ux 3 (t8::ux 44 (t53::t54::t55::ux 42 [])))
def zJi:List Bool:=zk8 13
noncomputable def zJg:Code:=zap [1,0,1,0,1,1,1,1,1,0,1,1,0,1,0,0] zrx
def zJf (K:Kt):AExit→List AV→zaa→Prop:=zaq tP zk8 [1,0,1,0,1,1,1,1,1,0,1,1,0,1,0] zrx (zaA tP zJk K)
def zzc (t0 t4 t8 t53 t54 t55:AV) (H:zaa) (K:Kt):Prop:=ALoop tP zJg (zJf K) (zk9 t0 t4 t8 t53 t54 t55) H
def zrw (t0 t4 t8 t53 t54 t55:AV) (H:zaa) (K:Kt) (Kb13:Lt):Prop:=
 zac .lss false t55 t54 fun t56=>
 zag t56
 (zai 2 t53 t55 fun t57=>
 zae true 2 t57 H fun t58=>
 zaw [(.int .i64 0),.snil] H fun t10 H=>
 zam 2 t10 t58 H fun H=>
 zae true 3 t4 H fun t61=>
 zaf 0 t10 fun t62=>
 zae false 1 t62 H fun t63=>
 ACalls tP zpr [t0,t61,t63] H fun t64 H=>
 zay t64 0 fun t65=>
 zay t64 1 fun t66=>
 aUn .not t66 fun t68=>
 zag t68
 (zaI [(.int .i64 0),(.bool false)] (K · H))
 (zaf 1 t10 fun t72=>
 zae false 1 t72 H fun t73=>
 ACalls tP zjq [t0,t65,t73] H fun t74 H=>
 zay t74 0 fun t75=>
 zay t74 1 fun t76=>
 zac .add false (.int .i64 1) t75 fun t79=>
 zac .add false t8 t79 fun t80=>
 aUn .not t76 fun t82=>
 zab t82 false H (fun K'=>K' t80 H) fun t84 H=>
 zab t82 false H (fun K'=>zac .gtr false t84 (.int .i64 6) (K' · H)) fun t85 H=>
 zaj t82 (.bool true) t85 fun t86=>
 zag t86
 (zaI [(.int .i64 0),(.bool false)] (K · H))
 (zac .add false t55 (.int .i64 1) fun t87=>
 Kb13 (zk9 t0 t4 t80 t53 t54 t87) H)))
 (zaI [t8,(.bool true)] (K · H))
def zdC (t0 t1 t2:AV) (H:zaa) (K:Kt):Prop:=
 zao t1 H fun t4 H=>
 zao t2 H fun t5 H=>
 zaf 0 t4 fun t14=>
 zae false 1 t14 H fun t15=>
 zac .eql false t15 (.int .i64 6) fun t17=>
 zag t17
 (zaf 0 t5 fun t18=>
 zae false 1 t18 H fun t19=>
 zac .neq false t19 (.int .i64 0) fun t20=>
 zag t20
 (zaI [(.int .i64 0),(.bool false)] (K · H))
 (zaf 2 t4 fun t22=>
 zae false 1 t22 H fun t23=>
 zaf 1 t5 fun t24=>
 zae false 1 t24 H fun t25=>
 ACalls tP zjq [t0,t23,t25] H fun t26 H=>
 zay t26 0 fun t27=>
 zay t26 1 fun t28=>
 zaI [t27,t28] (K · H)))
 (zac .eql false t15 (.int .i64 7) fun t30=>
 zag t30
 (zad H (fun K'=>zaf 0 t5 (K' · H)) fun t31=>
 zad H (fun K'=>zal false 1 t31 H (K' · H)) fun t32=>
 zad H (fun K'=>zaf 0 t5 (K' · H)) fun t33=>
 zad H (fun K'=>zal false 1 t33 H (K' · H)) fun t34=>
 zad H (fun K'=>zac .geq false t34 (.int .i64 0) (K' · H)) fun t35=>
 zad H (fun K'=>K' t35 H) fun t36=>
 zab t36 true H (fun K'=>zad H (fun K''=>zaf 0 t5 (K'' · H)) (K' · H)) fun t37 H=>
 zab t36 true H (fun K'=>zad H (fun K''=>zal false 1 t37 H (K'' · H)) (K' · H)) fun t38 H=>
 zab t36 true H (fun K'=>zad H (fun K''=>zac .leq false t38 (.int .i64 6) (K'' · H)) (K' · H)) fun t39 H=>
 zad H (fun K'=>zaj t36 t39 (.bool false) (K' · H)) fun t40=>
 zad H (fun K'=>K' t40 H) fun t41=>
 zab t41 true H (fun K'=>zad H (fun K''=>zaf 1 t5 (K'' · H)) (K' · H)) fun t42 H=>
 zab t41 true H (fun K'=>zad H (fun K''=>zal false 1 t42 H (K'' · H)) (K' · H)) fun t43 H=>
 zab t41 true H (fun K'=>zad H (fun K''=>zah 1 t43 (K'' · H)) (K' · H)) fun t44 H=>
 zab t41 true H (fun K'=>zad H (fun K''=>zac .eql false t44 (.int .i64 0) (K'' · H)) (K' · H)) fun t45 H=>
 zad H (fun K'=>zaj t41 t45 (.bool false) (K' · H)) fun t46=>
 zad H (fun K'=>K' t32 H) fun t6=>
 zad H (fun K'=>K' t46 H) fun t7=>
 zaI [t6,t7] (K · H))
 (zac .eql false t15 (.int .i64 5) fun t48=>
 zag t48
 (zaf 0 t5 fun t49=>
 zae false 1 t49 H fun t50=>
 zac .neq false t50 (.int .i64 0) fun t51=>
 zag t51
 (zaI [(.int .i64 0),(.bool false)] (K · H))
 (zaf 1 t5 fun t52=>
 zae false 1 t52 H fun t53=>
 zah 1 t53 fun t54=>
 zzc t0 t4 (.int .i64 0) t53 t54 (.int .i64 0) H K))
 (zad H (fun K'=>zaf 0 t5 (K' · H)) fun t89=>
 zad H (fun K'=>zal false 1 t89 H (K' · H)) fun t90=>
 zad H (fun K'=>zac .eql false t90 (.int .i64 0) (K' · H)) fun t91=>
 zad H (fun K'=>K' t91 H) fun t92=>
 zab t92 true H (fun K'=>zad H (fun K''=>zaf 1 t5 (K'' · H)) (K' · H)) fun t93 H=>
 zab t92 true H (fun K'=>zad H (fun K''=>zal false 1 t93 H (K'' · H)) (K' · H)) fun t94 H=>
 zab t92 true H (fun K'=>zad H (fun K''=>zah 1 t94 (K'' · H)) (K' · H)) fun t95 H=>
 zab t92 true H (fun K'=>zad H (fun K''=>zac .eql false t95 (.int .i64 0) (K'' · H)) (K' · H)) fun t96 H=>
 zad H (fun K'=>zaj t92 t96 (.bool false) (K' · H)) fun t97=>
 zad H (fun K'=>K' (.int .i64 0) H) fun t6=>
 zad H (fun K'=>K' t97 H) fun t7=>
 zaI [t6,t7] (K · H))))
theorem zJh {t0 t4 t8 t53 t54 t55:AV} {H:zaa} {K:Kt} (Inv:Nat→AV→AV→zaa→Prop) (n:Nat) (h0:HSc H→Inv n t8 t55 H)
  (round:Rd2 (fun t8=>fun t55=>zk9 t0 t4 t8 t53 t54 t55) (fun t8=>fun t55=>fun H Kb13=>zrw t0 t4 t8 t53 t54 t55 H K Kb13) H Inv):zzc t0 t4 t8 t53 t54 t55 H K:=
 lp2 (M:=zk8) zJi t8 t55 (by kernel_rfl) Inv n h0 round
theorem zJj {t0 t1 t2:AV} {H:zaa} {K:Kt} (h:HSc H→zdC t0 t1 t2 H K):ACalls tP zji [t0,t1,t2] H K:=
 zan (M:=zk8) Tryz.func131 (c:=zrx) (by kernel_rfl) (fun hs=>Eq.mpr (by kernel_rfl) (h hs))
def zOD (_:Nat):List Bool:=[]
noncomputable def zOE:Code:=Tryz.f34.body.getD .skip
def zBg (t0 t1:AV) (H:zaa) (K:Kt):Prop:=
 zao t1 H fun t3 H=>
 ACalls tP zjB [t0] H fun t6 H=>
 zab t6 true H (fun K'=>K' t0 H) fun t8 H=>
 zab t6 true H (fun K'=>zae true 3 t3 H (K' · H)) fun t9 H=>
 zab t6 true H (fun K'=>ACalls tP zhH [t8,t9,(.int .i64 0)] H K') fun t10 H=>
 zaj t6 t10 (.bool false) fun t11=>
 K t11 H
theorem zOF {t0 t1:AV} {H:zaa} {K:Kt} (h:HSc H→zBg t0 t1 H K):ACalls tP zpG [t0,t1] H K:=
 zan (M:=zOD) Tryz.func34 (c:=zOE) (by kernel_rfl) (fun hs=>Eq.mpr (by kernel_rfl) (h hs))
def znJ:Nat→List Bool
 | 15=>rl false [0,1,3,1,2,1,48,3,50]
 | _=>[]
noncomputable def zun:Code:=Tryz.f87.body.getD .skip
noncomputable def zSP:List ResultVar:=Tryz.f87.results.toList
def znK (t0 t4 t7 t56 t57 t58:AV):List AV:=t0::ux 3 (t4::ux 2 (t7::ux 48 (t56::t57::t58::ux 50 [])))
def zSN:List Bool:=znJ 15
noncomputable def zSL:Code:=zap [1,0,1,0,1,1,1,1,1,0,1,1,0,1,0,0] zun
def zSK (K:Kt):AExit→List AV→zaa→Prop:=zaq tP znJ [1,0,1,0,1,1,1,1,1,0,1,1,0,1,0] zun (zaA tP zSP K)
def zCF (t0 t4 t7 t56 t57 t58:AV) (H:zaa) (K:Kt):Prop:=ALoop tP zSL (zSK K) (znK t0 t4 t7 t56 t57 t58) H
def ziD (t0 t4 t7 t56 t57 t58:AV) (H:zaa) (K:Kt) (Kb15:Lt):Prop:=
 zac .lss false t58 t57 fun t59=>
 zag t59
 (zai 2 t56 t58 fun t60=>
 zae true 2 t60 H fun t61=>
 zaw [(.int .i64 0),.snil] H fun t9 H=>
 zam 2 t9 t61 H fun H=>
 zaf 0 t9 fun t62=>
 zae false 1 t62 H fun t63=>
 zac .lss false t63 (.int .i64 0) fun t64=>
 zab t64 false H (fun K'=>zaf 0 t9 (K' · H)) fun t66 H=>
 zab t64 false H (fun K'=>zae false 1 t66 H (K' · H)) fun t67 H=>
 zab t64 false H (fun K'=>zac .geq false t67 (.int .i64 8) (K' · H)) fun t68 H=>
 zaj t64 (.bool true) t68 fun t69=>
 zag t69
 (K (.int .i64 (-1)) H)
 (zae true 3 t4 H fun t72=>
 zaf 0 t9 fun t73=>
 zae false 1 t73 H fun t74=>
 ACalls tP zhT [t0,t72,t74] H fun t75 H=>
 zay t75 0 fun t76=>
 zay t75 1 fun t77=>
 aUn .not t77 fun t79=>
 zag t79
 (K (.int .i64 (-1)) H)
 (zaf 1 t9 fun t82=>
 zae false 1 t82 H fun t83=>
 ACalls tP zjh [t0,t76,t83] H fun t84 H=>
 zac .lss false t84 (.int .i64 0) fun t86=>
 zab t86 false H (fun K'=>K' t7 H) fun t88 H=>
 zab t86 false H (fun K'=>zac .add false t88 (.int .i64 1) (K' · H)) fun t89 H=>
 zab t86 false H (fun K'=>K' t84 H) fun t90 H=>
 zab t86 false H (fun K'=>zac .add false t89 t90 (K' · H)) fun t91 H=>
 zab t86 false H (fun K'=>zac .gtr false t91 (.int .i64 6) (K' · H)) fun t92 H=>
 zaj t86 (.bool true) t92 fun t93=>
 zag t93
 (K (.int .i64 (-1)) H)
 (zac .add false (.int .i64 1) t84 fun t96=>
 zac .add false t7 t96 fun t97=>
 zac .add false t58 (.int .i64 1) fun t98=>
 Kb15 (znK t0 t4 t97 t56 t57 t98) H))))
 (K t7 H)
def zdn (t0 t1 t2:AV) (H:zaa) (K:Kt):Prop:=
 zao t1 H fun t4 H=>
 zao t2 H fun t5 H=>
 zaf 0 t4 fun t13=>
 zae false 1 t13 H fun t14=>
 zac .eql false t14 (.int .i64 6) fun t16=>
 zag t16
 (zaf 0 t5 fun t17=>
 zae false 1 t17 H fun t18=>
 zac .neq false t18 (.int .i64 0) fun t19=>
 zag t19
 (K (.int .i64 (-1)) H)
 (zaf 2 t4 fun t21=>
 zae false 1 t21 H fun t22=>
 zaf 1 t5 fun t23=>
 zae false 1 t23 H fun t24=>
 ACalls tP zjh [t0,t22,t24] H fun t25 H=>
 K t25 H))
 (zac .eql false t14 (.int .i64 7) fun t27=>
 zag t27
 (zaf 0 t5 fun t28=>
 zae false 1 t28 H fun t29=>
 zac .lss false t29 (.int .i64 0) fun t30=>
 zab t30 false H (fun K'=>zaf 0 t5 (K' · H)) fun t32 H=>
 zab t30 false H (fun K'=>zae false 1 t32 H (K' · H)) fun t33 H=>
 zab t30 false H (fun K'=>zac .gtr false t33 (.int .i64 6) (K' · H)) fun t34 H=>
 zaj t30 (.bool true) t34 fun t35=>
 zab t35 false H (fun K'=>zaf 1 t5 (K' · H)) fun t37 H=>
 zab t35 false H (fun K'=>zae false 1 t37 H (K' · H)) fun t38 H=>
 zab t35 false H (fun K'=>zah 1 t38 (K' · H)) fun t39 H=>
 zab t35 false H (fun K'=>zac .gtr false t39 (.int .i64 0) (K' · H)) fun t40 H=>
 zaj t35 (.bool true) t40 fun t41=>
 zag t41
 (K (.int .i64 (-1)) H)
 (zaf 0 t5 fun t42=>
 zae false 1 t42 H fun t43=>
 K t43 H))
 (zac .eql false t14 (.int .i64 5) fun t45=>
 zag t45
 (zaf 0 t5 fun t46=>
 zae false 1 t46 H fun t47=>
 zac .neq false t47 (.int .i64 0) fun t48=>
 zab t48 false H (fun K'=>zaf 1 t5 (K' · H)) fun t50 H=>
 zab t48 false H (fun K'=>zae false 1 t50 H (K' · H)) fun t51 H=>
 zab t48 false H (fun K'=>zah 1 t51 (K' · H)) fun t52 H=>
 zab t48 false H (fun K'=>zac .gtr false t52 (.int .i64 6) (K' · H)) fun t53 H=>
 zaj t48 (.bool true) t53 fun t54=>
 zag t54
 (K (.int .i64 (-1)) H)
 (zaf 1 t5 fun t55=>
 zae false 1 t55 H fun t56=>
 zah 1 t56 fun t57=>
 zCF t0 t4 (.int .i64 0) t56 t57 (.int .i64 0) H K))
 (zaf 0 t5 fun t100=>
 zae false 1 t100 H fun t101=>
 zac .neq false t101 (.int .i64 0) fun t102=>
 zab t102 false H (fun K'=>zaf 1 t5 (K' · H)) fun t104 H=>
 zab t102 false H (fun K'=>zae false 1 t104 H (K' · H)) fun t105 H=>
 zab t102 false H (fun K'=>zah 1 t105 (K' · H)) fun t106 H=>
 zab t102 false H (fun K'=>zac .gtr false t106 (.int .i64 0) (K' · H)) fun t107 H=>
 zaj t102 (.bool true) t107 fun t108=>
 zag t108
 (K (.int .i64 (-1)) H)
 (K (.int .i64 0) H))))
theorem zSM {t0 t4 t7 t56 t57 t58:AV} {H:zaa} {K:Kt} (Inv:Nat→AV→AV→zaa→Prop) (n:Nat) (h0:HSc H→Inv n t7 t58 H)
  (round:Rd2 (fun t7=>fun t58=>znK t0 t4 t7 t56 t57 t58) (fun t7=>fun t58=>fun H Kb15=>ziD t0 t4 t7 t56 t57 t58 H K Kb15) H Inv):zCF t0 t4 t7 t56 t57 t58 H K:=
 lp2 (M:=znJ) zSN t7 t58 (by kernel_rfl) Inv n h0 round
theorem zSO {t0 t1 t2:AV} {H:zaa} {K:Kt} (h:HSc H→zdn t0 t1 t2 H K):ACalls tP zhQ [t0,t1,t2] H K:=
 zan (M:=znJ) Tryz.func87 (c:=zun) (by kernel_rfl) (fun hs=>Eq.mpr (by kernel_rfl) (h hs))
def zlO:Nat→List Bool
 | 5=>rl false [0,1,1,1,5,1,9,3,23]
 | _=>[]
noncomputable def zso:Code:=Tryz.f177.body.getD .skip
noncomputable def zMn:List ResultVar:=Tryz.f177.results.toList
def zlP (t0 t2 t8 t18 t19 t20:AV):List AV:=t0::ux 1 (t2::ux 5 (t8::ux 9 (t18::t19::t20::ux 23 [])))
def zMl:List Bool:=zlO 5
noncomputable def zMj:Code:=zap [1,1,1,0,1,0,0] zso
def zMi (K:Kt):AExit→List AV→zaa→Prop:=zaq tP zlO [1,1,1,0,1,0] zso (zaA tP zMn K)
def zAr (t0 t2 t8 t18 t19 t20:AV) (H:zaa) (K:Kt):Prop:=ALoop tP zMj (zMi K) (zlP t0 t2 t8 t18 t19 t20) H
def zsn (t0 t2 t8 t18 t19 t20:AV) (H:zaa) (K:Kt) (Kb5:Lt):Prop:=
 zac .lss false t20 t19 fun t21=>
 zag t21
 (zai 3 t18 t20 fun t23=>
 zae true 3 t23 H fun t24=>
 zaw [(.int .i64 0),(.int .i64 0),.snil] H fun t10 H=>
 zam 3 t10 t24 H fun H=>
 zad H (fun K'=>K' t0 H) fun t26=>
 zad H (fun K'=>zal true 3 t10 H (K' · H)) fun t27=>
 zad H (fun K'=>K' t2 H) fun t28=>
 zad H (fun K'=>K' t20 H) fun t29=>
 zad H (fun K'=>zai 2 t28 t29 (K' · H)) fun t30=>
 zad H (fun K'=>zal true 2 t30 H (K' · H)) fun t31=>
 zaE H (fun H K'=>ACalls tP zji [t26,t27,t31] H K') fun t32=>
 zad H (fun K'=>K' t32 H) fun t25=>
 zad H (fun K'=>zay t25 0 (K' · H)) fun t33=>
 zad H (fun K'=>zay t25 1 (K' · H)) fun t34=>
 zad H (fun K'=>K' t33 H) fun t11=>
 zad H (fun K'=>K' t34 H) fun t12=>
 aUn .not t12 fun t36=>
 zag t36
 (zaI [(.int .i64 0),(.bool false)] (K · H))
 (zac .add false t8 t11 fun t39=>
 zac .add false t20 (.int .i64 1) fun t40=>
 Kb5 (zlP t0 t2 t39 t18 t19 t40) H))
 (zac .leq false t8 (.int .i64 6) fun t43=>
 zaI [t8,t43] (K · H))
def zsm (t0 t1 t2:AV) (H:zaa) (K:Kt):Prop:=
 zah 1 t1 fun t14=>
 zah 1 t2 fun t16=>
 zac .neq false t14 t16 fun t17=>
 zag t17
 (zaI [(.int .i64 0),(.bool false)] (K · H))
 (zah 1 t1 fun t19=>
 zAr t0 t2 (.int .i64 0) t1 t19 (.int .i64 0) H K)
theorem zMk {t0 t2 t8 t18 t19 t20:AV} {H:zaa} {K:Kt} (Inv:Nat→AV→AV→zaa→Prop) (n:Nat) (h0:HSc H→Inv n t8 t20 H)
  (round:Rd2 (fun t8=>fun t20=>zlP t0 t2 t8 t18 t19 t20) (fun t8=>fun t20=>fun H Kb5=>zsn t0 t2 t8 t18 t19 t20 H K Kb5) H Inv):zAr t0 t2 t8 t18 t19 t20 H K:=
 lp2 (M:=zlO) zMl t8 t20 (by kernel_rfl) Inv n h0 round
theorem zMm {t0 t1 t2:AV} {H:zaa} {K:Kt} (h:HSc H→zsm t0 t1 t2 H K):ACalls tP zjq [t0,t1,t2] H K:=
 zan (M:=zlO) Tryz.func177 (c:=zso) (by kernel_rfl) (fun hs=>Eq.mpr (by kernel_rfl) (h hs))
def zlQ:Nat→List Bool
 | 6=>rl false [8,1,1,1,15,3,15]
 | _=>[]
noncomputable def zsq:Code:=Tryz.f178.body.getD .skip
noncomputable def zMt:List ResultVar:=Tryz.f178.results.toList
def zlR (t8 t10 t26 t27 t28:AV):List AV:=ux 8 (t8::ux 1 (t10::ux 15 (t26::t27::t28::ux 15 [])))
def zMr:List Bool:=zlQ 6
noncomputable def zMp:Code:=zap [1,1,1,1,0,1,0,0] zsq
def zMo (K:Kt):AExit→List AV→zaa→Prop:=zaq tP zlQ [1,1,1,1,0,1,0] zsq (zaA tP zMt K)
def zlT (t8 t10 t26 t27 t28:AV) (H:zaa) (K:Kt):Prop:=ALoop tP zMp (zMo K) (zlR t8 t10 t26 t27 t28) H
def zAu (t8 t10 t26 t27 t28:AV) (H:zaa) (K:Kt) (Kb6:Lt):Prop:=
 zac .add false t28 (.int .i64 1) fun t42=>
 Kb6 (zlR t8 t10 t26 t27 t42) H
def zlS (t8 t10 t26 t27 t28:AV) (H:zaa) (K:Kt) (Kb6:Lt):Prop:=
 zAu t8 t10 t26 t27 t28 H K Kb6
def zsp (t8 t10 t26 t27 t28:AV) (H:zaa) (K:Kt) (Kb6:Lt):Prop:=
 zac .lss false t28 t27 fun t29=>
 zag t29
 (zai 1 t26 t28 fun t31=>
 zae false 1 t31 H fun t32=>
 aUn .not t32 fun t34=>
 zag t34
 (zai 3 t8 t28 fun t38=>
 zae true 3 t38 H fun t39=>
 zaB 3 [(.int .i64 0),(.int .i64 0),.snil] 1 [(0,t39)] fun t40=>
 zax za9 3 40 t10 t40 H fun t41 H=>
 zlS t8 t41 t26 t27 t28 H K Kb6)
 (zlS t8 t10 t26 t27 t28 H K Kb6))
 (zaI [t10,(.bool true)] (K · H))
def zAt (t0 t1 t2:AV) (H:zaa) (K:Kt):Prop:=
 zao t1 H fun t4 H=>
 zae true 3 t4 H fun t15=>
 ACalls tP zgn [t0,t15,t2] H fun t17 H=>
 zay t17 0 fun t18=>
 zay t17 1 fun t19=>
 aUn .not t19 fun t21=>
 zag t21
 (zaI [.snil,(.bool false)] (K · H))
 (zaf 1 t4 fun t23=>
 zae false 1 t23 H fun t24=>
 ACalls tP zek [t0,t24,t2] H fun t26 H=>
 zah 1 t26 fun t27=>
 zlT t18 .snil t26 t27 (.int .i64 0) H K)
theorem zMq {t8 t10 t26 t27 t28:AV} {H:zaa} {K:Kt} (Inv:Nat→AV→AV→zaa→Prop) (n:Nat) (h0:HSc H→Inv n t10 t28 H)
  (round:Rd2 (fun t10=>fun t28=>zlR t8 t10 t26 t27 t28) (fun t10=>fun t28=>fun H Kb6=>zsp t8 t10 t26 t27 t28 H K Kb6) H Inv):zlT t8 t10 t26 t27 t28 H K:=
 lp2 (M:=zlQ) zMr t10 t28 (by kernel_rfl) Inv n h0 round
theorem zMs {t0 t1 t2:AV} {H:zaa} {K:Kt} (h:HSc H→zAt t0 t1 t2 H K):ACalls tP zpr [t0,t1,t2] H K:=
 zan (M:=zlQ) Tryz.func178 (c:=zsq) (by kernel_rfl) (fun hs=>Eq.mpr (by kernel_rfl) (h hs))
def znY:Nat→List Bool
 | 7=>rl false [8,1,4,1,19,3,12]
 | _=>[]
noncomputable def zuD:Code:=Tryz.f100.body.getD .skip
noncomputable def zTL:List ResultVar:=Tryz.f100.results.toList
def znZ (t8 t13 t33 t34 t35:AV):List AV:=ux 8 (t8::ux 4 (t13::ux 19 (t33::t34::t35::ux 12 [])))
def zTJ:List Bool:=znY 7
noncomputable def zTH:Code:=zap [1,1,1,1,1,0,1,0,0] zuD
def zTG (K:Kt):AExit→List AV→zaa→Prop:=zaq tP znY [1,1,1,1,1,0,1,0] zuD (zaA tP zTL K)
def zn0 (t8 t13 t33 t34 t35:AV) (H:zaa) (K:Kt):Prop:=ALoop tP zTH (zTG K) (znZ t8 t13 t33 t34 t35) H
def zuC (t8 t13 t33 t34 t35:AV) (H:zaa) (K:Kt) (Kb7:Lt):Prop:=
 zac .lss false t35 t34 fun t36=>
 zag t36
 (zai 1 t33 t35 fun t37=>
 zae false 1 t37 H fun t38=>
 zai 3 t8 t38 fun t42=>
 zae true 3 t42 H fun t43=>
 zaB 3 [(.int .i64 0),(.int .i64 0),.snil] 1 [(0,t43)] fun t44=>
 zax za9 3 40 t13 t44 H fun t45 H=>
 zac .add false t35 (.int .i64 1) fun t46=>
 Kb7 (znZ t8 t45 t33 t34 t46) H)
 (zaI [t13,(.bool true)] (K · H))
def zCS (t0 t1 t2:AV) (H:zaa) (K:Kt):Prop:=
 zao t1 H fun t4 H=>
 zae true 3 t4 H fun t18=>
 ACalls tP zgk [t0,t18,t2] H fun t20 H=>
 zay t20 0 fun t21=>
 zay t20 1 fun t22=>
 aUn .not t22 fun t24=>
 zag t24
 (zaI [.snil,(.bool false)] (K · H))
 (zae true 3 t4 H fun t27=>
 ACalls tP zjl [t0,t27,t2] H fun t29 H=>
 zay t29 0 fun t30=>
 zay t29 1 fun t31=>
 zay t29 2 fun t32=>
 zah 1 t30 fun t34=>
 zn0 t21 .snil t30 t34 (.int .i64 0) H K)
theorem zTI {t8 t13 t33 t34 t35:AV} {H:zaa} {K:Kt} (Inv:Nat→AV→AV→zaa→Prop) (n:Nat) (h0:HSc H→Inv n t13 t35 H)
  (round:Rd2 (fun t13=>fun t35=>znZ t8 t13 t33 t34 t35) (fun t13=>fun t35=>fun H Kb7=>zuC t8 t13 t33 t34 t35 H K Kb7) H Inv):zn0 t8 t13 t33 t34 t35 H K:=
 lp2 (M:=znY) zTJ t13 t35 (by kernel_rfl) Inv n h0 round
theorem zTK {t0 t1 t2:AV} {H:zaa} {K:Kt} (h:HSc H→zCS t0 t1 t2 H K):ACalls tP zhT [t0,t1,t2] H K:=
 zan (M:=znY) Tryz.func100 (c:=zuD) (by kernel_rfl) (fun hs=>Eq.mpr (by kernel_rfl) (h hs))
def zle:Nat→List Bool
 | 6=>rl false [11,2,15,3,16]
 | _=>[]
noncomputable def zrD:Code:=Tryz.f144.body.getD .skip
noncomputable def zJL:List ResultVar:=Tryz.f144.results.toList
def zlg (t11 t12 t28 t29 t30:AV):List AV:=ux 11 (t11::t12::ux 15 (t28::t29::t30::ux 16 []))
def zJJ:List Bool:=zle 6
noncomputable def zJH:Code:=zap [1,1,1,0,1,0,0] zrD
def zJG (K:Kt):AExit→List AV→zaa→Prop:=zaq tP zle [1,1,1,0,1,0] zrD (zaA tP zJL K)
def zli (t11 t12 t28 t29 t30:AV) (H:zaa) (K:Kt):Prop:=ALoop tP zJH (zJG K) (zlg t11 t12 t28 t29 t30) H
def zzl (t11 t12 t28 t29 t30:AV) (H:zaa) (K:Kt) (Kb6:Lt):Prop:=
 zac .add false t30 (.int .i64 1) fun t44=>
 Kb6 (zlg t11 t12 t28 t29 t44) H
def zlh (t11 t12 t28 t29 t30:AV) (H:zaa) (K:Kt) (Kb6:Lt):Prop:=
 zzl t11 t12 t28 t29 t30 H K Kb6
def zlf (t11 t12 t28 t29 t30:AV) (H:zaa) (K:Kt) (Kb6:Lt):Prop:=
 zac .lss false t30 t29 fun t31=>
 zag t31
 (zai 1 t28 t30 fun t33=>
 zae false 1 t33 H fun t34=>
 zag t34
 (zaB 1 [(.int .i64 0)] 1 [(0,t30)] fun t38=>
 zax zbt 1 8 t12 t38 H fun t39 H=>
 zlh t11 t39 t28 t29 t30 H K Kb6)
 (zaB 1 [(.int .i64 0)] 1 [(0,t30)] fun t42=>
 zax zbt 1 8 t11 t42 H fun t43 H=>
 zlh t43 t12 t28 t29 t30 H K Kb6))
 (zaI [t11,t12,(.bool true)] (K · H))
def zzk (t0 t1 t2:AV) (H:zaa) (K:Kt):Prop:=
 zao t1 H fun t4 H=>
 zae true 3 t4 H fun t17=>
 ACalls tP zgk [t0,t17,t2] H fun t19 H=>
 zay t19 0 fun t20=>
 zay t19 1 fun t21=>
 aUn .not t21 fun t23=>
 zag t23
 (zaI [.snil,.snil,(.bool false)] (K · H))
 (zaf 1 t4 fun t25=>
 zae false 1 t25 H fun t26=>
 ACalls tP zeQ [t0,t26,t2] H fun t28 H=>
 zah 1 t28 fun t29=>
 zli .snil .snil t28 t29 (.int .i64 0) H K)
theorem zJI {t11 t12 t28 t29 t30:AV} {H:zaa} {K:Kt} (Inv:Nat→AV→AV→AV→zaa→Prop) (n:Nat) (h0:HSc H→Inv n t11 t12 t30 H)
  (round:Rd3 (fun t11=>fun t12=>fun t30=>zlg t11 t12 t28 t29 t30) (fun t11=>fun t12=>fun t30=>fun H Kb6=>zlf t11 t12 t28 t29 t30 H K Kb6) H Inv):zli t11 t12 t28 t29 t30 H K:=
 lp3 (M:=zle) zJJ t11 t12 t30 (by kernel_rfl) Inv n h0 round
theorem zJK {t0 t1 t2:AV} {H:zaa} {K:Kt} (h:HSc H→zzk t0 t1 t2 H K):ACalls tP zjl [t0,t1,t2] H K:=
 zan (M:=zle) Tryz.func144 (c:=zrD) (by kernel_rfl) (fun hs=>Eq.mpr (by kernel_rfl) (h hs))
def zk6:Nat→List Bool
 | 5=>rl false [0,3,4,1,8,2,25]
 | _=>[]
noncomputable def zrv:Code:=Tryz.f130.body.getD .skip
noncomputable def zJe:List ResultVar:=Tryz.f130.results.toList
def zk7 (t0 t1 t2 t7 t16 t17:AV):List AV:=t0::t1::t2::ux 4 (t7::ux 8 (t16::t17::ux 25 []))
def zJc:List Bool:=zk6 5
noncomputable def zJa:Code:=zap [1,1,1,0,1,0,0] zrv
def zI9 (K:Kt):AExit→List AV→zaa→Prop:=zaq tP zk6 [1,1,1,0,1,0] zrv (zaA tP zJe K)
def zza (t0 t1 t2 t7 t16 t17:AV) (H:zaa) (K:Kt):Prop:=ALoop tP zJa (zI9 K) (zk7 t0 t1 t2 t7 t16 t17) H
def zru (t0 t1 t2 t7 t16 t17:AV) (H:zaa) (K:Kt) (Kb5:Lt):Prop:=
 zac .lss false t17 t16 fun t18=>
 zag t18
 (zad H (fun K'=>K' t0 H) fun t20=>
 zad H (fun K'=>K' t1 H) fun t21=>
 zad H (fun K'=>K' t17 H) fun t22=>
 zad H (fun K'=>zai 3 t21 t22 (K' · H)) fun t23=>
 zad H (fun K'=>zal true 3 t23 H (K' · H)) fun t24=>
 zad H (fun K'=>K' t2 H) fun t25=>
 zad H (fun K'=>K' t17 H) fun t26=>
 zad H (fun K'=>zai 2 t25 t26 (K' · H)) fun t27=>
 zad H (fun K'=>zal true 2 t27 H (K' · H)) fun t28=>
 zaE H (fun H K'=>ACalls tP zhQ [t20,t24,t28] H K') fun t29=>
 zad H (fun K'=>K' t29 H) fun t9=>
 zac .lss false t9 (.int .i64 0) fun t31=>
 zab t31 false H (fun K'=>K' t7 H) fun t33 H=>
 zab t31 false H (fun K'=>K' t9 H) fun t34 H=>
 zab t31 false H (fun K'=>zac .add false t33 t34 (K' · H)) fun t35 H=>
 zab t31 false H (fun K'=>zac .gtr false t35 (.int .i64 6) (K' · H)) fun t36 H=>
 zaj t31 (.bool true) t36 fun t37=>
 zag t37
 (K (.int .i64 (-1)) H)
 (zac .add false t7 t9 fun t40=>
 zac .add false t17 (.int .i64 1) fun t41=>
 Kb5 (zk7 t0 t1 t2 t40 t16 t41) H))
 (K t7 H)
def zrt (t0 t1 t2:AV) (H:zaa) (K:Kt):Prop:=
 zah 1 t1 fun t11=>
 zah 1 t2 fun t13=>
 zac .neq false t11 t13 fun t14=>
 zag t14
 (K (.int .i64 (-1)) H)
 (zah 1 t1 fun t16=>
 zza t0 t1 t2 (.int .i64 0) t16 (.int .i64 0) H K)
theorem zJb {t0 t1 t2 t7 t16 t17:AV} {H:zaa} {K:Kt} (Inv:Nat→AV→AV→zaa→Prop) (n:Nat) (h0:HSc H→Inv n t7 t17 H)
  (round:Rd2 (fun t7=>fun t17=>zk7 t0 t1 t2 t7 t16 t17) (fun t7=>fun t17=>fun H Kb5=>zru t0 t1 t2 t7 t16 t17 H K Kb5) H Inv):zza t0 t1 t2 t7 t16 t17 H K:=
 lp2 (M:=zk6) zJc t7 t17 (by kernel_rfl) Inv n h0 round
theorem zJd {t0 t1 t2:AV} {H:zaa} {K:Kt} (h:HSc H→zrt t0 t1 t2 H K):ACalls tP zjh [t0,t1,t2] H K:=
 zan (M:=zk6) Tryz.func130 (c:=zrv) (by kernel_rfl) (fun hs=>Eq.mpr (by kernel_rfl) (h hs))
end Go.Proofs.YtjkkonpjecoieaaGreat

namespace Go.Proofs.YtjkkonpjecoieaaGreat
open Go Go.Abs
set_option maxRecDepth 100000
def zkW:Nat→List Bool
 | 5=>rl false [0,2,5,1,32,3,16]
 | _=>[]
noncomputable def zrk:Code:=Tryz.f126.body.getD .skip
noncomputable def zIT:List ResultVar:=Tryz.f126.results.toList
def zkX (t0 t1 t7 t40 t41 t42:AV):List AV:=t0::t1::ux 5 (t7::ux 32 (t40::t41::t42::ux 16 []))
def zIR:List Bool:=zkW 5
noncomputable def zIP:Code:=zap [1,1,1,0,1,0,0] zrk
def zIO (K:Kt):AExit→List AV→zaa→Prop:=zaq tP zkW [1,1,1,0,1,0] zrk (zaA tP zIT K)
def zkY (t0 t1 t7 t40 t41 t42:AV) (H:zaa) (K:Kt):Prop:=ALoop tP zIP (zIO K) (zkX t0 t1 t7 t40 t41 t42) H
def zrj (t0 t1 t7 t40 t41 t42:AV) (H:zaa) (K:Kt) (Kb5:Lt):Prop:=
 zac .lss false t42 t41 fun t43=>
 zag t43
 (zai 3 t40 t42 fun t44=>
 zae true 3 t44 H fun t45=>
 zaw [(.int .i64 0),(.int .i64 0),.snil] H fun t9 H=>
 zam 3 t9 t45 H fun H=>
 zad H (fun K'=>K' t7 H) fun t46=>
 zad H (fun K'=>zal true 3 t9 H (K' · H)) fun t47=>
 zad H (fun K'=>K' t1 H) fun t48=>
 zad H (fun K'=>K' t0 H) fun t49=>
 zad H (fun K'=>K' t1 H) fun t50=>
 zad H (fun K'=>zai 3 t49 t50 (K' · H)) fun t51=>
 zad H (fun K'=>zaf 1 t51 (K' · H)) fun t52=>
 zad H (fun K'=>zal false 1 t52 H (K' · H)) fun t53=>
 zaE H (fun H K'=>ACalls tP zjN [t47,t48,t53] H K') fun t54=>
 zad H (fun K'=>zaB 1 [(.bool false)] 1 [(0,t54)] (K' · H)) fun t55=>
 zax zf8 1 1 t46 t55 H fun t56 H=>
 zad H (fun K'=>K' t56 H) fun t7=>
 zac .add false t42 (.int .i64 1) fun t57=>
 Kb5 (zkX t0 t1 t7 t40 t41 t57) H)
 (K t7 H)
def zy8 (t0 t1 t2:AV) (H:zaa) (K:Kt):Prop:=
 zac .lss false t1 (.int .i64 0) fun t11=>
 zab t11 false H (fun K'=>K' t1 H) fun t13 H=>
 zab t11 false H (fun K'=>K' t0 H) fun t14 H=>
 zab t11 false H (fun K'=>zah 1 t14 (K' · H)) fun t15 H=>
 zab t11 false H (fun K'=>zac .geq false t13 t15 (K' · H)) fun t16 H=>
 zaj t11 (.bool true) t16 fun t17=>
 zab t17 false H (fun K'=>K' t2 H) fun t19 H=>
 zab t17 false H (fun K'=>zac .lss false t19 (.int .i64 0) (K' · H)) fun t20 H=>
 zaj t17 (.bool true) t20 fun t21=>
 zab t21 false H (fun K'=>K' t2 H) fun t23 H=>
 zab t21 false H (fun K'=>K' t0 H) fun t24 H=>
 zab t21 false H (fun K'=>K' t1 H) fun t25 H=>
 zab t21 false H (fun K'=>zai 3 t24 t25 (K' · H)) fun t26 H=>
 zab t21 false H (fun K'=>zaf 2 t26 (K' · H)) fun t27 H=>
 zab t21 false H (fun K'=>zae false 1 t27 H (K' · H)) fun t28 H=>
 zab t21 false H (fun K'=>zah 1 t28 (K' · H)) fun t29 H=>
 zab t21 false H (fun K'=>zac .geq false t23 t29 (K' · H)) fun t30 H=>
 zaj t21 (.bool true) t30 fun t31=>
 zag t31
 (K .snil H)
 (zai 3 t0 t1 fun t34=>
 zaf 2 t34 fun t35=>
 zae false 1 t35 H fun t36=>
 zai 2 t36 t2 fun t38=>
 zaf 1 t38 fun t39=>
 zae false 1 t39 H fun t40=>
 zah 1 t40 fun t41=>
 zkY t0 t1 .snil t40 t41 (.int .i64 0) H K)
theorem zIQ {t0 t1 t7 t40 t41 t42:AV} {H:zaa} {K:Kt} (Inv:Nat→AV→AV→zaa→Prop) (n:Nat) (h0:HSc H→Inv n t7 t42 H)
  (round:Rd2 (fun t7=>fun t42=>zkX t0 t1 t7 t40 t41 t42) (fun t7=>fun t42=>fun H Kb5=>zrj t0 t1 t7 t40 t41 t42 H K Kb5) H Inv):zkY t0 t1 t7 t40 t41 t42 H K:=
 lp2 (M:=zkW) zIR t7 t42 (by kernel_rfl) Inv n h0 round
theorem zIS {t0 t1 t2:AV} {H:zaa} {K:Kt} (h:HSc H→zy8 t0 t1 t2 H K):ACalls tP zeQ [t0,t1,t2] H K:=
 zan (M:=zkW) Tryz.func126 (c:=zrk) (by kernel_rfl) (fun hs=>Eq.mpr (by kernel_rfl) (h hs))
end Go.Proofs.YtjkkonpjecoieaaGreat

namespace Go.Proofs.YtjkkonpjecoieaaGreat
open Go Go.Abs
set_option maxRecDepth 8000
def zby (l:List Bool):List (List AV):=l.map fun b=>[.bool b]
theorem zrl (data:List Dat) (d:Nat) (c:Nat) (hd:d<data.length) (hc:c<(data[d]).cons.length) (hl:data.length≤1000000) (hcl:(data[d]).cons.length≤1000000) (hal:((data[d]).cons[c]).args.length≤1000000)
  (hb:∀ x∈((data[d]).cons[c]).args,x.nodes≤1000000) (H:zaa) (K:Kt)
  (hK:K (.sl (zby (zbV d data[d] (data[d]).cons[c])) .none) H) :
  ACalls tP zeQ [.sl (data.map Dat.cs) .none,.int .i64 d,.int .i64 c] H K:=by
 refine ACalls.out (zIS fun hs=>?_)
 have e1:(data.map Dat.cs)[d]?=some (data[d]).cs:=by simp[hd]
 have e2:((data[d]).cons.map Con.cs)[c]?=some ((data[d]).cons[c]).cs:=by simp[hc]
 generalize hD:data[d]=D at *
 generalize hA:D.cons[c]=C at *
 have h1:¬ (d:Int)<0:=by omega
 have h2:¬ (data.length:Int)≤d:=by omega
 have h3:¬ (c:Int)<0:=by omega
 have h4:¬ (D.cons.length:Int)≤c:=by omega
 simp[zy8,h1,h2,h3,h4,e1,e2,Dat.cs,Con.cs,hd,hD,hc,hA]
 unfold zkY
 refine ALoop.own 7 zf8 1 rfl ?_
 show zkY (.sl (data.map Dat.cs) .none) (.int .i64 d) (.sl [] (.own H.length)) (.sl (VT.css C.args) .none) (.int .i64 C.args.length) (.int .i64 0) (H++[.perm zf8 1 0]) (Out H.length K)
 have hperm:∀ n,HSc (H++[.perm zf8 1 n]):=fun n=>hs.append rfl
 refine zIQ (Inv:=fun q t7 t42 H'=>∃ i:Nat,i≤C.args.length∧q=C.args.length-i∧t42=.int .i64 i∧t7=.sl (zby ((zbV d D C).take i)) (.own H.length)∧H'=H++[.perm zf8 1 i]) C.args.length ?_ ?_
 ·intro _;exact⟨0,by omega,by omega,rfl,rfl,rfl⟩
 ·rintro q t7 t42 H' ⟨i,hi,rfl,rfl,rfl,rfl⟩ hsc hlen hsF Kb hKb
  have hrl:(zbV d D C).length=C.args.length:=by simp[zbV]
  by_cases hlt:i<C.args.length
  ·obtain⟨x,y,z,hvx,hx,hy,hz⟩:=zaO C.args[i]
   have hnb:=hb _ (List.getElem_mem hlt)
   simp[zrj,hlt,hvx,Nat.add_assoc,e1,hd,hD,Dat.cs]
   rw[←hvx]
   refine⟨⟨hx,hy,hz⟩,?_⟩
   refine zaH (.bool (zbP d D.vars C.args[i])) (fun J=>zuG _ _ _ hnb _ _ ⟨rfl,rfl⟩) ?_
   simp[zaB,zbf,zaF,AV.pd,zax,zaY,zaM,zby]
   have hmin:min i (zbV d D C).length=i:=by omega
   rw[hmin]
   refine⟨rfl,⟨by omega,by omega⟩,?_⟩
   rw[zau (by omega) (by omega)]
   have hst:List.take i (List.map (fun b=>[AV.bool b]) (zbV d D C))++[[AV.bool (zbP (↑d) D.vars C.args[i])]]=zby ((zbV d D C).take (i+1)):=by
    rw[List.take_succ_eq_append_getElem (by omega)]
    simp[zby,zbV]
   rw[hst]
   refine hKb _ _ ⟨C.args.length-(i+1),by omega,Back.at (J:=[.cells C.args[i].cs]) (H2:=H++[.perm zf8 1 (i+1)]) (by simp) (by simp) (hperm _) ?_ ⟨_,_,rfl,i+1,by omega,rfl,by simp,rfl,rfl⟩⟩
   simp[zkX,AV.sc,AV.scV,AV.scA,AV.scB]
  ·obtain rfl:i=C.args.length:=by omega
   rw[List.take_of_length_le (by omega)]
   simp[zrj]
   exact Out.at rfl (Nat.le_refl _) hs (.atom (.sl _ _)) rfl (by simp[zby,AV.scV,AV.scA,AV.scB]) hK
def zIu (_:Nat):List Bool:=[]
noncomputable def zIv:Code:=Tryz.f120.body.getD .skip
def zy1 (t0:AV) (H:zaa) (K:Kt):Prop:=
 zao t0 H fun t1 H=>
 zaf 0 t1 fun t3=>
 zae false 1 t3 H fun t4=>
 ACalls tP zpf [t4] H fun t5 H=>
 zab t5 true H (fun K'=>zae true 4 t1 H (K' · H)) fun t7 H=>
 zab t5 true H (fun K'=>ACalls tP zpg [t7] H K') fun t8 H=>
 zaj t5 t8 (.bool false) fun t9=>
 zab t9 true H (fun K'=>zae true 4 t1 H (K' · H)) fun t11 H=>
 zab t9 true H (fun K'=>ACalls tP zph [t11] H K') fun t12 H=>
 zaj t9 t12 (.bool false) fun t13=>
 zab t13 true H (fun K'=>zae true 4 t1 H (K' · H)) fun t15 H=>
 zab t13 true H (fun K'=>ACalls tP zpi [t15] H K') fun t16 H=>
 zaj t13 t16 (.bool false) fun t17=>
 zab t17 true H (fun K'=>zae true 4 t1 H (K' · H)) fun t19 H=>
 zab t17 true H (fun K'=>ACalls tP zpk [t19] H K') fun t20 H=>
 zaj t17 t20 (.bool false) fun t21=>
 zab t21 true H (fun K'=>zae true 4 t1 H (K' · H)) fun t23 H=>
 zab t21 true H (fun K'=>ACalls tP zpl [t23] H K') fun t24 H=>
 zaj t21 t24 (.bool false) fun t25=>
 zab t25 true H (fun K'=>zae true 4 t1 H (K' · H)) fun t27 H=>
 zab t25 true H (fun K'=>ACalls tP zpm [t27] H K') fun t28 H=>
 zaj t25 t28 (.bool false) fun t29=>
 K t29 H
theorem zIx {t0:AV} {H:zaa} {K:Kt} (h:HSc H→zy1 t0 H K):ACalls tP zo8 [t0] H K:=
 zan (M:=zIu) Tryz.func120 (c:=zIv) (by kernel_rfl) (fun hs=>Eq.mpr (by kernel_rfl) (h hs))
def zKr (_:Nat):List Bool:=[]
noncomputable def zKs:Code:=Tryz.f159.body.getD .skip
def zzz (t0:AV) (H:zaa) (K:Kt):Prop:=
 zao t0 H fun t1 H=>
 zaf 2 t1 fun t3=>
 zae false 1 t3 H fun t4=>
 zah 1 t4 fun t5=>
 zac .leq false t5 (.int .i64 3000) fun t6=>
 zab t6 true H (fun K'=>zaf 2 t1 (K' · H)) fun t8 H=>
 zab t6 true H (fun K'=>zae false 1 t8 H (K' · H)) fun t9 H=>
 zab t6 true H (fun K'=>zcs zwt [t1] (K' · H)) fun t10 H=>
 zab t6 true H (fun K'=>ACalls tP zfr [t9,t10] H K') fun t11 H=>
 zab t6 true H (fun K'=>aUn .not t11 (K' · H)) fun t12 H=>
 zaj t6 t12 (.bool false) fun t13=>
 K t13 H
theorem zKt {t0:AV} {H:zaa} {K:Kt} (h:HSc H→zzz t0 H K):ACalls tP zpg [t0] H K:=
 zan (M:=zKr) Tryz.func159 (c:=zKs) (by kernel_rfl) (fun hs=>Eq.mpr (by kernel_rfl) (h hs))
def zlt:Nat→List Bool
 | 6=>rl false [1,1,1,2,14,3,59]
 | _=>[]
noncomputable def zrR:Code:=Tryz.f160.body.getD .skip
noncomputable def zKz:List ResultVar:=Tryz.f160.results.toList
def zrS (t1 t3 t4 t19 t20 t21:AV):List AV:=ux 1 (t1::ux 1 (t3::t4::ux 14 (t19::t20::t21::ux 59 [])))
def zKx:List Bool:=zlt 6
noncomputable def zKv:Code:=zap [1,1,1,1,0,1,0,0] zrR
def zKu (K:Kt):AExit→List AV→zaa→Prop:=zaq tP zlt [1,1,1,1,0,1,0] zrR (zaA tP zKz K)
def zzD (t1 t3 t4 t19 t20 t21:AV) (H:zaa) (K:Kt):Prop:=ALoop tP zKv (zKu K) (zrS t1 t3 t4 t19 t20 t21) H
def zzC (t1 t3 t4 t6 t19 t20 t21:AV) (H:zaa) (K:Kt) (Kb6:Lt):Prop:=
 zaf 0 t6 fun t42=>
 zae false 1 t42 H fun t43=>
 zc5 t3 t43 (.bool true) H fun H=>
 zaf 1 t6 fun t44=>
 zae false 1 t44 H fun t45=>
 zah 1 t45 fun t46=>
 zac .gtr false t46 (.int .i64 6) fun t47=>
 zab t47 false H (fun K'=>zaf 0 t1 (K' · H)) fun t49 H=>
 zab t47 false H (fun K'=>zae false 1 t49 H (K' · H)) fun t50 H=>
 zab t47 false H (fun K'=>zaf 3 t6 (K' · H)) fun t51 H=>
 zab t47 false H (fun K'=>zae true 3 t51 H (K' · H)) fun t52 H=>
 zab t47 false H (fun K'=>ACalls tP zhx [t50,t52,(.int .i64 0)] H K') fun t53 H=>
 zab t47 false H (fun K'=>aUn .not t53 (K' · H)) fun t54 H=>
 zaj t47 (.bool true) t54 fun t55=>
 zag t55
 (K (.bool false) H)
 (zad H (fun K'=>zaf 6 t6 (K' · H)) fun t56=>
 zad H (fun K'=>zal false 1 t56 H (K' · H)) fun t57=>
 zad H (fun K'=>zac .lss false t57 (.int .i64 0) (K' · H)) fun t58=>
 zad H (fun K'=>K' t58 H) fun t59=>
 zab t59 false H (fun K'=>zad H (fun K''=>zaf 6 t6 (K'' · H)) (K' · H)) fun t60 H=>
 zab t59 false H (fun K'=>zad H (fun K''=>zal false 1 t60 H (K'' · H)) (K' · H)) fun t61 H=>
 zab t59 false H (fun K'=>zad H (fun K''=>zaf 3 t1 (K'' · H)) (K' · H)) fun t62 H=>
 zab t59 false H (fun K'=>zad H (fun K''=>zal false 1 t62 H (K'' · H)) (K' · H)) fun t63 H=>
 zab t59 false H (fun K'=>zad H (fun K''=>zah 1 t63 (K'' · H)) (K' · H)) fun t64 H=>
 zab t59 false H (fun K'=>zad H (fun K''=>zac .geq false t61 t64 (K'' · H)) (K' · H)) fun t65 H=>
 zad H (fun K'=>zaj t59 (.bool true) t65 (K' · H)) fun t66=>
 zad H (fun K'=>K' t66 H) fun t67=>
 zab t67 false H (fun K'=>zad H (fun K''=>zaf 3 t1 (K'' · H)) (K' · H)) fun t68 H=>
 zab t67 false H (fun K'=>zad H (fun K''=>zal false 1 t68 H (K'' · H)) (K' · H)) fun t69 H=>
 zab t67 false H (fun K'=>zad H (fun K''=>zaf 6 t6 (K'' · H)) (K' · H)) fun t70 H=>
 zab t67 false H (fun K'=>zad H (fun K''=>zal false 1 t70 H (K'' · H)) (K' · H)) fun t71 H=>
 zab t67 false H (fun K'=>zad H (fun K''=>zai 8 t69 t71 (K'' · H)) (K' · H)) fun t72 H=>
 zab t67 false H (fun K'=>zad H (fun K''=>zaf 5 t72 (K'' · H)) (K' · H)) fun t73 H=>
 zab t67 false H (fun K'=>zad H (fun K''=>zal true 3 t73 H (K'' · H)) (K' · H)) fun t74 H=>
 zab t67 false H (fun K'=>zad H (fun K''=>zaf 3 t6 (K'' · H)) (K' · H)) fun t75 H=>
 zab t67 false H (fun K'=>zad H (fun K''=>zal true 3 t75 H (K'' · H)) (K' · H)) fun t76 H=>
 zab t67 false H (fun K'=>zaE H (fun H K''=>ACalls tP zEE [t74,t76] H K'') (K' · H)) fun t77 H=>
 zab t67 false H (fun K'=>zad H (fun K''=>aUn .not t77 (K'' · H)) (K' · H)) fun t78 H=>
 zad H (fun K'=>zaj t67 (.bool true) t78 (K' · H)) fun t79=>
 zag t79
 (K (.bool false) H)
 (zac .add false t21 (.int .i64 1) fun t80=>
 Kb6 (zrS t1 t3 t4 t19 t20 t80) H))
def zzB (t1 t3 t4 t19 t20 t21:AV) (H:zaa) (K:Kt) (Kb6:Lt):Prop:=
 zac .lss false t21 t20 fun t22=>
 zag t22
 (zai 7 t19 t21 fun t23=>
 zae true 7 t23 H fun t24=>
 zaw [(.str []),.snil,.snil,(.int .i64 0),(.int .i64 0),.snil,(.int .i64 0)] H fun t6 H=>
 zam 7 t6 t24 H fun H=>
 zaf 0 t6 fun t25=>
 zae false 1 t25 H fun t26=>
 zac .eql false t26 (.str []) fun t27=>
 zag t27
 (zzC t1 t3 (.bool true) t6 t19 t20 t21 H K Kb6)
 (zab t4 false H (fun K'=>K' t3 H) fun t30 H=>
 zab t4 false H (fun K'=>zaf 0 t6 (K' · H)) fun t31 H=>
 zab t4 false H (fun K'=>zae false 1 t31 H (K' · H)) fun t32 H=>
 zab t4 false H (fun K'=>zdV (.bool false) false t30 t32 H (K' · H)) fun t33 H=>
 zaj t4 (.bool true) t33 fun t34=>
 zab t34 false H (fun K'=>zaf 2 t6 (K' · H)) fun t36 H=>
 zab t34 false H (fun K'=>zae false 1 t36 H (K' · H)) fun t37 H=>
 zab t34 false H (fun K'=>zah 1 t37 (K' · H)) fun t38 H=>
 zab t34 false H (fun K'=>zac .gtr false t38 (.int .i64 0) (K' · H)) fun t39 H=>
 zaj t34 (.bool true) t39 fun t40=>
 zag t40
 (K (.bool false) H)
 (zzC t1 t3 t4 t6 t19 t20 t21 H K Kb6)))
 (K (.bool true) H)
def zzA (t0:AV) (H:zaa) (K:Kt):Prop:=
 zao t0 H fun t1 H=>
 zaf 1 t1 fun t7=>
 zae false 1 t7 H fun t8=>
 zah 1 t8 fun t9=>
 zac .gtr false t9 (.int .i64 64) fun t10=>
 zab t10 false H (fun K'=>zaf 3 t1 (K' · H)) fun t12 H=>
 zab t10 false H (fun K'=>zae false 1 t12 H (K' · H)) fun t13 H=>
 zab t10 false H (fun K'=>zah 1 t13 (K' · H)) fun t14 H=>
 zab t10 false H (fun K'=>zac .gtr false t14 (.int .i64 3000) (K' · H)) fun t15 H=>
 zaj t10 (.bool true) t15 fun t16=>
 zag t16
 (K (.bool false) H)
 (zez H fun t17 H=>
 zaf 1 t1 fun t18=>
 zae false 1 t18 H fun t19=>
 zah 1 t19 fun t20=>
 zzD t1 t17 (.bool false) t19 t20 (.int .i64 0) H K)
theorem zKw {t1 t3 t4 t19 t20 t21:AV} {H:zaa} {K:Kt} (Inv:Nat→AV→AV→zaa→Prop) (n:Nat) (h0:HSc H→Inv n t4 t21 H)
  (round:Rd2 (fun t4=>fun t21=>zrS t1 t3 t4 t19 t20 t21) (fun t4=>fun t21=>fun H Kb6=>zzB t1 t3 t4 t19 t20 t21 H K Kb6) H Inv):zzD t1 t3 t4 t19 t20 t21 H K:=
 lp2 (M:=zlt) zKx t4 t21 (by kernel_rfl) Inv n h0 round
theorem zKy {t0:AV} {H:zaa} {K:Kt} (h:HSc H→zzA t0 H K):ACalls tP zph [t0] H K:=
 zan (M:=zlt) Tryz.func160 (c:=zrR) (by kernel_rfl) (fun hs=>Eq.mpr (by kernel_rfl) (h hs))
def ze3:Nat→List Bool
 | 5=>rl false [1,1,2,2,12,3,54]
 | 11=>rl false [1,1,2,2,25,3,41]
 | 16=>rl false [1,1,2,2,2,1,22,3,12,3,26]
 | _=>[]
noncomputable def zii:Code:=Tryz.f161.body.getD .skip
noncomputable def zzM:List ResultVar:=Tryz.f161.results.toList
def zrU (t1 t4 t5 t18 t19 t20:AV):List AV:=ux 1 (t1::ux 2 (t4::t5::ux 12 (t18::t19::t20::ux 54 [])))
def zKI:List Bool:=ze3 5
noncomputable def zKD:Code:=zap [1,1,1,1,0,1,0,0] zii
def zKB (K:Kt):AExit→List AV→zaa→Prop:=zaq tP ze3 [1,1,1,1,0,1,0] zii (zaA tP zzM K)
def zzK (t1 t4 t5 t18 t19 t20:AV) (H:zaa) (K:Kt):Prop:=ALoop tP zKD (zKB K) (zrU t1 t4 t5 t18 t19 t20) H
def zzI (t1 t4 t5 t31 t32 t33:AV):List AV:=ux 1 (t1::ux 2 (t4::t5::ux 25 (t31::t32::t33::ux 41 [])))
def zzL:List Bool:=ze3 11
noncomputable def zrT:Code:=zap [1,1,1,1,1,0,1,0,0] zii
def zzF (K:Kt):AExit→List AV→zaa→Prop:=zaq tP ze3 [1,1,1,1,1,0,1,0] zii (zaA tP zzM K)
def zzJ (t1 t4 t5 t31 t32 t33:AV) (H:zaa) (K:Kt):Prop:=ALoop tP zrT (zzF K) (zzI t1 t4 t5 t31 t32 t33) H
def zKE (t1 t4 t5 t8 t31 t32 t33 t46 t47 t48:AV):List AV:=ux 1 (t1::ux 2 (t4::t5::ux 2 (t8::ux 22 (t31::t32::t33::ux 12 (t46::t47::t48::ux 26 [])))))
noncomputable def zKC:Code:=zap [1,1,0,0,1,1,1,0,0] zrT
def zKA (K:Kt) (Kb11:Lt):AExit→List AV→zaa→Prop:=zaq tP ze3 [1,1,0,0,1,1,1,0] zrT (zbD zzL Kb11 (zzF K))
def zKF (t1 t4 t5 t8 t31 t32 t33 t46 t47 t48:AV) (H:zaa) (K:Kt) (Kb11:Lt):Prop:=ALoop tP zKC (zKA K Kb11) (zKE t1 t4 t5 t8 t31 t32 t33 t46 t47 t48) H
def zzG (t1 t4 t5 t31 t32 t33:AV) (H:zaa) (K:Kt) (Kb11:Lt):Prop:=
 zac .lss false t33 t32 fun t34=>
 zag t34
 (zai 8 t31 t33 fun t36=>
 zae true 8 t36 H fun t37=>
 zaw [(.int .i64 0),(.int .i64 0),.snil,.snil,.snil,(.int .i64 0),(.int .i64 0),.snil] H fun t9 H=>
 zam 8 t9 t37 H fun H=>
 zaf 3 t9 fun t38=>
 zae false 1 t38 H fun t39=>
 zah 1 t39 fun t40=>
 zaf 4 t9 fun t41=>
 zae false 1 t41 H fun t42=>
 zah 1 t42 fun t43=>
 zac .neq false t40 t43 fun t44=>
 zag t44
 (K (.bool false) H)
 (zaf 4 t9 fun t45=>
 zae false 1 t45 H fun t46=>
 zah 1 t46 fun t47=>
 zKF t1 t4 t5 t33 t31 t32 t33 t46 t47 (.int .i64 0) H K Kb11))
 (zae false 1 t4 H fun t70=>
 zaf 3 t1 fun t71=>
 zae false 1 t71 H fun t72=>
 zah 1 t72 fun t73=>
 zac .eql false t70 t73 fun t74=>
 K t74 H)
def zzH (t1 t4 t5 t18 t19 t20:AV) (H:zaa) (K:Kt) (Kb5:Lt):Prop:=
 zac .lss false t20 t19 fun t21=>
 zag t21
 (zai 7 t18 t20 fun t22=>
 zae true 7 t22 H fun t23=>
 zaw [(.str []),.snil,.snil,(.int .i64 0),(.int .i64 0),.snil,(.int .i64 0)] H fun t7 H=>
 zam 7 t7 t23 H fun H=>
 zaf 6 t7 fun t25=>
 zae false 1 t25 H fun t26=>
 aCallV tP t5 [t26] H fun t27 H=>
 aUn .not t27 fun t28=>
 zag t28
 (K (.bool false) H)
 (zac .add false t20 (.int .i64 1) fun t29=>
 Kb5 (zrU t1 t4 t5 t18 t19 t29) H))
 (zaf 3 t1 fun t30=>
 zae false 1 t30 H fun t31=>
 zah 1 t31 fun t32=>
 zzJ t1 t4 t5 t31 t32 (.int .i64 0) H K)
def zzE (t0:AV) (H:zaa) (K:Kt):Prop:=
 zao t0 H fun t1 H=>
 zaf 3 t1 fun t12=>
 zae false 1 t12 H fun t13=>
 zah 1 t13 fun t14=>
 zbr 1 [(.bool false)] t14 t14 H fun t15 H=>
 zaw [.snil] H fun t3 H=>
 zam 1 t3 t15 H fun H=>
 zaw [(.int .i64 0)] H fun t4 H=>
 zam 1 t4 (.int .i64 0) H fun H=>
 zcs zEF [t3,t4] fun t16=>
 zaf 1 t1 fun t17=>
 zae false 1 t17 H fun t18=>
 zah 1 t18 fun t19=>
 zzK t1 t4 t16 t18 t19 (.int .i64 0) H K
theorem zKG {t1 t4 t5 t31 t32 t33:AV} {H:zaa} {K:Kt} (Inv:Nat→AV→zaa→Prop) (n:Nat) (h0:HSc H→Inv n t33 H)
  (round:Rd1 (fun t33=>zzI t1 t4 t5 t31 t32 t33) (fun t33=>fun H Kb11=>zzG t1 t4 t5 t31 t32 t33 H K Kb11) H Inv):zzJ t1 t4 t5 t31 t32 t33 H K:=
 lp1 (M:=ze3) zzL t33 (by kernel_rfl) Inv n h0 round
theorem zKH {t1 t4 t5 t18 t19 t20:AV} {H:zaa} {K:Kt} (Inv:Nat→AV→zaa→Prop) (n:Nat) (h0:HSc H→Inv n t20 H)
  (round:Rd1 (fun t20=>zrU t1 t4 t5 t18 t19 t20) (fun t20=>fun H Kb5=>zzH t1 t4 t5 t18 t19 t20 H K Kb5) H Inv):zzK t1 t4 t5 t18 t19 t20 H K:=
 lp1 (M:=ze3) zKI t20 (by kernel_rfl) Inv n h0 round
theorem zKJ {t0:AV} {H:zaa} {K:Kt} (h:HSc H→zzE t0 H K):ACalls tP zpi [t0] H K:=
 zan (M:=ze3) Tryz.func161 (c:=zii) (by kernel_rfl) (fun hs=>Eq.mpr (by kernel_rfl) (h hs))
def ze4:Nat→List Bool
 | 5=>rl false [1,1,2,2,12,3,41]
 | 11=>rl false [1,1,2,2,32,3,21]
 | 14=>rl false [1,1,2,2,32,3,4,3,14]
 | _=>[]
noncomputable def zil:Code:=Tryz.f162.body.getD .skip
noncomputable def zz2:List ResultVar:=Tryz.f162.results.toList
def zr2 (t1 t4 t5 t18 t19 t20:AV):List AV:=ux 1 (t1::ux 2 (t4::t5::ux 12 (t18::t19::t20::ux 41 [])))
def zK6:List Bool:=ze4 5
noncomputable def zK1:Code:=zap [1,1,1,1,0,1,0,0] zil
def zKZ (K:Kt):AExit→List AV→zaa→Prop:=zaq tP ze4 [1,1,1,1,0,1,0] zil (zaA tP zz2 K)
def zz0 (t1 t4 t5 t18 t19 t20:AV) (H:zaa) (K:Kt):Prop:=ALoop tP zK1 (zKZ K) (zr2 t1 t4 t5 t18 t19 t20) H
def zzY (t1 t4 t5 t38 t39 t40:AV):List AV:=ux 1 (t1::ux 2 (t4::t5::ux 32 (t38::t39::t40::ux 21 [])))
def zz1:List Bool:=ze4 11
noncomputable def zr1:Code:=zap [1,1,1,1,1,0,1,0,0] zil
def zzV (K:Kt):AExit→List AV→zaa→Prop:=zaq tP ze4 [1,1,1,1,1,0,1,0] zil (zaA tP zz2 K)
def zzZ (t1 t4 t5 t38 t39 t40:AV) (H:zaa) (K:Kt):Prop:=ALoop tP zr1 (zzV K) (zzY t1 t4 t5 t38 t39 t40) H
def zK2 (t1 t4 t5 t38 t39 t40 t45 t46 t47:AV):List AV:=ux 1 (t1::ux 2 (t4::t5::ux 32 (t38::t39::t40::ux 4 (t45::t46::t47::ux 14 []))))
noncomputable def zK0:Code:=zap [1,1,0,0,1,1,0,0] zr1
def zKY (K:Kt) (Kb11:Lt):AExit→List AV→zaa→Prop:=zaq tP ze4 [1,1,0,0,1,1,0] zr1 (zbD zz1 Kb11 (zzV K))
def zK3 (t1 t4 t5 t38 t39 t40 t45 t46 t47:AV) (H:zaa) (K:Kt) (Kb11:Lt):Prop:=ALoop tP zK0 (zKY K Kb11) (zK2 t1 t4 t5 t38 t39 t40 t45 t46 t47) H
def zzW (t1 t4 t5 t38 t39 t40:AV) (H:zaa) (K:Kt) (Kb11:Lt):Prop:=
 zac .lss false t40 t39 fun t41=>
 zag t41
 (zai 8 t38 t40 fun t42=>
 zae true 8 t42 H fun t43=>
 zaw [(.int .i64 0),(.int .i64 0),.snil,.snil,.snil,(.int .i64 0),(.int .i64 0),.snil] H fun t9 H=>
 zam 8 t9 t43 H fun H=>
 zaf 3 t9 fun t44=>
 zae false 1 t44 H fun t45=>
 zah 1 t45 fun t46=>
 zK3 t1 t4 t5 t38 t39 t40 t45 t46 (.int .i64 0) H K Kb11)
 (zae false 1 t4 H fun t57=>
 zaf 2 t1 fun t58=>
 zae false 1 t58 H fun t59=>
 zah 1 t59 fun t60=>
 zac .eql false t57 t60 fun t61=>
 K t61 H)
def zzX (t1 t4 t5 t18 t19 t20:AV) (H:zaa) (K:Kt) (Kb5:Lt):Prop:=
 zac .lss false t20 t19 fun t21=>
 zag t21
 (zai 7 t18 t20 fun t22=>
 zae true 7 t22 H fun t23=>
 zaw [(.str []),.snil,.snil,(.int .i64 0),(.int .i64 0),.snil,(.int .i64 0)] H fun t7 H=>
 zam 7 t7 t23 H fun H=>
 zaf 1 t7 fun t25=>
 zae false 1 t25 H fun t26=>
 aCallV tP t5 [t26] H fun t27 H=>
 aUn .not t27 fun t28=>
 zab t28 false H (fun K'=>K' t5 H) fun t30 H=>
 zab t28 false H (fun K'=>zaf 2 t7 (K' · H)) fun t31 H=>
 zab t28 false H (fun K'=>zae false 1 t31 H (K' · H)) fun t32 H=>
 zab t28 false H (fun K'=>aCallV tP t30 [t32] H K') fun t33 H=>
 zab t28 false H (fun K'=>aUn .not t33 (K' · H)) fun t34 H=>
 zaj t28 (.bool true) t34 fun t35=>
 zag t35
 (K (.bool false) H)
 (zac .add false t20 (.int .i64 1) fun t36=>
 Kb5 (zr2 t1 t4 t5 t18 t19 t36) H))
 (zaf 3 t1 fun t37=>
 zae false 1 t37 H fun t38=>
 zah 1 t38 fun t39=>
 zzZ t1 t4 t5 t38 t39 (.int .i64 0) H K)
def zzU (t0:AV) (H:zaa) (K:Kt):Prop:=
 zao t0 H fun t1 H=>
 zaf 2 t1 fun t12=>
 zae false 1 t12 H fun t13=>
 zah 1 t13 fun t14=>
 zbr 1 [(.bool false)] t14 t14 H fun t15 H=>
 zaw [.snil] H fun t3 H=>
 zam 1 t3 t15 H fun H=>
 zaw [(.int .i64 0)] H fun t4 H=>
 zam 1 t4 (.int .i64 0) H fun H=>
 zcs zEG [t3,t4] fun t16=>
 zaf 1 t1 fun t17=>
 zae false 1 t17 H fun t18=>
 zah 1 t18 fun t19=>
 zz0 t1 t4 t16 t18 t19 (.int .i64 0) H K
theorem zK4 {t1 t4 t5 t38 t39 t40:AV} {H:zaa} {K:Kt} (Inv:Nat→AV→zaa→Prop) (n:Nat) (h0:HSc H→Inv n t40 H)
  (round:Rd1 (fun t40=>zzY t1 t4 t5 t38 t39 t40) (fun t40=>fun H Kb11=>zzW t1 t4 t5 t38 t39 t40 H K Kb11) H Inv):zzZ t1 t4 t5 t38 t39 t40 H K:=
 lp1 (M:=ze4) zz1 t40 (by kernel_rfl) Inv n h0 round
theorem zK5 {t1 t4 t5 t18 t19 t20:AV} {H:zaa} {K:Kt} (Inv:Nat→AV→zaa→Prop) (n:Nat) (h0:HSc H→Inv n t20 H)
  (round:Rd1 (fun t20=>zr2 t1 t4 t5 t18 t19 t20) (fun t20=>fun H Kb5=>zzX t1 t4 t5 t18 t19 t20 H K Kb5) H Inv):zz0 t1 t4 t5 t18 t19 t20 H K:=
 lp1 (M:=ze4) zK6 t20 (by kernel_rfl) Inv n h0 round
theorem zK7 {t0:AV} {H:zaa} {K:Kt} (h:HSc H→zzU t0 H K):ACalls tP zpk [t0] H K:=
 zan (M:=ze4) Tryz.func162 (c:=zil) (by kernel_rfl) (fun hs=>Eq.mpr (by kernel_rfl) (h hs))
def zly:Nat→List Bool
 | 6=>rl false [4,2,9,3,25]
 | _=>[]
noncomputable def zr3:Code:=Tryz.f163.body.getD .skip
noncomputable def zLd:List ResultVar:=Tryz.f163.results.toList
def zr4 (t4 t5 t15 t16 t17:AV):List AV:=ux 4 (t4::t5::ux 9 (t15::t16::t17::ux 25 []))
def zLb:List Bool:=zly 6
noncomputable def zK9:Code:=zap [1,1,1,1,1,0,1,0,0] zr3
def zK8 (K:Kt):AExit→List AV→zaa→Prop:=zaq tP zly [1,1,1,1,1,0,1,0] zr3 (zaA tP zLd K)
def zz5 (t4 t5 t15 t16 t17:AV) (H:zaa) (K:Kt):Prop:=ALoop tP zK9 (zK8 K) (zr4 t4 t5 t15 t16 t17) H
def zz4 (t4 t5 t15 t16 t17:AV) (H:zaa) (K:Kt) (Kb6:Lt):Prop:=
 zac .lss false t17 t16 fun t18=>
 zag t18
 (zai 7 t15 t17 fun t19=>
 zae true 7 t19 H fun t20=>
 zaw [(.str []),.snil,.snil,(.int .i64 0),(.int .i64 0),.snil,(.int .i64 0)] H fun t7 H=>
 zam 7 t7 t20 H fun H=>
 zae false 1 t4 H fun t21=>
 zaf 1 t7 fun t22=>
 zae false 1 t22 H fun t23=>
 aCallV tP t21 [t23,(.bool true)] H fun t24 H=>
 zae false 1 t4 H fun t25=>
 zaf 2 t7 fun t26=>
 zae false 1 t26 H fun t27=>
 aCallV tP t25 [t27,(.bool true)] H fun t28 H=>
 zae false 1 t5 H fun t29=>
 zaf 6 t7 fun t30=>
 zae false 1 t30 H fun t31=>
 aCallV tP t29 [t31] H fun t32 H=>
 aUn .not t32 fun t33=>
 zag t33
 (K (.bool false) H)
 (zae false 1 t4 H fun t34=>
 zaf 1 t7 fun t35=>
 zae false 1 t35 H fun t36=>
 aCallV tP t34 [t36,(.bool false)] H fun t37 H=>
 zae false 1 t4 H fun t38=>
 zaf 2 t7 fun t39=>
 zae false 1 t39 H fun t40=>
 aCallV tP t38 [t40,(.bool false)] H fun t41 H=>
 zac .add false t17 (.int .i64 1) fun t42=>
 Kb6 (zr4 t4 t5 t15 t16 t42) H))
 (K (.bool true) H)
def zz3 (t0:AV) (H:zaa) (K:Kt):Prop:=
 zao t0 H fun t1 H=>
 zaf 2 t1 fun t8=>
 zae false 1 t8 H fun t9=>
 zah 1 t9 fun t10=>
 zbr 1 [(.bool false)] t10 t10 H fun t11 H=>
 zaw [.snil] H fun t3 H=>
 zam 1 t3 t11 H fun H=>
 zcs zEH [t3] fun t12=>
 zaw [.nilfn] H fun t4 H=>
 zam 1 t4 t12 H fun H=>
 zaw [.nilfn] H fun t5 H=>
 zcs zEI [t1,t3,t4,t5] fun t13=>
 zam 1 t5 t13 H fun H=>
 zaf 1 t1 fun t14=>
 zae false 1 t14 H fun t15=>
 zah 1 t15 fun t16=>
 zz5 t4 t5 t15 t16 (.int .i64 0) H K
theorem zLa {t4 t5 t15 t16 t17:AV} {H:zaa} {K:Kt} (Inv:Nat→AV→zaa→Prop) (n:Nat) (h0:HSc H→Inv n t17 H)
  (round:Rd1 (fun t17=>zr4 t4 t5 t15 t16 t17) (fun t17=>fun H Kb6=>zz4 t4 t5 t15 t16 t17 H K Kb6) H Inv):zz5 t4 t5 t15 t16 t17 H K:=
 lp1 (M:=zly) zLb t17 (by kernel_rfl) Inv n h0 round
theorem zLc {t0:AV} {H:zaa} {K:Kt} (h:HSc H→zz3 t0 H K):ACalls tP zpl [t0] H K:=
 zan (M:=zly) Tryz.func163 (c:=zr3) (by kernel_rfl) (fun hs=>Eq.mpr (by kernel_rfl) (h hs))
def zfL:Nat→List Bool
 | 3=>rl false [1,1,1,1,12,3,30]
 | 9=>rl false [3,1,24,3,18]
 | _=>[]
noncomputable def zim:Code:=Tryz.f164.body.getD .skip
noncomputable def zAb:List ResultVar:=Tryz.f164.results.toList
def zr5 (t1 t3 t16 t17 t18:AV):List AV:=ux 1 (t1::ux 1 (t3::ux 12 (t16::t17::t18::ux 30 [])))
def zLk:List Bool:=zfL 3
noncomputable def zLg:Code:=zap [1,1,0,1,0,0] zim
def zLe (K:Kt):AExit→List AV→zaa→Prop:=zaq tP zfL [1,1,0,1,0] zim (zaA tP zAb K)
def zz9 (t1 t3 t16 t17 t18:AV) (H:zaa) (K:Kt):Prop:=ALoop tP zLg (zLe K) (zr5 t1 t3 t16 t17 t18) H
def zr6 (t3 t28 t29 t30:AV):List AV:=ux 3 (t3::ux 24 (t28::t29::t30::ux 18 []))
def zLl:List Bool:=zfL 9
noncomputable def zLh:Code:=zap [1,1,1,0,1,0,0] zim
def zLf (K:Kt):AExit→List AV→zaa→Prop:=zaq tP zfL [1,1,1,0,1,0] zim (zaA tP zAb K)
def zAa (t3 t28 t29 t30:AV) (H:zaa) (K:Kt):Prop:=ALoop tP zLh (zLf K) (zr6 t3 t28 t29 t30) H
def zz8 (t3 t28 t29 t30:AV) (H:zaa) (K:Kt) (Kb9:Lt):Prop:=
 zac .lss false t30 t29 fun t31=>
 zag t31
 (zai 7 t28 t30 fun t33=>
 zae true 7 t33 H fun t34=>
 zaw [(.str []),.snil,.snil,(.int .i64 0),(.int .i64 0),.snil,(.int .i64 0)] H fun t7 H=>
 zam 7 t7 t34 H fun H=>
 zaf 0 t7 fun t35=>
 zae false 1 t35 H fun t36=>
 zac .eql false t36 (.str []) fun t37=>
 zab t37 true H (fun K'=>K' t3 H) fun t39 H=>
 zab t37 true H (fun K'=>zbj t39 (K' · H)) fun t40 H=>
 zab t37 true H (fun K'=>zaf 4 t40 (K' · H)) fun t41 H=>
 zab t37 true H (fun K'=>zae false 1 t41 H (K' · H)) fun t42 H=>
 zab t37 true H (fun K'=>K' t30 H) fun t43 H=>
 zab t37 true H (fun K'=>zai 1 t42 t43 (K' · H)) fun t44 H=>
 zab t37 true H (fun K'=>zae false 1 t44 H (K' · H)) fun t45 H=>
 zab t37 true H (fun K'=>zac .neq false t45 (.int .i64 1) (K' · H)) fun t46 H=>
 zaj t37 t46 (.bool false) fun t47=>
 zag t47
 (K (.bool false) H)
 (zac .add false t30 (.int .i64 1) fun t48=>
 Kb9 (zr6 t3 t28 t29 t48) H))
 (K (.bool true) H)
def zz7 (t1 t3 t16 t17 t18:AV) (H:zaa) (K:Kt) (Kb3:Lt):Prop:=
 zac .lss false t18 t17 fun t19=>
 zag t19
 (zai 8 t16 t18 fun t20=>
 zae true 8 t20 H fun t21=>
 zaw [(.int .i64 0),(.int .i64 0),.snil,.snil,.snil,(.int .i64 0),(.int .i64 0),.snil] H fun t5 H=>
 zam 8 t5 t21 H fun H=>
 zae true 8 t5 H fun t23=>
 ACalls tP zEJ [t3,t23] H fun t24 H=>
 aUn .not t24 fun t25=>
 zag t25
 (K (.bool false) H)
 (zac .add false t18 (.int .i64 1) fun t26=>
 Kb3 (zr5 t1 t3 t16 t17 t26) H))
 (zaf 1 t1 fun t27=>
 zae false 1 t27 H fun t28=>
 zah 1 t28 fun t29=>
 zAa t3 t28 t29 (.int .i64 0) H K)
def zz6 (t0:AV) (H:zaa) (K:Kt):Prop:=
 zao t0 H fun t1 H=>
 zad H (fun K'=>zal true 4 t1 H (K' · H)) fun t8=>
 zad H (fun K'=>zaf 1 t1 (K' · H)) fun t9=>
 zad H (fun K'=>zal false 1 t9 H (K' · H)) fun t10=>
 zad H (fun K'=>zah 1 t10 (K' · H)) fun t11=>
 zbr 8 [(.int .i64 0)] t11 t11 H fun t12 H=>
 zad H (fun K'=>zaz [.snil,.snil,.snil,.snil,.snil] [(0,4),(4,1)] [(0,t8),(1,t12)] (K' · H)) fun t13=>
 zao t13 H fun t14 H=>
 zad H (fun K'=>K' t14 H) fun t3=>
 zaf 3 t1 fun t15=>
 zae false 1 t15 H fun t16=>
 zah 1 t16 fun t17=>
 zz9 t1 t3 t16 t17 (.int .i64 0) H K
theorem zLj {t3 t28 t29 t30:AV} {H:zaa} {K:Kt} (Inv:Nat→AV→zaa→Prop) (n:Nat) (h0:HSc H→Inv n t30 H)
  (round:Rd1 (fun t30=>zr6 t3 t28 t29 t30) (fun t30=>fun H Kb9=>zz8 t3 t28 t29 t30 H K Kb9) H Inv):zAa t3 t28 t29 t30 H K:=
 lp1 (M:=zfL) zLl t30 (by kernel_rfl) Inv n h0 round
theorem zLi {t1 t3 t16 t17 t18:AV} {H:zaa} {K:Kt} (Inv:Nat→AV→zaa→Prop) (n:Nat) (h0:HSc H→Inv n t18 H)
  (round:Rd1 (fun t18=>zr5 t1 t3 t16 t17 t18) (fun t18=>fun H Kb3=>zz7 t1 t3 t16 t17 t18 H K Kb3) H Inv):zz9 t1 t3 t16 t17 t18 H K:=
 lp1 (M:=zfL) zLk t18 (by kernel_rfl) Inv n h0 round
theorem zLm {t0:AV} {H:zaa} {K:Kt} (h:HSc H→zz6 t0 H K):ACalls tP zpm [t0] H K:=
 zan (M:=zfL) Tryz.func164 (c:=zim) (by kernel_rfl) (fun hs=>Eq.mpr (by kernel_rfl) (h hs))
end Go.Proofs.YtjkkonpjecoieaaGreat

namespace Go.Proofs.YtjkkonpjecoieaaGreat
open Go Go.Abs
set_option maxRecDepth 100000
def zIB (_:Nat):List Bool:=[]
noncomputable def zIC:Code:=Tryz.f13.body.getD .skip
def zyZ (t0:AV) (H:zaa) (K:Kt):Prop:=
 zao t0 H fun t1 H=>
 zaw [(.int .i64 0)] H fun t3 H=>
 zam 1 t3 (.int .i64 400) H fun H=>
 zae true 3 t1 H fun t4=>
 ACalls tP zjA [t4,t3] H fun t5 H=>
 K t5 H
theorem zID {t0:AV} {H:zaa} {K:Kt} (h:HSc H→zyZ t0 H K):ACalls tP zo6 [t0] H K:=
 zan (M:=zIB) Tryz.func13 (c:=zIC) (by kernel_rfl) (fun hs=>Eq.mpr (by kernel_rfl) (h hs))
def zJt (_:Nat):List Bool:=[]
noncomputable def zJu:Code:=Tryz.f15.body.getD .skip
def zze (t0 t1 t2:AV) (H:zaa) (K:Kt):Prop:=
 zao t1 H fun t4 H=>
 zao t2 H fun t5 H=>
 zaw [(.int .i64 0)] H fun t7 H=>
 zam 1 t7 (.int .i64 5000) H fun H=>
 ACalls tP zjB [t0] H fun t9 H=>
 zab t9 true H (fun K'=>K' t0 H) fun t11 H=>
 zab t9 true H (fun K'=>zae true 3 t5 H (K' · H)) fun t12 H=>
 zab t9 true H (fun K'=>ACalls tP zhH [t11,t12,(.int .i64 0)] H K') fun t13 H=>
 zaj t9 t13 (.bool false) fun t14=>
 zab t14 true H (fun K'=>zae true 3 t4 H (K' · H)) fun t16 H=>
 zab t14 true H (fun K'=>ACalls tP zjC [t16,t7] H K') fun t17 H=>
 zaj t14 t17 (.bool false) fun t18=>
 zab t18 true H (fun K'=>K' t0 H) fun t20 H=>
 zab t18 true H (fun K'=>zae true 3 t4 H (K' · H)) fun t21 H=>
 zab t18 true H (fun K'=>zae true 3 t5 H (K' · H)) fun t22 H=>
 zab t18 true H (fun K'=>ACalls tP zhI [t20,t21,t22] H K') fun t23 H=>
 zaj t18 t23 (.bool false) fun t24=>
 K t24 H
theorem zJv {t0 t1 t2:AV} {H:zaa} {K:Kt} (h:HSc H→zze t0 t1 t2 H K):ACalls tP zjj [t0,t1,t2] H K:=
 zan (M:=zJt) Tryz.func15 (c:=zJu) (by kernel_rfl) (fun hs=>Eq.mpr (by kernel_rfl) (h hs))
def zIF (_:Nat):List Bool:=[]
noncomputable def zIG:Code:=Tryz.f122.body.getD .skip
def zy5 (t0 t1:AV) (H:zaa) (K:Kt):Prop:=
 ACalls tP zpn [t0,t1] H fun t7 H=>
 zac .geq false t7 (.int .i64 0) fun t8=>
 K t8 H
theorem zIH {t0 t1:AV} {H:zaa} {K:Kt} (h:HSc H→zy5 t0 t1 H K):ACalls tP zo9 [t0,t1] H K:=
 zan (M:=zIF) Tryz.func122 (c:=zIG) (by kernel_rfl) (fun hs=>Eq.mpr (by kernel_rfl) (h hs))
def zlC:Nat→List Bool
 | 2=>rl false [0,2,5,2,10]
 | _=>[]
noncomputable def zsc:Code:=Tryz.f166.body.getD .skip
noncomputable def zLD:List ResultVar:=Tryz.f166.results.toList
def zlD (t0 t1 t7 t8:AV):List AV:=t0::t1::ux 5 (t7::t8::ux 10 [])
def zLB:List Bool:=zlC 2
noncomputable def zLz:Code:=zap [1,0,1,0,0] zsc
def zLy (K:Kt):AExit→List AV→zaa→Prop:=zaq tP zlC [1,0,1,0] zsc (zaA tP zLD K)
def zAh (t0 t1 t7 t8:AV) (H:zaa) (K:Kt):Prop:=ALoop tP zLz (zLy K) (zlD t0 t1 t7 t8) H
def zsb (t0 t1 t7 t8:AV) (H:zaa) (K:Kt) (Kb2:Lt):Prop:=
 zac .lss false t8 t7 fun t9=>
 zag t9
 (zai 3 t0 t8 fun t14=>
 zae true 3 t14 H fun t15=>
 aCallV tP t1 [t15] H fun t16 H=>
 zag t16
 (K t8 H)
 (zac .add false t8 (.int .i64 1) fun t18=>
 Kb2 (zlD t0 t1 t7 t18) H))
 (K (.int .i64 (-1)) H)
def zAg (t0 t1:AV) (H:zaa) (K:Kt):Prop:=
 zah 1 t0 fun t7=>
 zAh t0 t1 t7 (.int .i64 0) H K
theorem zLA {t0 t1 t7 t8:AV} {H:zaa} {K:Kt} (Inv:Nat→AV→zaa→Prop) (n:Nat) (h0:HSc H→Inv n t8 H)
  (round:Rd1 (fun t8=>zlD t0 t1 t7 t8) (fun t8=>fun H Kb2=>zsb t0 t1 t7 t8 H K Kb2) H Inv):zAh t0 t1 t7 t8 H K:=
 lp1 (M:=zlC) zLB t8 (by kernel_rfl) Inv n h0 round
theorem zLC {t0 t1:AV} {H:zaa} {K:Kt} (h:HSc H→zAg t0 t1 H K):ACalls tP zpn [t0,t1] H K:=
 zan (M:=zlC) Tryz.func166 (c:=zsc) (by kernel_rfl) (fun hs=>Eq.mpr (by kernel_rfl) (h hs))
def zRZ (_:Nat):List Bool:=[]
noncomputable def zR0:Code:=Tryz.f77.body.getD .skip
def zex (t0 t1 t2:AV) (H:zaa) (K:Kt):Prop:=
 zao t0 H fun t3 H=>
 zao t1 H fun t4 H=>
 zao t2 H fun t5 H=>
 zaf 0 t5 fun t9=>
 zae false 1 t9 H fun t10=>
 zac .eql false t10 (.int .i64 1) fun t12=>
 zag t12
 (zaf 0 t4 fun t13=>
 zae false 1 t13 H fun t14=>
 zac .eql false t14 (.int .i64 3) fun t15=>
 zab t15 true H (fun K'=>zaf 1 t4 (K' · H)) fun t17 H=>
 zab t15 true H (fun K'=>zae false 1 t17 H (K' · H)) fun t18 H=>
 zab t15 true H (fun K'=>zac .leq false (.int .i64 (-1099511627776)) t18 (K' · H)) fun t19 H=>
 zaj t15 t19 (.bool false) fun t20=>
 zab t20 true H (fun K'=>zaf 1 t4 (K' · H)) fun t22 H=>
 zab t20 true H (fun K'=>zae false 1 t22 H (K' · H)) fun t23 H=>
 zab t20 true H (fun K'=>zac .leq false t23 (.int .i64 1099511627776) (K' · H)) fun t24 H=>
 zaj t20 t24 (.bool false) fun t25=>
 zab t25 true H (fun K'=>zaf 2 t4 (K' · H)) fun t27 H=>
 zab t25 true H (fun K'=>zae false 1 t27 H (K' · H)) fun t28 H=>
 zab t25 true H (fun K'=>zah 1 t28 (K' · H)) fun t29 H=>
 zab t25 true H (fun K'=>zac .eql false t29 (.int .i64 0) (K' · H)) fun t30 H=>
 zaj t25 t30 (.bool false) fun t31=>
 K t31 H)
 (zac .eql false t10 (.int .i64 2) fun t33=>
 zag t33
 (zaf 0 t4 fun t34=>
 zae false 1 t34 H fun t35=>
 zac .eql false t35 (.int .i64 2) fun t36=>
 zab t36 true H (fun K'=>zaf 1 t4 (K' · H)) fun t38 H=>
 zab t36 true H (fun K'=>zae false 1 t38 H (K' · H)) fun t39 H=>
 zab t36 true H (fun K'=>zac .eql false t39 (.int .i64 0) (K' · H)) fun t40 H=>
 zab t36 true H (fun K'=>K' t40 H) fun t41 H=>
 zab t41 false H (fun K'=>zaf 1 t4 (K' · H)) fun t42 H=>
 zab t41 false H (fun K'=>zae false 1 t42 H (K' · H)) fun t43 H=>
 zab t41 false H (fun K'=>zac .eql false t43 (.int .i64 1) (K' · H)) fun t44 H=>
 zab t36 true H (fun K'=>zaj t41 (.bool true) t44 (K' · H)) fun t45 H=>
 zaj t36 t45 (.bool false) fun t46=>
 zab t46 true H (fun K'=>zaf 2 t4 (K' · H)) fun t48 H=>
 zab t46 true H (fun K'=>zae false 1 t48 H (K' · H)) fun t49 H=>
 zab t46 true H (fun K'=>zah 1 t49 (K' · H)) fun t50 H=>
 zab t46 true H (fun K'=>zac .eql false t50 (.int .i64 0) (K' · H)) fun t51 H=>
 zaj t46 t51 (.bool false) fun t52=>
 K t52 H)
 (zac .eql false t10 (.int .i64 3) fun t54=>
 zag t54
 (zaf 0 t4 fun t55=>
 zae false 1 t55 H fun t56=>
 zac .eql false t56 (.int .i64 1) fun t57=>
 zab t57 true H (fun K'=>zaf 1 t4 (K' · H)) fun t59 H=>
 zab t57 true H (fun K'=>zae false 1 t59 H (K' · H)) fun t60 H=>
 zab t57 true H (fun K'=>zac .eql false t60 (.int .i64 0) (K' · H)) fun t61 H=>
 zaj t57 t61 (.bool false) fun t62=>
 zab t62 true H (fun K'=>zaf 2 t4 (K' · H)) fun t64 H=>
 zab t62 true H (fun K'=>zae false 1 t64 H (K' · H)) fun t65 H=>
 zab t62 true H (fun K'=>zah 1 t65 (K' · H)) fun t66 H=>
 zab t62 true H (fun K'=>zac .eql false t66 (.int .i64 0) (K' · H)) fun t67 H=>
 zaj t62 t67 (.bool false) fun t68=>
 K t68 H)
 (zac .eql false t10 (.int .i64 6) fun t70=>
 zag t70
 (zaf 0 t4 fun t71=>
 zae false 1 t71 H fun t72=>
 zac .eql false t72 (.int .i64 4) fun t73=>
 zab t73 true H (fun K'=>zaf 1 t4 (K' · H)) fun t75 H=>
 zab t73 true H (fun K'=>zae false 1 t75 H (K' · H)) fun t76 H=>
 zab t73 true H (fun K'=>zac .eql false t76 (.int .i64 0) (K' · H)) fun t77 H=>
 zaj t73 t77 (.bool false) fun t78=>
 zab t78 true H (fun K'=>zae false 1 t3 H (K' · H)) fun t80 H=>
 zab t78 true H (fun K'=>zaf 2 t4 (K' · H)) fun t81 H=>
 zab t78 true H (fun K'=>zae false 1 t81 H (K' · H)) fun t82 H=>
 zab t78 true H (fun K'=>zaf 2 t5 (K' · H)) fun t83 H=>
 zab t78 true H (fun K'=>zae false 1 t83 H (K' · H)) fun t84 H=>
 zab t78 true H (fun K'=>ACalls tP zhy [t80,t82,t84] H K') fun t85 H=>
 zaj t78 t85 (.bool false) fun t86=>
 K t86 H)
 (zac .eql false t10 (.int .i64 5) fun t88=>
 zag t88
 (zaf 0 t4 fun t89=>
 zae false 1 t89 H fun t90=>
 zac .neq false t90 (.int .i64 5) fun t91=>
 zab t91 false H (fun K'=>zaf 1 t4 (K' · H)) fun t93 H=>
 zab t91 false H (fun K'=>zae false 1 t93 H (K' · H)) fun t94 H=>
 zab t91 false H (fun K'=>zac .lss false t94 (.int .i64 0) (K' · H)) fun t95 H=>
 zaj t91 (.bool true) t95 fun t96=>
 zab t96 false H (fun K'=>zaf 1 t4 (K' · H)) fun t98 H=>
 zab t96 false H (fun K'=>zae false 1 t98 H (K' · H)) fun t99 H=>
 zab t96 false H (fun K'=>zac .geq false t99 (.int .i64 8) (K' · H)) fun t100 H=>
 zaj t96 (.bool true) t100 fun t101=>
 zag t101
 (K (.bool false) H)
 (zae false 1 t3 H fun t103=>
 zae true 3 t5 H fun t104=>
 zaf 1 t4 fun t105=>
 zae false 1 t105 H fun t106=>
 ACalls tP zgn [t103,t104,t106] H fun t107 H=>
 zay t107 0 fun t108=>
 zay t107 1 fun t109=>
 zab t109 true H (fun K'=>zae false 1 t3 H (K' · H)) fun t112 H=>
 zab t109 true H (fun K'=>zaf 2 t4 (K' · H)) fun t113 H=>
 zab t109 true H (fun K'=>zae false 1 t113 H (K' · H)) fun t114 H=>
 zab t109 true H (fun K'=>K' t108 H) fun t115 H=>
 zab t109 true H (fun K'=>ACalls tP zhy [t112,t114,t115] H K') fun t116 H=>
 zaj t109 t116 (.bool false) fun t117=>
 K t117 H))
 (zac .eql false t10 (.int .i64 7) fun t119=>
 zag t119
 (zaf 0 t4 fun t120=>
 zae false 1 t120 H fun t121=>
 zac .eql false t121 (.int .i64 6) fun t122=>
 zab t122 true H (fun K'=>zaf 1 t4 (K' · H)) fun t124 H=>
 zab t122 true H (fun K'=>zae false 1 t124 H (K' · H)) fun t125 H=>
 zab t122 true H (fun K'=>zac .eql false t125 (.int .i64 0) (K' · H)) fun t126 H=>
 zaj t122 t126 (.bool false) fun t127=>
 zab t127 true H (fun K'=>zaf 2 t4 (K' · H)) fun t129 H=>
 zab t127 true H (fun K'=>zae false 1 t129 H (K' · H)) fun t130 H=>
 zab t127 true H (fun K'=>zah 1 t130 (K' · H)) fun t131 H=>
 zab t127 true H (fun K'=>zac .leq false t131 (.int .i64 4096) (K' · H)) fun t132 H=>
 zaj t127 t132 (.bool false) fun t133=>
 zab t133 true H (fun K'=>zaf 2 t4 (K' · H)) fun t135 H=>
 zab t133 true H (fun K'=>zae false 1 t135 H (K' · H)) fun t136 H=>
 zab t133 true H (fun K'=>zcs zpa [t3,t5] (K' · H)) fun t137 H=>
 zab t133 true H (fun K'=>ACalls tP zo9 [t136,t137] H K') fun t138 H=>
 zab t133 true H (fun K'=>aUn .not t138 (K' · H)) fun t139 H=>
 zaj t133 t139 (.bool false) fun t140=>
 K t140 H)
 (zac .eql false t10 (.int .i64 8) fun t142=>
 zag t142
 (zaf 0 t4 fun t143=>
 zae false 1 t143 H fun t144=>
 zac .eql false t144 (.int .i64 7) fun t145=>
 zab t145 true H (fun K'=>zaf 1 t4 (K' · H)) fun t147 H=>
 zab t145 true H (fun K'=>zae false 1 t147 H (K' · H)) fun t148 H=>
 zab t145 true H (fun K'=>zac .eql false t148 (.int .i64 0) (K' · H)) fun t149 H=>
 zaj t145 t149 (.bool false) fun t150=>
 zab t150 true H (fun K'=>zae false 1 t3 H (K' · H)) fun t152 H=>
 zab t150 true H (fun K'=>zaf 2 t4 (K' · H)) fun t153 H=>
 zab t150 true H (fun K'=>zae false 1 t153 H (K' · H)) fun t154 H=>
 zab t150 true H (fun K'=>zaf 2 t5 (K' · H)) fun t155 H=>
 zab t150 true H (fun K'=>zae false 1 t155 H (K' · H)) fun t156 H=>
 zab t150 true H (fun K'=>ACalls tP zhy [t152,t154,t156] H K') fun t157 H=>
 zaj t150 t157 (.bool false) fun t158=>
 K t158 H)
 (zac .eql false t10 (.int .i64 9) fun t160=>
 zag t160
 (zaf 0 t4 fun t161=>
 zae false 1 t161 H fun t162=>
 zac .eql false t162 (.int .i64 8) fun t163=>
 zab t163 true H (fun K'=>zaf 1 t4 (K' · H)) fun t165 H=>
 zab t163 true H (fun K'=>zae false 1 t165 H (K' · H)) fun t166 H=>
 zab t163 true H (fun K'=>zac .leq false (.int .i64 0) t166 (K' · H)) fun t167 H=>
 zaj t163 t167 (.bool false) fun t168=>
 zab t168 true H (fun K'=>zaf 1 t4 (K' · H)) fun t170 H=>
 zab t168 true H (fun K'=>zae false 1 t170 H (K' · H)) fun t171 H=>
 zab t168 true H (fun K'=>zac .lss false t171 (.int .i64 64) (K' · H)) fun t172 H=>
 zaj t168 t172 (.bool false) fun t173=>
 zab t173 true H (fun K'=>zaf 2 t4 (K' · H)) fun t175 H=>
 zab t173 true H (fun K'=>zae false 1 t175 H (K' · H)) fun t176 H=>
 zab t173 true H (fun K'=>zah 1 t176 (K' · H)) fun t177 H=>
 zab t173 true H (fun K'=>zac .eql false t177 (.int .i64 0) (K' · H)) fun t178 H=>
 zaj t173 t178 (.bool false) fun t179=>
 K t179 H)
 (K (.bool false) H))))))))
theorem zR1 {t0 t1 t2:AV} {H:zaa} {K:Kt} (h:HSc H→zex t0 t1 t2 H K):ACalls tP zjK [t0,t1,t2] H K:=
 zan (M:=zRZ) Tryz.func77 (c:=zR0) (by kernel_rfl) (fun hs=>Eq.mpr (by kernel_rfl) (h hs))
def zII (_:Nat):List Bool:=[]
noncomputable def zIJ:Code:=Tryz.f124.body.getD .skip
def zy6 (t0 t1 t2:AV) (H:zaa) (K:Kt):Prop:=
 zao t0 H fun t3 H=>
 zcs zpp [t3] fun t9=>
 ACalls tP zpo [t1,t2,t9] H fun t10 H=>
 K t10 H
theorem zIK {t0 t1 t2:AV} {H:zaa} {K:Kt} (h:HSc H→zy6 t0 t1 t2 H K):ACalls tP zhy [t0,t1,t2] H K:=
 zan (M:=zII) Tryz.func124 (c:=zIJ) (by kernel_rfl) (fun hs=>Eq.mpr (by kernel_rfl) (h hs))
def zIL (_:Nat):List Bool:=[]
noncomputable def zIM:Code:=Tryz.f125.body.getD .skip
def zy7 (t0 t1 t2:AV) (H:zaa) (K:Kt):Prop:=
 zao t0 H fun t3 H=>
 zad H (fun K'=>zal false 1 t1 H (K' · H)) fun t5=>
 zad H (fun K'=>zal true 3 t3 H (K' · H)) fun t6=>
 zad H (fun K'=>zaf 2 t2 (K' · H)) fun t7=>
 zad H (fun K'=>zal false 1 t7 H (K' · H)) fun t8=>
 zad H (fun K'=>zai 3 t8 (.int .i64 0) (K' · H)) fun t9=>
 zad H (fun K'=>zal true 3 t9 H (K' · H)) fun t10=>
 zaE H (fun H K'=>ACalls tP zjK [t5,t6,t10] H K') fun t11=>
 zad H (fun K'=>aUn .not t11 (K' · H)) fun t12=>
 zad H (fun K'=>K' t12 H) fun t4=>
 K t4 H
theorem zIN {t0 t1 t2:AV} {H:zaa} {K:Kt} (h:HSc H→zy7 t0 t1 t2 H K):ACalls tP zpa [t0,t1,t2] H K:=
 zan (M:=zIL) Tryz.func125 (c:=zIM) (by kernel_rfl) (fun hs=>Eq.mpr (by kernel_rfl) (h hs))
def zlE:Nat→List Bool
 | 4=>rl false [1,2,12,3,14]
 | _=>[]
noncomputable def zsf:Code:=Tryz.f167.body.getD .skip
noncomputable def zLJ:List ResultVar:=Tryz.f167.results.toList
def zlF (t1 t2 t15 t16 t17:AV):List AV:=ux 1 (t1::t2::ux 12 (t15::t16::t17::ux 14 []))
def zLH:List Bool:=zlE 4
noncomputable def zLF:Code:=zap [1,1,0,1,0,0] zsf
def zLE (K:Kt):AExit→List AV→zaa→Prop:=zaq tP zlE [1,1,0,1,0] zsf (zaA tP zLJ K)
def zAi (t1 t2 t15 t16 t17:AV) (H:zaa) (K:Kt):Prop:=ALoop tP zLF (zLE K) (zlF t1 t2 t15 t16 t17) H
def zse (t1 t2 t15 t16 t17:AV) (H:zaa) (K:Kt) (Kb4:Lt):Prop:=
 zac .lss false t17 t16 fun t18=>
 zag t18
 (zai 3 t15 t17 fun t20=>
 zae true 3 t20 H fun t21=>
 zaw [(.int .i64 0),(.int .i64 0),.snil] H fun t8 H=>
 zam 3 t8 t21 H fun H=>
 zai 3 t1 t17 fun t24=>
 zae true 3 t24 H fun t25=>
 zaw [(.int .i64 0),(.int .i64 0),.snil] H fun t9 H=>
 zam 3 t9 t25 H fun H=>
 zae true 3 t8 H fun t27=>
 zae true 3 t9 H fun t28=>
 aCallV tP t2 [t27,t28] H fun t29 H=>
 aUn .not t29 fun t30=>
 zag t30
 (K (.bool false) H)
 (zac .add false t17 (.int .i64 1) fun t31=>
 Kb4 (zlF t1 t2 t15 t16 t31) H))
 (K (.bool true) H)
def zsd (t0 t1 t2:AV) (H:zaa) (K:Kt):Prop:=
 zah 1 t0 fun t11=>
 zah 1 t1 fun t13=>
 zac .neq false t11 t13 fun t14=>
 zag t14
 (K (.bool false) H)
 (zah 1 t0 fun t16=>
 zAi t1 t2 t0 t16 (.int .i64 0) H K)
theorem zLG {t1 t2 t15 t16 t17:AV} {H:zaa} {K:Kt} (Inv:Nat→AV→zaa→Prop) (n:Nat) (h0:HSc H→Inv n t17 H)
  (round:Rd1 (fun t17=>zlF t1 t2 t15 t16 t17) (fun t17=>fun H Kb4=>zse t1 t2 t15 t16 t17 H K Kb4) H Inv):zAi t1 t2 t15 t16 t17 H K:=
 lp1 (M:=zlE) zLH t17 (by kernel_rfl) Inv n h0 round
theorem zLI {t0 t1 t2:AV} {H:zaa} {K:Kt} (h:HSc H→zsd t0 t1 t2 H K):ACalls tP zpo [t0,t1,t2] H K:=
 zan (M:=zlE) Tryz.func167 (c:=zsf) (by kernel_rfl) (fun hs=>Eq.mpr (by kernel_rfl) (h hs))
def zLK (_:Nat):List Bool:=[]
noncomputable def zLL:Code:=Tryz.f168.body.getD .skip
def zAj (t0 t1 t2:AV) (H:zaa) (K:Kt):Prop:=
 zao t0 H fun t3 H=>
 zao t1 H fun t4 H=>
 zae false 1 t2 H fun t6=>
 zae true 3 t3 H fun t7=>
 zae true 3 t4 H fun t8=>
 ACalls tP zjK [t6,t7,t8] H fun t9 H=>
 K t9 H
theorem zLM {t0 t1 t2:AV} {H:zaa} {K:Kt} (h:HSc H→zAj t0 t1 t2 H K):ACalls tP zpp [t0,t1,t2] H K:=
 zan (M:=zLK) Tryz.func168 (c:=zLL) (by kernel_rfl) (fun hs=>Eq.mpr (by kernel_rfl) (h hs))
end Go.Proofs.YtjkkonpjecoieaaGreat
