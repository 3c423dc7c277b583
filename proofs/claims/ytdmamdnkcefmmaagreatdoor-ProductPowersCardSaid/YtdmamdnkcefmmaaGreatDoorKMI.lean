import Derived.Test.YtdmamdnkcefmmaaGreatDoorKNum
import Derived.Test.YtdmamdnkcefmmaaGreatDoorProg
import Derived.KernelRfl
import Derived.Test.YtdmamdnkcefmmaaGreatDoorKY4
import Derived.Test.YtdmamdnkcefmmaaGreatDoorKPW
import Derived.Test.YtdmamdnkcefmmaaGreatDoorKI2
import Derived.Test.YtdmamdnkcefmmaaGreatDoorKZ4
import Derived.Test.YtdmamdnkcefmmaaGreatDoorVO
import Derived.Test.YtdmamdnkcefmmaaGreatDoorKMG
set_option linter.unusedSimpArgs false
set_option linter.unusedVariables false
set_option maxRecDepth 100000
namespace Go.Proofs.YtdmamdnkcefmmaaGreatDoor
section
variable (t0 t1 t2 t3 t4 t5 t6 t7 t8 t9 t11 t13 t15 t16 t17 t18 t20 t21 t33 t34 t35 t37 t38 t39 t42 t43 t44 t45 t57 t58 t59 t64 t65 t66 t78 t79 t80 t118 t119 t120 t124 t125 t126:AV) (H:zaa) (K:Kt) (Kb2 Kb3 Kb5 Kb6 Kb7 Kb12 Kb13 Kb19 Kb21:Lt)
def zo2:Nat→List Bool|2=>rl false [0,1,3,2,1,1,82]|400002=>rl false [0,1]|400004=>rl false [0,1]|400005=>rl false [0,1]|_=>[]
noncomputable def zwp:=Tryz.f63.body.getD .skip
noncomputable def zX5:=Tryz.f63.results.toList
def zo3:=t0::ux 3 (t4::t5::ux 1 (t7::ux 82 []))
def zX3:=zo2 2
noncomputable def zX1:=zar [1,1,0,0,0] zwp
def zX0:=zas tP zo2 [1,1,0,0] zwp (zaB tP zX5 K)
def zFV:=ALoop tP zX1 (zX0 K) (zo3 t0 t4 t5 t7) H
def zwq:=K t0 H
def zwo:=apm H t7 λt8=>apm H t0 λt9=>apu H (zah 1 t9) λt10=>apu H (zac .lss false t8 t10) λt11=>apm H t11 λt12=>zad t12 true H (λK'=>zab H (λK''=>K'' t0 H) (K' · H)) λt13 H=>zad t12 true H (λK'=>zab H (λK''=>K'' t7 H) (K' · H)) λt14 H=>zad t12 true H (λK'=>zab H (λK''=>zak 5 t13 t14 (K'' · H)) (K' · H)) λt15 H=>zad t12 true H (λK'=>zab H (λK''=>zaf 0 t15 (K'' · H)) (K' · H)) λt16 H=>zad t12 true H (λK'=>zab H (λK''=>zae true 2 t16 H (K'' · H)) (K' · H)) λt17 H=>zad t12 true H (λK'=>zab H (λK''=>zae true 2 t4 H (K'' · H)) (K' · H)) λt18 H=>zad t12 true H (λK'=>zaC H (λH K''=>ACalls tP zgL [t17,t18] H K'') (K' · H)) λt19 H=>zad t12 true H (λK'=>zab H (λK''=>zac .lss false t19 (.int .i64 0) (K'' · H)) (K' · H)) λt20 H=>apu H (zam t12 t20 (.bool false)) λt21=>zag t21 (zac .add false t7 (.int .i64 1) λt23=>Kb2 (zo3 t0 t4 t5 t23) H) (apm H t7 λt24=>apm H t0 λt25=>apu H (zah 1 t25) λt26=>apu H (zac .lss false t24 t26) λt27=>apm H t27 λt28=>zad t28 true H (λK'=>zab H (λK''=>K'' t0 H) (K' · H)) λt29 H=>zad t28 true H (λK'=>zab H (λK''=>K'' t7 H) (K' · H)) λt30 H=>zad t28 true H (λK'=>zab H (λK''=>zak 5 t29 t30 (K'' · H)) (K' · H)) λt31 H=>zad t28 true H (λK'=>zab H (λK''=>zaf 0 t31 (K'' · H)) (K' · H)) λt32 H=>zad t28 true H (λK'=>zab H (λK''=>zae true 2 t32 H (K'' · H)) (K' · H)) λt33 H=>zad t28 true H (λK'=>zab H (λK''=>zae true 2 t4 H (K'' · H)) (K' · H)) λt34 H=>zad t28 true H (λK'=>zaC H (λH K''=>ACalls tP zgL [t33,t34] H K'') (K' · H)) λt35 H=>zad t28 true H (λK'=>zab H (λK''=>zac .eql false t35 (.int .i64 0) (K'' · H)) (K' · H)) λt36 H=>apu H (zam t28 t36 (.bool false)) λt37=>zag t37 (apm H t0 λt38=>apm H t7 λt39=>apm H t0 λt40=>apm H t7 λt41=>apu H (zak 5 t40 t41) λt42=>apu H (zaf 2 t42) λt43=>apu H (zae true 3 t43 H) λt44=>apu H (zae true 3 t5 H) λt45=>zaC H (λH K'=>ACalls tP zrU [t44,t45] H K') λt46=>apu H (zak 5 t38 t39) λt47=>apu H (zaf 2 t47) λt48=>zan 3 t48 t46 H λH=>zak 5 t0 t7 λt51=>zaf 2 t51 λt52=>zae true 3 t52 H λt53=>ACalls tP zih [t53] H λt54 H=>zac .eql false t54 (.int .i64 0) λt55=>zag t55 (apm H t0 λt56=>apm H t7 λt57=>apu H (zaN 1 5 t56 none (some t57)) λt58=>apm H t0 λt59=>apm H t7 λt60=>apu H (zac .add false t60 (.int .i64 1)) λt61=>apu H (zaN 1 5 t59 (some t61) none) λt62=>zax zau 5 88 t58 t62 H λt63 H=>apm H t63 λt0=>zwq t0 H K) (zwq t0 H K)) (zae true 3 t5 H λt65=>ACalls tP zih [t65] H λt66 H=>zac .eql false t66 (.int .i64 0) λt67=>zag t67 (K t0 H) (zaq [(.int .i64 0),.snil,(.bool false),.snil,.snil] [(0,2),(2,3)] [] λt70=>zaw 5 [(.int .i64 0),.snil,(.bool false),.snil,.snil] 1 [(0,t70)] λt71=>zax zau 5 88 t0 t71 H λt72 H=>apm H t72 λt73=>apm H t7 λt74=>apu H (zac .add false t74 (.int .i64 1)) λt75=>apu H (zaN 1 5 t73 (some t75) none) λt76=>apm H t72 λt77=>apm H t7 λt78=>apu H (zaN 1 5 t77 (some t78) none) λt79=>zfA 5 t76 t79 H λt80 H=>apm H t72 λt81=>apm H t7 λt82=>apu H (zaj true 2 t4 H) λt83=>zaC H (λH K'=>ACalls tP zia [t83] H K') λt84=>apu H (zaj true 3 t5 H) λt85=>zaC H (λH K'=>ACalls tP zd0 [t85] H K') λt86=>apu H (zaq [(.int .i64 0),.snil,(.bool false),.snil,.snil] [(0,2),(2,3)] [(0,t84),(1,t86)]) λt87=>apu H (zak 5 t81 t82) λt88=>zan 5 t88 t87 H λH=>K t72 H)))
def zFU:=zav t1 H λt4 H=>zav t2 H λt5 H=>zFV t0 t4 t5 (.int .i64 0) H K
def zes:Nat→List Bool|6=>rl false [9,1,23,3,56]|13=>rl false [9,1,47,3,32]|19=>rl false [9,1,68,3,11]|_=>[]
noncomputable def zgo:=Tryz.f45.body.getD .skip
noncomputable def zv1:=Tryz.f45.results.toList
def zoB:=ux 9 (t9::ux 23 (t33::t34::t35::ux 56 []))
def zWI:=zes 6
noncomputable def zWC:=zar [1,1,0,1,0,1,0,1,0,0] zgo
def zWz:=zas tP zes [1,1,0,1,0,1,0,1,0] zgo (zaB tP zv1 K)
def zoF:=ALoop tP zWC (zWz K) (zoB t9 t33 t34 t35) H
def zoC:=K t9 H
def zgp:=zoC t9 H K
def zv0:=zac .lss false t35 t34 λt36=>zag t36 (zak 4 t33 t35 λt37=>zae true 4 t37 H λt38=>zaz [.snil,(.bool false),.snil,.snil] H λt11 H=>zan 4 t11 t38 H λH=>zaf 0 t11 λt40=>zae false 1 t40 H λt41=>zaq [(.int .i64 0),.snil] [(0,1),(1,1)] [(1,t41)] λt42=>zaf 1 t11 λt43=>zae true 3 t43 H λt44=>ACalls tP zc2 [t9,t42,t44] H λt45 H=>zac .add false t35 (.int .i64 1) λt46=>Kb6 (zoB t45 t33 t34 t46) H) (zgp t9 H K)
def zoz:=ux 9 (t9::ux 47 (t57::t58::t59::ux 32 []))
def zWG:=zes 13
noncomputable def zWA:=zar [1,1,0,1,0,1,1,1,0,1,1,0,0] zgo
def zWx:=zas tP zes [1,1,0,1,0,1,1,1,0,1,1,0] zgo (zaB tP zv1 K)
def zoD:=ALoop tP zWA (zWx K) (zoz t9 t57 t58 t59) H
def zvY:=zac .lss false t59 t58 λt60=>zag t60 (zak 3 t57 t59 λt62=>zae true 3 t62 H λt63=>zaz [(.bool false),.snil,.snil] H λt15 H=>zan 3 t15 t63 H λH=>zaq [(.int .i64 0),.snil] [(0,1),(1,1)] [(0,t59)] λt66=>zae true 3 t15 H λt67=>ACalls tP zc2 [t9,t66,t67] H λt68 H=>zac .add false t59 (.int .i64 1) λt69=>Kb13 (zoz t68 t57 t58 t69) H) (zgp t9 H K)
def zoA:=ux 9 (t9::ux 68 (t78::t79::t80::ux 11 []))
def zWH:=zes 19
noncomputable def zWB:=zar [1,1,0,1,0,1,1,1,1,1,0,1,0,0] zgo
def zWy:=zas tP zes [1,1,0,1,0,1,1,1,1,1,0,1,0] zgo (zaB tP zv1 K)
def zoE:=ALoop tP zWB (zWy K) (zoA t9 t78 t79 t80) H
def zvZ:=zac .lss false t80 t79 λt81=>zag t81 (zak 5 t78 t80 λt82=>zae true 5 t82 H λt83=>zaz [(.int .i64 0),.snil,(.bool false),.snil,.snil] H λt17 H=>zan 5 t17 t83 H λH=>zaf 0 t17 λt85=>zae true 2 t85 H λt86=>zaf 2 t17 λt87=>zae true 3 t87 H λt88=>ACalls tP zc2 [t9,t86,t88] H λt89 H=>zac .add false t80 (.int .i64 1) λt90=>Kb19 (zoA t89 t78 t79 t90) H) (zgp t9 H K)
def zjg:=zav t1 H λt5 H=>zav t2 H λt6 H=>zav t3 H λt7 H=>zaf 0 t5 λt18=>zae false 1 t18 H λt19=>zac .eql false t19 (.int .i64 6) λt25=>zag t25 (zaf 2 t5 λt27=>zae false 1 t27 H λt28=>zaf 1 t6 λt29=>zae false 1 t29 H λt30=>zaf 1 t7 λt31=>zae false 1 t31 H λt32=>ACalls tP zkO [t0,t28,t30,t32] H λt33 H=>zah 1 t33 λt34=>zoF .snil t33 t34 (.int .i64 0) H K) (zac .eql false t19 (.int .i64 7) λt48=>zag t48 (zaf 0 t6 λt50=>zae false 1 t50 H λt51=>zaf 0 t7 λt52=>zae false 1 t52 H λt53=>ACalls tP zr3 [t51,t53] H λt54 H=>zaE t54 0 λt55=>zaE t54 1 λt56=>zah 1 t55 λt58=>zoD .snil t55 t58 (.int .i64 0) H K) (zac .eql false t19 (.int .i64 5) λt71=>zag t71 (zae true 3 t5 H λt73=>zaf 1 t6 λt74=>zae false 1 t74 H λt75=>zaf 1 t7 λt76=>zae false 1 t76 H λt77=>ACalls tP zgV [t0,t73,t75,t77] H λt78 H=>zah 1 t78 λt79=>zoE .snil t78 t79 (.int .i64 0) H K) (zaq [(.int .i64 0),.snil] [(0,1),(1,1)] [] λt21=>ACalls tP zdJ [(.int .i64 1)] H λt22 H=>ACalls tP zc2 [.snil,t21,t22] H λt23 H=>zgp t23 H K)))
def zew:Nat→List Bool|3=>rl false [0,4,5,1,10,2,48]|7=>rl false [0,4,5,1,1,1,8,2,15,3,30]|10=>rl false [0,4,5,1,1,1,1,1,6,2,15,3,3,3,24]|_=>[]
noncomputable def zwR:=Tryz.f88.body.getD .skip
noncomputable def zZF:=Tryz.f88.results.toList
def zjo:=t0::t1::t2::t3::ux 5 (t9::ux 10 (t20::t21::ux 48 []))
def zGA:=zew 3
noncomputable def zwS:=zar [1,1,0,1,0,0] zwR
def zGw:=zas tP zew [1,1,0,1,0] zwR (zaB tP zZF K)
def zGz:=ALoop tP zwS (zGw K) (zjo t0 t1 t2 t3 t9 t20 t21) H
def zpr:=t0::t1::t2::t3::ux 5 (t9::ux 1 (t11::ux 8 (t20::t21::ux 15 (t37::t38::t39::ux 30 []))))
def zGB:=zew 7
noncomputable def zwT:=zar [1,1,0,0,1,1,0,1,0,0] zwS
def zGx:=zas tP zew [1,1,0,0,1,1,0,1,0] zwS (zbC zGA Kb3 (zGw K))
def zps:=ALoop tP zwT (zGx K Kb3) (zpr t0 t1 t2 t3 t9 t11 t20 t21 t37 t38 t39) H
def zpq:=t0::t1::t2::t3::ux 5 (t9::ux 1 (t11::ux 1 (t13::ux 6 (t20::t21::ux 15 (t37::t38::t39::ux 3 (t43::t44::t45::ux 24 []))))))
def zZD:=zew 10
noncomputable def zZz:=zar [1,1,0,0,1,1,0,0] zwT
def zZy:=zas tP zew [1,1,0,0,1,1,0] zwT (zbC zGB Kb7 (zGx K Kb3))
def zGy:=ALoop tP zZz (zZy K Kb3 Kb7) (zpq t0 t1 t2 t3 t9 t11 t13 t20 t21 t37 t38 t39 t43 t44 t45) H
def zwO(t0 t1 t2 t3 t9 t11 t13 t20 t21 t37 t38 t39 t43 t44 t45:AV)(H:zaa)(K:Kt)(Kb3:Lt)(Kb7:Lt)(Kb10:Lt):Prop:=zac .lss false t45 t44 λt46=>zag t46 (zak 4 t43 t45 λt47=>zae true 4 t47 H λt48=>zaz [.snil,(.bool false),.snil,.snil] H λt15 H=>zan 4 t15 t48 H λH=>apm H t11 λt49=>apu H (zaf 0 t15) λt50=>apu H (zaj false 1 t50 H) λt51=>zax zaY 2 32 .snil t51 H λt52 H=>apu H (zaf 0 t13) λt53=>apu H (zaj true 2 t53 H) λt54=>apu H (zaw 2 [(.int .i64 0),.snil] 1 [(0,t54)]) λt55=>zax zaY 2 32 t52 t55 H λt56 H=>apu H (zaf 1 t15) λt57=>apu H (zaj true 3 t57 H) λt58=>apu H (zaf 2 t13) λt59=>apu H (zaj true 3 t59 H) λt60=>zaC H (λH K'=>ACalls tP zfi [t58,t60] H K') λt61=>apu H (zaq [.snil,(.bool false),.snil,.snil] [(0,1),(1,3)] [(0,t56),(1,t61)]) λt62=>apu H (zaw 4 [.snil,(.bool false),.snil,.snil] 1 [(0,t62)]) λt63=>zax zdI 4 80 t49 t63 H λt64 H=>apm H t64 λt11=>zac .add false t45 (.int .i64 1) λt65=>Kb10 (zpq t0 t1 t2 t3 t9 t11 t13 t20 t21 t37 t38 t39 t43 t44 t65) H) (zac .add false t39 (.int .i64 1) λt66=>Kb7 (zpr t0 t1 t2 t3 t9 t11 t20 t21 t37 t38 t66) H)
def zwQ:=zac .lss false t39 t38 λt40=>zag t40 (zak 5 t37 t39 λt41=>zae true 5 t41 H λt42=>zaz [(.int .i64 0),.snil,(.bool false),.snil,.snil] H λt13 H=>zan 5 t13 t42 H λH=>zah 1 t9 λt44=>zGy t0 t1 t2 t3 t9 t11 t13 t20 t21 t37 t38 t39 t9 t44 (.int .i64 0) H K Kb3 Kb7) (zac .add false t21 (.int .i64 1) λt68=>Kb3 (zjo t0 t1 t2 t3 t11 t20 t68) H)
def zwP:=zac .lss false t21 t20 λt22=>zag t22 (apm H t0 λt24=>apm H t1 λt25=>apm H t21 λt26=>apu H (zak 3 t25 t26) λt27=>apu H (zaj true 3 t27 H) λt28=>apm H t2 λt29=>apm H t21 λt30=>apu H (zak 2 t29 t30) λt31=>apu H (zaj true 2 t31 H) λt32=>apm H t3 λt33=>apm H t21 λt34=>apu H (zak 2 t33 t34) λt35=>apu H (zaj true 2 t35 H) λt36=>zaC H (λH K'=>ACalls tP zkD [t24,t28,t32,t36] H K') λt37=>apu H (zah 1 t37) λt38=>apm H (.int .i64 0) λt39=>zps t0 t1 t2 t3 t9 .snil t20 t21 t37 t38 t39 H K Kb3) (K t9 H)
def zGv:=ACalls tP zdJ [(.int .i64 1)] H λt16 H=>zaq [.snil,(.bool false),.snil,.snil] [(0,1),(1,3)] [(0,.snil),(1,t16)] λt17=>zaw 4 [.snil,(.bool false),.snil,.snil] 1 [(0,t17)] λt18=>zah 1 t1 λt20=>zGz t0 t1 t2 t3 t18 t20 (.int .i64 0) H K
def zdz:Nat→List Bool|7=>rl false [0,1,1,2,1,1,3,1,32,3,105]|200009=>rl false [0,6]|12=>rl false [0,1,1,2,1,1,3,1,54,3,83]|200014=>rl false [0,6]|21=>rl false [2,1,6,1,6,1,101,3,29]|24=>rl false [2,1,6,1,6,1,1,1,99,3,3,3,23]|200026=>rl false [0,6]|_=>[]
noncomputable def zgu:=Tryz.f90.body.getD .skip
noncomputable def zw2:=Tryz.f90.results.toList
def zpC:=t0::ux 1 (t2::t3::ux 1 (t5::ux 3 (t9::ux 32 (t42::t43::t44::ux 105 []))))
def zZZ:=zdz 7
noncomputable def zZS:=zar [1,1,1,1,0,1,0,0] zgu
def zZP:=zas tP zdz [1,1,1,1,0,1,0] zgu (zaB tP zw2 K)
def zpD:=ALoop tP zZS (zZP K) (zpC t0 t2 t3 t5 t9 t42 t43 t44) H
def zpz:=t0::ux 1 (t2::t3::ux 1 (t5::ux 3 (t9::ux 54 (t64::t65::t66::ux 83 []))))
def zZX:=zdz 12
noncomputable def zZQ:=zar [1,1,1,1,1,0,1,0,0] zgu
def zZN:=zas tP zdz [1,1,1,1,1,0,1,0] zgu (zaB tP zw2 K)
def zw0:=ALoop tP zZQ (zZN K) (zpz t0 t2 t3 t5 t9 t64 t65 t66) H
def zpA:=ux 2 (t2::ux 6 (t9::ux 6 (t16::ux 101 (t118::t119::t120::ux 29 []))))
def zGF:=zdz 21
noncomputable def zwZ:=zar [1,1,1,1,1,1,1,1,1,0,1,0,0] zgu
def zGD:=zas tP zdz [1,1,1,1,1,1,1,1,1,0,1,0] zgu (zaB tP zw2 K)
def zw1:=ALoop tP zwZ (zGD K) (zpA t2 t9 t16 t118 t119 t120) H
def zpB:=ux 2 (t2::ux 6 (t9::ux 6 (t16::ux 1 (t18::ux 99 (t118::t119::t120::ux 3 (t124::t125::t126::ux 23 []))))))
def zZY:=zdz 24
noncomputable def zZR:=zar [1,1,0,0,1,1,0,0] zwZ
def zZO:=zas tP zdz [1,1,0,0,1,1,0] zwZ (zbC zGF Kb21 (zGD K))
def zGE:=ALoop tP zZR (zZO K Kb21) (zpB t2 t9 t16 t18 t118 t119 t120 t124 t125 t126) H
def zwX(t2 t9 t16 t18 t118 t119 t120 t124 t125 t126:AV)(H:zaa)(K:Kt)(Kb21:Lt)(Kb24:Lt):Prop:=zac .lss false t126 t125 λt127=>zag t127 (zak 5 t124 t126 λt128=>zae true 5 t128 H λt129=>zaz [(.int .i64 0),.snil,(.bool false),.snil,.snil] H λt20 H=>zan 5 t20 t129 H λH=>apm H t9 λt130=>apm H t2 λt131=>apu H (zak 2 t131 (.int .i64 0)) λt132=>apu H (zaf 0 t132) λt133=>apu H (zaj false 1 t133 H) λt134=>apu H (zaf 0 t18) λt135=>apu H (zaj false 1 t135 H) λt136=>apu H (zaq [(.int .i64 0),.snil] [(0,1),(1,1)] [(0,t134),(1,t136)]) λt137=>apu H (zaf 0 t20) λt138=>apu H (zaj true 2 t138 H) λt139=>zaC H (λH K'=>ACalls tP zic [t137,t139] H K') λt140=>apu H (zaf 1 t18) λt141=>apu H (zaj true 3 t141 H) λt142=>apu H (zaf 2 t20) λt143=>apu H (zaj true 3 t143 H) λt144=>zaC H (λH K'=>ACalls tP zfi [t142,t144] H K') λt145=>ACalls tP zc2 [t130,t140,t145] H λt146 H=>zac .add false t126 (.int .i64 1) λt147=>Kb24 (zpB t2 t146 t16 t18 t118 t119 t120 t124 t125 t147) H) (zac .add false t120 (.int .i64 1) λt148=>Kb21 (zpA t2 t9 t16 t118 t119 t148) H)
def zwW:=zac .lss false t120 t119 λt121=>zag t121 (zak 4 t118 t120 λt122=>zae true 4 t122 H λt123=>zaz [.snil,(.bool false),.snil,.snil] H λt18 H=>zan 4 t18 t123 H λH=>zah 1 t16 λt125=>zGE t2 t9 t16 t18 t118 t119 t120 t16 t125 (.int .i64 0) H K Kb21) (K t9 H)
def zpy:=zac .lss false t66 t65 λt67=>zag t67 (zak 5 t64 t66 λt68=>zae true 5 t68 H λt69=>zaz [(.int .i64 0),.snil,(.bool false),.snil,.snil] H λt13 H=>zan 5 t13 t69 H λH=>apm H t9 λt70=>apm H t3 λt71=>apu H (zak 2 t71 (.int .i64 0)) λt72=>apu H (zaj true 2 t72 H) λt73=>apu H (zaf 0 t13) λt74=>apu H (zaj true 2 t74 H) λt75=>zaC H (λH K'=>ACalls tP zic [t73,t75] H K') λt76=>apu H (zaf 2 t13) λt77=>apu H (zaj true 3 t77 H) λt78=>ACalls tP zc2 [t70,t76,t78] H λt79 H=>zac .add false t66 (.int .i64 1) λt80=>Kb12 (zpz t0 t2 t3 t5 t79 t64 t65 t80) H) (apm H t2 λt81=>apu H (zak 2 t81 (.int .i64 0)) λt82=>apu H (zaf 0 t82) λt83=>apu H (zaj false 1 t83 H) λt84=>apm H t3 λt85=>apu H (zak 2 t85 (.int .i64 0)) λt86=>apu H (zaf 0 t86) λt87=>apu H (zaj false 1 t87 H) λt88=>apu H (zac .neq false t84 t88) λt89=>zag t89 (K t9 H) (apm H t0 λt92=>apu H (zaj true 3 t5 H) λt93=>apm H t2 λt94=>apu H (zak 2 t94 (.int .i64 0)) λt95=>apu H (zaf 0 t95) λt96=>apu H (zaj false 1 t96 H) λt97=>zaC H (λH K'=>ACalls tP zj2 [t92,t93,t97] H K') λt98=>apm H t98 λt91=>apu H (zaE t91 0) λt99=>apu H (zaE t91 1) λt100=>apm H t99 λt14=>apm H t100 λt15=>apm H t0 λt101=>apu H (zaj true 3 t5 H) λt102=>apm H t2 λt103=>zab H (λK'=>zaN 1 2 t103 (some (.int .i64 1)) none (K' · H)) λt104=>apm H t3 λt105=>zab H (λK'=>zaN 1 2 t105 (some (.int .i64 1)) none (K' · H)) λt106=>zaC H (λH K'=>ACalls tP zgV [t101,t102,t104,t106] H K') λt107=>apm H t107 λt16=>apm H t0 λt108=>apm H t14 λt109=>apm H t2 λt110=>apu H (zak 2 t110 (.int .i64 0)) λt111=>apu H (zaf 1 t111) λt112=>apu H (zaj false 1 t112 H) λt113=>apm H t3 λt114=>apu H (zak 2 t114 (.int .i64 0)) λt115=>apu H (zaf 1 t115) λt116=>apu H (zaj false 1 t116 H) λt117=>zaC H (λH K'=>ACalls tP zkO [t108,t109,t113,t117] H K') λt118=>apu H (zah 1 t118) λt119=>apm H (.int .i64 0) λt120=>zw1 t2 t9 t16 t118 t119 t120 H K))
def zwY:=zac .lss false t44 t43 λt45=>zag t45 (zak 5 t42 t44 λt46=>zae true 5 t46 H λt47=>zaz [(.int .i64 0),.snil,(.bool false),.snil,.snil] H λt11 H=>zan 5 t11 t47 H λH=>apm H t9 λt48=>apm H t2 λt49=>apu H (zak 2 t49 (.int .i64 0)) λt50=>apu H (zaj true 2 t50 H) λt51=>apu H (zaf 0 t11) λt52=>apu H (zaj true 2 t52 H) λt53=>zaC H (λH K'=>ACalls tP zic [t51,t53] H K') λt54=>apu H (zaf 2 t11) λt55=>apu H (zaj true 3 t55 H) λt56=>ACalls tP zc2 [t48,t54,t56] H λt57 H=>zac .add false t44 (.int .i64 1) λt58=>Kb7 (zpC t0 t2 t3 t5 t57 t42 t43 t58) H) (apm H t0 λt59=>apu H (zaj true 3 t5 H) λt60=>apm H t2 λt61=>apm H t3 λt62=>zab H (λK'=>zaN 1 2 t62 (some (.int .i64 1)) none (K' · H)) λt63=>zaC H (λH K'=>ACalls tP zgV [t59,t60,t61,t63] H K') λt64=>apu H (zah 1 t64) λt65=>apm H (.int .i64 0) λt66=>zw0 t0 t2 t3 t5 t9 t64 t65 t66 H K)
def zpx:=zav t1 H λt5 H=>zah 1 t2 λt22=>zac .eql false t22 (.int .i64 0) λt23=>zag t23 (zaq [(.int .i64 0),.snil] [(0,1),(1,1)] [(1,t3)] λt26=>ACalls tP zdJ [(.int .i64 1)] H λt27 H=>ACalls tP zc2 [.snil,t26,t27] H λt28 H=>K t28 H) (zah 1 t3 λt30=>zac .eql false t30 (.int .i64 0) λt31=>zag t31 (zaq [(.int .i64 0),.snil] [(0,1),(1,1)] [(1,t2)] λt34=>ACalls tP zdJ [(.int .i64 1)] H λt35 H=>ACalls tP zc2 [.snil,t34,t35] H λt36 H=>K t36 H) (apm H t0 λt37=>apu H (zaj true 3 t5 H) λt38=>apm H t2 λt39=>zab H (λK'=>zaN 1 2 t39 (some (.int .i64 1)) none (K' · H)) λt40=>apm H t3 λt41=>zaC H (λH K'=>ACalls tP zgV [t37,t38,t40,t41] H K') λt42=>apu H (zah 1 t42) λt43=>apm H (.int .i64 0) λt44=>zpD t0 t2 t3 t5 .snil t42 t43 t44 H K))
def zgq:Nat→List Bool|3=>rl false [0,1,1,1,1,1,2,2,25]|6=>rl false [0,1,1,1,1,1,2,2,6,3,16]|_=>[]
noncomputable def zv4:=Tryz.f46.body.getD .skip
noncomputable def zWQ:=Tryz.f46.results.toList
def zoG:=t0::ux 1 (t2::ux 1 (t4::ux 2 (t7::t8::ux 25 [])))
def zFt:=zgq 3
noncomputable def zv5:=zar [1,1,0,1,0,0] zv4
def zFr:=zas tP zgq [1,1,0,1,0] zv4 (zaB tP zWQ K)
def zoI:=ALoop tP zv5 (zFr K) (zoG t0 t2 t4 t7 t8) H
def zjh:=t0::ux 1 (t2::ux 1 (t4::ux 2 (t7::t8::ux 6 (t15::t16::t17::ux 16 []))))
def zWO:=zgq 6
noncomputable def zWL:=zar [1,0,0,1,0,0] zv5
def zWK:=zas tP zgq [1,0,0,1,0] zv5 (zbC zFt Kb3 (zFr K))
def zFs:=ALoop tP zWL (zWK K Kb3) (zjh t0 t2 t4 t7 t8 t15 t16 t17) H
def zv6(t0 t2 t4 t7 t8 t15 t16 t17:AV)(H:zaa)(K:Kt)(Kb3:Lt)(Kb6:Lt):Prop:=zac .add false t17 (.int .i64 1) λt32=>Kb6 (zjh t0 t2 t4 t7 t8 t15 t16 t32) H
def zoH:=zv6 t0 t2 t4 t7 t8 t15 t16 t17 H K Kb3 Kb6
def zv3:=zac .lss false t17 t16 λt18=>zag t18 (zak 5 t15 t17 λt19=>zae true 5 t19 H λt20=>zaz [(.int .i64 0),.snil,(.bool false),.snil,.snil] H λt10 H=>zan 5 t10 t20 H λH=>zae true 3 t4 H λt22=>zaf 0 t10 λt23=>zae true 2 t23 H λt24=>ACalls tP zr4 [t0,t22,t24] H λt25 H=>zac .eql false t25 t8 λt27=>zag t27 (zae true 5 t10 H λt29=>zaw 5 [(.int .i64 0),.snil,(.bool false),.snil,.snil] 1 [(0,t29)] λt30=>zax zau 5 88 t7 t30 H λt31 H=>zoH t0 t2 t4 t31 t8 t15 t16 t17 H K Kb3 Kb6) (zoH t0 t2 t4 t7 t8 t15 t16 t17 H K Kb3 Kb6)) (zac .add false t8 (.int .i64 1) λt14=>Kb3 (zoG t0 t2 t4 t7 t14) H)
def zv2:=zac .leq false t8 (.int .i64 6) λt12=>zag t12 (zah 1 t2 λt16=>zFs t0 t2 t4 t7 t8 t2 t16 (.int .i64 0) H K Kb3) (K t7 H)
def zFq:=zav t1 H λt4 H=>zoI t0 t2 t4 .snil (.int .i64 0) H K
def zpt:Nat→List Bool|5=>rl false [0,2,4,2,57]|_=>[]
noncomputable def zwV:=Tryz.f89.body.getD .skip
noncomputable def zZL:=Tryz.f89.results.toList
def zpu:=t0::t1::ux 4 (t6::t7::ux 57 [])
def zZJ:=zpt 5
noncomputable def zZH:=zar [1,1,1,0,1,0,0] zwV
def zZG:=zas tP zpt [1,1,1,0,1,0] zwV (zaB tP zZL K)
def zpw:=ALoop tP zZH (zZG K) (zpu t0 t1 t6 t7) H
def zpv(t0 t1 t6 t7 t8:AV)(H:zaa)(K:Kt)(Kb5:Lt):Prop:=zae true 3 t8 H λt61=>zaw 3 [(.bool false),.snil,.snil] 1 [(0,t61)] λt62=>zax zfK 3 56 t6 t62 H λt63 H=>zac .add false t7 (.int .i64 1) λt30=>Kb5 (zpu t0 t1 t63 t30) H
def zwU:=zac .add false t0 t1 λt27=>zac .leq false t7 t27 λt28=>zag t28 (ACalls tP zdJ [(.int .i64 0)] H λt31 H=>zaz [(.bool false),.snil,.snil] H λt8 H=>zan 3 t8 t31 H λH=>zfB t0 t1 λt35=>zac .geq false t7 t35 λt36=>zag t36 (zac .sub false t7 t0 λt39=>ACalls tP zgN [t39] H λt40 H=>zac .sub false t7 t1 λt43=>ACalls tP zgN [t43] H λt44 H=>ACalls tP zfi [t40,t44] H λt45 H=>zac .add false t0 t1 λt48=>zac .sub false t48 t7 λt50=>ACalls tP zgN [t50] H λt51 H=>ACalls tP zfi [t45,t51] H λt52 H=>zaz [(.bool false),.snil,.snil] H λt9 H=>zan 3 t9 t52 H λH=>apm H t7 λt54=>zaC H (λH K'=>ACalls tP zgN [t54] H K') λt55=>apu H (zaj true 3 t9 H) λt56=>zaC H (λH K'=>ACalls tP zrl [t55,t56] H K') λt57=>apm H t57 λt53=>apu H (zaE t53 0) λt58=>apu H (zaE t53 1) λt59=>zan 3 t8 t58 H λH=>zpv t0 t1 t6 t7 t8 H K Kb5) (zpv t0 t1 t6 t7 t8 H K Kb5)) (zaF [t6,(.bool true)] (K · H))
def zGC:=zac .lss false t0 (.int .i64 0) λt11=>zad t11 false H (λK'=>K' t1 H) λt13 H=>zad t11 false H (λK'=>zac .lss false t13 (.int .i64 0) (K' · H)) λt14 H=>zam t11 (.bool true) t14 λt15=>zad t15 false H (λK'=>K' t0 H) λt17 H=>zad t15 false H (λK'=>zac .gtr false t17 (.int .i64 16) (K' · H)) λt18 H=>zam t15 (.bool true) t18 λt19=>zad t19 false H (λK'=>K' t1 H) λt21 H=>zad t19 false H (λK'=>zac .gtr false t21 (.int .i64 16) (K' · H)) λt22 H=>zam t19 (.bool true) t22 λt23=>zag t23 (zaF [.snil,(.bool false)] (K · H)) (zpw t0 t1 .snil (.int .i64 0) H K)
def zZ1(_:Nat):List Bool:=[]
noncomputable def zZ2:=Tryz.f91.body.getD .skip
def zGG:=zav t1 H λt4 H=>zav t2 H λt5 H=>zae true 3 t4 H λt8=>zae true 2 t5 H λt9=>ACalls tP zip [t0,t8,t9] H λt10 H=>K t10 H
variable {t0 t1 t2 t3 t4 t5 t6 t7 t8 t9 t11 t13 t15 t16 t17 t18 t20 t21 t33 t34 t35 t37 t38 t39 t42 t43 t44 t45 t57 t58 t59 t64 t65 t66 t78 t79 t80 t118 t119 t120 t124 t125 t126} {H} {K} {Kb2 Kb3 Kb5 Kb6 Kb7 Kb12 Kb13 Kb19 Kb21}
theorem zX2:Lo1 (λt7=>zo3 t0 t4 t5 t7) (λt7 H Kb2=>zwo t0 t4 t5 t7 H K Kb2) t7 H (zFV t0 t4 t5 t7 H K):=lq1 zo2 zX3
theorem zX4(h:HSc H→zFU t0 t1 t2 H K):ACalls tP zc2 [t0,t1,t2] H K:=
 acb zo2 Tryz.func63 zwp h
theorem zWF:Lo2 (λt9 t35=>zoB t9 t33 t34 t35) (λt9 t35 H Kb6=>zv0 t9 t33 t34 t35 H K Kb6) t9 t35 H (zoF t9 t33 t34 t35 H K):=lq2 zes zWI
theorem zWD:Lo2 (λt9 t59=>zoz t9 t57 t58 t59) (λt9 t59 H Kb13=>zvY t9 t57 t58 t59 H K Kb13) t9 t59 H (zoD t9 t57 t58 t59 H K):=lq2 zes zWG
theorem zWE:Lo2 (λt9 t80=>zoA t9 t78 t79 t80) (λt9 t80 H Kb19=>zvZ t9 t78 t79 t80 H K Kb19) t9 t80 H (zoE t9 t78 t79 t80 H K):=lq2 zes zWH
theorem zWJ(h:HSc H→zjg t0 t1 t2 t3 H K):ACalls tP zkD [t0,t1,t2,t3] H K:=
 acb zes Tryz.func45 zgo h
theorem zZA:Lo2 (λt11 t45=>zpq t0 t1 t2 t3 t9 t11 t13 t20 t21 t37 t38 t39 t43 t44 t45) (λt11 t45 H Kb10=>zwO t0 t1 t2 t3 t9 t11 t13 t20 t21 t37 t38 t39 t43 t44 t45 H K Kb3 Kb7 Kb10) t11 t45 H (zGy t0 t1 t2 t3 t9 t11 t13 t20 t21 t37 t38 t39 t43 t44 t45 H K Kb3 Kb7):=lq2 zew zZD
theorem zZC:Lo2 (λt11 t39=>zpr t0 t1 t2 t3 t9 t11 t20 t21 t37 t38 t39) (λt11 t39 H Kb7=>zwQ t0 t1 t2 t3 t9 t11 t20 t21 t37 t38 t39 H K Kb3 Kb7) t11 t39 H (zps t0 t1 t2 t3 t9 t11 t20 t21 t37 t38 t39 H K Kb3):=lq2 zew zGB
theorem zZB:Lo2 (λt9 t21=>zjo t0 t1 t2 t3 t9 t20 t21) (λt9 t21 H Kb3=>zwP t0 t1 t2 t3 t9 t20 t21 H K Kb3) t9 t21 H (zGz t0 t1 t2 t3 t9 t20 t21 H K):=lq2 zew zGA
theorem zZE(h:HSc H→zGv t0 t1 t2 t3 H K):ACalls tP zkO [t0,t1,t2,t3] H K:=
 acb zew Tryz.func88 zwR h
theorem zZV:Lo2 (λt9 t126=>zpB t2 t9 t16 t18 t118 t119 t120 t124 t125 t126) (λt9 t126 H Kb24=>zwX t2 t9 t16 t18 t118 t119 t120 t124 t125 t126 H K Kb21 Kb24) t9 t126 H (zGE t2 t9 t16 t18 t118 t119 t120 t124 t125 t126 H K Kb21):=lq2 zdz zZY
theorem zZU:Lo2 (λt9 t120=>zpA t2 t9 t16 t118 t119 t120) (λt9 t120 H Kb21=>zwW t2 t9 t16 t118 t119 t120 H K Kb21) t9 t120 H (zw1 t2 t9 t16 t118 t119 t120 H K):=lq2 zdz zGF
theorem zZT:Lo2 (λt9 t66=>zpz t0 t2 t3 t5 t9 t64 t65 t66) (λt9 t66 H Kb12=>zpy t0 t2 t3 t5 t9 t64 t65 t66 H K Kb12) t9 t66 H (zw0 t0 t2 t3 t5 t9 t64 t65 t66 H K):=lq2 zdz zZX
theorem zZW:Lo2 (λt9 t44=>zpC t0 t2 t3 t5 t9 t42 t43 t44) (λt9 t44 H Kb7=>zwY t0 t2 t3 t5 t9 t42 t43 t44 H K Kb7) t9 t44 H (zpD t0 t2 t3 t5 t9 t42 t43 t44 H K):=lq2 zdz zZZ
theorem zZ0(h:HSc H→zpx t0 t1 t2 t3 H K):ACalls tP zgV [t0,t1,t2,t3] H K:=
 acb zdz Tryz.func90 zgu h
theorem zWN:Lo2 (λt7 t17=>zjh t0 t2 t4 t7 t8 t15 t16 t17) (λt7 t17 H Kb6=>zv3 t0 t2 t4 t7 t8 t15 t16 t17 H K Kb3 Kb6) t7 t17 H (zFs t0 t2 t4 t7 t8 t15 t16 t17 H K Kb3):=lq2 zgq zWO
theorem zWM:Lo2 (λt7 t8=>zoG t0 t2 t4 t7 t8) (λt7 t8 H Kb3=>zv2 t0 t2 t4 t7 t8 H K Kb3) t7 t8 H (zoI t0 t2 t4 t7 t8 H K):=lq2 zgq zFt
theorem zWP(h:HSc H→zFq t0 t1 t2 H K):ACalls tP zrR [t0,t1,t2] H K:=
 acb zgq Tryz.func46 zv4 h
theorem zZI:Lo2 (λt6 t7=>zpu t0 t1 t6 t7) (λt6 t7 H Kb5=>zwU t0 t1 t6 t7 H K Kb5) t6 t7 H (zpw t0 t1 t6 t7 H K):=lq2 zpt zZJ
theorem zZK(h:HSc H→zGC t0 t1 H K):ACalls tP zr3 [t0,t1] H K:=
 acb zpt Tryz.func89 zwV h
theorem zZ3(h:HSc H→zGG t0 t1 t2 H K):ACalls tP zr4 [t0,t1,t2] H K:=
 acb zZ1 Tryz.func91 zZ2 h
end
def tmC(p:IT×Nat):List AV:=p.1.cs++zai (p.2:Int)
def tms(s:List (IT×Nat)):List AV:=(s.map tmC).flatten
@[simp] theorem zLH(p:IT×Nat):(tmC p).length=5:=by simp[tmC,zai]
@[simp] theorem yeN(s:List (IT×Nat)):(tms s).length=s.length*5:=by
 induction s with
 |nil=>rfl
 |cons p s ih=>simp only[tms,aF,List.flatten_cons,aw,zLH,List.length_cons]at ih ⊢;omega
theorem zhd(a b:List (IT×Nat)):tms (a++b)=tms a++tms b:=by simp[tms]
theorem zhe(p:IT×Nat)(s:List (IT×Nat)):tms (p::s)=tmC p++tms s:=by simp[tms]
theorem zlr{s:List (IT×Nat)}{k:Nat}(h:k<s.length):tms s=tms (s.take k)++(tmC s[k]++tms (s.drop (k+1))):=by rw[←zhe,←zhd,←ag h,aJ]
theorem ziP{s:List (IT×Nat)}{k:Nat}(h:k≤s.length):(tms (s.take k)).length=k*5:=by simp[bc h]
theorem zLL{s:List (IT×Nat)}{k:Nat}(h:k<s.length):((tms s).drop (k*5)).take 2=s[k].1.cs:=by rw[zlr h,bN (ziP (by omega)),tmC,aq,bT (by simp)]
theorem zsI{s:List (IT×Nat)}{k:Nat}(h:k<s.length):((tms s).drop (k*5+2)).take 3=zai (s[k].2:Int):=by
 have e:tms s=(tms (s.take k)++s[k].1.cs)++(zai (s[k].2:Int)++tms (s.drop (k+1))):=by rw[zlr h,tmC];simp
 have hl:(tms (s.take k)++s[k].1.cs).length=k*5+2:=by rw[aw,ziP (by omega)];simp
 rw[e,bN hl,bT (by simp[zai])]
theorem zBo{s:List (IT×Nat)}{k:Nat}(h:k<s.length)(x:Nat):(tms s).take (k*5+2)++zai (x:Int)++(tms s).drop (k*5+2+3)=tms (s.set k (s[k].1,x)):=by
 have e:tms s=(tms (s.take k)++s[k].1.cs)++(zai (s[k].2:Int)++tms (s.drop (k+1))):=by rw[zlr h,tmC];simp
 have hl:(tms (s.take k)++s[k].1.cs).length=k*5+2:=by rw[aw,ziP (by omega)];simp
 have e1:(tms s).take (k*5+2)=tms (s.take k)++s[k].1.cs:=by rw[e,bT hl]
 have e2:(tms s).drop (k*5+2+3)=tms (s.drop (k+1)):=by rw[←c5,e,bN hl,bN (by simp[zai])]
 rw[e1,e2,bh,az h,zhd,zhe,tmC];simp
theorem zfr(s:List (IT×Nat))(n:Nat):(tms s).all (AV.scA n)=true:=by
 induction s with
 |nil=>rfl
 |cons p s ih=>rw[zhe,bb,ih,tmC,bb,IT.cs_scA,zfW];rfl
theorem zBn(s:List (IT×Nat)):(tms s).all AV.known=true:=by
 induction s with
 |nil=>rfl
 |cons p s ih=>rw[zhe,bb,ih,tmC,bb,IT.cs_known];simp[zai,AV.known]
def zTm:List AV:=[.int .i64 0,.sl [] .none,.bool false,.sl [] .none,.sl [] .none]
theorem zLK{s:List (IT×Nat)}{k:Nat}(h:k≤s.length)(p:IT×Nat):(zds (tms s++zTm) ((k+1)*5) (((tms s++zTm).drop (k*5)).take ((s.length-k)*5))).take (k*5)++tmC p++(zds (tms s++zTm) ((k+1)*5) (((tms s++zTm).drop (k*5)).take ((s.length-k)*5))).drop (k*5+5)=tms (s.take k++p::s.drop k):=by
 have e:tms s=tms (s.take k)++tms (s.drop k):=by rw[←zhd,aJ]
 have hl:=ziP h;have hd:(tms (s.drop k)).length=(s.length-k)*5:=by simp
 have e1:((tms s++zTm).drop (k*5)).take ((s.length-k)*5)=tms (s.drop k):=by rw[e,aq,bN hl,bT hd]
 rw[e1];have hk:k*5+(s.length-k)*5=s.length*5:=by omega
 unfold zds;have h1:((tms s++zTm).take ((k+1)*5)).length=(k+1)*5:=by simp[zTm];omega
 have h2:((tms s++zTm).drop ((k+1)*5+(tms (s.drop k)).length))=[]:=by apply aW;rw[hd];simp[zTm];omega
 rw[h2,aG];have h3:((tms s++zTm).take ((k+1)*5)++tms (s.drop k)).take (k*5)=tms (s.take k):=by rw[ci (by rw[h1];omega),cD,bc (by omega),e,aq,bT hl]
 have h4:((tms s++zTm).take ((k+1)*5)++tms (s.drop k)).drop (k*5+5)=tms (s.drop k):=by rw[bN (by rw[h1];omega)]
 rw[h3,h4,zhd,zhe,aq]
theorem zX6(s:List (IT × Nat))(i:IT)(c:Nat)(hi:i.nodes≤1000)(qL:∀ p∈s,p.1.nodes≤1000∧0<p.2∧p.2<1000000000 ^ 20)(hc:c<1000000000 ^ 20)(hl:s.length≤1000000)(id:Nat)(H:zaa)(K:Kt)(en:H[id]?=some (.vec zau 5 s.length (tms s)))(hK:K (.ov id (za5 s i c).length) (H.set id (.vec zau 5 (za5 s i c).length (tms (za5 s i c))))):
  ACalls tP zc2 [.ov id s.length,.agg i.cs,.agg (zai (c:Int))] H K:=by
 refine ACalls.out (zX4 λhs=>?_);have ja:=zbm en;obtain⟨x3,y3,iu,fx,qM⟩:=zci i;have t3:List.take 3 (zai (c:Int))=zai (c:Int):=ai (by simp);have eN:Sm (c:Int):=zb0 (aV hc (by decide));simp[zFU,aa,zdg];have mL:∀J,(H++J)[id]?=some (.vec zau 5 s.length (tms s)):=λJ=>zbK en;have hscT:∀n (l:List (IT×Nat)),HSc (H.set id (.vec zau 5 n (tms l))):=λn l=>hs.set (by simp only[AB.sc];exact zfr l _);have eZ:H.set id (.vec zau 5 s.length (tms s))=H:=by
  apply aL;intro j;by_cases hj:id=j
  ·subst hj;rw[List.getElem?_set_self ja,en]
  ·rw[List.getElem?_set_ne hj]
 have fb:∀(l:List (IT×Nat)) (H' J:zaa),l=za5 s i c→H'=H.set id (.vec zau 5 l.length (tms l))++J→Out H.length K (.ov id l.length) H':=λl H' J he hH=>by subst he;exact Out.at (b:=.ov id (za5 s i c).length) hH (by simp) (hscT _ _) .rfl' rfl (by simp[AV.scV,AV.scA,AV.scB];omega) hK
 have fD:HSc (H++[.cells i.cs,.cells (zai (c:Int))]):=hs.append (by simp[AB.sc,zfW]);have fy:∀X,(H++[AB.cells i.cs,.cells (zai (c:Int))]).set id X=H.set id X++[.cells i.cs,.cells (zai (c:Int))]:=λX=>aM _ _ ja;have pB:∀X Y,(H.set id X++[AB.cells i.cs,.cells (zai (c:Int))]).set id Y=H.set id Y++[.cells i.cs,.cells (zai (c:Int))]:=λX Y=>by rw[aM _ _ (by simpa using ja),bD]
 have g2:∀X J,(H.set id X++J)[id]?=some X:=λX J=>by rw[List.getElem?_append_left (by simpa using ja),List.getElem?_set_self ja]
 have g3:∀X J,(H.set id X++AB.cells i.cs::J)[H.length]?=some (.cells i.cs):=λX J=>by simp[List.getElem?_append]
 have g4:∀X Y J,(H.set id X++AB.cells i.cs::Y::J)[H.length+1]?=some Y:=λX Y J=>by simp[List.getElem?_append]
 have hmiss:∀k,k≤s.length→(∀(j:Nat) (h:j<k) (h2:j<s.length),IT.cmp s[j].1 i<0)→(∀h:k<s.length,0<IT.cmp s[k].1 i)→ACalls tP zih [.agg (zai (c:Int))] (H++[.cells i.cs,.cells (zai (c:Int))]) λt66 H_1=>
   zac .eql false t66 (.int .i64 0) λt67=>zag t67 (Out H.length K (.ov id s.length) H_1)
    (zaq [.int .i64 0,.snil,.bool false,.snil,.snil] [(0,2),(2,3)] [] λt70=>zaw 5 [.int .i64 0,.snil,.bool false,.snil,.snil] 1 [(0,t70)] λt71=>
     zax zau 5 88 (.ov id s.length) t71 H_1 λt72 H_2=>zaN 1 5 t72 (some (.int .i64 (IntKind.i64.wrap ((k:Int)+1)))) none λt76=>zaN 1 5 t72 (some (.int .i64 k)) none λt79=>
      zfA 5 t76 t79 H_2 λt80 H_3=>zab H_3 (λK'=>zgx true 2 0 H_3[H.length]? λx=>K' x H_3) λt83=>zaC H_3 (λH K'=>ACalls tP zia [t83] H K') λt84=>
       zab H_3 (λK'=>zgx true 3 0 H_3[H.length+1]? λx=>K' x H_3) λt85=>zaC H_3 (λH K'=>ACalls tP zd0 [t85] H K') λt86=>
        zaq [.int .i64 0,.snil,.bool false,.snil,.snil] [(0,2),(2,3)] [(0,t84),(1,t86)] λt87=>zak 5 t72 (.int .i64 k) λt88=>zan 5 t88 t87 H_3 λH_4=>Out H.length K t72 H_4):=by
  intro k hk kF h0;refine zEH (c:Int) eN _ _ ?_;by_cases gM:c=0
  ·have e0:za5 s i c=s:=by simp[za5,gM]
   subst gM;simp;exact fb s _ _ e0.symm (by rw[eZ])
  ·have mF:(c:Int).sign=1:=cW (by omega);have e1:za5 s i c=s.take k++(i,c)::s.drop k:=by rw[za5,au gM];exact zHy s i c k hk (λj h=>kF j h (by omega)) h0
   have w1:=wi k (by omega);rw[mF,w1];simp only[zaq,zaJ,zaw,zaR,plain,AV.pd,zax,zaM,zaK,mL,aa];simp[plain,AV.pd,mL,fy];refine⟨⟨by omega,by omega⟩,by omega,by omega,by omega,?_⟩;rw[g2];simp only[zHk,fy,pB];have fI:(tms s++[AV.int .i64 0,.sl [] .none,.bool false,.sl [] .none,.sl [] .none]).all AV.known=true:=by rw[bb,zBn];rfl
   refine⟨⟨⟨⟨trivial,trivial,trivial⟩,trivial,trivial,trivial⟩,fI⟩,?_⟩;have pE:=zLK hk (i,c);have gp:min (s.length+1-k) (s.length+1-(k+1))=s.length-k:=by omega
   rw[gp];simp[g2,g3,g4];refine zaD (.agg i.cs) (λJ=>zNz _ i (ac _) (by omega) _ _ ⟨rfl,rfl⟩) ?_;refine zaD (.agg (zai (c:Int))) (λJ=>zfx _ eN _ _ ⟨rfl,rfl⟩) ?_;have mM:List.drop 5 (i.cs++[AV.bool false,.snil,.snil])=[]:=aW (by simp);have jx:∀x∈i.cs,x.known=true:=am.1 (IT.cs_known i);have mi:∀x∈zai (c:Int),x.known=true:=am.1 (zei c);simp[g2,mM];have hlay:(zds (tms s++zTm) ((k+1)*5) (((tms s++zTm).drop (k*5)).take ((s.length-k)*5))).length=(s.length+1)*5:=by simp[zds,zTm];omega
   refine⟨by omega,⟨?_,λx hx=>hx.elim (jx x) (mi x)⟩,?_⟩
   ·show _≤(zds (tms s++zTm) ((k+1)*5) (((tms s++zTm).drop (k*5)).take ((s.length-k)*5))).length;omega
   ·rw[pB];have i9:(s.take k++(i,c)::s.drop k).length=s.length+1:=by simp;omega
    have:=fb (s.take k++(i,c)::s.drop k) _ [.cells i.cs,.cells (zai (c:Int))] e1.symm rfl;rw[i9,←pE]at this;simpa[zTm,tmC]using this
 refine zX2 (Inv:=λq t7 H'=>∃k:Nat,k≤s.length∧s.length-k=q∧t7=.int .i64 k∧(∀(j:Nat) (h:j<s.length),j<k→IT.cmp s[j].1 i<0)∧H'=H++[.cells i.cs,.cells (zai (c:Int))]) s.length ?_ ?_
 ·intro _;exact⟨0,by omega,rfl,rfl,λj h hj=>by omega,rfl⟩
 ·rintro q t7 H' ⟨k,hk,rfl,rfl,kF,rfl⟩ eE ek eK Kb eq;have hlow':∀ (j:Nat) (h:j<k),IT.cmp (s[j]'(by omega)).1 i<0:=λj h=>kF j (by omega) h;by_cases ei:k<s.length
  ·obtain⟨jq,iC,mg⟩:=qL s[k] (af ei);have h52:k*5+2≤s.length*5:=by omega
   have jN:=IT.cmp_rng s[k].1 i;simp[zwo,ei,mL,zLL ei,zsI ei,t3,aa];refine⟨h52,?_⟩;refine zaD (.int .i64 (IT.cmp s[k].1 i)) (λJ=>zAt _ _ _ (ac _) (by omega) _ _ ⟨rfl,rfl⟩) ?_;by_cases h1:IT.cmp s[k].1 i<0
   ·simp[h1,wi k (by omega)];exact eq _ _ ⟨s.length-(k+1),by omega,Back.here (by simp) fD (by simp[zo3,ux,AV.sc,AV.scA,AV.scB,AV.scV];omega) ⟨_,rfl,k+1,by omega,rfl,rfl,λj h hj=>by
     by_cases qN:j=k
     ·subst qN;exact h1
     ·exact kF j h (by omega),rfl⟩⟩
   ·simp[h1];refine⟨h52,?_⟩;refine zaD (.int .i64 (IT.cmp s[k].1 i)) (λJ=>zAt _ _ _ (ac _) (by omega) _ _ ⟨rfl,rfl⟩) ?_;by_cases h0:IT.cmp s[k].1 i=0
    ·have oK:Sm (s[k].2:Int):=zb0 (aV mg (by decide));have fH:Sm ((s[k].2+c:Nat):Int):=zb0 (aV (show s[k].2+c<2*1000000000 ^ 20 by omega) (by decide));have he:za5 s i c=s.set k (s[k].1,s[k].2+c):=by
      unfold za5;by_cases gM:c=0
      ·rw[az gM,gM];exact(List.set_getElem_self ei).symm
      ·rw[au gM];exact zHw s i c k ei hlow' h0
     have eL:=zBo ei (s[k].2+c);rw[aq,Int.natCast_add]at eL;simp[h0];refine⟨by omega,?_⟩;refine zaD (.agg (zai ((s[k].2+c:Nat):Int))) (λJ=>zXk _ _ oK eN _ _ ⟨by rw[Int.natCast_add],rfl⟩) ?_;have mi:∀x∈zai ((s[k].2+c:Nat):Int),x.known=true:=am.1 (zei _);simp[fy,g2];refine⟨by omega,by omega,?_⟩;have ia:=zsI (s:=s.set k (s[k].1,s[k].2+c)) (k:=k) (by simpa using ei);simp only[List.getElem_set_self,Int.natCast_add]at ia;rw[eL,ia];refine zEH _ (by rw[←Int.natCast_add];exact fH) _ _ ?_;have mF:((s[k].2:Int)+(c:Int)).sign=1:=cW (by omega);rw[mF];simp[zwq];have:=fb (s.set k (s[k].1,s[k].2+c)) _ [.cells i.cs,.cells (zai (c:Int))] he.symm rfl;simpa using this
    ·have fL:(IT.cmp s[k].1 i == 0)=false:=by simp[h0]
     simp[fL];exact hmiss k (by omega) (λj h h2=>kF j h2 h) (λh=>by omega)
  ·obtain rfl:k=s.length:=by omega
   simp[zwo,mL,t3,aa];exact hmiss s.length (ac _) (λj h h2=>kF j h2 h) (λh=>by omega)
section
variable (t0 t1 t2 t3 t4:AV) (H:zaa) (K:Kt) (Kb3:Lt)
def zPj(_:Nat):List Bool:=[]
noncomputable def zPk:=Tryz.f144.body.getD .skip
def ztO:=zav t0 H λt2 H=>zav t1 H λt3 H=>zaz [(.int .i64 0),.snil] H λt4 H=>zae true 2 t2 H λt5=>zaw 2 [(.int .i64 0),.snil] 1 [(0,t5)] λt6=>zaf 1 t3 λt7=>zae false 1 t7 H λt8=>zax zaY 2 32 t6 t8 H λt9 H=>zaq [(.int .i64 0),.snil] [(0,1),(1,1)] [(1,t9)] λt10=>zan 2 t4 t10 H λH=>zae true 2 t4 H λr0=>K r0 H
def zmy:Nat→List Bool|3=>rl false [0,1,1,3,11]|_=>[]
noncomputable def ztN:=Tryz.f142.body.getD .skip
noncomputable def zPe:=Tryz.f142.results.toList
def zmz:=t0::ux 1 (t2::t3::t4::ux 11 [])
def zPc:=zmy 3
noncomputable def zPa:=zar [1,1,0,1,0,0] ztN
def zO9:=zas tP zmy [1,1,0,1,0] ztN (zaB tP zPe K)
def zCS:=ALoop tP zPa (zO9 K) (zmz t0 t2 t3 t4) H
def ztM:=zac .leq false t4 t0 λt8=>zag t8 (apu H (zaj true 3 t3 H) λt11=>apm H t4 λt12=>zaC H (λH K'=>ACalls tP zdJ [t12] H K') λt13=>zaC H (λH K'=>ACalls tP zfi [t11,t13] H K') λt14=>zan 3 t3 t14 H λH=>zac .add false t4 (.int .i64 1) λt10=>Kb3 (zmz t0 t2 t3 t10) H) (zae true 3 t3 H λt15=>zan 3 t2 t15 H λH=>zae true 3 t2 H λr0=>K r0 H)
def zCR:=zaz [(.bool false),.snil,.snil] H λt2 H=>ACalls tP zdJ [(.int .i64 1)] H λt5 H=>zaz [(.bool false),.snil,.snil] H λt3 H=>zan 3 t3 t5 H λH=>zCS t0 t2 t3 (.int .i64 2) H K
variable {t0 t1 t2 t3 t4} {H} {K} {Kb3}
theorem zPl(h:HSc H→ztO t0 t1 H K):ACalls tP zic [t0,t1] H K:=
 acb zPj Tryz.func144 zPk h
theorem zPb:Lo1 (λt4=>zmz t0 t2 t3 t4) (λt4 H Kb3=>ztM t0 t2 t3 t4 H K Kb3) t4 H (zCS t0 t2 t3 t4 H K):=lq1 zmy zPc
theorem zPd(h:HSc H→zCR t0 H K):ACalls tP zgN [t0] H K:=
 acb zmy Tryz.func142 ztN h
end
def zaG(s:List (IT×Nat)):List (List AV):=s.map tmC
@[simp] theorem yeM(s:List (IT×Nat)):(zaG s).length=s.length:=by simp[zaG]
theorem zBm(s:List (IT×Nat)):(zaG s).flatten=tms s:=rfl
@[simp] theorem yeL{s:List (IT×Nat)}{i:Nat}(h:i<(zaG s).length):(zaG s)[i]=tmC (s[i]'(by simpa using h)):=by simp[zaG]
theorem ziD:∀ {a b c d:List AV},plain a=some c→plain b=some d→plain (a++b)=some (c++d)
 |[],b,c,d,h,h'=>by simp[plain]at h;subst h;simpa using h'
 |x::a,b,c,d,h,h'=>by
  simp only[plain]at h;split at h
  ·rename_i p q hp hq;cases h;simp only[List.cons_append,plain];rw[hp,ziD hq h']
  ·cases h
theorem ziE(v:IT):plain v.cs=some v.cs:=by obtain⟨n,ks⟩:=v;simp[IT.cs,plain,AV.pd]
theorem zcR(z:Int):plain (zai z)=some (zai z):=rfl
theorem zgZ(p:IT×Nat):plain (tmC p)=some (tmC p):=ziD (ziE p.1) (zcR _)
theorem zk5:∀ s:List (IT × Nat),plain (tms s)=some (tms s)
 |[]=>rfl
 |p::s=>by rw[zhe];exact ziD (zgZ p) (zk5 s)
theorem zkZ{H J:zaa}{K:Kt}(s:List (IT×Nat))(id:Nat)(eP:H.length≤id)(en:(H++J)[id]?=some (.vec zau 5 s.length (tms s)))(hs:HSc H)(hK:K (.sl (zaG s) .none) H):Out H.length K (.ov id s.length) (H++J):=
 ⟨.sl (zaG s) .none,H,J,rfl,ac _,hs,.one (.vfz id zau 5 s.length (tms s) (zaG s) eP en (by rw[zBm];exact zk5 s) (by simp) (λc hc=>by
  obtain⟨p,_,rfl⟩:=aA.1 hc;simp)),hK⟩
theorem ACalls.vecA{P:Program}{f:FuncId}{us:List AV}{H:zaa}{K:AV→zaa→Prop}(e size:Nat)(h:ACalls P f (.ov H.length 0::us) (H++[.vec e size 0 []]) K):ACalls P f (.snil::us) H K:=by
 intro B w G vs hH hv;obtain⟨hE,eU⟩:=hH.newVec e size;have kU:All2 (TRel w ⟨G.L,G.μ++[.own (.slice none 0 0) size 0]⟩) vs.toList (.ov H.length 0::us):=by
  generalize vs.toList=l at *
  match l,hv with
  |x::l,⟨h1,h2⟩=>have h1:x=.slice none 0 0:=h1;subst h1;exact⟨zz3 hH e size,h2.mono λ_ _=>hE.trel⟩
 refine(h B w _ vs eU kU).mono λe' w' hp=>?_;obtain⟨v,r,H',G'',h1,h2,h3⟩:=hp;exact⟨v,r,H',G'',h1,hE.trans h2,h3⟩
theorem zqh(e i:IT)(hi:i.nodes≤1000)(H:zaa)(K:Kt)(hK:K (.agg (bef e i).cs) H):ACalls tP zic [.agg e.cs,.agg i.cs] H K:=by
 refine ACalls.out (zPl λhs=>?_);obtain⟨n,ks⟩:=i;obtain⟨m,es⟩:=e;have fh:=IT.len_le ks;have iK:(IT.mk n ks).nodes=IT.nodesL ks+1:=by simp[IT.nodes]
 have hb:(bef (.mk m es) (.mk n ks)).cs=[.int .i64 0,.sl ([.int .i64 m,.sl (IT.css es) .none]::IT.css ks) .none]:=rfl;rw[hb]at hK;cases ks with
 |nil=>simp[ztO,IT.cs,IT.css,zaq,zaJ,zaw,zaR,plain,AV.pd,AV.known,zax,zaM,zaK,aa];exact Out.one hs (WkV.agg (ds:=[.int .i64 0,.sl [[.int .i64 m,.sl (IT.css es) .none]] .none]) ⟨.refl _,.sl _ _,trivial⟩) rfl (by simp[AV.scV,AV.scA,AV.scB]) (by simpa[IT.css]using hK)
 |cons k ks=>
  simp[ztO,IT.cs,IT.css,zaq,zaJ,zaw,zaR,plain,AV.pd,AV.known,zax,zaM,zaK,aa];have h2:∀a∈IT.css ks,a.length=2:=λa ha=>by rw[IT.css_map]at ha;obtain⟨v,_,rfl⟩:=aA.1 ha;simp
  refine⟨h2,⟨by simp at fh;omega,by simp at fh;omega⟩,?_⟩;exact Out.one hs (WkV.agg (ds:=[.int .i64 0,.sl ([.int .i64 m,.sl (IT.css es) .none]::k.cs::IT.css ks) .none]) ⟨.refl _,.sl _ _,trivial⟩) rfl (by simp[AV.scV,AV.scA,AV.scB]) (by simpa[IT.css]using hK)
def zaL(out:List (List IT×Nat)):List (List AV):=out.map λr=>.sl (IT.css r.1) .none::zai (r.2:Int)
@[simp] theorem yer(s:List (List IT×Nat)):(zaL s).length=s.length:=by simp[zaL]
@[simp] theorem yeq{s:List (List IT×Nat)}{i:Nat}(h:i<(zaL s).length):(zaL s)[i]=.sl (IT.css (s[i]'(by simpa using h)).1) .none::zai ((s[i]'(by simpa using h)).2:Int):=by simp[zaL]
theorem zlc(a b:List (List IT×Nat)):zaL (a++b)=zaL a++zaL b:=by simp[zaL]
theorem zAz{d7:List Dat}{f:Nat}{ts:List VT}{l m:List IT}{k:Nat}:∀j,j≤k→zb5 d7 f (ts.take k) (l.take k) (m.take k) j=zb5 d7 f ts l m j:=by
 intro j;induction j with
 |zero=>intro _;rfl
 |succ j ih=>intro h;rw[zg3,zg3,ih (by omega)];simp[List.getD_eq_getElem?_getD,List.getElem?_take,show j<k by omega]
theorem zqY{s:List (List IT×Nat)}{p:List IT×Nat}(h:p∈s):p.2≤zbo (λ_=>1) s:=by
 induction s with
 |nil=>simp at h
 |cons q s ih=>
  rw[zf7];rcases aP.1 h with rfl|h
  ·omega
  ·have:=ih h;omega
theorem zqU{s:List (List IT×Nat)}(h:∀p∈s,0<p.2):s.length≤zbo (λ_=>1) s:=by
 induction s with
 |nil=>simp
 |cons q s ih=>have h1:=ih λp hp=>h p (by simp[hp]);have h2:=h q (by simp);rw[zf7,List.length_cons];omega
theorem zcS{a:Int}(h:a≤6):3 ^ a.toNat≤729:=ap (a7 (by omega) (show a.toNat≤6 by omega)) (by decide)
theorem zAx{d7:List Dat}(h8:∀ D∈d7,D.cons.length≤8){f:Nat}{ts:List VT}{l m:List IT}(hf:IT.nodesL l+IT.nodesL m≤f)(hl:l.length=ts.length)(hm:m.length=ts.length)(hA:0≤rdA d7 l ts 0)(hB:0≤rdA d7 m ts 0)(h6:rdA d7 l ts 0+rdA d7 m ts 0≤6)(k:Nat)(hk:k≤ts.length):
  (∀r∈zb5 d7 f ts l m k,0<r.2∧r.2≤729∧IT.nodesL r.1≤IT.nodesL l+IT.nodesL m)∧(zb5 d7 f ts l m k).length≤729:=by
 have a1:=zck l ts 0 k hl (by omega) hA;have b1:=zck m ts 0 k hm (by omega) hB;have n1:=IT.nodesL_take_le l k;have n2:=IT.nodesL_take_le m k;obtain⟨h1,h2⟩:=(zcC h8 (f+1)).2.1 (ts.take k) (l.take k) (m.take k) (by omega) (by simp;omega) (by simp;omega) a1.1 b1.1 (by omega);have e:zcj d7 (f+1) (ts.take k) (l.take k) (m.take k)=zb5 d7 f ts l m k:=by rw[zh6,aT,bc hk,zAz k (ac _)]
 rw[e]at h1 h2;have hN:zbo (λ_=>1) (zb5 d7 f ts l m k)≤729:=ap h2 (zcS (by omega));refine⟨λr hr=>?_,ap (zqU λp hp=>(h1 p hp).1) hN⟩;obtain⟨q1,_,_,_,_,_,q6⟩:=h1 r hr;have:=zqY hr;exact⟨q1,by omega,by omega⟩
def zpW(d7:List Dat)(f:Nat):Prop:=∀ (t:VT) (i j:IT),i.nodes+j.nodes≤f→t.nodes≤1000→za0 d7 0 t=true→0≤rdV d7 i t→0≤rdV d7 j t→rdV d7 i t+rdV d7 j t≤6→i.nodes+j.nodes≤300 →
 ∀(H:zaa) (K:Kt),K (.sl (zaG (zbd d7 f t i j)) .none) H→ACalls tP zkD [.sl (d7.map Dat.cs) .none,.agg t.cs,.agg i.cs,.agg j.cs] H K
def zjy(d7:List Dat)(f:Nat):Prop:=∀ (ts:List VT) (l m:List IT),IT.nodesL l+IT.nodesL m+1≤f→l.length=ts.length→m.length=ts.length→ts.length≤1000→(∀ x∈ts,x.nodes≤1000∧za0 d7 0 x=true)→0≤rdA d7 l ts 0→0≤rdA d7 m ts 0→rdA d7 l ts 0+rdA d7 m ts 0≤6→IT.nodesL l+IT.nodesL m≤300 →
 ∀(H:zaa) (K:Kt),K (.sl (zaL (zcj d7 f ts l m)) .none) H→ACalls tP zkO [.sl (d7.map Dat.cs) .none,.sl (VT.css ts) .none,.sl (IT.css l) .none,.sl (IT.css m) .none] H K
def zjw(d7:List Dat)(f:Nat):Prop:=∀ (t:VT) (l m:List IT),IT.nodesL l+IT.nodesL m+1≤f→t.nodes≤1000→za0 d7 0 t=true→t.kind=5→0≤rdE d7 l t 0→0≤rdE d7 m t 0→rdE d7 l t 0+rdE d7 m t 0≤6→IT.nodesL l+IT.nodesL m≤300 →
 ∀(H:zaa) (K:Kt),K (.sl (zaG (zaS d7 f t l m)) .none) H→ACalls tP zgV [.sl (d7.map Dat.cs) .none,.agg t.cs,.sl (IT.css l) .none,.sl (IT.css m) .none] H K
theorem zKg{out:List (List IT×Nat)}{ws:List (IT×Nat)}{j:Nat}(h:j<ws.length):zbM out (ws.take (j+1))=zbM out (ws.take j)++out.map λr=>(r.1++[ws[j].1],r.2*ws[j].2):=by rw[ae h];simp only[zbM,bm,aZ,bZ,aG]
theorem zAC(out:List (List IT × Nat)):∀ ws:List (IT × Nat),(zbM out ws).length=ws.length*out.length
 |[]=>by simp[zbM]
 |w::ws=>by have:=zAC out ws;unfold zbM at this ⊢;rw[aZ,aw,this,bR,List.length_cons,bI];omega
theorem zJg{d7:List Dat}(h8:∀D∈d7,D.cons.length≤8){f:Nat}(hM:zpW d7 f):zjy d7 (f+1):=by
 intro ts l m hf hl hm qO gE hA hB h6 hn H K hK;rw[zh6]at hK;refine ACalls.out (zZE λhs=>?_);have jZ:AV.sl ([[.sl [] .none]++zai 1]) .full=.sl (zaL (zb5 d7 f ts l m 0)) .full:=by simp[ziG,zaL,IT.css]
 simp[zGv,aa];refine zeY 1 (by omega) _ _ ?_;simp[zaq,zaJ,zaw,zaR,plain,AV.pd,AV.known,zcR,aa];have jZ:([[AV.sl [] .none]++zai 1]:List (List AV))=zaL (zb5 d7 f ts l m 0):=by simp[ziG,zaL,IT.css]
 have iA:([AV.sl [] .none::zai 1]:List (List AV))=zaL (zb5 d7 f ts l m 0):=jZ;rw[iA];refine zZB (Inv:=λq t9 t21 H'=>∃(k:Nat) (J:zaa) (tok:Tok),k≤ts.length∧ts.length-k=q∧t21=.int .i64 k∧t9=.sl (zaL (zb5 d7 f ts l m k)) tok∧H'=H++J) ts.length ?_ ?_
 ·intro _;exact⟨0,[],.full,by omega,rfl,rfl,rfl,by simp⟩
 ·rintro q t9 t21 H' ⟨k,J,tok,hk,rfl,rfl,rfl,rfl⟩ eE ek eK Kb eq;have lJ:=zAx (f:=f) h8 (by omega) hl hm hA hB h6 k hk;obtain⟨out,fb⟩:∃ out,out=zb5 d7 f ts l m k:=⟨_,rfl⟩;rw[←fb]at lJ eK ⊢;obtain⟨b1,b2⟩:=lJ;by_cases ei:k<ts.length
  ·have h3:k<l.length:=by omega
   have h4:k<m.length:=by omega
   obtain⟨x1,x2,x3,ew,fJ,fc,fx⟩:=zbk ts[k];obtain⟨y1,y2,kv,hy1,jm⟩:=zci l[k];obtain⟨z1,z2,ph,qp,pg⟩:=zci m[k];have n1:=zc3 h3;have n2:=zc3 h4;have d1:=(zd3 (d7:=d7) l ts 0 (by omega) hl hA).1 k h3 ei;have d2:=(zd3 (d7:=d7) m ts 0 (by omega) hm hB).1 k h4 ei;have a1:=zck l ts 0 k hl (by omega) hA;have a2:=zck l ts 0 (k+1) hl (by omega) hA;have c1:=zck m ts 0 k hm (by omega) hB;have c2:=zck m ts 0 (k+1) hm (by omega) hB;have sl:=zej (d7:=d7) l[k] ts[k] (l.take k) (ts.take k) 0 (by simp;omega) (by omega) a1.1;have sm:=zej (d7:=d7) m[k] ts[k] (m.take k) (ts.take k) 0 (by simp;omega) (by omega) c1.1;rw[←ae h3,←ae ei]at sl;rw[←ae h4,←ae ei]at sm;have dd:rdV d7 l[k] ts[k]+rdV d7 m[k] ts[k]≤6:=by
    by_cases cl:rdV d7 l[k] ts[k]<0∨rdA d7 (l.take k) (ts.take k) 0+rdV d7 l[k] ts[k]>6
    ·rw[az cl]at sl;omega
    ·rw[au cl]at sl;by_cases cm:rdV d7 m[k] ts[k]<0∨rdA d7 (m.take k) (ts.take k) 0+rdV d7 m[k] ts[k]>6
     ·rw[az cm]at sm;omega
     ·rw[au cm]at sm;omega
   obtain⟨jU,kU⟩:=gE _ (af ei);obtain⟨ws,ki⟩:∃ws,ws=zbd d7 f ts[k] l[k] m[k]:=⟨_,rfl⟩;obtain⟨p1,p2⟩:=(zcC h8 f).1 ts[k] l[k] m[k] (by omega) d1 d2 dd;rw[←ki]at p1 p2;have p3:zaH (λ_=>1) ws≤729:=ap p2 (zcS dd);have p4:ws.length≤729:=ap (zeI λp hp=>(p1 p hp).1) p3;have eV:zb5 d7 f ts l m (k+1)=zbM out ws:=by rw[zg3,←fb];simp[List.getD_eq_getElem?_getD,ei,h3,h4,ki]
   simp[zwP,ei,h3,h4,ew,kv,ph,aa];rw[←ew,←kv,←ph];refine zaD (.sl (zaG ws) .none) (λJ=>by rw[ki];exact hM ts[k] l[k] m[k] (by omega) jU kU d1 d2 dd (by omega) _ _ ⟨rfl,rfl⟩) ?_;simp[aa];unfold zps;refine ALoop.own 11 zdI 4 rfl ?_;generalize qP:H++J=HB at *;show zps _ _ _ _ _ (.sl (zaL (zbM out (ws.take 0))) (.own HB.length)) _ _ _ _ _ (HB++[.perm zdI 4 0]) _ _;have pi:∀n,HSc (HB++[.perm zdI 4 n]):=λn=>eE.append (by simp[AB.sc]);have jM:∀J,(AV.sl (zaL out) tok).sc (HB++J).length=true:=λJ=>by
    have h0:(AV.sl (zaL out) tok).sc HB.length=true:=by rw[am]at eK;exact eK _ (by simp[zjo,ux])
    exact zcu (by simp) h0
   refine zZC (Inv:=λq t11 t39 H'=>∃j:Nat,j≤ws.length∧ws.length-j=q∧t39=.int .i64 j∧t11=.sl (zaL (zbM out (ws.take j))) (.own HB.length)∧H'=HB++[.perm zdI 4 (zbM out (ws.take j)).length]) ws.length ?_ ?_
   ·intro _;exact⟨0,by omega,rfl,rfl,rfl,by simp[zbM]⟩
   ·rintro q t11 t39 H' ⟨j,hj,rfl,rfl,rfl,rfl⟩ hsc7 hlen7 hsF7 Kb7 lK;have gN:(zbM out (ws.take j)).length≤729*729:=by rw[zAC];exact bf (by simp;omega) b2
    by_cases eI:j<ws.length
    ·obtain⟨w1,w2,w3,w4,w5,w6⟩:=p1 ws[j] (af eI);have w7:=zeg (af eI);obtain⟨u1,u2,hvu,hu1,qF⟩:=zci ws[j].1;have ep:=zKg (out:=out) eI;have tk5:List.take 5 (tmC ws[j])=tmC ws[j]:=ai (by simp);have tk2:List.take 2 (tmC ws[j])=ws[j].1.cs:=by rw[tmC,bT (by simp)]
     have tk3:List.take 3 (List.drop 2 (tmC ws[j]))=zai (ws[j].2:Int):=by rw[tmC,bN (by simp),ai (by simp[zai])]
     have tkn:∀x∈tmC ws[j],x.known=true:=am.1 (by rw[tmC,bb,IT.cs_known,zei];rfl);have tsc:∀n,(tmC ws[j]).all (AV.scA n)=true:=λn=>by rw[tmC,bb,IT.cs_scA,zfW];rfl
     simp[zwQ,eI,tk5,aa];refine⟨tkn,?_⟩;have mN:∀n,HSc (HB++[.perm zdI 4 n,.cells (tmC ws[j])]):=λn=>eE.append (by simp only[AB.sc,List.all_cons,List.all_nil,tsc];rfl);obtain⟨ee,gq⟩:∃ee,ee=zbM out (ws.take j):=⟨_,rfl⟩;rw[←gq]at gN ep ⊢;obtain⟨g,hg⟩:∃g:List IT×Nat→List IT×Nat,g=λr=>(r.1++[ws[j].1],r.2*ws[j].2):=⟨_,rfl⟩;rw[←hg]at ep;refine zZA (Inv:=λq t11 t45 H'=>∃i:Nat,i≤out.length∧out.length-i=q∧t45=.int .i64 i∧t11=.sl (zaL (ee++(out.take i).map g)) (.own HB.length)∧H'=HB++[.perm zdI 4 (ee.length+i),.cells (tmC ws[j])]) out.length ?_ ?_
     ·intro _;exact⟨0,by omega,rfl,rfl,by simp,rfl⟩
     ·rintro q t11 t45 H' ⟨i,hi,rfl,rfl,rfl,rfl⟩ lL fZ hsF10 Kb10 iE;have iq:(ee++(out.take i).map g).length=ee.length+i:=by simp;omega
      by_cases fg:i<out.length
      ·obtain⟨r1,r2,r3⟩:=b1 out[i] (af fg);have gH:ee++(out.take (i+1)).map g=(ee++(out.take i).map g)++[g out[i]]:=by rw[ae fg];simp only[aK,aF,bx,aq]
       have fh:=IT.len_le out[i].1;simp[zwO,fg,tk2,tk3,aa];have kj:Sm (ws[j].2:Int):=zb0 (aD (show ws[j].2≤729 by omega) (by decide));have iA:Sm (out[i].2:Int):=zb0 (aD r2 (by decide));have oZ:∀(a:List IT) (x:IT),IT.css a++[x.cs]=IT.css (a++[x]):=λa x=>by rw[IT.css_map,IT.css_map,aK];rfl
       simp only[zax,zaM,zaK];have ib:∀(a:List IT),∀c∈IT.css a,c.length=2:=λa c hc=>by rw[IT.css_map]at hc;obtain⟨v,_,rfl⟩:=aA.1 hc;simp
       refine⟨ib _,?_⟩;simp[tk2,tk3,zaw,zaR,plain,AV.pd,ziE,ah,oZ,aa];refine⟨⟨by omega,by omega⟩,⟨by omega,by omega⟩,?_⟩;refine zaD (.agg (zai ((out[i].2*ws[j].2:Nat):Int))) (λJ=>zhn _ _ iA kj _ _ ⟨by rw[Int.natCast_mul],rfl⟩) ?_;have fe:plain (AV.sl (IT.css (out[i].1++[ws[j].1])) (.own (HB.length+3))::zai ((out[i].2*ws[j].2:Nat):Int))=some (.sl (IT.css (out[i].1++[ws[j].1])) .none::zai ((out[i].2*ws[j].2:Nat):Int)):=by simp[plain,AV.pd,zcR]
       have lM:zaL (ee++(out.take i).map g)++[.sl (IT.css (out[i].1++[ws[j].1])) .none::zai ((out[i].2*ws[j].2:Nat):Int)]=zaL (ee++(out.take (i+1)).map g):=by rw[gH,zlc _ [g out[i]],hg];rfl
       rw[Int.natCast_mul]at fe lM;simp only[bC]at lM;have gp:min i out.length=i:=by omega
       simp[zaq,zaJ,fe,wi i (by omega),gp];refine⟨⟨by omega,by omega⟩,?_⟩;rw[lM];exact iE _ _ ⟨out.length-(i+1),by omega,Back.at (J:=[.cells (.sl (IT.css out[i].1) .none::zai (out[i].2:Int)),.perm zaY 2 (out[i].1.length+1)]) (H2:=HB++[.perm zdI 4 (ee.length+(i+1)),.cells (tmC ws[j])]) (by simp) (by simp) (mN _) (by
        have:=jM [.perm zdI 4 (ee.length+(i+1)),.cells (tmC ws[j])];simp only[zpq,ux,List.all_cons,bb,cn,List.all_nil,this];simp[AV.sc,AV.scA,AV.scB,AV.scV]) ⟨_,_,rfl,i+1,by omega,rfl,rfl,by simp only[bC],rfl⟩⟩
      ·obtain rfl:i=out.length:=by omega
       rw[ak,←ep];simp[zwO,wi j (by omega)];have fZ:ee.length+out.length=(zbM out (ws.take (j+1))).length:=by rw[ep];simp
       exact lK _ _ ⟨ws.length-(j+1),by omega,Back.at (J:=[.cells (tmC ws[j])]) (H2:=HB++[.perm zdI 4 (zbM out (ws.take (j+1))).length]) (by rw[←fZ];simp) (by simp) (pi _) (by
        have:=jM [.perm zdI 4 (zbM out (ws.take (j+1))).length];simp only[zpr,ux,List.all_cons,bb,cn,List.all_nil,this];simp[AV.sc,AV.scA,AV.scB,AV.scV]) ⟨_,_,rfl,j+1,by omega,rfl,rfl,rfl,rfl⟩⟩
    ·obtain rfl:j=ws.length:=by omega
     rw[ak]at gN ⊢;simp[zwQ,wi k (by omega)];exact eq _ _ ⟨ts.length-(k+1),by omega,Back.here (by simp;omega) (pi _) (by simp[zjo,ux,AV.sc,AV.scA,AV.scB,AV.scV]) ⟨_,_,rfl,k+1,J++[.perm zdI 4 (zbM out ws).length],.own HB.length,by omega,rfl,rfl,by rw[eV],by rw[←qP];simp⟩⟩
  ·obtain rfl:k=ts.length:=by omega
   rw[←fb]at hK;simp[zwP];exact Out.at (b:=.sl (zaL out) .none) rfl (ac _) hs (.atom (.sl _ _)) rfl rfl hK
end Go.Proofs.YtdmamdnkcefmmaaGreatDoor
