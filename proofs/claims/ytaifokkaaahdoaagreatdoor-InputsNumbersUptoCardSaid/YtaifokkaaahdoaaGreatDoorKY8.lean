import Derived.Test.YtaifokkaaahdoaaGreatDoorKNum
import Derived.Test.YtaifokkaaahdoaaGreatDoorProg
import Derived.KernelRfl
import Derived.Test.YtaifokkaaahdoaaGreatDoorAbsQ1
set_option linter.unusedSimpArgs false
set_option linter.unusedVariables false
set_option linter.unusedSectionVars false
set_option maxRecDepth 100000
namespace Go.Proofs.YtaifokkaaahdoaaGreatDoor
section
variable (t0 t1 t2 t3 t4 t5 t6 t7 t8 t9 t14 t20 t21 t59 t60 t61 t74 t77 t78 t79 t93 t94 t95:AV) (H:zaa) (K:Kt) (Kb2 Kb3 Kb8 Kb13 Kb20:Lt)
def zW1(_:Nat):List Bool:=[]
noncomputable def zW2:=Tryz.f97.body.getD .skip
def zvE:=zaw t1 H λt4 H=>zar [.snil,(.int .i64 0),(.int .i64 0)] [(0,1),(1,1),(2,1)] [(0,t0),(1,t2),(2,(.int .i64 200))] λt10=>zaw t10 H λt11 H=>zae true 3 t4 H λt13=>ACalls tP zim [t11,t13] H λt14 H=>K t14 H
def zeY:Nat→List Bool|171022=>rl false [2,2,16,1,53,1,34]|150010=>rl false [2,2,1,2,13,2,87]|100007=>rl false [2,2,1,2,13,1,88]|100002=>rl false [2,2,105]|_=>[]
noncomputable def zeZ:=Tryz.f138.body.getD .skip
noncomputable def zmp:=Tryz.f138.results.toList
def zdT:=zaf 0 t3 λt79=>zae false 1 t79 H λt80=>zab .neq false t80 (.int .i64 4) λt81=>zac t81 true H (λK'=>zaf 0 t3 (K' · H)) λt83 H=>zac t81 true H (λK'=>zae false 1 t83 H (K' · H)) λt84 H=>zac t81 true H (λK'=>zab .neq false t84 (.int .i64 5) (K' · H)) λt85 H=>zak t81 t85 (.bool false) λt86=>zac t86 true H (λK'=>zaf 1 t3 (K' · H)) λt88 H=>zac t86 true H (λK'=>zae false 1 t88 H (K' · H)) λt89 H=>zac t86 true H (λK'=>zab .neq false t89 (.int .i64 0) (K' · H)) λt90 H=>zak t86 t90 (.bool false) λt91=>zag t91 (K (.bool false) H) (zaf 2 t3 λt92=>zae false 1 t92 H λt93=>zah 1 t93 λt94=>zab .lss false t94 t5 λt96=>zac t96 false H (λK'=>zaf 2 t3 (K' · H)) λt98 H=>zac t96 false H (λK'=>zae false 1 t98 H (K' · H)) λt99 H=>zac t96 false H (λK'=>zah 1 t99 (K' · H)) λt100 H=>zac t96 false H (λK'=>K' t6 H) λt101 H=>zac t96 false H (λK'=>zab .gtr false t100 t101 (K' · H)) λt102 H=>zak t96 (.bool true) t102 λt103=>zag t103 (K (.bool false) H) (zaf 2 t3 λt104=>zae false 1 t104 H λt105=>zci ziq [t2] λt106=>ACalls tP zed [t105,t106] H λt107 H=>aUn .not t107 λt108=>K t108 H))
def zcm:=zdT t2 t3 t5 t6 H K
noncomputable def zNY:=zas [1,1,1,1,0,1,0,1,1,1,1,1,1,1,1,1] zeZ
def zNX:=zat tP zeY [1,1,1,1,0,1,0,1,1,1,1,1,1,1,1,1] zeZ (zaA tP zmp K)
def zs2:=AWp tP zNY (zNX K) (ux 2 (t2::t3::ux 16 (t20::ux 53 (t74::ux 34 [])))) H
def zgo:=zag t74 (zcm t2 t3 (.int .i64 1) (.int .i64 1) H K) (zab .eql false t20 (.int .i64 9) λt78=>zag t78 (zcm t2 t3 (.int .i64 1) (.int .i64 7) H K) (K (.bool false) H))
noncomputable def zNW:=zas [1,1,1,1,0,1,0,1] zeZ
def zNV:=zat tP zeY [1,1,1,1,0,1,0,1] zeZ (zaA tP zmp K)
def zmm:=AWp tP zNW (zNV K) (ux 2 (t2::t3::ux 1 (t5::t6::ux 13 (t20::t21::ux 87 [])))) H
def zb2:=zag t21 (zcm t2 t3 t5 t6 H K) (zab .eql false t20 (.int .i64 4) λt26=>zag t26 (apu H (zaf 1 t3) λt27=>apu H (zan false 1 t27 H) λt28=>apu H (zab .lss false t28 (.int .i64 0)) λt29=>apm H t29 λt30=>zac t30 false H (λK'=>zad H (λK''=>zaf 1 t3 (K'' · H)) (K' · H)) λt31 H=>zac t30 false H (λK'=>zad H (λK''=>zan false 1 t31 H (K'' · H)) (K' · H)) λt32 H=>zac t30 false H (λK'=>zad H (λK''=>zan false 1 t2 H (K'' · H)) (K' · H)) λt33 H=>zac t30 false H (λK'=>zad H (λK''=>zaM t33 (K'' · H)) (K' · H)) λt34 H=>zac t30 false H (λK'=>zad H (λK''=>zaf 1 t34 (K'' · H)) (K' · H)) λt35 H=>zac t30 false H (λK'=>zad H (λK''=>zan false 1 t35 H (K'' · H)) (K' · H)) λt36 H=>zac t30 false H (λK'=>zad H (λK''=>zab .geq false t32 t36 (K'' · H)) (K' · H)) λt37 H=>apu H (zak t30 (.bool true) t37) λt38=>zag t38 (K (.bool false) H) (zcm t2 t3 t5 t6 H K)) (zab .eql false t20 (.int .i64 5) λt40=>zag t40 (apu H (zaf 1 t3) λt41=>apu H (zan false 1 t41 H) λt42=>apu H (zab .lss false t42 (.int .i64 0)) λt43=>apm H t43 λt44=>zac t44 false H (λK'=>zad H (λK''=>zaf 1 t3 (K'' · H)) (K' · H)) λt45 H=>zac t44 false H (λK'=>zad H (λK''=>zan false 1 t45 H (K'' · H)) (K' · H)) λt46 H=>zac t44 false H (λK'=>zad H (λK''=>zan false 1 t2 H (K'' · H)) (K' · H)) λt47 H=>zac t44 false H (λK'=>zad H (λK''=>zaM t47 (K'' · H)) (K' · H)) λt48 H=>zac t44 false H (λK'=>zad H (λK''=>zaf 0 t48 (K'' · H)) (K' · H)) λt49 H=>zac t44 false H (λK'=>zad H (λK''=>zan false 1 t49 H (K'' · H)) (K' · H)) λt50 H=>zac t44 false H (λK'=>zad H (λK''=>zah 1 t50 (K'' · H)) (K' · H)) λt51 H=>zac t44 false H (λK'=>zad H (λK''=>zab .geq false t46 t51 (K'' · H)) (K' · H)) λt52 H=>apu H (zak t44 (.bool true) t52) λt53=>zag t53 (K (.bool false) H) (apu H (zan false 1 t2 H) λt54=>apu H (zaM t54) λt55=>apu H (zaf 0 t55) λt56=>apu H (zan false 1 t56 H) λt57=>apu H (zaf 1 t3) λt58=>apu H (zan false 1 t58 H) λt59=>apu H (zai 3 t57 t59) λt60=>apu H (zaf 1 t60) λt61=>apu H (zan false 1 t61 H) λt62=>apu H (zan false 1 t2 H) λt63=>apu H (zaM t63) λt64=>apu H (zaf 0 t64) λt65=>apu H (zan false 1 t65 H) λt66=>apu H (zaf 1 t3) λt67=>apu H (zan false 1 t67 H) λt68=>apu H (zai 3 t66 t68) λt69=>apu H (zaf 1 t69) λt70=>apu H (zan false 1 t70 H) λt71=>apm H t62 λt5=>apm H t71 λt6=>zcm t2 t3 t5 t6 H K)) (zab .eql false t20 (.int .i64 6) λt73=>zag t73 (zcm t2 t3 (.int .i64 2) (.int .i64 6) H K) (zab .eql false t20 (.int .i64 7) λt75=>zag t75 (zs2 t2 t3 t20 t75 H K) (zab .eql false t20 (.int .i64 8) λt76=>zs2 t2 t3 t20 t76 H K)))))
noncomputable def zNU:=zas [1,1,1,1,0,1] zeZ
def zNT:=zat tP zeY [1,1,1,1,0,1] zeZ (zaA tP zmp K)
def zBI:=AWp tP zNU (zNT K) (ux 2 (t2::t3::ux 1 (t5::t6::ux 13 (t20::ux 88 [])))) H
def zi5:=zab .eql false t20 (.int .i64 1) λt22=>zag t22 (zmm t2 t3 t5 t6 t20 t22 H K) (zab .eql false t20 (.int .i64 2) λt23=>zag t23 (zmm t2 t3 t5 t6 t20 t23 H K) (zab .eql false t20 (.int .i64 3) λt24=>zmm t2 t3 t5 t6 t20 t24 H K))
noncomputable def zNS:=zas [1,1] zeZ
def zNR:=zat tP zeY [1,1] zeZ (zaA tP zmp K)
def zml:=AWp tP zNS (zNR K) (ux 2 (t2::t3::ux 105 [])) H
def zi4:=zae false 1 t2 H λt14=>zaM t14 λt15=>zaf 2 t15 λt16=>zae false 1 t16 H λt17=>zab .lss false t17 (.int .i64 0) λt18=>zag t18 (K (.bool false) H) (zaf 0 t3 λt19=>zae false 1 t19 H λt20=>zBI t2 t3 (.int .i64 0) (.int .i64 0) t20 H K)
def zs1:=zaw t0 H λt2 H=>zaw t1 H λt3 H=>zae false 1 t2 H λt7=>zaM t7 λt8=>zaf 2 t8 λt9=>zae false 1 t9 H λt10=>zab .sub false t10 (.int .i64 1) λt11=>zaM t7 λt12=>zaf 2 t12 λt13=>zam 1 t13 t11 H λH=>zml t2 t3 H K
def zQf(_:Nat):List Bool:=[]
noncomputable def zQg:=Tryz.f178.body.getD .skip
def ztG:=zaw t0 H λt2 H=>zae false 1 t1 H λt4=>zae true 3 t2 H λt5=>ACalls tP zim [t4,t5] H λt6 H=>aUn .not t6 λt7=>K t7 H
def zLl(_:Nat):List Bool:=[]
noncomputable def zLm:=Tryz.f105.body.getD .skip
def zsg:=ACalls tP zko [t0,t1] H λt7 H=>zab .geq false t7 (.int .i64 0) λt8=>K t8 H
def zmL:Nat→List Bool|2=>rl false [0,2,5,2,10]|_=>[]
noncomputable def zts:=Tryz.f152.body.getD .skip
noncomputable def zPi:=Tryz.f152.results.toList
def zi8:=t0::t1::ux 5 (t7::t8::ux 10 [])
def zPh:=zmL 2
noncomputable def zPg:=zas [1,0,1,0,0] zts
def zPf:=zat tP zmL [1,0,1,0] zts (zaA tP zPi K)
def zB1:=ALoop tP zPg (zPf K) (zi8 t0 t1 t7 t8) H
def zi7:=zab .lss false t8 t7 λt9=>zag t9 (zai 3 t0 t8 λt14=>zae true 3 t14 H λt15=>aCallV tP t1 [t15] H λt16 H=>zag t16 (K t8 H) (zab .add false t8 (.int .i64 1) λt18=>Kb2 (zi8 t0 t1 t7 t18) H)) (K (.int .i64 (-1)) H)
def ztr:=zah 1 t0 λt7=>zB1 t0 t1 t7 (.int .i64 0) H K
def zew:Nat→List Bool|8=>rl false [2,1,1,1,3,2,49,3,46]|13=>rl false [2,1,1,1,3,2,67,3,28]|20=>rl false [4,1,9,1,78,3,12]|_=>[]
noncomputable def zgD:=Tryz.f101.body.getD .skip
noncomputable def zvJ:=Tryz.f101.results.toList
def zoT:=ux 2 (t2::ux 1 (t4::ux 3 (t8::t9::ux 49 (t59::t60::t61::ux 46 []))))
def zXl:=zew 8
noncomputable def zXf:=zas [1,1,1,1,1,0,1,0,0] zgD
def zXc:=zat tP zew [1,1,1,1,1,0,1,0] zgD (zaA tP zvJ K)
def zFa:=ALoop tP zXf (zXc K) (zoT t2 t4 t8 t9 t59 t60 t61) H
def zoR:=ux 2 (t2::ux 1 (t4::ux 3 (t8::t9::ux 67 (t77::t78::t79::ux 28 []))))
def zXj:=zew 13
noncomputable def zXd:=zas [1,1,1,1,1,1,0,1,0,0] zgD
def zXa:=zat tP zew [1,1,1,1,1,1,0,1,0] zgD (zaA tP zvJ K)
def zE9:=ALoop tP zXd (zXa K) (zoR t2 t4 t8 t9 t77 t78 t79) H
def zoS:=ux 4 (t4::ux 9 (t14::ux 78 (t93::t94::t95::ux 12 [])))
def zXk:=zew 20
noncomputable def zXe:=zas [1,1,1,1,1,1,1,1,0,1,0,0] zgD
def zXb:=zat tP zew [1,1,1,1,1,1,1,1,0,1,0] zgD (zaA tP zvJ K)
def zoU:=ALoop tP zXe (zXb K) (zoS t4 t14 t93 t94 t95) H
def zvH:=zab .lss false t95 t94 λt96=>zag t96 (zai 3 t93 t95 λt97=>zae true 3 t97 H λt98=>zay [(.int .i64 0),(.int .i64 0),.snil] H λt16 H=>zam 3 t16 t98 H λH=>zae true 3 t16 H λt100=>zaf 2 t4 λt101=>zae false 1 t101 H λt102=>ACalls tP zio [t100,t102] H λt103 H=>zau 3 [(.int .i64 0),(.int .i64 0),.snil] 1 [(0,t103)] λt104=>zax zbk 3 40 t14 t104 H λt105 H=>zab .add false t95 (.int .i64 1) λt106=>Kb20 (zoS t4 t105 t93 t94 t106) H) (zaX [t14,(.bool true)] (K · H))
def zvG:=zab .lss false t79 t78 λt80=>zag t80 (zai 3 t77 t79 λt81=>zae true 3 t81 H λt82=>zay [(.int .i64 0),(.int .i64 0),.snil] H λt13 H=>zam 3 t13 t82 H λH=>zae true 3 t13 H λt83=>ACalls tP zkk [t83,t9] H λt85 H=>zab .gtr false t85 (.int .i64 200) λt86=>zag t86 (zaX [.snil,(.bool false)] (K · H)) (zab .add false t79 (.int .i64 1) λt87=>Kb13 (zoR t2 t4 t8 t9 t77 t78 t87) H)) (zaf 2 t8 λt88=>zae false 1 t88 H λt89=>zai 2 t89 t2 λt91=>zaf 1 t91 λt92=>zae false 1 t92 H λt93=>zah 1 t93 λt94=>zoU t4 .snil t93 t94 (.int .i64 0) H K)
def zvI:=zab .lss false t61 t60 λt62=>zag t62 (zai 3 t59 t61 λt64=>zae true 3 t64 H λt65=>zay [(.int .i64 0),(.int .i64 0),.snil] H λt11 H=>zam 3 t11 t65 H λH=>zae true 3 t11 H λt68=>ACalls tP zkj [t68] H λt69 H=>zai 1 t9 t61 λt70=>zam 1 t70 t69 H λH=>zab .add false t61 (.int .i64 1) λt71=>Kb8 (zoT t2 t4 t8 t9 t59 t60 t71) H) (zaf 2 t8 λt72=>zae false 1 t72 H λt73=>zai 2 t73 t2 λt75=>zaf 1 t75 λt76=>zae false 1 t76 H λt77=>zah 1 t77 λt78=>zE9 t2 t4 t8 t9 t77 t78 (.int .i64 0) H K)
def zE8:=zaw t1 H λt4 H=>zaf 0 t4 λt17=>zae false 1 t17 H λt18=>zab .neq false t18 (.int .i64 5) λt19=>zac t19 false H (λK'=>zaf 1 t4 (K' · H)) λt21 H=>zac t19 false H (λK'=>zae false 1 t21 H (K' · H)) λt22 H=>zac t19 false H (λK'=>zab .lss false t22 (.int .i64 0) (K' · H)) λt23 H=>zak t19 (.bool true) t23 λt24=>zac t24 false H (λK'=>zaf 1 t4 (K' · H)) λt26 H=>zac t24 false H (λK'=>zae false 1 t26 H (K' · H)) λt27 H=>zac t24 false H (λK'=>K' t0 H) λt28 H=>zac t24 false H (λK'=>zah 1 t28 (K' · H)) λt29 H=>zac t24 false H (λK'=>zab .geq false t27 t29 (K' · H)) λt30 H=>zak t24 (.bool true) t30 λt31=>zag t31 (zaX [.snil,(.bool false)] (K · H)) (zaf 1 t4 λt33=>zae false 1 t33 H λt34=>zai 3 t0 t34 λt35=>zae true 3 t35 H λt36=>zay [(.str []),(.int .i64 0),.snil] H λt8 H=>zam 3 t8 t36 H λH=>zaf 2 t4 λt37=>zae false 1 t37 H λt38=>zah 1 t38 λt39=>zaf 1 t8 λt40=>zae false 1 t40 H λt41=>zab .neq false t39 t41 λt42=>zac t42 false H (λK'=>K' t2 H) λt44 H=>zac t42 false H (λK'=>zab .lss false t44 (.int .i64 0) (K' · H)) λt45 H=>zak t42 (.bool true) t45 λt46=>zac t46 false H (λK'=>K' t2 H) λt48 H=>zac t46 false H (λK'=>zaf 2 t8 (K' · H)) λt49 H=>zac t46 false H (λK'=>zae false 1 t49 H (K' · H)) λt50 H=>zac t46 false H (λK'=>zah 1 t50 (K' · H)) λt51 H=>zac t46 false H (λK'=>zab .geq false t48 t51 (K' · H)) λt52 H=>zak t46 (.bool true) t52 λt53=>zag t53 (zaX [.snil,(.bool false)] (K · H)) (zaf 2 t4 λt54=>zae false 1 t54 H λt55=>zah 1 t55 λt56=>za9 8 [(.int .i64 0)] t56 t56 H λt57 H=>zaf 2 t4 λt58=>zae false 1 t58 H λt59=>zah 1 t59 λt60=>zFa t2 t4 t8 t57 t59 t60 (.int .i64 0) H K))
def zmu:Nat→List Bool|3=>rl false [3,1,3,3,9]|_=>[]
noncomputable def zta:=Tryz.f142.body.getD .skip
noncomputable def zOo:=Tryz.f142.results.toList
def zmv:=ux 3 (t3::ux 3 (t7::t8::t9::ux 9 []))
def zOm:=zmu 3
noncomputable def zOk:=zas [1,1,0,1,0,0] zta
def zOj:=zat tP zmu [1,1,0,1,0] zta (zaA tP zOo K)
def zBQ:=ALoop tP zOk (zOj K) (zmv t3 t7 t8 t9) H
def zs9:=zab .lss false t9 t8 λt10=>zag t10 (zai 3 t7 t9 λt11=>zae true 3 t11 H λt12=>zay [(.int .i64 0),(.int .i64 0),.snil] H λt5 H=>zam 3 t5 t12 H λH=>zae true 3 t5 H λt14=>ACalls tP zkj [t14] H λt15 H=>zab .add false t3 t15 λt16=>zab .add false t9 (.int .i64 1) λt17=>Kb3 (zmv t16 t7 t8 t17) H) (K t3 H)
def zBP:=zaw t0 H λt1 H=>zaf 2 t1 λt6=>zae false 1 t6 H λt7=>zah 1 t7 λt8=>zBQ (.int .i64 1) t7 t8 (.int .i64 0) H K
variable {t0 t1 t2 t3 t4 t5 t6 t7 t8 t9 t14 t20 t21 t59 t60 t61 t74 t77 t78 t79 t93 t94 t95} {H} {K} {Kb2 Kb3 Kb8 Kb13 Kb20}
theorem zE5(h:HSc H→zvE t0 t1 t2 H K):ACalls tP zga [t0,t1,t2] H K:=
 acb zW1 Tryz.func97 zW2 h
theorem zmo(h:HSc H→zgo t2 t3 t20 t74 H K):zs2 t2 t3 t20 t74 H K:=
 λB w G a hH hF hd=>zgQ (M:=zeY) _ _ _ _ (Eq.mpr (by kernel_rfl) (h hH.sc)) B w G a hH hF hd
theorem zmn(h:HSc H→zb2 t2 t3 t5 t6 t20 t21 H K):zmm t2 t3 t5 t6 t20 t21 H K:=
 λB w G a hH hF hd=>zgQ (M:=zeY) _ _ _ _ (Eq.mpr (by kernel_rfl) (h hH.sc)) B w G a hH hF hd
theorem zBJ(h:HSc H→zi5 t2 t3 t5 t6 t20 H K):zBI t2 t3 t5 t6 t20 H K:=
 λB w G a hH hF hd=>zgQ (M:=zeY) _ _ _ _ (Eq.mpr (by kernel_rfl) (h hH.sc)) B w G a hH hF hd
theorem zBH(h:HSc H→zi4 t2 t3 H K):zml t2 t3 H K:=
 λB w G a hH hF hd=>zgQ (M:=zeY) _ _ _ _ (Eq.mpr (by kernel_rfl) (h hH.sc)) B w G a hH hF hd
theorem zBK(h:HSc H→zs1 t0 t1 H K):ACalls tP zim [t0,t1] H K:=
 acb zeY Tryz.func138 zeZ h
theorem zCq(h:HSc H→ztG t0 t1 H K):ACalls tP ziq [t0,t1] H K:=
 acb zQf Tryz.func178 zQg h
theorem zAp(h:HSc H→zsg t0 t1 H K):ACalls tP zed [t0,t1] H K:=
 acb zLl Tryz.func105 zLm h
theorem zB2:Lo1 (λt8=>zi8 t0 t1 t7 t8) (λt8 H Kb2=>zi7 t0 t1 t7 t8 H K Kb2) t8 H (zB1 t0 t1 t7 t8 H K):=lq1 zmL zPh
theorem zB3(h:HSc H→ztr t0 t1 H K):ACalls tP zko [t0,t1] H K:=
 acb zmL Tryz.func152 zts h
theorem zXh:Lo2 (λt14 t95=>zoS t4 t14 t93 t94 t95) (λt14 t95 H Kb20=>zvH t4 t14 t93 t94 t95 H K Kb20) t14 t95 H (zoU t4 t14 t93 t94 t95 H K):=lq2 zew zXk
theorem zXg:Lo1 (λt79=>zoR t2 t4 t8 t9 t77 t78 t79) (λt79 H Kb13=>zvG t2 t4 t8 t9 t77 t78 t79 H K Kb13) t79 H (zE9 t2 t4 t8 t9 t77 t78 t79 H K):=lq1 zew zXj
theorem zXi:Lo1 (λt61=>zoT t2 t4 t8 t9 t59 t60 t61) (λt61 H Kb8=>zvI t2 t4 t8 t9 t59 t60 t61 H K Kb8) t61 H (zFa t2 t4 t8 t9 t59 t60 t61 H K):=lq1 zew zXl
theorem zXm(h:HSc H→zE8 t0 t1 t2 H K):ACalls tP zkU [t0,t1,t2] H K:=
 acb zew Tryz.func101 zgD h
theorem zOl:Lo2 (λt3 t9=>zmv t3 t7 t8 t9) (λt3 t9 H Kb3=>zs9 t3 t7 t8 t9 H K Kb3) t3 t9 H (zBQ t3 t7 t8 t9 H K):=lq2 zmu zOm
theorem zOn(h:HSc H→zBP t0 H K):ACalls tP zkj [t0] H K:=
 acb zmu Tryz.func142 zta h
end
section
variable (t0 t1 t2 t3 t4 t5 t7 t8 t13 t14 t29 t30 t31 t35 t36 t37 t63 t64 t65 t75:AV) (H:zaa) (K:Kt) (Kb3 Kb5 Kb24:Lt)
def zmw:Nat→List Bool|5=>rl false [1,1,3,1,23,3,12]|_=>[]
noncomputable def ztd:=Tryz.f143.body.getD .skip
noncomputable def zOv:=Tryz.f143.results.toList
def zmx:=ux 1 (t1::ux 3 (t5::ux 23 (t29::t30::t31::ux 12 [])))
def zOt:=zmw 5
noncomputable def zOr:=zas [1,1,1,0,1,0,0] ztd
def zOq:=zat tP zmw [1,1,1,0,1,0] ztd (zaA tP zOv K)
def ztf:=ALoop tP zOr (zOq K) (zmx t1 t5 t29 t30 t31) H
def zte:=K t5 H
def zmy:=zte t5 H K
def ztc:=zab .lss false t31 t30 λt32=>zag t32 (zai 3 t29 t31 λt33=>zae true 3 t33 H λt34=>zay [(.int .i64 0),(.int .i64 0),.snil] H λt7 H=>zam 3 t7 t34 H λH=>zae true 3 t7 H λt36=>ACalls tP zkk [t36,t1] H λt38 H=>zab .add false t5 t38 λt39=>zab .gtr false t39 (.int .i64 200) λt41=>zag t41 (zmy t39 H K) (zab .add false t31 (.int .i64 1) λt42=>Kb5 (zmx t1 t39 t29 t30 t42) H)) (zmy t5 H K)
def ztb:=zaw t0 H λt2 H=>zaf 0 t2 λt8=>zae false 1 t8 H λt9=>zab .eql false t9 (.int .i64 4) λt10=>zac t10 true H (λK'=>zaf 1 t2 (K' · H)) λt12 H=>zac t10 true H (λK'=>zae false 1 t12 H (K' · H)) λt13 H=>zac t10 true H (λK'=>zab .geq false t13 (.int .i64 0) (K' · H)) λt14 H=>zak t10 t14 (.bool false) λt15=>zac t15 true H (λK'=>zaf 1 t2 (K' · H)) λt17 H=>zac t15 true H (λK'=>zae false 1 t17 H (K' · H)) λt18 H=>zac t15 true H (λK'=>K' t1 H) λt19 H=>zac t15 true H (λK'=>zah 1 t19 (K' · H)) λt20 H=>zac t15 true H (λK'=>zab .lss false t18 t20 (K' · H)) λt21 H=>zak t15 t21 (.bool false) λt22=>zag t22 (zaf 1 t2 λt24=>zae false 1 t24 H λt25=>zai 1 t1 t25 λt26=>zae false 1 t26 H λt27=>K t27 H) (zaf 2 t2 λt28=>zae false 1 t28 H λt29=>zah 1 t29 λt30=>ztf t1 (.int .i64 1) t29 t30 (.int .i64 0) H K)
def zmz:Nat→List Bool|5=>rl false [1,1,2,2,29,3,13]|_=>[]
noncomputable def zti:=Tryz.f144.body.getD .skip
noncomputable def zOC:=Tryz.f144.results.toList
def zmA:=ux 1 (t1::ux 2 (t4::t5::ux 29 (t35::t36::t37::ux 13 [])))
def zOA:=zmz 5
noncomputable def zOy:=zas [1,1,1,0,1,0,0] zti
def zOx:=zat tP zmz [1,1,1,0,1,0] zti (zaA tP zOC K)
def zi6:=ALoop tP zOy (zOx K) (zmA t1 t4 t5 t35 t36 t37) H
def zth:=zab .lss false t37 t36 λt38=>zag t38 (zai 3 t35 t37 λt39=>zae true 3 t39 H λt40=>zay [(.int .i64 0),(.int .i64 0),.snil] H λt7 H=>zam 3 t7 t40 H λH=>apu H (zaf 2 t5) λt41=>apu H (zan false 1 t41 H) λt42=>apu H (zan true 3 t7 H) λt43=>apm H t1 λt44=>zaF H (λH K'=>ACalls tP zio [t43,t44] H K') λt45=>apu H (zau 3 [(.int .i64 0),(.int .i64 0),.snil] 1 [(0,t45)]) λt46=>zax zbk 3 40 t42 t46 H λt47 H=>apu H (zaf 2 t5) λt48=>zam 1 t48 t47 H λH=>zab .add false t37 (.int .i64 1) λt49=>Kb5 (zmA t1 t4 t5 t35 t36 t49) H) (zae true 3 t5 H λt50=>zam 3 t4 t50 H λH=>zae true 3 t4 H λr0=>K r0 H)
def ztg:=zaw t0 H λt2 H=>zay [(.int .i64 0),(.int .i64 0),.snil] H λt4 H=>zaf 0 t2 λt8=>zae false 1 t8 H λt9=>zab .eql false t9 (.int .i64 4) λt10=>zac t10 true H (λK'=>zaf 1 t2 (K' · H)) λt12 H=>zac t10 true H (λK'=>zae false 1 t12 H (K' · H)) λt13 H=>zac t10 true H (λK'=>zab .geq false t13 (.int .i64 0) (K' · H)) λt14 H=>zak t10 t14 (.bool false) λt15=>zac t15 true H (λK'=>zaf 1 t2 (K' · H)) λt17 H=>zac t15 true H (λK'=>zae false 1 t17 H (K' · H)) λt18 H=>zac t15 true H (λK'=>K' t1 H) λt19 H=>zac t15 true H (λK'=>zah 1 t19 (K' · H)) λt20 H=>zac t15 true H (λK'=>zab .lss false t18 t20 (K' · H)) λt21 H=>zak t15 t21 (.bool false) λt22=>zag t22 (zaf 1 t2 λt24=>zae false 1 t24 H λt25=>zai 3 t1 t25 λt26=>zae true 3 t26 H λt27=>ACalls tP zio [t27,.snil] H λt28 H=>zam 3 t4 t28 H λH=>zae true 3 t4 H λr0=>K r0 H) (zaf 0 t2 λt29=>zae false 1 t29 H λt30=>zaf 1 t2 λt31=>zae false 1 t31 H λt32=>zar [(.int .i64 0),(.int .i64 0),.snil] [(0,1),(1,1),(2,1)] [(0,t30),(1,t32)] λt33=>zay [(.int .i64 0),(.int .i64 0),.snil] H λt5 H=>zam 3 t5 t33 H λH=>zaf 2 t2 λt34=>zae false 1 t34 H λt35=>zah 1 t35 λt36=>zi6 t1 t4 t5 t35 t36 (.int .i64 0) H K)
def zRC(_:Nat):List Bool:=[]
noncomputable def zRD:=Tryz.f27.body.getD .skip
def zCZ:=zaw t1 H λt4 H=>zae true 3 t4 H λt7=>ACalls tP ziz [t7] H λt8 H=>zab .leq false t8 (.int .i64 200) λt9=>zac t9 true H (λK'=>K' t0 H) λt11 H=>zac t9 true H (λK'=>zae true 3 t4 H (K' · H)) λt12 H=>zac t9 true H (λK'=>K' t2 H) λt13 H=>zac t9 true H (λK'=>ACalls tP zkK [t11,t12,t13] H K') λt14 H=>zak t9 t14 (.bool false) λt15=>K t15 H
def zn4:Nat→List Bool|3=>rl false [1,1,1,2,16]|_=>[]
noncomputable def zuH:=Tryz.f65.body.getD .skip
noncomputable def zUm:=Tryz.f65.results.toList
def zn5:=ux 1 (t1::ux 1 (t3::t4::ux 16 []))
def zUk:=zn4 3
noncomputable def zUi:=zas [1,1,0,1,0,0] zuH
def zUh:=zat tP zn4 [1,1,0,1,0] zuH (zaA tP zUm K)
def zD2:=ALoop tP zUi (zUh K) (zn5 t1 t3 t4) H
def zuG:=zaf 2 t1 λt6=>zae false 1 t6 H λt7=>zah 1 t7 λt8=>zab .lss false t4 t8 λt9=>zag t9 (zaf 2 t1 λt13=>zae false 1 t13 H λt14=>zai 3 t14 t4 λt16=>zae true 3 t16 H λt17=>ACalls tP ziz [t17] H λt18 H=>zab .add false t3 t18 λt19=>zab .add false t4 (.int .i64 1) λt11=>Kb3 (zn5 t1 t19 t11) H) (K t3 H)
def zD1:=zaw t0 H λt1 H=>zD2 t1 (.int .i64 1) (.int .i64 0) H K
def zn6:Nat→List Bool|24=>rl false [0,1,1,1,1,1,2,2,103]|_=>[]
noncomputable def zuJ:=Tryz.f66.body.getD .skip
noncomputable def zUs:=Tryz.f66.results.toList
def zn7:=t0::ux 1 (t2::ux 1 (t4::ux 2 (t7::t8::ux 103 [])))
def zUq:=zn6 24
noncomputable def zUo:=zas [1,1,1,0,1,0,0] zuJ
def zUn:=zat tP zn6 [1,1,1,0,1,0] zuJ (zaA tP zUs K)
def zuK:=ALoop tP zUo (zUn K) (zn7 t0 t2 t4 t7 t8) H
def zuI:=zab .lss false t8 t7 λt100=>zag t100 (zaf 2 t4 λt104=>zae false 1 t104 H λt105=>zai 3 t105 t8 λt107=>zae true 3 t107 H λt108=>ACalls tP zkK [t0,t108,t2] H λt110 H=>aUn .not t110 λt111=>zag t111 (K (.bool false) H) (zab .add false t8 (.int .i64 1) λt102=>Kb24 (zn7 t0 t2 t4 t7 t102) H)) (K (.bool true) H)
def zjl:=zuK t0 t2 t4 t7 (.int .i64 0) H K
def zfK:=zjl t0 t2 t4 t7 H K
def zet:=zag t75 (zaf 1 t4 λt78=>zae false 1 t78 H λt79=>zab .neq false t79 (.int .i64 0) λt80=>zac t80 false H (λK'=>K' t7 H) λt82 H=>zac t80 false H (λK'=>zab .neq false t82 (.int .i64 1) (K' · H)) λt83 H=>zak t80 (.bool true) t83 λt84=>zag t84 (K (.bool false) H) (zfK t0 t2 t4 t7 H K)) (zab .eql false t13 (.int .i64 9) λt86=>zag t86 (zaf 1 t4 λt87=>zae false 1 t87 H λt88=>zab .neq false t88 (.int .i64 0) λt89=>zac t89 false H (λK'=>K' t7 H) λt91 H=>zac t89 false H (λK'=>zab .lss false t91 (.int .i64 1) (K' · H)) λt92 H=>zak t89 (.bool true) t92 λt93=>zac t93 false H (λK'=>K' t7 H) λt95 H=>zac t93 false H (λK'=>zab .gtr false t95 (.int .i64 7) (K' · H)) λt96 H=>zak t93 (.bool true) t96 λt97=>zag t97 (K (.bool false) H) (zfK t0 t2 t4 t7 H K)) (K (.bool false) H))
def zbM:=zag t14 (zaf 1 t4 λt18=>zae false 1 t18 H λt19=>zab .eql false t19 (.int .i64 0) λt20=>zac t20 true H (λK'=>K' t7 H) λt22 H=>zac t20 true H (λK'=>zab .eql false t22 (.int .i64 0) (K' · H)) λt23 H=>zak t20 t23 (.bool false) λt24=>K t24 H) (zab .eql false t13 (.int .i64 4) λt26=>zag t26 (zaf 1 t4 λt27=>zae false 1 t27 H λt28=>zab .geq false t28 (.int .i64 0) λt29=>zac t29 true H (λK'=>zaf 1 t4 (K' · H)) λt31 H=>zac t29 true H (λK'=>zae false 1 t31 H (K' · H)) λt32 H=>zac t29 true H (λK'=>K' t2 H) λt33 H=>zac t29 true H (λK'=>zab .lss false t32 t33 (K' · H)) λt34 H=>zak t29 t34 (.bool false) λt35=>zac t35 true H (λK'=>K' t7 H) λt37 H=>zac t35 true H (λK'=>zab .eql false t37 (.int .i64 0) (K' · H)) λt38 H=>zak t35 t38 (.bool false) λt39=>K t39 H) (zab .eql false t13 (.int .i64 5) λt41=>zag t41 (zaf 1 t4 λt42=>zae false 1 t42 H λt43=>zab .lss false t43 (.int .i64 0) λt44=>zac t44 false H (λK'=>zaf 1 t4 (K' · H)) λt46 H=>zac t44 false H (λK'=>zae false 1 t46 H (K' · H)) λt47 H=>zac t44 false H (λK'=>K' t0 H) λt48 H=>zac t44 false H (λK'=>zah 1 t48 (K' · H)) λt49 H=>zac t44 false H (λK'=>zab .geq false t47 t49 (K' · H)) λt50 H=>zak t44 (.bool true) t50 λt51=>zac t51 false H (λK'=>K' t7 H) λt53 H=>zac t51 false H (λK'=>K' t0 H) λt54 H=>zac t51 false H (λK'=>zaf 1 t4 (K' · H)) λt55 H=>zac t51 false H (λK'=>zae false 1 t55 H (K' · H)) λt56 H=>zac t51 false H (λK'=>zai 3 t54 t56 (K' · H)) λt57 H=>zac t51 false H (λK'=>zaf 1 t57 (K' · H)) λt58 H=>zac t51 false H (λK'=>zae false 1 t58 H (K' · H)) λt59 H=>zac t51 false H (λK'=>zab .neq false t53 t59 (K' · H)) λt60 H=>zak t51 (.bool true) t60 λt61=>zag t61 (K (.bool false) H) (zfK t0 t2 t4 t7 H K)) (zab .eql false t13 (.int .i64 6) λt63=>zag t63 (zaf 1 t4 λt64=>zae false 1 t64 H λt65=>zab .neq false t65 (.int .i64 0) λt66=>zac t66 false H (λK'=>K' t7 H) λt68 H=>zac t66 false H (λK'=>zab .lss false t68 (.int .i64 2) (K' · H)) λt69 H=>zak t66 (.bool true) t69 λt70=>zac t70 false H (λK'=>K' t7 H) λt72 H=>zac t70 false H (λK'=>zab .gtr false t72 (.int .i64 6) (K' · H)) λt73 H=>zak t70 (.bool true) t73 λt74=>zag t74 (K (.bool false) H) (zfK t0 t2 t4 t7 H K)) (zab .eql false t13 (.int .i64 7) λt76=>zag t76 (zet t0 t2 t4 t7 t13 t76 H K) (zab .eql false t13 (.int .i64 8) λt77=>zet t0 t2 t4 t7 t13 t77 H K)))))
def zcF:=zaw t1 H λt4 H=>zaf 2 t4 λt9=>zae false 1 t9 H λt10=>zah 1 t10 λt11=>zaf 0 t4 λt12=>zae false 1 t12 H λt13=>zab .eql false t13 (.int .i64 1) λt15=>zag t15 (zbM t0 t2 t4 t11 t13 t15 H K) (zab .eql false t13 (.int .i64 2) λt16=>zag t16 (zbM t0 t2 t4 t11 t13 t16 H K) (zab .eql false t13 (.int .i64 3) λt17=>zbM t0 t2 t4 t11 t13 t17 H K))
def zoa:Nat→List Bool|5=>rl false [4,1,3,1,54,3,16]|_=>[]
noncomputable def zuP:=Tryz.f68.body.getD .skip
noncomputable def zUF:=Tryz.f68.results.toList
def zob:=ux 4 (t4::ux 3 (t8::ux 54 (t63::t64::t65::ux 16 [])))
def zUD:=zoa 5
noncomputable def zUB:=zas [1,1,1,0,1,0,0] zuP
def zUA:=zat tP zoa [1,1,1,0,1,0] zuP (zaA tP zUF K)
def zoc:=ALoop tP zUB (zUA K) (zob t4 t8 t63 t64 t65) H
def zuO:=zab .lss false t65 t64 λt66=>zag t66 (zai 3 t63 t65 λt67=>zae true 3 t67 H λt68=>zay [(.int .i64 0),(.int .i64 0),.snil] H λt10 H=>zam 3 t10 t68 H λH=>zae true 3 t10 H λt69=>zaf 2 t4 λt70=>zae false 1 t70 H λt71=>ACalls tP zke [t69,t71] H λt72 H=>zay [(.int .i64 0),(.int .i64 0),.snil] H λt11 H=>zam 3 t11 t72 H λH=>zae true 3 t11 H λt73=>ACalls tP ziz [t73] H λt74 H=>zab .gtr false t74 (.int .i64 200) λt75=>zag t75 (zaX [.snil,(.bool false)] (K · H)) (zae true 3 t11 H λt77=>zau 3 [(.int .i64 0),(.int .i64 0),.snil] 1 [(0,t77)] λt78=>zax zbk 3 40 t8 t78 H λt79 H=>zab .add false t65 (.int .i64 1) λt80=>Kb5 (zob t4 t79 t63 t64 t80) H)) (zaX [t8,(.bool true)] (K · H))
def zD6:=zaw t1 H λt4 H=>apu H (zaf 0 t4) λt12=>apu H (zan false 1 t12 H) λt13=>apu H (zab .neq false t13 (.int .i64 5)) λt14=>apm H t14 λt15=>zac t15 false H (λK'=>zad H (λK''=>zaf 1 t4 (K'' · H)) (K' · H)) λt16 H=>zac t15 false H (λK'=>zad H (λK''=>zan false 1 t16 H (K'' · H)) (K' · H)) λt17 H=>zac t15 false H (λK'=>zad H (λK''=>zab .lss false t17 (.int .i64 0) (K'' · H)) (K' · H)) λt18 H=>apu H (zak t15 (.bool true) t18) λt19=>apm H t19 λt20=>zac t20 false H (λK'=>zad H (λK''=>zaf 1 t4 (K'' · H)) (K' · H)) λt21 H=>zac t20 false H (λK'=>zad H (λK''=>zan false 1 t21 H (K'' · H)) (K' · H)) λt22 H=>zac t20 false H (λK'=>zad H (λK''=>K'' t0 H) (K' · H)) λt23 H=>zac t20 false H (λK'=>zad H (λK''=>zah 1 t23 (K'' · H)) (K' · H)) λt24 H=>zac t20 false H (λK'=>zad H (λK''=>zab .geq false t22 t24 (K'' · H)) (K' · H)) λt25 H=>apu H (zak t20 (.bool true) t25) λt26=>apm H t26 λt27=>zac t27 false H (λK'=>zad H (λK''=>zaf 2 t4 (K'' · H)) (K' · H)) λt28 H=>zac t27 false H (λK'=>zad H (λK''=>zan false 1 t28 H (K'' · H)) (K' · H)) λt29 H=>zac t27 false H (λK'=>zad H (λK''=>zah 1 t29 (K'' · H)) (K' · H)) λt30 H=>zac t27 false H (λK'=>zad H (λK''=>K'' t0 H) (K' · H)) λt31 H=>zac t27 false H (λK'=>zad H (λK''=>zaf 1 t4 (K'' · H)) (K' · H)) λt32 H=>zac t27 false H (λK'=>zad H (λK''=>zan false 1 t32 H (K'' · H)) (K' · H)) λt33 H=>zac t27 false H (λK'=>zad H (λK''=>zai 3 t31 t33 (K'' · H)) (K' · H)) λt34 H=>zac t27 false H (λK'=>zad H (λK''=>zaf 1 t34 (K'' · H)) (K' · H)) λt35 H=>zac t27 false H (λK'=>zad H (λK''=>zan false 1 t35 H (K'' · H)) (K' · H)) λt36 H=>zac t27 false H (λK'=>zad H (λK''=>zab .neq false t30 t36 (K'' · H)) (K' · H)) λt37 H=>apu H (zak t27 (.bool true) t37) λt38=>apm H t38 λt39=>zac t39 false H (λK'=>zad H (λK''=>K'' t2 H) (K' · H)) λt40 H=>zac t39 false H (λK'=>zad H (λK''=>zab .lss false t40 (.int .i64 0) (K'' · H)) (K' · H)) λt41 H=>apu H (zak t39 (.bool true) t41) λt42=>apm H t42 λt43=>zac t43 false H (λK'=>zad H (λK''=>K'' t2 H) (K' · H)) λt44 H=>zac t43 false H (λK'=>zad H (λK''=>K'' t0 H) (K' · H)) λt45 H=>zac t43 false H (λK'=>zad H (λK''=>zaf 1 t4 (K'' · H)) (K' · H)) λt46 H=>zac t43 false H (λK'=>zad H (λK''=>zan false 1 t46 H (K'' · H)) (K' · H)) λt47 H=>zac t43 false H (λK'=>zad H (λK''=>zai 3 t45 t47 (K'' · H)) (K' · H)) λt48 H=>zac t43 false H (λK'=>zad H (λK''=>zaf 2 t48 (K'' · H)) (K' · H)) λt49 H=>zac t43 false H (λK'=>zad H (λK''=>zan false 1 t49 H (K'' · H)) (K' · H)) λt50 H=>zac t43 false H (λK'=>zad H (λK''=>zah 1 t50 (K'' · H)) (K' · H)) λt51 H=>zac t43 false H (λK'=>zad H (λK''=>zab .geq false t44 t51 (K'' · H)) (K' · H)) λt52 H=>apu H (zak t43 (.bool true) t52) λt53=>zag t53 (zaX [.snil,(.bool false)] (K · H)) (zaf 1 t4 λt55=>zae false 1 t55 H λt56=>zai 3 t0 t56 λt57=>zaf 2 t57 λt58=>zae false 1 t58 H λt59=>zai 2 t59 t2 λt61=>zaf 1 t61 λt62=>zae false 1 t62 H λt63=>zah 1 t63 λt64=>zoc t4 .snil t63 t64 (.int .i64 0) H K)
variable {t0 t1 t2 t3 t4 t5 t7 t8 t13 t14 t29 t30 t31 t35 t36 t37 t63 t64 t65 t75} {H} {K} {Kb3 Kb5 Kb24}
theorem zOs:Lo2 (λt5 t31=>zmx t1 t5 t29 t30 t31) (λt5 t31 H Kb5=>ztc t1 t5 t29 t30 t31 H K Kb5) t5 t31 H (ztf t1 t5 t29 t30 t31 H K):=lq2 zmw zOt
theorem zOu(h:HSc H→ztb t0 t1 H K):ACalls tP zkk [t0,t1] H K:=
 acb zmw Tryz.func143 ztd h
theorem zOz:Lo1 (λt37=>zmA t1 t4 t5 t35 t36 t37) (λt37 H Kb5=>zth t1 t4 t5 t35 t36 t37 H K Kb5) t37 H (zi6 t1 t4 t5 t35 t36 t37 H K):=lq1 zmz zOA
theorem zOB(h:HSc H→ztg t0 t1 H K):ACalls tP zio [t0,t1] H K:=
 acb zmz Tryz.func144 zti h
theorem zRE(h:HSc H→zCZ t0 t1 t2 H K):ACalls tP zkz [t0,t1,t2] H K:=
 acb zRC Tryz.func27 zRD h
theorem zUj:Lo2 (λt3 t4=>zn5 t1 t3 t4) (λt3 t4 H Kb3=>zuG t1 t3 t4 H K Kb3) t3 t4 H (zD2 t1 t3 t4 H K):=lq2 zn4 zUk
theorem zUl(h:HSc H→zD1 t0 H K):ACalls tP ziz [t0] H K:=
 acb zn4 Tryz.func65 zuH h
theorem zUp:Lo1 (λt8=>zn7 t0 t2 t4 t7 t8) (λt8 H Kb24=>zuI t0 t2 t4 t7 t8 H K Kb24) t8 H (zuK t0 t2 t4 t7 t8 H K):=lq1 zn6 zUq
theorem zUr(h:HSc H→zcF t0 t1 t2 H K):ACalls tP zkK [t0,t1,t2] H K:=
 acb zn6 Tryz.func66 zuJ h
theorem zUC:Lo2 (λt8 t65=>zob t4 t8 t63 t64 t65) (λt8 t65 H Kb5=>zuO t4 t8 t63 t64 t65 H K Kb5) t8 t65 H (zoc t4 t8 t63 t64 t65 H K):=lq2 zoa zUD
theorem zUE(h:HSc H→zD6 t0 t1 t2 H K):ACalls tP zkM [t0,t1,t2] H K:=
 acb zoa Tryz.func68 zuP h
end
section
variable (t0 t1 t2 t3 t4 t5 t6 t7 t8 t9 t47 t48 t49 t78 t79 t80:AV) (H:zaa) (K:Kt) (Kb3 Kb4 Kb5 Kb6 Kb10:Lt)
def zlG:Nat→List Bool|5=>rl false [1,2,1,3,46]|_=>[]
noncomputable def zse:=Tryz.f104.body.getD .skip
noncomputable def zLj:=Tryz.f104.results.toList
def zlH:=ux 1 (t1::t2::ux 1 (t4::t5::t6::ux 46 []))
def zLh:=zlG 5
noncomputable def zLf:=zas [1,1,1,0,1,0,0] zse
def zLe:=zat tP zlG [1,1,1,0,1,0] zse (zaA tP zLj K)
def zsf:=ALoop tP zLf (zLe K) (zlH t1 t2 t4 t5 t6) H
def zsd:=zaf 2 t2 λt34=>zae false 1 t34 H λt35=>zah 1 t35 λt36=>zab .lss false t6 t36 λt37=>zag t37 (apu H (zaf 2 t5) λt40=>apu H (zan false 1 t40 H) λt41=>apu H (zaf 2 t2) λt42=>apu H (zan false 1 t42 H) λt43=>apm H t6 λt44=>apu H (zai 3 t43 t44) λt45=>apu H (zan true 3 t45 H) λt46=>apm H t1 λt47=>zaF H (λH K'=>ACalls tP zke [t46,t47] H K') λt48=>apu H (zau 3 [(.int .i64 0),(.int .i64 0),.snil] 1 [(0,t48)]) λt49=>zax zbk 3 40 t41 t49 H λt50 H=>apu H (zaf 2 t5) λt51=>zam 1 t51 t50 H λH=>zab .add false t6 (.int .i64 1) λt39=>Kb5 (zlH t1 t2 t4 t5 t39) H) (zae true 3 t5 H λt52=>zam 3 t4 t52 H λH=>zae true 3 t4 H λr0=>K r0 H)
def zsc:=zaw t0 H λt2 H=>zay [(.int .i64 0),(.int .i64 0),.snil] H λt4 H=>zaf 0 t2 λt7=>zae false 1 t7 H λt8=>zab .eql false t8 (.int .i64 4) λt9=>zac t9 true H (λK'=>zaf 1 t2 (K' · H)) λt11 H=>zac t9 true H (λK'=>zae false 1 t11 H (K' · H)) λt12 H=>zac t9 true H (λK'=>zab .geq false t12 (.int .i64 0) (K' · H)) λt13 H=>zak t9 t13 (.bool false) λt14=>zac t14 true H (λK'=>zaf 1 t2 (K' · H)) λt16 H=>zac t14 true H (λK'=>zae false 1 t16 H (K' · H)) λt17 H=>zac t14 true H (λK'=>K' t1 H) λt18 H=>zac t14 true H (λK'=>zah 1 t18 (K' · H)) λt19 H=>zac t14 true H (λK'=>zab .lss false t17 t19 (K' · H)) λt20 H=>zak t14 t20 (.bool false) λt21=>zag t21 (zaf 1 t2 λt23=>zae false 1 t23 H λt24=>zai 3 t1 t24 λt25=>zae true 3 t25 H λt26=>ACalls tP zkn [t26] H λt27 H=>zam 3 t4 t27 H λH=>zae true 3 t4 H λr0=>K r0 H) (zaf 0 t2 λt28=>zae false 1 t28 H λt29=>zaf 1 t2 λt30=>zae false 1 t30 H λt31=>zar [(.int .i64 0),(.int .i64 0),.snil] [(0,1),(1,1),(2,1)] [(0,t29),(1,t31)] λt32=>zay [(.int .i64 0),(.int .i64 0),.snil] H λt5 H=>zam 3 t5 t32 H λH=>zsf t1 t2 t4 t5 (.int .i64 0) H K)
def zmJ:Nat→List Bool|3=>rl false [1,4,24]|_=>[]
noncomputable def ztq:=Tryz.f151.body.getD .skip
noncomputable def zPa:=Tryz.f151.results.toList
def zmK:=ux 1 (t1::t2::t3::t4::ux 24 [])
def zO8:=zmJ 3
noncomputable def zO6:=zas [1,1,0,1,0,0] ztq
def zO5:=zat tP zmJ [1,1,0,1,0] ztq (zaA tP zPa K)
def zBY:=ALoop tP zO6 (zO5 K) (zmK t1 t2 t3 t4) H
def ztp:=zaf 2 t1 λt11=>zae false 1 t11 H λt12=>zah 1 t12 λt13=>zab .lss false t4 t13 λt14=>zag t14 (apu H (zaf 2 t3) λt17=>apu H (zan false 1 t17 H) λt18=>apu H (zaf 2 t1) λt19=>apu H (zan false 1 t19 H) λt20=>apm H t4 λt21=>apu H (zai 3 t20 t21) λt22=>apu H (zan true 3 t22 H) λt23=>zaF H (λH K'=>ACalls tP zkn [t23] H K') λt24=>apu H (zau 3 [(.int .i64 0),(.int .i64 0),.snil] 1 [(0,t24)]) λt25=>zax zbk 3 40 t18 t25 H λt26 H=>apu H (zaf 2 t3) λt27=>zam 1 t27 t26 H λH=>zab .add false t4 (.int .i64 1) λt16=>Kb3 (zmK t1 t2 t3 t16) H) (zae true 3 t3 H λt28=>zam 3 t2 t28 H λH=>zae true 3 t2 H λr0=>K r0 H)
def zBX:=zaw t0 H λt1 H=>zay [(.int .i64 0),(.int .i64 0),.snil] H λt2 H=>zaf 0 t1 λt5=>zae false 1 t5 H λt6=>zaf 1 t1 λt7=>zae false 1 t7 H λt8=>zar [(.int .i64 0),(.int .i64 0),.snil] [(0,1),(1,1),(2,1)] [(0,t6),(1,t8)] λt9=>zay [(.int .i64 0),(.int .i64 0),.snil] H λt3 H=>zam 3 t3 t9 H λH=>zBY t1 t2 t3 (.int .i64 0) H K
def zgs:Nat→List Bool|6=>rl false [0,2,6,1,38,3,56]|10=>rl false [0,2,6,2,37,3,28,3,25]|_=>[]
noncomputable def ztM:=Tryz.f189.body.getD .skip
noncomputable def zQy:=Tryz.f189.results.toList
def zm7:=t0::t1::ux 6 (t8::ux 38 (t47::t48::t49::ux 56 []))
def zCA:=zgs 6
noncomputable def ztN:=zas [1,1,1,1,0,1,0,0] ztM
def zCy:=zat tP zgs [1,1,1,1,0,1,0] ztM (zaA tP zQy K)
def zCz:=ALoop tP ztN (zCy K) (zm7 t0 t1 t8 t47 t48 t49) H
def zm6:=t0::t1::ux 6 (t8::t9::ux 37 (t47::t48::t49::ux 28 (t78::t79::t80::ux 25 [])))
def zQw:=zgs 10
noncomputable def zQt:=zas [1,1,0,0,1,1,1,0,0] ztN
def zQr:=zat tP zgs [1,1,0,0,1,1,1,0] ztN (zbp zCA Kb6 (zCy K))
def ztP:=ALoop tP zQt (zQr K Kb6) (zm6 t0 t1 t8 t9 t47 t48 t49 t78 t79 t80) H
def ztO(t0 t1 t8 t9 t47 t48 t49 t78 t79 t80:AV)(H:zaa)(K:Kt)(Kb6:Lt)(Kb10:Lt):Prop:=zab .add false t80 (.int .i64 1) λt103=>Kb10 (zm6 t0 t1 t8 t9 t47 t48 t49 t78 t79 t103) H
def zhG:=ztO t0 t1 t8 t9 t47 t48 t49 t78 t79 t80 H K Kb6 Kb10
def zhF:=zab .lss false t80 t79 λt81=>zag t81 (zai 3 t78 t80 λt83=>zae true 3 t83 H λt84=>zay [(.int .i64 0),(.int .i64 0),.snil] H λt12 H=>zam 3 t12 t84 H λH=>zaf 0 t12 λt85=>zae false 1 t85 H λt86=>zab .neq false t86 (.int .i64 4) λt87=>zac t87 false H (λK'=>zaf 1 t12 (K' · H)) λt89 H=>zac t87 false H (λK'=>zae false 1 t89 H (K' · H)) λt90 H=>zac t87 false H (λK'=>K' t80 H) λt91 H=>zac t87 false H (λK'=>zab .neq false t90 t91 (K' · H)) λt92 H=>zak t87 (.bool true) t92 λt93=>zac t93 false H (λK'=>zaf 2 t12 (K' · H)) λt95 H=>zac t93 false H (λK'=>zae false 1 t95 H (K' · H)) λt96 H=>zac t93 false H (λK'=>zah 1 t96 (K' · H)) λt97 H=>zac t93 false H (λK'=>zab .gtr false t97 (.int .i64 0) (K' · H)) λt98 H=>zak t93 (.bool true) t98 λt99=>zag t99 (zai 1 t8 t9 λt102=>zam 1 t102 (.bool false) H λH=>zhG t0 t1 t8 t9 t47 t48 t49 t78 t79 t80 H K Kb6 Kb10) (zhG t0 t1 t8 t9 t47 t48 t49 t78 t79 t80 H K Kb6 Kb10)) (zab .add false t49 (.int .i64 1) λt104=>Kb6 (zm7 t0 t1 t8 t47 t48 t104) H)
def zjd:=zab .lss false t49 t48 λt50=>zag t50 (zai 3 t47 t49 λt52=>zae true 3 t52 H λt53=>zay [(.int .i64 0),(.int .i64 0),.snil] H λt10 H=>zam 3 t10 t53 H λH=>apm H t8 λt54=>apm H t49 λt55=>apu H (zaf 0 t10) λt56=>apu H (zan false 1 t56 H) λt57=>apu H (zab .eql false t57 (.int .i64 5)) λt58=>apm H t58 λt59=>zac t59 true H (λK'=>zad H (λK''=>zaf 1 t10 (K'' · H)) (K' · H)) λt60 H=>zac t59 true H (λK'=>zad H (λK''=>zan false 1 t60 H (K'' · H)) (K' · H)) λt61 H=>zac t59 true H (λK'=>zad H (λK''=>K'' t1 H) (K' · H)) λt62 H=>zac t59 true H (λK'=>zad H (λK''=>zab .eql false t61 t62 (K'' · H)) (K' · H)) λt63 H=>apu H (zak t59 t63 (.bool false)) λt64=>apm H t64 λt65=>zac t65 true H (λK'=>zad H (λK''=>zaf 2 t10 (K'' · H)) (K' · H)) λt66 H=>zac t65 true H (λK'=>zad H (λK''=>zan false 1 t66 H (K'' · H)) (K' · H)) λt67 H=>zac t65 true H (λK'=>zad H (λK''=>zah 1 t67 (K'' · H)) (K' · H)) λt68 H=>zac t65 true H (λK'=>zad H (λK''=>K'' t0 H) (K' · H)) λt69 H=>zac t65 true H (λK'=>zad H (λK''=>K'' t1 H) (K' · H)) λt70 H=>zac t65 true H (λK'=>zad H (λK''=>zai 3 t69 t70 (K'' · H)) (K' · H)) λt71 H=>zac t65 true H (λK'=>zad H (λK''=>zaf 1 t71 (K'' · H)) (K' · H)) λt72 H=>zac t65 true H (λK'=>zad H (λK''=>zan false 1 t72 H (K'' · H)) (K' · H)) λt73 H=>zac t65 true H (λK'=>zad H (λK''=>zab .eql false t68 t73 (K'' · H)) (K' · H)) λt74 H=>apu H (zak t65 t74 (.bool false)) λt75=>apu H (zai 1 t54 t55) λt76=>zam 1 t76 t75 H λH=>zaf 2 t10 λt77=>zae false 1 t77 H λt78=>zah 1 t78 λt79=>ztP t0 t1 t8 t49 t47 t48 t49 t78 t79 (.int .i64 0) H K Kb6) (K t8 H)
def zCx:=zab .lss false t1 (.int .i64 0) λt14=>zac t14 false H (λK'=>K' t1 H) λt16 H=>zac t14 false H (λK'=>K' t0 H) λt17 H=>zac t14 false H (λK'=>zah 1 t17 (K' · H)) λt18 H=>zac t14 false H (λK'=>zab .geq false t16 t18 (K' · H)) λt19 H=>zak t14 (.bool true) t19 λt20=>zac t20 false H (λK'=>K' t2 H) λt22 H=>zac t20 false H (λK'=>zab .lss false t22 (.int .i64 0) (K' · H)) λt23 H=>zak t20 (.bool true) t23 λt24=>zac t24 false H (λK'=>K' t2 H) λt26 H=>zac t24 false H (λK'=>K' t0 H) λt27 H=>zac t24 false H (λK'=>K' t1 H) λt28 H=>zac t24 false H (λK'=>zai 3 t27 t28 (K' · H)) λt29 H=>zac t24 false H (λK'=>zaf 2 t29 (K' · H)) λt30 H=>zac t24 false H (λK'=>zae false 1 t30 H (K' · H)) λt31 H=>zac t24 false H (λK'=>zah 1 t31 (K' · H)) λt32 H=>zac t24 false H (λK'=>zab .geq false t26 t32 (K' · H)) λt33 H=>zak t24 (.bool true) t33 λt34=>zag t34 (K .snil H) (zai 3 t0 t1 λt37=>zaf 2 t37 λt38=>zae false 1 t38 H λt39=>zai 2 t39 t2 λt41=>zaf 1 t41 λt42=>zae false 1 t42 H λt43=>zah 1 t43 λt45=>za9 1 [(.bool false)] t45 t45 H λt46 H=>zah 1 t43 λt48=>zCz t0 t1 t46 t43 t48 (.int .i64 0) H K)
def zQz(_:Nat):List Bool:=[]
noncomputable def zQA:=Tryz.f190.body.getD .skip
def zCB:=zaw t0 H λt2 H=>zaw t1 H λt3 H=>zaf 0 t2 λt5=>zae false 1 t5 H λt6=>zab .eql false t6 (.int .i64 5) λt7=>zac t7 true H (λK'=>zaf 1 t2 (K' · H)) λt9 H=>zac t7 true H (λK'=>zae false 1 t9 H (K' · H)) λt10 H=>zac t7 true H (λK'=>zae false 1 t3 H (K' · H)) λt11 H=>zac t7 true H (λK'=>zab .eql false t10 t11 (K' · H)) λt12 H=>zak t7 t12 (.bool false) λt13=>zac t13 false H (λK'=>zaf 2 t2 (K' · H)) λt15 H=>zac t13 false H (λK'=>zae false 1 t15 H (K' · H)) λt16 H=>zac t13 false H (λK'=>zci zkv [t3] (K' · H)) λt17 H=>zac t13 false H (λK'=>ACalls tP zed [t16,t17] H K') λt18 H=>zak t13 (.bool true) t18 λt19=>K t19 H
def zQM(_:Nat):List Bool:=[]
noncomputable def zQN:=Tryz.f206.body.getD .skip
def zCF:=zaw t0 H λt2 H=>zae true 3 t2 H λt4=>zae false 1 t1 H λt5=>ACalls tP zku [t4,t5] H λt6 H=>K t6 H
def zn0:Nat→List Bool|4=>rl false [3,1,3,1,50]|_=>[]
noncomputable def zuB:=Tryz.f63.body.getD .skip
noncomputable def zT8:=Tryz.f63.results.toList
def zn1:=ux 3 (t3::ux 3 (t7::ux 50 []))
def zT6:=zn0 4
noncomputable def zT4:=zas [1,1,0,1,0,0] zuB
def zT3:=zat tP zn0 [1,1,0,1,0] zuB (zaA tP zT8 K)
def zDV:=ALoop tP zT4 (zT3 K) (zn1 t3 t7) H
def zhO:=zaf 2 t3 λt25=>zae false 1 t25 H λt26=>zah 1 t26 λt27=>zab .lss false t7 t27 λt28=>zag t28 (zaf 2 t3 λt31=>zae false 1 t31 H λt32=>zai 3 t32 t7 λt34=>zaf 0 t34 λt35=>zae false 1 t35 H λt36=>zab .neq false t36 (.int .i64 4) λt37=>zac t37 false H (λK'=>zaf 2 t3 (K' · H)) λt39 H=>zac t37 false H (λK'=>zae false 1 t39 H (K' · H)) λt40 H=>zac t37 false H (λK'=>K' t7 H) λt41 H=>zac t37 false H (λK'=>zai 3 t40 t41 (K' · H)) λt42 H=>zac t37 false H (λK'=>zaf 1 t42 (K' · H)) λt43 H=>zac t37 false H (λK'=>zae false 1 t43 H (K' · H)) λt44 H=>zac t37 false H (λK'=>K' t7 H) λt45 H=>zac t37 false H (λK'=>zab .neq false t44 t45 (K' · H)) λt46 H=>zak t37 (.bool true) t46 λt47=>zac t47 false H (λK'=>zaf 2 t3 (K' · H)) λt49 H=>zac t47 false H (λK'=>zae false 1 t49 H (K' · H)) λt50 H=>zac t47 false H (λK'=>K' t7 H) λt51 H=>zac t47 false H (λK'=>zai 3 t50 t51 (K' · H)) λt52 H=>zac t47 false H (λK'=>zaf 2 t52 (K' · H)) λt53 H=>zac t47 false H (λK'=>zae false 1 t53 H (K' · H)) λt54 H=>zac t47 false H (λK'=>zah 1 t54 (K' · H)) λt55 H=>zac t47 false H (λK'=>zab .gtr false t55 (.int .i64 0) (K' · H)) λt56 H=>zak t47 (.bool true) t56 λt57=>zag t57 (K (.bool false) H) (zab .add false t7 (.int .i64 1) λt30=>Kb4 (zn1 t3 t30) H)) (K (.bool true) H)
def zDU:=zaw t0 H λt3 H=>zaf 0 t3 λt8=>zae false 1 t8 H λt9=>zab .neq false t9 (.int .i64 5) λt10=>zac t10 false H (λK'=>zaf 1 t3 (K' · H)) λt12 H=>zac t10 false H (λK'=>zae false 1 t12 H (K' · H)) λt13 H=>zac t10 false H (λK'=>K' t1 H) λt14 H=>zac t10 false H (λK'=>zab .neq false t13 t14 (K' · H)) λt15 H=>zak t10 (.bool true) t15 λt16=>zac t16 false H (λK'=>zaf 2 t3 (K' · H)) λt18 H=>zac t16 false H (λK'=>zae false 1 t18 H (K' · H)) λt19 H=>zac t16 false H (λK'=>zah 1 t19 (K' · H)) λt20 H=>zac t16 false H (λK'=>K' t2 H) λt21 H=>zac t16 false H (λK'=>zab .neq false t20 t21 (K' · H)) λt22 H=>zak t16 (.bool true) t22 λt23=>zag t23 (K (.bool false) H) (zDV t3 (.int .i64 0) H K)
variable {t0 t1 t2 t3 t4 t5 t6 t7 t8 t9 t47 t48 t49 t78 t79 t80} {H} {K} {Kb3 Kb4 Kb5 Kb6 Kb10}
theorem zLg:Lo1 (λt6=>zlH t1 t2 t4 t5 t6) (λt6 H Kb5=>zsd t1 t2 t4 t5 t6 H K Kb5) t6 H (zsf t1 t2 t4 t5 t6 H K):=lq1 zlG zLh
theorem zLi(h:HSc H→zsc t0 t1 H K):ACalls tP zke [t0,t1] H K:=
 acb zlG Tryz.func104 zse h
theorem zO7:Lo1 (λt4=>zmK t1 t2 t3 t4) (λt4 H Kb3=>ztp t1 t2 t3 t4 H K Kb3) t4 H (zBY t1 t2 t3 t4 H K):=lq1 zmJ zO8
theorem zO9(h:HSc H→zBX t0 H K):ACalls tP zkn [t0] H K:=
 acb zmJ Tryz.func151 ztq h
theorem zQu:Lo1 (λt80=>zm6 t0 t1 t8 t9 t47 t48 t49 t78 t79 t80) (λt80 H Kb10=>zhF t0 t1 t8 t9 t47 t48 t49 t78 t79 t80 H K Kb6 Kb10) t80 H (ztP t0 t1 t8 t9 t47 t48 t49 t78 t79 t80 H K Kb6):=lq1 zgs zQw
theorem zQv:Lo1 (λt49=>zm7 t0 t1 t8 t47 t48 t49) (λt49 H Kb6=>zjd t0 t1 t8 t47 t48 t49 H K Kb6) t49 H (zCz t0 t1 t8 t47 t48 t49 H K):=lq1 zgs zCA
theorem zQx(h:HSc H→zCx t0 t1 t2 H K):ACalls tP zqC [t0,t1,t2] H K:=
 acb zgs Tryz.func189 ztM h
theorem zQB(h:HSc H→zCB t0 t1 H K):ACalls tP zku [t0,t1] H K:=
 acb zQz Tryz.func190 zQA h
theorem zQO(h:HSc H→zCF t0 t1 H K):ACalls tP zkv [t0,t1] H K:=
 acb zQM Tryz.func206 zQN h
theorem zT5:Lo1 (λt7=>zn1 t3 t7) (λt7 H Kb4=>zhO t3 t7 H K Kb4) t7 H (zDV t3 t7 H K):=lq1 zn0 zT6
theorem zT7(h:HSc H→zDU t0 t1 t2 H K):ACalls tP zqU [t0,t1,t2] H K:=
 acb zn0 Tryz.func63 zuB h
end
theorem zD3:∀(m:Nat) (v:VT),v.nodes≤m→v.nodes≤1000000000→∀(H:zaa) (K:AV→zaa→Prop),K (.int .i64 v.nodes) H→ACalls tP ziz [.agg v.cs] H K:=by
 intro m;induction m with
 |zero=>intro v h;have:=v.nodes_pos;omega
 |succ m ih=>
  intro v hv hb H K hK;obtain⟨k,n,ks⟩:=v;have hnl:VT.nodesL ks+1≤1000000000:=by simpa[VT.nodes]using hb
  have hll:=VT.len_le ks;refine ACalls.out (zUl λhs=>?_);simp[VT.cs,zD1];refine zUj (Inv:=λq t3 t4 H'=>∃i:Nat,i≤ks.length∧q=ks.length-i∧t4=.int .i64 i∧t3=.int .i64 (1+VT.nodesL (ks.take i):Nat)∧H'=H++[.cells [.int .i64 k,.int .i64 n,.sl (VT.css ks) .none]]) ks.length ?_ ?_
  ·intro _;exact⟨0,by omega,by omega,rfl,by simp[VT.nodesL],rfl⟩
  ·rintro q t3 t4 H' ⟨i,hi,rfl,rfl,rfl,rfl⟩ hsc hlen hsF Kb hKb;by_cases hlt:i<ks.length
   ·have hki:=VT.kid_lt (k:=k) (n:=n) hlt;have h1:=VT.nodesL_take hlt;have h2:=VT.nodesL_take_le ks (i+1);simp[zuG,hlt];refine ih ks[i] (by omega) (by omega) _ _ ?_;simp;rw[zaz (by omega) (by omega),zaz (by omega) (by omega)];refine hKb _ _ ⟨ks.length-(i+1),by omega,Back.here (by simp) hsc ?_ ⟨_,_,rfl,i+1,by omega,rfl,by simp,?_,rfl⟩⟩
    ·simp[zn5,AV.sc,AV.scV,AV.scA,AV.scB]
    ·rw[h1];congr 1;omega
   ·obtain rfl:i=ks.length:=by omega
    simp[zuG];refine Out.int rfl (aa _) hs ?_;simpa[VT.nodes,Int.add_comm]using hK
theorem zUt(data:List Dat)(hdl:data.length≤1000000)(vars:Int):∀(m:Nat) (v:VT),v.nodes≤m→v.nodes≤1000000000→∀(H:zaa) (K:AV→zaa→Prop),K (.bool (zaG data vars v)) H→ACalls tP zkK [.sl (data.map Dat.cs) .none,.agg v.cs,.int .i64 vars] H K:=by
 intro m;induction m with
 |zero=>intro v h;have:=v.nodes_pos;omega
 |succ m ih=>
  intro v hv hb H K hK;obtain⟨k,n,ks⟩:=v;have hnl:VT.nodesL ks+1≤1000000000:=by simpa[VT.nodes]using hb
  have hll:=VT.len_le ks;refine ACalls.out (zUr λhs=>?_);have hO:∀J,Out H.length K (.bool (zaK data vars k n ks.length && zaV data vars ks)) (H++J):=λJ=>Out.bool rfl (aa _) hs (by simpa[zaG]using hK);have hF:zaK data vars k n ks.length=false→∀J,Out H.length K (.bool false) (H++J):=λh J=>by have:=hO J;rwa [h,aL]at this
  have loop:zaK data vars k n ks.length=true→zuK (.sl (data.map Dat.cs) .none) (.int .i64 vars) (.ptr H.length 0) (.int .i64 ks.length) (.int .i64 0) (H++[.cells [.int .i64 k,.int .i64 n,.sl (VT.css ks) .none]]) (Out H.length K):=by
   intro hsh;rw[hsh]at hO;simp only[aR]at hO;refine zUp (Inv:=λq t8 H'=>∃i:Nat,i≤ks.length∧q=ks.length-i∧t8=.int .i64 i∧zaV data vars (ks.drop i)=zaV data vars ks∧H'=H++[.cells [.int .i64 k,.int .i64 n,.sl (VT.css ks) .none]]) ks.length ?_ ?_
   ·intro _;exact⟨0,by omega,by omega,rfl,by simp,rfl⟩
   ·rintro q t8 H' ⟨i,hi,rfl,rfl,ho,rfl⟩ hsc hlen hsF Kb hKb;by_cases hlt:i<ks.length
    ·have hki:=VT.kid_lt (k:=k) (n:=n) hlt;rw[af hlt,zaV]at ho;simp[zuI,hlt];refine ih ks[i] (by omega) (by omega) _ _ ?_;cases hb:zaG data vars ks[i] with
     |false=>rw[hb,aL]at ho;rw[←ho]at hO;simp;exact hO _
     |true=>rw[hb,aR]at ho;simp;rw[zaz (by omega) (by omega)];refine hKb _ _ ⟨ks.length-(i+1),by omega,Back.here (by simp) hsc ?_ ⟨_,rfl,i+1,by omega,rfl,by simp,ho,rfl⟩⟩;simp[zn7,AV.sc,AV.scV,AV.scA,AV.scB]
    ·obtain rfl:i=ks.length:=by omega
     rw[au,zaV]at ho;rw[←ho]at hO;simp[zuI];exact hO _
  have prim:(k=1∨k=2∨k=3)→Out H.length K (.bool (n == 0 && ks.length == 0)) (H++[.cells [.int .i64 k,.int .i64 n,.sl (VT.css ks) .none]]):=by
   intro h;have hsh:zaK data vars k n ks.length=(n == 0 && ks.length == 0):=by rcases h with rfl|rfl|rfl <;> rfl
   have:=hO [.cells [.int .i64 k,.int .i64 n,.sl (VT.css ks) .none]];rw[hsh]at this;cases ks with
   |nil=>simpa[zaV]using this
   |cons x l=>simpa using this
  by_cases h123:k=1∨k=2∨k=3
  ·have:=prim h123;cases hn:(n == 0) with
   |false=>rw[hn,aL]at this;rcases h123 with rfl|rfl|rfl <;> simp[zcF,VT.cs,zbM,hn] <;> exact this
   |true=>
    rw[hn,aR]at this;have e:((ks.length:Int) == 0)=(ks.length == 0):=by rw[bN];simp
    rw[←e]at this;rcases h123 with rfl|rfl|rfl <;> simp only[zcF,VT.cs] <;> simp[zbM,hn] <;> simpa using this
  by_cases h4:k=4
  ·subst h4;have hsh:zaK data vars 4 n ks.length=(decide (0≤n) && decide (n<vars) && ks.length == 0):=rfl;have hO':∀J,Out H.length K (.bool (decide (0≤n) && decide (n<vars) && ks.length == 0)) (H++J):=λJ=>by
    have:=hO J;rw[hsh]at this;cases ks with
    |nil=>simpa[zaV]using this
    |cons x l=>simpa using this
   have e:((ks.length:Int) == 0)=(ks.length == 0):=by rw[bN];simp
   rw[←e]at hO';by_cases g1:0≤n
   ·by_cases g2:n<vars
    ·simp only[zcF,VT.cs];simp[zbM,g1,g2];simpa[g1,g2]using hO' _
    ·simp only[zcF,VT.cs];simp[zbM,g1,g2];simpa[g1,g2]using hO' _
   ·simp only[zcF,VT.cs];simp[zbM,g1];simpa[g1]using hO' _
  by_cases h5:k=5
  ·subst h5;have hsh:zaK data vars 5 n ks.length=(decide (0≤n) && (match data[n.toNat]? with | some d=>(ks.length:Int) == d.vars | none=>false)):=rfl;by_cases g1:0≤n
   ·have g1':¬ n<0:=by omega
    by_cases g2:n<data.length
    ·have hnl:n.toNat<data.length:=by omega
     have g2':¬(data.length:Int)≤n:=by omega
     have hat:(data.map Dat.cs)[n.toNat]?.getD []=[.str data[n.toNat].name,.int .i64 data[n.toNat].vars,.sl (data[n.toNat].cons.map Con.cs) .none]:=by simp[hnl,Dat.cs]
     rw[List.getElem?_eq_getElem hnl]at hsh;simp only[g1,dc,aR]at hsh;cases hv:((ks.length:Int) == data[n.toNat].vars) with
     |false=>
      rw[hv]at hsh;have hv':((ks.length:Int) != data[n.toNat].vars)=true:=by simp[bne,hv]
      simp only[zcF,VT.cs];simp[zbM,g1',g2',g1,g2,hnl,Dat.cs,hv'];exact hF hsh _
     |true=>
      rw[hv]at hsh;have hv':((ks.length:Int) != data[n.toNat].vars)=false:=by simp[bne,hv]
      simp only[zcF,VT.cs];simp[zbM,g1',g2',g1,g2,hnl,Dat.cs,hv',zfK,zjl];exact loop hsh
    ·have g2':(data.length:Int)≤n:=by omega
     rw[List.getElem?_eq_none (by omega)]at hsh;simp only[zcF,VT.cs];simp[zbM,g1',g2'];exact hF (by rw[hsh];simp) _
   ·have g1':n<0:=by omega
    simp only[zcF,VT.cs];simp[zbM,g1'];exact hF (by rw[hsh];simp[g1]) _
  by_cases h6:k=6
  ·subst h6;have hsh:zaK data vars 6 n ks.length=(n == 0 && decide (2≤ks.length) && decide (ks.length≤6)):=rfl;simp only[zcF,VT.cs];cases hn:(n == 0) with
   |false=>
    have:(n != 0)=true:=by simp[bne,hn]
    simp[zbM,this];exact hF (by rw[hsh,hn];rfl) _
   |true=>
    have hn':(n != 0)=false:=by simp[bne,hn]
    by_cases g1:ks.length<2
    ·have:(ks.length:Int)<2:=by omega
     simp[zbM,hn',this];exact hF (by rw[hsh];simp;omega) _
    ·have g1':¬ (ks.length:Int)<2:=by omega
     by_cases g2:6<ks.length
     ·have:(6:Int)<ks.length:=by omega
      simp[zbM,hn',g1',this];exact hF (by rw[hsh];simp;omega) _
     ·have:¬ (6:Int)<ks.length:=by omega
      simp[zbM,hn',g1',this,zfK,zjl];exact loop (by rw[hsh,hn];simp;omega)
  by_cases h78:k=7∨k=8
  ·have hsh:zaK data vars k n ks.length=(n == 0 && ks.length == 1):=by rcases h78 with rfl | rfl <;> rfl
   cases hn:(n == 0) with
   |false=>
    have:(n != 0)=true:=by simp[bne,hn]
    have fin:=hF (by rw[hsh,hn];rfl);simp only[zcF,VT.cs];rcases h78 with rfl|rfl <;> simp[zbM,zet,this] <;> exact fin _
   |true=>
    have hn':(n != 0)=false:=by simp[bne,hn]
    by_cases g1:ks.length=1
    ·have g1':((ks.length:Int) != 1)=false:=by simp[g1]
     have fin:=loop (by rw[hsh,hn,g1];rfl);simp only[zcF,VT.cs];rcases h78 with rfl|rfl <;> simp[zbM,zet,hn',g1',zfK,zjl] <;> exact fin
    ·have g1':((ks.length:Int) != 1)=true:=by simp;omega
     have fin:=hF (by rw[hsh];simp[g1]);simp only[zcF,VT.cs];rcases h78 with rfl|rfl <;> simp[zbM,zet,hn',g1'] <;> exact fin _
  have b1:(k == 1)=false:=by simp;omega
  have b2:(k == 2)=false:=by simp;omega
  have b3:(k == 3)=false:=by simp;omega
  have b4:(k == 4)=false:=by simp;omega
  have b5:(k == 5)=false:=by simp;omega
  have b6:(k == 6)=false:=by simp;omega
  have b7:(k == 7)=false:=by simp;omega
  have b8:(k == 8)=false:=by simp;omega
  by_cases h9:k=9
  ·subst h9;have hsh:zaK data vars 9 n ks.length=(n == 0 && decide (1≤ks.length) && decide (ks.length≤7)):=rfl;simp only[zcF,VT.cs];cases hn:(n == 0) with
   |false=>
    have:(n != 0)=true:=by simp[bne,hn]
    simp[zbM,zet,this];exact hF (by rw[hsh,hn];rfl) _
   |true=>
    have hn':(n != 0)=false:=by simp[bne,hn]
    by_cases g1:ks.length<1
    ·have:(ks.length:Int)<1:=by omega
     simp[zbM,zet,hn',this];exact hF (by rw[hsh];simp;omega) _
    ·have g1':¬ (ks.length:Int)<1:=by omega
     by_cases g2:7<ks.length
     ·have:(7:Int)<ks.length:=by omega
      simp[zbM,zet,hn',g1',this];exact hF (by rw[hsh];simp;omega) _
     ·have:¬ (7:Int)<ks.length:=by omega
      simp[zbM,zet,hn',g1',this,zfK,zjl];exact loop (by rw[hsh,hn];simp;omega)
  ·have b9:(k == 9)=false:=by simp;omega
   simp only[zcF,VT.cs];simp[zbM,zet,b1,b2,b3,b4,b5,b6,b7,b8,b9];exact hF (by unfold zaK;simp[b1,b2,b3,b4,b5,b6,b7,b8,b9]) _
theorem zC0(data:List Dat)(hdl:data.length≤1000000)(vars:Int)(v:VT)(hb:v.nodes≤1000000000)(H:zaa)(K:AV→zaa→Prop)(hK:K (.bool (zaD data vars v)) H):ACalls tP zkz [.sl (data.map Dat.cs) .none,.agg v.cs,.int .i64 vars] H K:=by
 refine ACalls.out (zRE λhs=>?_);have hO:∀J,Out H.length K (.bool (zaD data vars v)) (H++J):=λJ=>Out.bool rfl (aa _) hs hK;unfold zaD at hO;simp[zCZ];refine zD3 _ v (aa _) hb _ _ ?_;by_cases h:v.nodes≤200
 ·have h':(v.nodes:Int)≤200:=by omega
  simp[h'];refine zUt data hdl vars _ v (aa _) hb _ _ ?_;simpa[h]using hO _
 ·have h':¬ (v.nodes:Int)≤200:=by omega
  simp[h'];simpa[h]using hO _
def zbS(es:List (List AV))(id:Nat):AV:=match es with|[]=>.snil|_=>.sl es (.own id)
def zcT(e s:Nat)(n:Nat):zaa:=match n with|0=>[]|n=>[.perm e s n]
theorem zFL(es:List (List AV))(id:Nat):WkA (zbS es id) (.sl es .none):=by
 cases es with
 |nil=>exact .snil
 |cons e es=>exact .sl _ _
theorem zv6(es:List (List AV)){id n:Nat}(h:es=[]∨id<n):(zbS es id).scA n=true:=by
 cases es with
 |nil=>rfl
 |cons e es=>
  rcases h with h|h
  ·cases h
  ·simpa[zbS,AV.scA,AV.scB]using h
theorem zFK(es:List (List AV))(id:Nat):(zbS es id).known=true:=by cases es <;> rfl
theorem zFJ(es:List (List AV))(id:Nat):(zbS es id).cs?=some [zbS es id]:=by cases es <;> rfl
theorem zFM{e s bytes:Nat}{es:List (List AV)}{y:List AV}{t:Tok}{H:zaa}{K:AV→zaa→Prop}(hy:y.length=s)(hb:(es.length+1)*bytes≤140737488355328)(hl:es.length+1≤9223372036854775807)(hk:K (zbS (es++[y]) H.length) (H++zcT e s (es.length+1))):zax e s bytes (zbS es H.length) (.sl [y] t) (H++zcT e s es.length) K:=by
 unfold zax za6;refine⟨by simpa using hy,?_⟩;cases es with
 |nil=>unfold zaZ;simp[zbS,zcT]at *;exact⟨by omega,hk⟩
 |cons x es=>unfold zaZ;simp[zbS,zcT]at *;refine⟨⟨by omega,by omega⟩,hk⟩
theorem zv7{e s bytes id n:Nat}{es:List (List AV)}{y:List AV}{t:Tok}{H0 Hh:zaa}{K:AV→zaa→Prop}(hn:n=es.length)(he:Hh=H0++zcT e s n)(hid:id=H0.length)(hy:y.length=s)(hb:(es.length+1)*bytes≤140737488355328)(hl:es.length+1≤9223372036854775807)(hk:K (zbS (es++[y]) id) (H0++zcT e s (n+1))):zax e s bytes (zbS es id) (.sl [y] t) Hh K:=by
 subst he hid hn;exact zFM hy hb hl hk
@[simp] theorem zZ4(es:List (List AV))(id:Nat):(zbS es id).cs?=some [zbS es id]:=zFJ es id
@[simp] theorem zZ5(es:List (List AV))(id:Nat):(zbS es id).known=true:=zFK es id
theorem zd4{v:VT}{k:AV→Prop}:zau 3 [.int .i64 0,.int .i64 0,.snil] 1 [(0,.agg v.cs)] k=k (.sl [v.cs] .full):=by cases v;exact propext aG
theorem zh2{l:List VT}{i:Nat}(h:i<l.length):VT.css (l.take (i+1))=VT.css (l.take i)++[(l[i]).cs]:=by rw[VT.css_map,VT.css_map,aj h,bj];rfl
theorem zyt{H J:zaa}{K:AV→zaa→Prop}{k n:Int}{ks:List VT}{id:Nat}(hs:HSc H)(hK:K (.agg (VT.mk k n ks).cs) H):Out H.length K (.agg [.int .i64 k,.int .i64 n,zbS (VT.css ks) id]) (H++J):=
 Out.at rfl (aa _) hs (WkV.agg (ds:=[.int .i64 k,.int .i64 n,.sl (VT.css ks) .none]) ⟨.refl _,.refl _,zFL _ _,trivial⟩) rfl (by simp[AV.scV,AV.scA,AV.scB]) (by simpa[VT.cs]using hK)
theorem zGG:∀(m:Nat) (v:VT),v.nodes≤m→v.nodes≤1000000→∀(H:zaa) (K:AV→zaa→Prop),K (.agg v.cs) H→ACalls tP zkn [.agg v.cs] H K:=by
 intro m;induction m with
 |zero=>intro v h;have:=v.nodes_pos;omega
 |succ m ih=>
  intro v hv hb H K hK;obtain⟨k,n,ks⟩:=v;have hnl:VT.nodesL ks+1≤1000000:=by simpa[VT.nodes]using hb
  have hll:=VT.len_le ks;refine ACalls.out (zO9 λhs=>?_);simp[VT.cs,zBX,zar,zaL,ag];refine zO7 (Inv:=λq t4 H'=>∃i:Nat,i≤ks.length∧q=ks.length-i∧t4=.int .i64 i∧H'=H++[.cells [.int .i64 k,.int .i64 n,.sl (VT.css ks) .none],.cells [.int .i64 0,.int .i64 0,.snil],.cells [.int .i64 k,.int .i64 n,zbS (VT.css (ks.take i)) (H.length+3)]]++zcT zbk 3 i) ks.length ?_ ?_
  ·intro _;exact⟨0,by omega,by omega,rfl,by simp[zcT,zbS,VT.css]⟩
  ·rintro q t4 H' ⟨i,hi,rfl,rfl,rfl⟩ hsc hlen hsF Kb hKb;by_cases hlt:i<ks.length
   ·have hki:=VT.kid_lt (k:=k) (n:=n) hlt;simp[ztp,hlt];refine zaC (.agg (ks[i]).cs) (λJ=>ih ks[i] (by omega) (by omega) _ _ ⟨rfl,rfl⟩) ?_;rw[zd4];refine zv7 (H0:=H++[.cells [.int .i64 k,.int .i64 n,.sl (VT.css ks) .none],.cells [.int .i64 0,.int .i64 0,.snil],.cells [.int .i64 k,.int .i64 n,zbS (VT.css (ks.take i)) (H.length+3)]]) (n:=i) (by simp;omega) (by simp) (by simp) (by simp) (by simp;omega) (by simp;omega) ?_;rw[←zh2 hlt];simp;rw[zaz (by omega) (by omega)];refine hKb _ _ ⟨ks.length-(i+1),by omega,Back.here (by simp[zcT]) ?_ ?_ ⟨_,rfl,i+1,by omega,rfl,by simp,by simp⟩⟩
    ·refine hs.append ?_;simp[AB.sc,zcT,AV.scA,AV.scB];exact zv6 _ (.inr (by omega))
    ·simp[zmK,AV.sc,AV.scV,AV.scA,AV.scB]
   ·obtain rfl:i=ks.length:=by omega
    rw[aw]at *;simp[ztp];exact zyt hs hK
theorem zen(args:List VT):∀ l:List VT,zaR args l=l.map (subst args)
 |[]=>rfl
 |t::ts=>by rw[zaR,zen args ts];rfl
theorem zLk(args:List VT)(ha:∀x∈args,x.nodes≤1000000)(hal:args.length≤1000000):∀(m:Nat) (v:VT),v.nodes≤m→v.nodes≤1000000→∀(H:zaa) (K:AV→zaa→Prop),K (.agg (subst args v).cs) H→ACalls tP zke [.agg v.cs,.sl (VT.css args) .none] H K:=by
 intro m;induction m with
 |zero=>intro v h;have:=v.nodes_pos;omega
 |succ m ih=>
  intro v hv hb H K hK;obtain⟨k,n,ks⟩:=v;have hnl:VT.nodesL ks+1≤1000000:=by simpa[VT.nodes]using hb
  have hll:=VT.len_le ks;refine ACalls.out (zLi λhs=>?_);by_cases hvar:k=4∧0≤n∧n<args.length
  ·obtain⟨rfl,h0,h1⟩:=hvar;have hn:n.toNat<args.length:=by omega
   have hK':K (.agg (args[n.toNat]).cs) H:=by rw[subst,aB ⟨rfl,h0,h1⟩,List.getElem?_eq_getElem hn]at hK;exact hK
   simp[VT.cs,zsc,h0,h1,hn];refine zGG _ _ (aa _) (ha _ (ae hn)) _ _ ?_;generalize args[n.toNat]=x at *;obtain⟨k',n',ks'⟩:=x;simp[VT.cs];exact Out.at rfl (aa _) hs .rfl' rfl rfl hK'
  ·have hK':K (.agg (VT.mk k n (zaR args ks)).cs) H:=by rw[subst,ap hvar]at hK;exact hK
   have go:∀H1,H1=H++[.cells [.int .i64 k,.int .i64 n,.sl (VT.css ks) .none],.cells [.int .i64 0,.int .i64 0,.snil],.cells [.int .i64 k,.int .i64 n,.snil]]→zsf (.sl (VT.css args) .none) (.ptr H.length 0) (.ptr (H.length+1) 0) (.ptr (H.length+2) 0) (.int .i64 0) H1 (Out H.length K):=by
    rintro _ rfl;refine zLg (Inv:=λq t6 H'=>∃i:Nat,i≤ks.length∧q=ks.length-i∧t6=.int .i64 i∧H'=H++[.cells [.int .i64 k,.int .i64 n,.sl (VT.css ks) .none],.cells [.int .i64 0,.int .i64 0,.snil],.cells [.int .i64 k,.int .i64 n,zbS (VT.css ((zaR args ks).take i)) (H.length+3)]]++zcT zbk 3 i) ks.length ?_ ?_
    ·intro _;exact⟨0,by omega,by omega,rfl,by simp[zcT,zbS,VT.css]⟩
    ·rintro q t6 H' ⟨i,hi,rfl,rfl,rfl⟩ hsc hlen hsF Kb hKb;by_cases hlt:i<ks.length
     ·have hki:=VT.kid_lt (k:=k) (n:=n) hlt;have hlt':i<(zaR args ks).length:=by rw[zen];simpa using hlt
      have hsi:(zaR args ks)[i]=subst args ks[i]:=by simp[zen]
      simp[zsd,hlt];refine zaC (.agg (subst args ks[i]).cs) (λJ=>ih ks[i] (by omega) (by omega) _ _ ⟨rfl,rfl⟩) ?_;rw[zd4,←hsi];refine zv7 (H0:=H++[.cells [.int .i64 k,.int .i64 n,.sl (VT.css ks) .none],.cells [.int .i64 0,.int .i64 0,.snil],.cells [.int .i64 k,.int .i64 n,zbS (VT.css ((zaR args ks).take i)) (H.length+3)]]) (n:=i) (by simp;omega) (by simp) (by simp) (by simp) (by simp;omega) (by simp;omega) ?_;rw[←zh2 hlt'];simp;rw[zaz (by omega) (by omega)];refine hKb _ _ ⟨ks.length-(i+1),by omega,Back.here (by simp[zcT]) ?_ ?_ ⟨_,rfl,i+1,by omega,rfl,by simp,by simp⟩⟩
      ·refine hs.append ?_;simp[AB.sc,zcT,AV.scA,AV.scB];exact zv6 _ (.inr (by omega))
      ·simp[zlH,AV.sc,AV.scV,AV.scA,AV.scB]
     ·obtain rfl:i=ks.length:=by omega
      have e:(zaR args ks).take ks.length=zaR args ks:=ak (by rw[zen];simp);rw[e];simp[zsd];exact zyt hs hK'
   simp only[VT.cs,zsc];by_cases h4:k=4
   ·subst h4;by_cases h0:0≤n
    ·have h1:¬n<args.length:=λh=>hvar ⟨rfl,h0,h⟩;simp[h0,h1,zar,zaL,ag];exact go _ rfl
    ·simp[h0,zar,zaL,ag];exact go _ rfl
   ·have h4':(k == 4)=false:=by simpa using h4
    simp[h4',zar,zaL,ag];exact go _ rfl
mutual
theorem zzD{args:List VT}{M:Nat}(h1:1≤M)(ha:∀ x∈args,x.nodes≤M):∀ v:VT,(subst args v).nodes≤v.nodes*M
 |.mk k n ks=>by
  unfold subst;split
  ·rename_i h;have hn:n.toNat<args.length:=by omega
   rw[List.getElem?_eq_getElem hn];have:=ha _ (ae hn);have h2:M≤(VT.mk k n ks).nodes*M:=by have:=(VT.mk k n ks).nodes_pos;exact bP M this
   simp only[Option.getD_some];omega
  ·have:=zzA h1 ha ks;simp only[VT.nodes,cp];omega
theorem zzA{args:List VT}{M:Nat}(h1:1≤M)(ha:∀ x∈args,x.nodes≤M):∀ l:List VT,VT.nodesL (zaR args l)≤VT.nodesL l*M
 |[]=>by simp[zaR,VT.nodesL]
 |t::ts=>by have h2:=zzD h1 ha t;have h3:=zzA h1 ha ts;simp only[zaR,VT.nodesL,bb];omega
end
theorem zg3{k n:Int}{ks:List VT}:∀x∈ks,x.nodes≤(VT.mk k n ks).nodes:=by intro x hx;obtain⟨i,hi,rfl⟩:=aO.1 hx;exact bH (VT.kid_lt hi)
theorem zj5{k n:Int}{ks:List VT}:∀x∈ks,x.nodes<(VT.mk k n ks).nodes:=by intro x hx;obtain⟨i,hi,rfl⟩:=aO.1 hx;exact VT.kid_lt hi
theorem zzN{H:zaa}{x y:AB}:H++[x,y]=(H++[x])++[y]:=by simp
theorem zda(data:List Dat)(k n:Int)(ks:List VT)(c:Int):za7 data (.mk k n ks) c=(if k=5∧0≤n∧0≤c then
  match data[n.toNat]? with
  | some d=>if (ks.length:Int)=d.vars then
    match d.cons[c.toNat]? with
    |some co=>if (co.args.map (subst ks)).all (λx=>decide (x.nodes≤200))=true then some (co.args.map (subst ks)) else none
    |none=>none
   else none
  |none=>none
 else none):=rfl
def zcV(o:Option (List VT)):AV:=match o with
 |some l=>.tup [.sl (VT.css l) .none,.bool true]
 |none=>.tup [.sl [] .none,.bool false]
theorem zxU{α:Type}{l:List α}{i:Nat}(h:i<l.length){p:α→Prop}(h1:∀x∈l.take i,p x)(h2:p l[i]):∀x∈l.take (i+1),p x:=by
 rw[aj h];intro x hx;rcases aP.1 hx with hx|hx
 ·exact h1 x hx
 ·simp at hx;subst hx;exact h2
theorem zaO(v:VT):∃a b c,v.cs=[a,b,c]∧a.known=true∧b.known=true∧c.known=true:=by obtain⟨k,n,ks⟩:=v;exact⟨_,_,_,rfl,rfl,rfl,rfl⟩
theorem zD7(data:List Dat)(hdl:data.length≤1000000)(hda:∀ d∈data,∀ c∈d.cons,c.args.length≤1000∧∀ x∈c.args,x.nodes≤1000)(hdc:∀ d∈data,d.cons.length≤1000000)(t:VT)(ht:t.nodes≤1000)(c:Int)(H:zaa)(K:AV→zaa→Prop)(hK:K (zcV (za7 data t c)) H):
  ACalls tP zkM [.sl (data.map Dat.cs) .none,.agg t.cs,.int .i64 c] H K:=by
 refine ACalls.out (zUE λhs=>?_);obtain⟨k,n,ks⟩:=t;have hkn:VT.nodesL ks+1≤1000:=by simpa[VT.nodes]using ht
 have hkl:=VT.len_le ks;have hF:za7 data (.mk k n ks) c=none→∀J,Out H.length K (.tup [.snil,.bool false]) (H++J):=λh J=>by rw[h]at hK;exact Out.tup hs hK ⟨zhu,zbN rfl rfl,trivial⟩
 have hFF:∀J,za7 data (.mk k n ks) c=none→Out H.length K (.tup [.snil,.bool false]) (H++J):=λJ h=>hF h J;simp only[VT.cs,zD6];by_cases h5:k=5;case neg=>
  have:(k != 5)=true:=by simpa using h5
  simp[this,AV.isV];exact hF (by rw[zda,ap (λh=>h5 h.1)]) _
 subst h5;by_cases h0:n<0
 ·simp[h0,AV.isV];exact hF (by rw[zda,ap (λh=>by have:=h.2.1;omega)]) _
 by_cases h1:(data.length:Int)≤n
 ·simp[h0,h1,AV.isV];exact hF (by
   rw[zda];split
   ·rw[List.getElem?_eq_none (by omega)]
   ·rfl) _
 have hn:n.toNat<data.length:=by omega
 have h1':n<data.length:=by omega
 have h0':0≤n:=by omega
 generalize hdd:data[n.toNat]=d at *;have hd:d∈data:=by rw[←hdd];exact ae hn
 have hget:data[n.toNat]?=some d:=by rw[List.getElem?_eq_getElem hn,hdd]
 cases hv:((ks.length:Int) == d.vars) with
 |false=>
  have hv':((ks.length:Int) != d.vars)=true:=by simp[bne,hv]
  simp[h0,h1,h0',h1',hn,hdd,Dat.cs,hv',AV.isV,hget];exact hF (by
   rw[zda];split
   ·rw[hget];simp only;rw[ap (by simpa using hv)]
   ·rfl) _
 |true=>
 have hv':((ks.length:Int) != d.vars)=false:=by simp[bne,hv]
 have hve:(ks.length:Int)=d.vars:=by simpa using hv
 by_cases hc0:c<0
 ·simp[h0,h1,h0',h1',hn,hdd,Dat.cs,hv',AV.isV,hget,hc0];exact hF (by rw[zda,ap (λh=>by have:=h.2.2;omega)]) _
 have hfe:∀o,(match d.cons[c.toNat]? with|some k=>if (k.args.map (subst ks)).all (λx=>decide (x.nodes≤200))=true then some (k.args.map (subst ks)) else none|none=>none)=o→za7 data (.mk 5 n ks) c=o:=λo h=>by rw[zda,aB ⟨rfl,h0',by omega⟩,hget];simp only;rw[aB hve];exact h
 by_cases hc1:(d.cons.length:Int)≤c
 ·simp[h0,h1,h0',h1',hn,hdd,Dat.cs,hv',AV.isV,hget,hc0,hc1];exact hF (hfe none (by rw[List.getElem?_eq_none (by omega)])) _
 have hcn:c.toNat<d.cons.length:=by omega
 have hc1':c<d.cons.length:=by omega
 have hc0':0≤c:=by omega
 generalize hcc:d.cons[c.toNat]=co at *;have hco:co∈d.cons:=by rw[←hcc];exact ae hcn
 have hgc:d.cons[c.toNat]?=some co:=by rw[List.getElem?_eq_getElem hcn,hcc]
 obtain⟨hal,han⟩:=hda d hd co hco;have hfe':=λo=>hfe o;rw[hgc]at hfe';simp only at hfe';have hsub:∀x∈co.args,(subst ks x).nodes≤1000000:=λx hx=>by have h2:=zzD (M:=1000) (by omega) (λy hy=>aC (zg3 (k:=5) (n:=n) y hy) ht) x;have h3:=han x hx;have:x.nodes*1000≤1000*1000:=aq _ h3;omega
 simp[h0,h1,h0',h1',hn,hdd,Dat.cs,hv',AV.isV,hget,hc0,hc1,hc0',hc1',hcn,hcc,Con.cs,hgc];have hperm:∀m,HSc (H++[.cells [.int .i64 5,.int .i64 n,.sl (VT.css ks) .none],.perm zbk 3 m]):=λm=>hs.append rfl;unfold zoc;refine ALoop.own 8 zbk 3 rfl ?_;have hlen1:(H++[AB.cells [.int .i64 5,.int .i64 n,.sl (VT.css ks) .none]]).length=H.length+1:=by simp
 rw[hlen1,ah];show zoc (.ptr H.length 0) (.sl [] (.own (H.length+1))) (.sl (VT.css co.args) .none) (.int .i64 co.args.length) (.int .i64 0) (H++[.cells [.int .i64 5,.int .i64 n,.sl (VT.css ks) .none],.perm zbk 3 0]) (Out H.length K);refine zUC (Inv:=λq t8 t65 H'=>∃i:Nat,i≤co.args.length∧q=co.args.length-i∧t65=.int .i64 i∧t8=.sl (VT.css ((co.args.map (subst ks)).take i)) (.own (H.length+1))∧(∀x∈co.args.take i,(subst ks x).nodes≤200)∧H'=H++[.cells [.int .i64 5,.int .i64 n,.sl (VT.css ks) .none],.perm zbk 3 i]) co.args.length ?_ ?_
 ·intro _;exact⟨0,by omega,by omega,rfl,by simp[VT.css],by simp,rfl⟩
 ·rintro q t8 t65 H' ⟨i,hi,rfl,rfl,rfl,hall,rfl⟩ hsc hlen hsF Kb hKb;by_cases hlt:i<co.args.length
  ·have hmem:=ae hlt;have hx3:=hsub _ hmem;obtain⟨x,y,z,hvx,hx,hy,hz⟩:=zaO co.args[i];simp[zuO,hlt,hvx,hx,hy,hz];rw[←hvx];refine zLk ks (λy hy=>by have:=zg3 (k:=5) (n:=n) y hy;omega) (by omega) _ co.args[i] (aa _) (by have:=han _ hmem;omega) _ _ ?_;obtain⟨x',y',z',hvx',hx',hy',hz'⟩:=zaO (subst ks co.args[i]);simp[hvx',hx',hy',hz'];rw[←hvx'];refine zD3 _ _ (aa _) (by omega) _ _ ?_;by_cases h200:(subst ks co.args[i]).nodes≤200
   ·have h200':¬ (200:Int)<(subst ks co.args[i]).nodes:=by omega
    simp[h200'];rw[zd4];simp[zax,za6,zaZ];refine⟨by omega,by omega,?_⟩;rw[zaz (by omega) (by omega),show min i co.args.length=i by omega];refine hKb _ _ ⟨co.args.length-(i+1),by omega,Back.at (H2:=H++[.cells [.int .i64 5,.int .i64 n,.sl (VT.css ks) .none],.perm zbk 3 (i+1)]) (J:=[_,_]) (by simp;exact⟨rfl,rfl⟩) (by simp) (hperm _) ?_ ⟨_,_,rfl,i+1,by omega,rfl,by simp,?_,zxU hlt hall h200,rfl⟩⟩
    ·simp[zob,AV.sc,AV.scV,AV.scA,AV.scB]
    ·rw[zh2 (by simpa using hlt)];simp
   ·have h200':(200:Int)<(subst ks co.args[i]).nodes:=by omega
    simp[h200',AV.isV];refine hF (hfe' none ?_) _;rw[ap];intro hal2;have:=am.1 hal2 (subst ks co.args[i]) (aV.2 ⟨_,hmem,rfl⟩);exact h200 (ct this)
  ·obtain rfl:i=co.args.length:=by omega
   rw[aw]at hall;rw[ak (by simp)];simp[zuO,AV.isV];have hfs:=hfe' (some (co.args.map (subst ks))) (aB (am.2 λy hy=>by
    obtain⟨x,hx,rfl⟩:=aV.1 hy;exact bf (hall x hx)))
   rw[hfs]at hK;exact Out.tup hs hK ⟨slV,zbN rfl rfl,trivial⟩
theorem zOp:∀(m:Nat) (v:VT),v.nodes≤m→v.nodes≤1000000000→∀(H:zaa) (K:AV→zaa→Prop),K (.int .i64 v.nodes) H→ACalls tP zkj [.agg v.cs] H K:=by
 intro m;induction m with
 |zero=>intro v h;have:=v.nodes_pos;omega
 |succ m ih=>
  intro v hv hb H K hK;obtain⟨k,n,ks⟩:=v;have hnl:VT.nodesL ks+1≤1000000000:=by simpa[VT.nodes]using hb
  have hll:=VT.len_le ks;refine ACalls.out (zOn λhs=>?_);simp[VT.cs,zBP];refine zOl (Inv:=λq t3 t4 H'=>∃i:Nat,i≤ks.length∧q=ks.length-i∧t4=.int .i64 i∧t3=.int .i64 (1+VT.nodesL (ks.take i):Nat)∧H'=H++[.cells [.int .i64 k,.int .i64 n,.sl (VT.css ks) .none]]) ks.length ?_ ?_
  ·intro _;exact⟨0,by omega,by omega,rfl,by simp[VT.nodesL],rfl⟩
  ·rintro q t3 t4 H' ⟨i,hi,rfl,rfl,rfl,rfl⟩ hsc hlen hsF Kb hKb;by_cases hlt:i<ks.length
   ·have hki:=VT.kid_lt (k:=k) (n:=n) hlt;have h1:=VT.nodesL_take hlt;have h2:=VT.nodesL_take_le ks (i+1);obtain⟨x,y,z,hvx,hx,hy,hz⟩:=zaO ks[i];simp[zs9,hlt,hvx,hx,hy,hz];rw[←hvx];refine ih ks[i] (by omega) (by omega) _ _ ?_;simp;rw[zaz (by omega) (by omega),zaz (by omega) (by omega),zzN];refine hKb _ _ ⟨ks.length-(i+1),by omega,Back.same (by simp) hsc ?_ ⟨_,_,rfl,i+1,by omega,rfl,by simp,?_,rfl⟩⟩
    ·simp[zmv,AV.sc,AV.scV,AV.scA,AV.scB]
    ·rw[h1];congr 1;omega
   ·obtain rfl:i=ks.length:=by omega
    simp[zs9];refine Out.int rfl (aa _) hs ?_;simpa[VT.nodes,Int.add_comm]using hK
def zbY(f:VT→VT→Bool):List VT→List VT→Bool
 |[],[]=>true
 |a::x,b::y=>f a b && zbY f x y
 |_,_=>false
theorem zjP{f:VT→VT→Bool}:∀ {x y:List VT},x.length≠y.length→zbY f x y=false
 |[],[],h=>(h rfl).elim
 |a::x,b::y,h=>by have:x.length≠y.length:=λe=>h (by simp[e]);simp[zbY,zjP this]
 |[],_::_,_=>rfl
 |_::_,[],_=>rfl
end Go.Proofs.YtaifokkaaahdoaaGreatDoor
