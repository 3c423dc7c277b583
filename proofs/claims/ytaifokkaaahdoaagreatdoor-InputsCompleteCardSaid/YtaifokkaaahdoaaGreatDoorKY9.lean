import Derived.Test.YtaifokkaaahdoaaGreatDoorKNum
import Derived.Test.YtaifokkaaahdoaaGreatDoorProg
import Derived.KernelRfl
import Derived.Test.YtaifokkaaahdoaaGreatDoorKGY2
set_option linter.unusedSimpArgs false
set_option linter.unusedVariables false
set_option linter.unusedSectionVars false
set_option maxRecDepth 8000
namespace Go.Proofs.YtaifokkaaahdoaaGreatDoor
open Go Go.Abs
set_option maxRecDepth 100000
def zla:Nat→List Bool
 |5=>rl false [1,2,1,3,46]
 |_=>[]
noncomputable def zqu:Code:=Tryz.f104.body.getD .skip
noncomputable def zHl:List ResultVar:=Tryz.f104.results.toList
def zis(t1 t2 t4 t5 t6:AV):List AV:=ux 1 (t1::t2::ux 1 (t4::t5::t6::ux 46 []))
def zHk:List Bool:=zla 5
noncomputable def zHj:Code:=zaq [1,1,1,0,1,0,0] zqu
def zHh(K:Kt):AExit→List AV→zaa→Prop:=zar tP zla [1,1,1,0,1,0] zqu (zaB tP zHl K)
def zlb(t1 t2 t4 t5 t6:AV)(H:zaa)(K:Kt):Prop:=ALoop tP zHj (zHh K) (zis t1 t2 t4 t5 t6) H
def zir(t1 t2 t4 t5 t6:AV)(H:zaa)(K:Kt)(Kb5:Lt):Prop:=
 zaf 2 t2 λt34=>
 zae false 1 t34 H λt35=>
 zah 1 t35 λt36=>
 zac .lss false t6 t36 λt37=>
 zag t37
 (zad H (λK'=>zaf 2 t5 (K' · H)) λt40=>
 zad H (λK'=>zam false 1 t40 H (K' · H)) λt41=>
 zad H (λK'=>zaf 2 t2 (K' · H)) λt42=>
 zad H (λK'=>zam false 1 t42 H (K' · H)) λt43=>
 zad H (λK'=>K' t6 H) λt44=>
 zad H (λK'=>zaj 3 t43 t44 (K' · H)) λt45=>
 zad H (λK'=>zam true 3 t45 H (K' · H)) λt46=>
 zad H (λK'=>K' t1 H) λt47=>
 zaQ H (λH K'=>ACalls tP zhO [t46,t47] H K') λt48=>
 zad H (λK'=>zas 3 [(.int .i64 0),(.int .i64 0),.snil] 1 [(0,t48)] (K' · H)) λt49=>
 zax za9 3 40 t41 t49 H λt50 H=>
 zad H (λK'=>zaf 2 t5 (K' · H)) λt51=>
 zak 1 t51 t50 H λH=>
 zac .add false t6 (.int .i64 1) λt39=>
 Kb5 (zis t1 t2 t4 t5 t39) H)
 (zae true 3 t5 H λt52=>
 zak 3 t4 t52 H λH=>
 zae true 3 t4 H λr0=>
 K r0 H)
def ziq(t0 t1:AV)(H:zaa)(K:Kt):Prop:=
 zaw t0 H λt2 H=>
 zay [(.int .i64 0),(.int .i64 0),.snil] H λt4 H=>
 zaf 0 t2 λt7=>
 zae false 1 t7 H λt8=>
 zac .eql false t8 (.int .i64 4) λt9=>
 zab t9 true H (λK'=>zaf 1 t2 (K' · H)) λt11 H=>
 zab t9 true H (λK'=>zae false 1 t11 H (K' · H)) λt12 H=>
 zab t9 true H (λK'=>zac .geq false t12 (.int .i64 0) (K' · H)) λt13 H=>
 zai t9 t13 (.bool false) λt14=>
 zab t14 true H (λK'=>zaf 1 t2 (K' · H)) λt16 H=>
 zab t14 true H (λK'=>zae false 1 t16 H (K' · H)) λt17 H=>
 zab t14 true H (λK'=>K' t1 H) λt18 H=>
 zab t14 true H (λK'=>zah 1 t18 (K' · H)) λt19 H=>
 zab t14 true H (λK'=>zac .lss false t17 t19 (K' · H)) λt20 H=>
 zai t14 t20 (.bool false) λt21=>
 zag t21
 (zaf 1 t2 λt23=>
 zae false 1 t23 H λt24=>
 zaj 3 t1 t24 λt25=>
 zae true 3 t25 H λt26=>
 ACalls tP zhT [t26] H λt27 H=>
 zak 3 t4 t27 H λH=>
 zae true 3 t4 H λr0=>
 K r0 H)
 (zaf 0 t2 λt28=>
 zae false 1 t28 H λt29=>
 zaf 1 t2 λt30=>
 zae false 1 t30 H λt31=>
 zao [(.int .i64 0),(.int .i64 0),.snil] [(0,1),(1,1),(2,1)] [(0,t29),(1,t31)] λt32=>
 zay [(.int .i64 0),(.int .i64 0),.snil] H λt5 H=>
 zak 3 t5 t32 H λH=>
 zlb t1 t2 t4 t5 (.int .i64 0) H K)
theorem zxz{t1 t2 t4 t5 t6:AV}{H:zaa}{K:Kt}(Inv:Nat→AV→zaa→Prop)(n:Nat)(h0:HSc H→Inv n t6 H)(round:Rd1 (λt6=>zis t1 t2 t4 t5 t6) (λt6=>λH Kb5=>zir t1 t2 t4 t5 t6 H K Kb5) H Inv):zlb t1 t2 t4 t5 t6 H K:=
 lp1 (M:=zla) zHk t6 (by kernel_rfl) Inv n h0 round
theorem zxA{t0 t1:AV}{H:zaa}{K:Kt}(h:HSc H→ziq t0 t1 H K):ACalls tP zhO [t0,t1] H K:=
 zan (M:=zla) Tryz.func104 (c:=zqu) (by kernel_rfl) (λhs=>Eq.mpr (by kernel_rfl) (h hs))
def zlY:Nat→List Bool
 |3=>rl false [1,4,24]
 |_=>[]
noncomputable def zrx:Code:=Tryz.f151.body.getD .skip
noncomputable def zKk:List ResultVar:=Tryz.f151.results.toList
def ziA(t1 t2 t3 t4:AV):List AV:=ux 1 (t1::t2::t3::t4::ux 24 [])
def zKj:List Bool:=zlY 3
noncomputable def zKi:Code:=zaq [1,1,0,1,0,0] zrx
def zKh(K:Kt):AExit→List AV→zaa→Prop:=zar tP zlY [1,1,0,1,0] zrx (zaB tP zKk K)
def zyF(t1 t2 t3 t4:AV)(H:zaa)(K:Kt):Prop:=ALoop tP zKi (zKh K) (ziA t1 t2 t3 t4) H
def ziz(t1 t2 t3 t4:AV)(H:zaa)(K:Kt)(Kb3:Lt):Prop:=
 zaf 2 t1 λt11=>
 zae false 1 t11 H λt12=>
 zah 1 t12 λt13=>
 zac .lss false t4 t13 λt14=>
 zag t14
 (zad H (λK'=>zaf 2 t3 (K' · H)) λt17=>
 zad H (λK'=>zam false 1 t17 H (K' · H)) λt18=>
 zad H (λK'=>zaf 2 t1 (K' · H)) λt19=>
 zad H (λK'=>zam false 1 t19 H (K' · H)) λt20=>
 zad H (λK'=>K' t4 H) λt21=>
 zad H (λK'=>zaj 3 t20 t21 (K' · H)) λt22=>
 zad H (λK'=>zam true 3 t22 H (K' · H)) λt23=>
 zaQ H (λH K'=>ACalls tP zhT [t23] H K') λt24=>
 zad H (λK'=>zas 3 [(.int .i64 0),(.int .i64 0),.snil] 1 [(0,t24)] (K' · H)) λt25=>
 zax za9 3 40 t18 t25 H λt26 H=>
 zad H (λK'=>zaf 2 t3 (K' · H)) λt27=>
 zak 1 t27 t26 H λH=>
 zac .add false t4 (.int .i64 1) λt16=>
 Kb3 (ziA t1 t2 t3 t16) H)
 (zae true 3 t3 H λt28=>
 zak 3 t2 t28 H λH=>
 zae true 3 t2 H λr0=>
 K r0 H)
def zrw(t0:AV)(H:zaa)(K:Kt):Prop:=
 zaw t0 H λt1 H=>
 zay [(.int .i64 0),(.int .i64 0),.snil] H λt2 H=>
 zaf 0 t1 λt5=>
 zae false 1 t5 H λt6=>
 zaf 1 t1 λt7=>
 zae false 1 t7 H λt8=>
 zao [(.int .i64 0),(.int .i64 0),.snil] [(0,1),(1,1),(2,1)] [(0,t6),(1,t8)] λt9=>
 zay [(.int .i64 0),(.int .i64 0),.snil] H λt3 H=>
 zak 3 t3 t9 H λH=>
 zyF t1 t2 t3 (.int .i64 0) H K
theorem zyG{t1 t2 t3 t4:AV}{H:zaa}{K:Kt}(Inv:Nat→AV→zaa→Prop)(n:Nat)(h0:HSc H→Inv n t4 H)(round:Rd1 (λt4=>ziA t1 t2 t3 t4) (λt4=>λH Kb3=>ziz t1 t2 t3 t4 H K Kb3) H Inv):zyF t1 t2 t3 t4 H K:=
 lp1 (M:=zlY) zKj t4 (by kernel_rfl) Inv n h0 round
theorem zyH{t0:AV}{H:zaa}{K:Kt}(h:HSc H→zrw t0 H K):ACalls tP zhT [t0] H K:=
 zan (M:=zlY) Tryz.func151 (c:=zrx) (by kernel_rfl) (λhs=>Eq.mpr (by kernel_rfl) (h hs))
def zf2:Nat→List Bool
 |6=>rl false [0,2,6,1,38,3,56]
 |10=>rl false [0,2,6,2,37,3,28,3,25]
 |_=>[]
noncomputable def zrN:Code:=Tryz.f189.body.getD .skip
noncomputable def zLd:List ResultVar:=Tryz.f189.results.toList
def zmg(t0 t1 t8 t47 t48 t49:AV):List AV:=t0::t1::ux 6 (t8::ux 38 (t47::t48::t49::ux 56 []))
def zy1:List Bool:=zf2 6
noncomputable def zrP:Code:=zaq [1,1,1,1,0,1,0,0] zrN
def zyZ(K:Kt):AExit→List AV→zaa→Prop:=zar tP zf2 [1,1,1,1,0,1,0] zrN (zaB tP zLd K)
def zy0(t0 t1 t8 t47 t48 t49:AV)(H:zaa)(K:Kt):Prop:=ALoop tP zrP (zyZ K) (zmg t0 t1 t8 t47 t48 t49) H
def zmf(t0 t1 t8 t9 t47 t48 t49 t78 t79 t80:AV):List AV:=t0::t1::ux 6 (t8::t9::ux 37 (t47::t48::t49::ux 28 (t78::t79::t80::ux 25 [])))
def zLb:List Bool:=zf2 10
noncomputable def zK8:Code:=zaq [1,1,0,0,1,1,1,0,0] zrP
def zK6(K:Kt)(Kb6:Lt):AExit→List AV→zaa→Prop:=zar tP zf2 [1,1,0,0,1,1,1,0] zrP (zbK zy1 Kb6 (zyZ K))
def zrR(t0 t1 t8 t9 t47 t48 t49 t78 t79 t80:AV)(H:zaa)(K:Kt)(Kb6:Lt):Prop:=ALoop tP zK8 (zK6 K Kb6) (zmf t0 t1 t8 t9 t47 t48 t49 t78 t79 t80) H
def zrQ(t0 t1 t8 t9 t47 t48 t49 t78 t79 t80:AV)(H:zaa)(K:Kt)(Kb6:Lt)(Kb10:Lt):Prop:=
 zac .add false t80 (.int .i64 1) λt103=>
 Kb10 (zmf t0 t1 t8 t9 t47 t48 t49 t78 t79 t103) H
def zg5(t0 t1 t8 t9 t47 t48 t49 t78 t79 t80:AV)(H:zaa)(K:Kt)(Kb6:Lt)(Kb10:Lt):Prop:=
 zrQ t0 t1 t8 t9 t47 t48 t49 t78 t79 t80 H K Kb6 Kb10
def zg4(t0 t1 t8 t9 t47 t48 t49 t78 t79 t80:AV)(H:zaa)(K:Kt)(Kb6:Lt)(Kb10:Lt):Prop:=
 zac .lss false t80 t79 λt81=>
 zag t81
 (zaj 3 t78 t80 λt83=>
 zae true 3 t83 H λt84=>
 zay [(.int .i64 0),(.int .i64 0),.snil] H λt12 H=>
 zak 3 t12 t84 H λH=>
 zaf 0 t12 λt85=>
 zae false 1 t85 H λt86=>
 zac .neq false t86 (.int .i64 4) λt87=>
 zab t87 false H (λK'=>zaf 1 t12 (K' · H)) λt89 H=>
 zab t87 false H (λK'=>zae false 1 t89 H (K' · H)) λt90 H=>
 zab t87 false H (λK'=>K' t80 H) λt91 H=>
 zab t87 false H (λK'=>zac .neq false t90 t91 (K' · H)) λt92 H=>
 zai t87 (.bool true) t92 λt93=>
 zab t93 false H (λK'=>zaf 2 t12 (K' · H)) λt95 H=>
 zab t93 false H (λK'=>zae false 1 t95 H (K' · H)) λt96 H=>
 zab t93 false H (λK'=>zah 1 t96 (K' · H)) λt97 H=>
 zab t93 false H (λK'=>zac .gtr false t97 (.int .i64 0) (K' · H)) λt98 H=>
 zai t93 (.bool true) t98 λt99=>
 zag t99
 (zaj 1 t8 t9 λt102=>
 zak 1 t102 (.bool false) H λH=>
 zg5 t0 t1 t8 t9 t47 t48 t49 t78 t79 t80 H K Kb6 Kb10)
 (zg5 t0 t1 t8 t9 t47 t48 t49 t78 t79 t80 H K Kb6 Kb10))
 (zac .add false t49 (.int .i64 1) λt104=>
 Kb6 (zmg t0 t1 t8 t47 t48 t104) H)
def ziG(t0 t1 t8 t47 t48 t49:AV)(H:zaa)(K:Kt)(Kb6:Lt):Prop:=
 zac .lss false t49 t48 λt50=>
 zag t50
 (zaj 3 t47 t49 λt52=>
 zae true 3 t52 H λt53=>
 zay [(.int .i64 0),(.int .i64 0),.snil] H λt10 H=>
 zak 3 t10 t53 H λH=>
 zad H (λK'=>K' t8 H) λt54=>
 zad H (λK'=>K' t49 H) λt55=>
 zad H (λK'=>zaf 0 t10 (K' · H)) λt56=>
 zad H (λK'=>zam false 1 t56 H (K' · H)) λt57=>
 zad H (λK'=>zac .eql false t57 (.int .i64 5) (K' · H)) λt58=>
 zad H (λK'=>K' t58 H) λt59=>
 zab t59 true H (λK'=>zad H (λK''=>zaf 1 t10 (K'' · H)) (K' · H)) λt60 H=>
 zab t59 true H (λK'=>zad H (λK''=>zam false 1 t60 H (K'' · H)) (K' · H)) λt61 H=>
 zab t59 true H (λK'=>zad H (λK''=>K'' t1 H) (K' · H)) λt62 H=>
 zab t59 true H (λK'=>zad H (λK''=>zac .eql false t61 t62 (K'' · H)) (K' · H)) λt63 H=>
 zad H (λK'=>zai t59 t63 (.bool false) (K' · H)) λt64=>
 zad H (λK'=>K' t64 H) λt65=>
 zab t65 true H (λK'=>zad H (λK''=>zaf 2 t10 (K'' · H)) (K' · H)) λt66 H=>
 zab t65 true H (λK'=>zad H (λK''=>zam false 1 t66 H (K'' · H)) (K' · H)) λt67 H=>
 zab t65 true H (λK'=>zad H (λK''=>zah 1 t67 (K'' · H)) (K' · H)) λt68 H=>
 zab t65 true H (λK'=>zad H (λK''=>K'' t0 H) (K' · H)) λt69 H=>
 zab t65 true H (λK'=>zad H (λK''=>K'' t1 H) (K' · H)) λt70 H=>
 zab t65 true H (λK'=>zad H (λK''=>zaj 3 t69 t70 (K'' · H)) (K' · H)) λt71 H=>
 zab t65 true H (λK'=>zad H (λK''=>zaf 1 t71 (K'' · H)) (K' · H)) λt72 H=>
 zab t65 true H (λK'=>zad H (λK''=>zam false 1 t72 H (K'' · H)) (K' · H)) λt73 H=>
 zab t65 true H (λK'=>zad H (λK''=>zac .eql false t68 t73 (K'' · H)) (K' · H)) λt74 H=>
 zad H (λK'=>zai t65 t74 (.bool false) (K' · H)) λt75=>
 zad H (λK'=>zaj 1 t54 t55 (K' · H)) λt76=>
 zak 1 t76 t75 H λH=>
 zaf 2 t10 λt77=>
 zae false 1 t77 H λt78=>
 zah 1 t78 λt79=>
 zrR t0 t1 t8 t49 t47 t48 t49 t78 t79 (.int .i64 0) H K Kb6)
 (K t8 H)
def zyY(t0 t1 t2:AV)(H:zaa)(K:Kt):Prop:=
 zac .lss false t1 (.int .i64 0) λt14=>
 zab t14 false H (λK'=>K' t1 H) λt16 H=>
 zab t14 false H (λK'=>K' t0 H) λt17 H=>
 zab t14 false H (λK'=>zah 1 t17 (K' · H)) λt18 H=>
 zab t14 false H (λK'=>zac .geq false t16 t18 (K' · H)) λt19 H=>
 zai t14 (.bool true) t19 λt20=>
 zab t20 false H (λK'=>K' t2 H) λt22 H=>
 zab t20 false H (λK'=>zac .lss false t22 (.int .i64 0) (K' · H)) λt23 H=>
 zai t20 (.bool true) t23 λt24=>
 zab t24 false H (λK'=>K' t2 H) λt26 H=>
 zab t24 false H (λK'=>K' t0 H) λt27 H=>
 zab t24 false H (λK'=>K' t1 H) λt28 H=>
 zab t24 false H (λK'=>zaj 3 t27 t28 (K' · H)) λt29 H=>
 zab t24 false H (λK'=>zaf 2 t29 (K' · H)) λt30 H=>
 zab t24 false H (λK'=>zae false 1 t30 H (K' · H)) λt31 H=>
 zab t24 false H (λK'=>zah 1 t31 (K' · H)) λt32 H=>
 zab t24 false H (λK'=>zac .geq false t26 t32 (K' · H)) λt33 H=>
 zai t24 (.bool true) t33 λt34=>
 zag t34
 (K .snil H)
 (zaj 3 t0 t1 λt37=>
 zaf 2 t37 λt38=>
 zae false 1 t38 H λt39=>
 zaj 2 t39 t2 λt41=>
 zaf 1 t41 λt42=>
 zae false 1 t42 H λt43=>
 zah 1 t43 λt45=>
 zbu 1 [(.bool false)] t45 t45 H λt46 H=>
 zah 1 t43 λt48=>
 zy0 t0 t1 t46 t43 t48 (.int .i64 0) H K)
theorem zK9{t0 t1 t8 t9 t47 t48 t49 t78 t79 t80:AV}{H:zaa}{K:Kt}{Kb6:Lt}(Inv:Nat→AV→zaa→Prop)(n:Nat)(h0:HSc H→Inv n t80 H)(round:Rd1 (λt80=>zmf t0 t1 t8 t9 t47 t48 t49 t78 t79 t80) (λt80=>λH Kb10=>zg4 t0 t1 t8 t9 t47 t48 t49 t78 t79 t80 H K Kb6 Kb10) H Inv):zrR t0 t1 t8 t9 t47 t48 t49 t78 t79 t80 H K Kb6:=
 lp1 (M:=zf2) zLb t80 (by kernel_rfl) Inv n h0 round
theorem zLa{t0 t1 t8 t47 t48 t49:AV}{H:zaa}{K:Kt}(Inv:Nat→AV→zaa→Prop)(n:Nat)(h0:HSc H→Inv n t49 H)(round:Rd1 (λt49=>zmg t0 t1 t8 t47 t48 t49) (λt49=>λH Kb6=>ziG t0 t1 t8 t47 t48 t49 H K Kb6) H Inv):zy0 t0 t1 t8 t47 t48 t49 H K:=
 lp1 (M:=zf2) zy1 t49 (by kernel_rfl) Inv n h0 round
theorem zLc{t0 t1 t2:AV}{H:zaa}{K:Kt}(h:HSc H→zyY t0 t1 t2 H K):ACalls tP zo7 [t0,t1,t2] H K:=
 zan (M:=zf2) Tryz.func189 (c:=zrN) (by kernel_rfl) (λhs=>Eq.mpr (by kernel_rfl) (h hs))
def zLe(_:Nat):List Bool:=[]
noncomputable def zLf:Code:=Tryz.f190.body.getD .skip
def zy2(t0 t1:AV)(H:zaa)(K:Kt):Prop:=
 zaw t0 H λt2 H=>
 zaw t1 H λt3 H=>
 zaf 0 t2 λt5=>
 zae false 1 t5 H λt6=>
 zac .eql false t6 (.int .i64 5) λt7=>
 zab t7 true H (λK'=>zaf 1 t2 (K' · H)) λt9 H=>
 zab t7 true H (λK'=>zae false 1 t9 H (K' · H)) λt10 H=>
 zab t7 true H (λK'=>zae false 1 t3 H (K' · H)) λt11 H=>
 zab t7 true H (λK'=>zac .eql false t10 t11 (K' · H)) λt12 H=>
 zai t7 t12 (.bool false) λt13=>
 zab t13 false H (λK'=>zaf 2 t2 (K' · H)) λt15 H=>
 zab t13 false H (λK'=>zae false 1 t15 H (K' · H)) λt16 H=>
 zab t13 false H (λK'=>zcb zj0 [t3] (K' · H)) λt17 H=>
 zab t13 false H (λK'=>ACalls tP zd5 [t16,t17] H K') λt18 H=>
 zai t13 (.bool true) t18 λt19=>
 K t19 H
theorem zLg{t0 t1:AV}{H:zaa}{K:Kt}(h:HSc H→zy2 t0 t1 H K):ACalls tP zjZ [t0,t1] H K:=
 zan (M:=zLe) Tryz.func190 (c:=zLf) (by kernel_rfl) (λhs=>Eq.mpr (by kernel_rfl) (h hs))
def zLu(_:Nat):List Bool:=[]
noncomputable def zLv:Code:=Tryz.f206.body.getD .skip
def zy7(t0 t1:AV)(H:zaa)(K:Kt):Prop:=
 zaw t0 H λt2 H=>
 zae true 3 t2 H λt4=>
 zae false 1 t1 H λt5=>
 ACalls tP zjZ [t4,t5] H λt6 H=>
 K t6 H
theorem zLw{t0 t1:AV}{H:zaa}{K:Kt}(h:HSc H→zy7 t0 t1 H K):ACalls tP zj0 [t0,t1] H K:=
 zan (M:=zLu) Tryz.func206 (c:=zLv) (by kernel_rfl) (λhs=>Eq.mpr (by kernel_rfl) (h hs))
def zmQ:Nat→List Bool
 |4=>rl false [3,1,3,1,50]
 |_=>[]
noncomputable def zsr:Code:=Tryz.f63.body.getD .skip
noncomputable def zNT:List ResultVar:=Tryz.f63.results.toList
def ziS(t3 t7:AV):List AV:=ux 3 (t3::ux 3 (t7::ux 50 []))
def zNS:List Bool:=zmQ 4
noncomputable def zNR:Code:=zaq [1,1,0,1,0,0] zsr
def zNQ(K:Kt):AExit→List AV→zaa→Prop:=zar tP zmQ [1,1,0,1,0] zsr (zaB tP zNT K)
def zz8(t3 t7:AV)(H:zaa)(K:Kt):Prop:=ALoop tP zNR (zNQ K) (ziS t3 t7) H
def zdP(t3 t7:AV)(H:zaa)(K:Kt)(Kb4:Lt):Prop:=
 zaf 2 t3 λt25=>
 zae false 1 t25 H λt26=>
 zah 1 t26 λt27=>
 zac .lss false t7 t27 λt28=>
 zag t28
 (zaf 2 t3 λt31=>
 zae false 1 t31 H λt32=>
 zaj 3 t32 t7 λt34=>
 zaf 0 t34 λt35=>
 zae false 1 t35 H λt36=>
 zac .neq false t36 (.int .i64 4) λt37=>
 zab t37 false H (λK'=>zaf 2 t3 (K' · H)) λt39 H=>
 zab t37 false H (λK'=>zae false 1 t39 H (K' · H)) λt40 H=>
 zab t37 false H (λK'=>K' t7 H) λt41 H=>
 zab t37 false H (λK'=>zaj 3 t40 t41 (K' · H)) λt42 H=>
 zab t37 false H (λK'=>zaf 1 t42 (K' · H)) λt43 H=>
 zab t37 false H (λK'=>zae false 1 t43 H (K' · H)) λt44 H=>
 zab t37 false H (λK'=>K' t7 H) λt45 H=>
 zab t37 false H (λK'=>zac .neq false t44 t45 (K' · H)) λt46 H=>
 zai t37 (.bool true) t46 λt47=>
 zab t47 false H (λK'=>zaf 2 t3 (K' · H)) λt49 H=>
 zab t47 false H (λK'=>zae false 1 t49 H (K' · H)) λt50 H=>
 zab t47 false H (λK'=>K' t7 H) λt51 H=>
 zab t47 false H (λK'=>zaj 3 t50 t51 (K' · H)) λt52 H=>
 zab t47 false H (λK'=>zaf 2 t52 (K' · H)) λt53 H=>
 zab t47 false H (λK'=>zae false 1 t53 H (K' · H)) λt54 H=>
 zab t47 false H (λK'=>zah 1 t54 (K' · H)) λt55 H=>
 zab t47 false H (λK'=>zac .gtr false t55 (.int .i64 0) (K' · H)) λt56 H=>
 zai t47 (.bool true) t56 λt57=>
 zag t57
 (K (.bool false) H)
 (zac .add false t7 (.int .i64 1) λt30=>
 Kb4 (ziS t3 t30) H))
 (K (.bool true) H)
def zsq(t0 t1 t2:AV)(H:zaa)(K:Kt):Prop:=
 zaw t0 H λt3 H=>
 zaf 0 t3 λt8=>
 zae false 1 t8 H λt9=>
 zac .neq false t9 (.int .i64 5) λt10=>
 zab t10 false H (λK'=>zaf 1 t3 (K' · H)) λt12 H=>
 zab t10 false H (λK'=>zae false 1 t12 H (K' · H)) λt13 H=>
 zab t10 false H (λK'=>K' t1 H) λt14 H=>
 zab t10 false H (λK'=>zac .neq false t13 t14 (K' · H)) λt15 H=>
 zai t10 (.bool true) t15 λt16=>
 zab t16 false H (λK'=>zaf 2 t3 (K' · H)) λt18 H=>
 zab t16 false H (λK'=>zae false 1 t18 H (K' · H)) λt19 H=>
 zab t16 false H (λK'=>zah 1 t19 (K' · H)) λt20 H=>
 zab t16 false H (λK'=>K' t2 H) λt21 H=>
 zab t16 false H (λK'=>zac .neq false t20 t21 (K' · H)) λt22 H=>
 zai t16 (.bool true) t22 λt23=>
 zag t23
 (K (.bool false) H)
 (zz8 t3 (.int .i64 0) H K)
theorem zz9{t3 t7:AV}{H:zaa}{K:Kt}(Inv:Nat→AV→zaa→Prop)(n:Nat)(h0:HSc H→Inv n t7 H)(round:Rd1 (λt7=>ziS t3 t7) (λt7=>λH Kb4=>zdP t3 t7 H K Kb4) H Inv):zz8 t3 t7 H K:=
 lp1 (M:=zmQ) zNS t7 (by kernel_rfl) Inv n h0 round
theorem zAa{t0 t1 t2:AV}{H:zaa}{K:Kt}(h:HSc H→zsq t0 t1 t2 H K):ACalls tP zkc [t0,t1,t2] H K:=
 zan (M:=zmQ) Tryz.func63 (c:=zsr) (by kernel_rfl) (λhs=>Eq.mpr (by kernel_rfl) (h hs))
end Go.Proofs.YtaifokkaaahdoaaGreatDoor

namespace Go.Proofs.YtaifokkaaahdoaaGreatDoor
open Go Go.Abs
theorem zAk:∀(m:Nat) (v:VT),v.nodes≤m→v.nodes≤1000000000→∀(H:zaa) (K:AV→zaa→Prop),K (.int .i64 v.nodes) H→ACalls tP zgE [.agg v.cs] H K:=by
 intro m;induction m with
 |zero=>intro v h;have:=v.nodes_pos;omega
 |succ m ih=>
  intro v hv hb H K hK;obtain⟨k,n,ks⟩:=v;have hnl:VT.nodesL ks+1≤1000000000:=by simpa[VT.nodes]using hb
  have hll:=VT.len_le ks;refine ACalls.out (zAj λhs=>?_);simp[VT.cs,zsw];refine zAi (Inv:=λq t3 t4 H'=>∃i:Nat,i≤ks.length∧q=ks.length-i∧t4=.int .i64 i∧t3=.int .i64 (1+VT.nodesL (ks.take i):Nat)∧H'=H++[.cells [.int .i64 k,.int .i64 n,.sl (VT.css ks) .none]]) ks.length ?_ ?_
  ·intro _;exact⟨0,by omega,by omega,rfl,by simp[VT.nodesL],rfl⟩
  ·rintro q t3 t4 H' ⟨i,hi,rfl,rfl,rfl,rfl⟩ hsc hlen hsF Kb hKb;by_cases hlt:i<ks.length
   ·have hki:=VT.kid_lt (k:=k) (n:=n) hlt;have h1:=VT.nodesL_take hlt;have h2:=VT.nodesL_take_le ks (i+1);simp[ziT,hlt];refine ih ks[i] (by omega) (by omega) _ _ ?_;simp;rw[zav (by omega) (by omega),zav (by omega) (by omega)];refine hKb _ _ ⟨ks.length-(i+1),by omega,Back.here (by simp) hsc ?_ ⟨_,_,rfl,i+1,by omega,rfl,by simp,?_,rfl⟩⟩
    ·simp[ziU,AV.sc,AV.scV,AV.scA,AV.scB]
    ·rw[h1];congr 1;omega
   ·obtain rfl:i=ks.length:=by omega
    simp[ziT];refine Out.int rfl (Nat.le_refl _) hs ?_;simpa[VT.nodes,Int.add_comm]using hK
theorem zOb(data:List Dat)(hdl:data.length≤1000000)(vars:Int):∀(m:Nat) (v:VT),v.nodes≤m→v.nodes≤1000000000→∀(H:zaa) (K:AV→zaa→Prop),K (.bool (zaz data vars v)) H→ACalls tP zh2 [.sl (data.map Dat.cs) .none,.agg v.cs,.int .i64 vars] H K:=by
 intro m;induction m with
 |zero=>intro v h;have:=v.nodes_pos;omega
 |succ m ih=>
  intro v hv hb H K hK;obtain⟨k,n,ks⟩:=v;have hnl:VT.nodesL ks+1≤1000000000:=by simpa[VT.nodes]using hb
  have hll:=VT.len_le ks;refine ACalls.out (zAm λhs=>?_);have hO:∀J,Out H.length K (.bool (zaC data vars k n ks.length && zaI data vars ks)) (H++J):=λJ=>Out.bool rfl (Nat.le_refl _) hs (by simpa[zaz]using hK);have hF:zaC data vars k n ks.length=false→∀J,Out H.length K (.bool false) (H++J):=λh J=>by have:=hO J;rwa [h,Bool.false_and]at this
  have loop:zaC data vars k n ks.length=true→zmV (.sl (data.map Dat.cs) .none) (.int .i64 vars) (.ptr H.length 0) (.int .i64 ks.length) (.int .i64 0) (H++[.cells [.int .i64 k,.int .i64 n,.sl (VT.css ks) .none]]) (Out H.length K):=by
   intro hsh;rw[hsh]at hO;simp only[Bool.true_and]at hO;refine zAl (Inv:=λq t8 H'=>∃i:Nat,i≤ks.length∧q=ks.length-i∧t8=.int .i64 i∧zaI data vars (ks.drop i)=zaI data vars ks∧H'=H++[.cells [.int .i64 k,.int .i64 n,.sl (VT.css ks) .none]]) ks.length ?_ ?_
   ·intro _;exact⟨0,by omega,by omega,rfl,by simp,rfl⟩
   ·rintro q t8 H' ⟨i,hi,rfl,rfl,ho,rfl⟩ hsc hlen hsF Kb hKb;by_cases hlt:i<ks.length
    ·have hki:=VT.kid_lt (k:=k) (n:=n) hlt;rw[List.drop_eq_getElem_cons hlt,zaI]at ho;simp[ziV,hlt];refine ih ks[i] (by omega) (by omega) _ _ ?_;cases hb:zaz data vars ks[i] with
     |false=>rw[hb,Bool.false_and]at ho;rw[←ho]at hO;simp;exact hO _
     |true=>rw[hb,Bool.true_and]at ho;simp;rw[zav (by omega) (by omega)];refine hKb _ _ ⟨ks.length-(i+1),by omega,Back.here (by simp) hsc ?_ ⟨_,rfl,i+1,by omega,rfl,by simp,ho,rfl⟩⟩;simp[ziW,AV.sc,AV.scV,AV.scA,AV.scB]
    ·obtain rfl:i=ks.length:=by omega
     rw[List.drop_length,zaI]at ho;rw[←ho]at hO;simp[ziV];exact hO _
  have prim:(k=1∨k=2∨k=3)→Out H.length K (.bool (n == 0 && ks.length == 0)) (H++[.cells [.int .i64 k,.int .i64 n,.sl (VT.css ks) .none]]):=by
   intro h;have hsh:zaC data vars k n ks.length=(n == 0 && ks.length == 0):=by rcases h with rfl|rfl|rfl <;> rfl
   have:=hO [.cells [.int .i64 k,.int .i64 n,.sl (VT.css ks) .none]];rw[hsh]at this;cases ks with
   |nil=>simpa[zaI]using this
   |cons x l=>simpa using this
  by_cases h123:k=1∨k=2∨k=3
  ·have:=prim h123;cases hn:(n == 0) with
   |false=>rw[hn,Bool.false_and]at this;rcases h123 with rfl|rfl|rfl <;> simp[zbr,VT.cs,za5,hn] <;> exact this
   |true=>
    rw[hn,Bool.true_and]at this;have e:((ks.length:Int) == 0)=(ks.length == 0):=by rw[Bool.eq_iff_iff];simp
    rw[←e]at this;rcases h123 with rfl|rfl|rfl <;> simp only[zbr,VT.cs] <;> simp[za5,hn] <;> simpa using this
  by_cases h4:k=4
  ·subst h4;have hsh:zaC data vars 4 n ks.length=(decide (0≤n) && decide (n<vars) && ks.length == 0):=rfl;have hO':∀J,Out H.length K (.bool (decide (0≤n) && decide (n<vars) && ks.length == 0)) (H++J):=λJ=>by
    have:=hO J;rw[hsh]at this;cases ks with
    |nil=>simpa[zaI]using this
    |cons x l=>simpa using this
   have e:((ks.length:Int) == 0)=(ks.length == 0):=by rw[Bool.eq_iff_iff];simp
   rw[←e]at hO';by_cases g1:0≤n
   ·by_cases g2:n<vars
    ·simp only[zbr,VT.cs];simp[za5,g1,g2];simpa[g1,g2]using hO' _
    ·simp only[zbr,VT.cs];simp[za5,g1,g2];simpa[g1,g2]using hO' _
   ·simp only[zbr,VT.cs];simp[za5,g1];simpa[g1]using hO' _
  by_cases h5:k=5
  ·subst h5;have hsh:zaC data vars 5 n ks.length=(decide (0≤n) && (match data[n.toNat]? with | some d=>(ks.length:Int) == d.vars | none=>false)):=rfl;by_cases g1:0≤n
   ·have g1':¬ n<0:=by omega
    by_cases g2:n<data.length
    ·have hnl:n.toNat<data.length:=by omega
     have g2':¬(data.length:Int)≤n:=by omega
     have hat:(data.map Dat.cs)[n.toNat]?.getD []=[.str data[n.toNat].name,.int .i64 data[n.toNat].vars,.sl (data[n.toNat].cons.map Con.cs) .none]:=by simp[hnl,Dat.cs]
     rw[List.getElem?_eq_getElem hnl]at hsh;simp only[g1,decide_true,Bool.true_and]at hsh;cases hv:((ks.length:Int) == data[n.toNat].vars) with
     |false=>
      rw[hv]at hsh;have hv':((ks.length:Int) != data[n.toNat].vars)=true:=by simp[bne,hv]
      simp only[zbr,VT.cs];simp[za5,g1',g2',g1,g2,hnl,Dat.cs,hv'];exact hF hsh _
     |true=>
      rw[hv]at hsh;have hv':((ks.length:Int) != data[n.toNat].vars)=false:=by simp[bne,hv]
      simp only[zbr,VT.cs];simp[za5,g1',g2',g1,g2,hnl,Dat.cs,hv',zdA,zeQ];exact loop hsh
    ·have g2':(data.length:Int)≤n:=by omega
     rw[List.getElem?_eq_none (by omega)]at hsh;simp only[zbr,VT.cs];simp[za5,g1',g2'];exact hF (by rw[hsh];simp) _
   ·have g1':n<0:=by omega
    simp only[zbr,VT.cs];simp[za5,g1'];exact hF (by rw[hsh];simp[g1]) _
  by_cases h6:k=6
  ·subst h6;have hsh:zaC data vars 6 n ks.length=(n == 0 && decide (2≤ks.length) && decide (ks.length≤6)):=rfl;simp only[zbr,VT.cs];cases hn:(n == 0) with
   |false=>
    have:(n != 0)=true:=by simp[bne,hn]
    simp[za5,this];exact hF (by rw[hsh,hn];rfl) _
   |true=>
    have hn':(n != 0)=false:=by simp[bne,hn]
    by_cases g1:ks.length<2
    ·have:(ks.length:Int)<2:=by omega
     simp[za5,hn',this];exact hF (by rw[hsh];simp;omega) _
    ·have g1':¬ (ks.length:Int)<2:=by omega
     by_cases g2:6<ks.length
     ·have:(6:Int)<ks.length:=by omega
      simp[za5,hn',g1',this];exact hF (by rw[hsh];simp;omega) _
     ·have:¬ (6:Int)<ks.length:=by omega
      simp[za5,hn',g1',this,zdA,zeQ];exact loop (by rw[hsh,hn];simp;omega)
  by_cases h78:k=7∨k=8
  ·have hsh:zaC data vars k n ks.length=(n == 0 && ks.length == 1):=by rcases h78 with rfl | rfl <;> rfl
   cases hn:(n == 0) with
   |false=>
    have:(n != 0)=true:=by simp[bne,hn]
    have fin:=hF (by rw[hsh,hn];rfl);simp only[zbr,VT.cs];rcases h78 with rfl|rfl <;> simp[za5,zck,this] <;> exact fin _
   |true=>
    have hn':(n != 0)=false:=by simp[bne,hn]
    by_cases g1:ks.length=1
    ·have g1':((ks.length:Int) != 1)=false:=by simp[g1]
     have fin:=loop (by rw[hsh,hn,g1];rfl);simp only[zbr,VT.cs];rcases h78 with rfl|rfl <;> simp[za5,zck,hn',g1',zdA,zeQ] <;> exact fin
    ·have g1':((ks.length:Int) != 1)=true:=by simp;omega
     have fin:=hF (by rw[hsh];simp[g1]);simp only[zbr,VT.cs];rcases h78 with rfl|rfl <;> simp[za5,zck,hn',g1'] <;> exact fin _
  have b1:(k == 1)=false:=by simp;omega
  have b2:(k == 2)=false:=by simp;omega
  have b3:(k == 3)=false:=by simp;omega
  have b4:(k == 4)=false:=by simp;omega
  have b5:(k == 5)=false:=by simp;omega
  have b6:(k == 6)=false:=by simp;omega
  have b7:(k == 7)=false:=by simp;omega
  have b8:(k == 8)=false:=by simp;omega
  by_cases h9:k=9
  ·subst h9;have hsh:zaC data vars 9 n ks.length=(n == 0 && decide (1≤ks.length) && decide (ks.length≤7)):=rfl;simp only[zbr,VT.cs];cases hn:(n == 0) with
   |false=>
    have:(n != 0)=true:=by simp[bne,hn]
    simp[za5,zck,this];exact hF (by rw[hsh,hn];rfl) _
   |true=>
    have hn':(n != 0)=false:=by simp[bne,hn]
    by_cases g1:ks.length<1
    ·have:(ks.length:Int)<1:=by omega
     simp[za5,zck,hn',this];exact hF (by rw[hsh];simp;omega) _
    ·have g1':¬ (ks.length:Int)<1:=by omega
     by_cases g2:7<ks.length
     ·have:(7:Int)<ks.length:=by omega
      simp[za5,zck,hn',g1',this];exact hF (by rw[hsh];simp;omega) _
     ·have:¬ (7:Int)<ks.length:=by omega
      simp[za5,zck,hn',g1',this,zdA,zeQ];exact loop (by rw[hsh,hn];simp;omega)
  ·have b9:(k == 9)=false:=by simp;omega
   simp only[zbr,VT.cs];simp[za5,zck,b1,b2,b3,b4,b5,b6,b7,b8,b9];exact hF (by unfold zaC;simp[b1,b2,b3,b4,b5,b6,b7,b8,b9]) _
theorem zzw(data:List Dat)(hdl:data.length≤1000000)(vars:Int)(v:VT)(hb:v.nodes≤1000000000)(H:zaa)(K:AV→zaa→Prop)(hK:K (.bool (zaA data vars v)) H):ACalls tP zhZ [.sl (data.map Dat.cs) .none,.agg v.cs,.int .i64 vars] H K:=by
 refine ACalls.out (zzv λhs=>?_);have hO:∀J,Out H.length K (.bool (zaA data vars v)) (H++J):=λJ=>Out.bool rfl (Nat.le_refl _) hs hK;unfold zaA at hO;simp[zr4];refine zAk _ v (Nat.le_refl _) hb _ _ ?_;by_cases h:v.nodes≤200
 ·have h':(v.nodes:Int)≤200:=by omega
  simp[h'];refine zOb data hdl vars _ v (Nat.le_refl _) hb _ _ ?_;simpa[h]using hO _
 ·have h':¬ (v.nodes:Int)≤200:=by omega
  simp[h'];simpa[h]using hO _
def zbw(es:List (List AV))(id:Nat):AV:=match es with|[]=>.snil|_=>.sl es (.own id)
def zbQ(e s:Nat)(n:Nat):zaa:=match n with|0=>[]|n=>[.perm e s n]
theorem zBX(es:List (List AV))(id:Nat):WkA (zbw es id) (.sl es .none):=by
 cases es with
 |nil=>exact .snil
 |cons e es=>exact .sl _ _
theorem zje(es:List (List AV)){id n:Nat}(h:es=[]∨id<n):(zbw es id).scA n=true:=by
 cases es with
 |nil=>rfl
 |cons e es=>
  rcases h with h|h
  ·cases h
  ·simpa[zbw,AV.scA,AV.scB]using h
theorem zBW(es:List (List AV))(id:Nat):(zbw es id).known=true:=by cases es <;> rfl
theorem zBV(es:List (List AV))(id:Nat):(zbw es id).cs?=some [zbw es id]:=by cases es <;> rfl
theorem zBY{e s bytes:Nat}{es:List (List AV)}{y:List AV}{t:Tok}{H:zaa}{K:AV→zaa→Prop}(hy:y.length=s)(hb:(es.length+1)*bytes≤140737488355328)(hl:es.length+1≤9223372036854775807)(hk:K (zbw (es++[y]) H.length) (H++zbQ e s (es.length+1))):zax e s bytes (zbw es H.length) (.sl [y] t) (H++zbQ e s es.length) K:=by
 unfold zax zbc;refine⟨by simpa using hy,?_⟩;cases es with
 |nil=>unfold za2;simp[zbw,zbQ]at *;exact⟨by omega,hk⟩
 |cons x es=>unfold za2;simp[zbw,zbQ]at *;refine⟨⟨by omega,by omega⟩,hk⟩
theorem zjf{e s bytes id n:Nat}{es:List (List AV)}{y:List AV}{t:Tok}{H0 Hh:zaa}{K:AV→zaa→Prop}(hn:n=es.length)(he:Hh=H0++zbQ e s n)(hid:id=H0.length)(hy:y.length=s)(hb:(es.length+1)*bytes≤140737488355328)(hl:es.length+1≤9223372036854775807)(hk:K (zbw (es++[y]) id) (H0++zbQ e s (n+1))):zax e s bytes (zbw es id) (.sl [y] t) Hh K:=by
 subst he hid hn;exact zBY hy hb hl hk
@[simp] theorem zTv(es:List (List AV))(id:Nat):(zbw es id).cs?=some [zbw es id]:=zBV es id
@[simp] theorem zTw(es:List (List AV))(id:Nat):(zbw es id).known=true:=zBW es id
theorem zcX{v:VT}{k:AV→Prop}:zas 3 [.int .i64 0,.int .i64 0,.snil] 1 [(0,.agg v.cs)] k=k (.sl [v.cs] .full):=by cases v;exact propext Iff.rfl
theorem zeY{l:List VT}{i:Nat}(h:i<l.length):VT.css (l.take (i+1))=VT.css (l.take i)++[(l[i]).cs]:=by rw[VT.css_map,VT.css_map,List.take_succ_eq_append_getElem h,List.map_append];rfl
theorem zkq{H J:zaa}{K:AV→zaa→Prop}{k n:Int}{ks:List VT}{id:Nat}(hs:HSc H)(hK:K (.agg (VT.mk k n ks).cs) H):Out H.length K (.agg [.int .i64 k,.int .i64 n,zbw (VT.css ks) id]) (H++J):=
 Out.at rfl (Nat.le_refl _) hs (WkV.agg (ds:=[.int .i64 k,.int .i64 n,.sl (VT.css ks) .none]) ⟨.refl _,.refl _,zBX _ _,trivial⟩) rfl (by simp[AV.scV,AV.scA,AV.scB]) (by simpa[VT.cs]using hK)
theorem zCK:∀(m:Nat) (v:VT),v.nodes≤m→v.nodes≤1000000→∀(H:zaa) (K:AV→zaa→Prop),K (.agg v.cs) H→ACalls tP zhT [.agg v.cs] H K:=by
 intro m;induction m with
 |zero=>intro v h;have:=v.nodes_pos;omega
 |succ m ih=>
  intro v hv hb H K hK;obtain⟨k,n,ks⟩:=v;have hnl:VT.nodesL ks+1≤1000000:=by simpa[VT.nodes]using hb
  have hll:=VT.len_le ks;refine ACalls.out (zyH λhs=>?_);simp[VT.cs,zrw,zao,zaM,Nat.add_assoc];refine zyG (Inv:=λq t4 H'=>∃i:Nat,i≤ks.length∧q=ks.length-i∧t4=.int .i64 i∧H'=H++[.cells [.int .i64 k,.int .i64 n,.sl (VT.css ks) .none],.cells [.int .i64 0,.int .i64 0,.snil],.cells [.int .i64 k,.int .i64 n,zbw (VT.css (ks.take i)) (H.length+3)]]++zbQ za9 3 i) ks.length ?_ ?_
  ·intro _;exact⟨0,by omega,by omega,rfl,by simp[zbQ,zbw,VT.css]⟩
  ·rintro q t4 H' ⟨i,hi,rfl,rfl,rfl⟩ hsc hlen hsF Kb hKb;by_cases hlt:i<ks.length
   ·have hki:=VT.kid_lt (k:=k) (n:=n) hlt;simp[ziz,hlt];refine zaV (.agg (ks[i]).cs) (λJ=>ih ks[i] (by omega) (by omega) _ _ ⟨rfl,rfl⟩) ?_;rw[zcX];refine zjf (H0:=H++[.cells [.int .i64 k,.int .i64 n,.sl (VT.css ks) .none],.cells [.int .i64 0,.int .i64 0,.snil],.cells [.int .i64 k,.int .i64 n,zbw (VT.css (ks.take i)) (H.length+3)]]) (n:=i) (by simp;omega) (by simp) (by simp) (by simp) (by simp;omega) (by simp;omega) ?_;rw[←zeY hlt];simp;rw[zav (by omega) (by omega)];refine hKb _ _ ⟨ks.length-(i+1),by omega,Back.here (by simp[zbQ]) ?_ ?_ ⟨_,rfl,i+1,by omega,rfl,by simp,by simp⟩⟩
    ·refine hs.append ?_;simp[AB.sc,zbQ,AV.scA,AV.scB];exact zje _ (.inr (by omega))
    ·simp[ziA,AV.sc,AV.scV,AV.scA,AV.scB]
   ·obtain rfl:i=ks.length:=by omega
    rw[List.take_length]at *;simp[ziz];exact zkq hs hK
theorem zdw(args:List VT):∀ l:List VT,zaH args l=l.map (subst args)
 |[]=>rfl
 |t::ts=>by rw[zaH,zdw args ts];rfl
theorem zHm(args:List VT)(ha:∀x∈args,x.nodes≤1000000)(hal:args.length≤1000000):∀(m:Nat) (v:VT),v.nodes≤m→v.nodes≤1000000→∀(H:zaa) (K:AV→zaa→Prop),K (.agg (subst args v).cs) H→ACalls tP zhO [.agg v.cs,.sl (VT.css args) .none] H K:=by
 intro m;induction m with
 |zero=>intro v h;have:=v.nodes_pos;omega
 |succ m ih=>
  intro v hv hb H K hK;obtain⟨k,n,ks⟩:=v;have hnl:VT.nodesL ks+1≤1000000:=by simpa[VT.nodes]using hb
  have hll:=VT.len_le ks;refine ACalls.out (zxA λhs=>?_);by_cases hvar:k=4∧0≤n∧n<args.length
  ·obtain⟨rfl,h0,h1⟩:=hvar;have hn:n.toNat<args.length:=by omega
   have hK':K (.agg (args[n.toNat]).cs) H:=by rw[subst,if_pos ⟨rfl,h0,h1⟩,List.getElem?_eq_getElem hn]at hK;exact hK
   simp[VT.cs,ziq,h0,h1,hn];refine zCK _ _ (Nat.le_refl _) (ha _ (List.getElem_mem hn)) _ _ ?_;generalize args[n.toNat]=x at *;obtain⟨k',n',ks'⟩:=x;simp[VT.cs];exact Out.at rfl (Nat.le_refl _) hs .rfl' rfl rfl hK'
  ·have hK':K (.agg (VT.mk k n (zaH args ks)).cs) H:=by rw[subst,if_neg hvar]at hK;exact hK
   have go:∀H1,H1=H++[.cells [.int .i64 k,.int .i64 n,.sl (VT.css ks) .none],.cells [.int .i64 0,.int .i64 0,.snil],.cells [.int .i64 k,.int .i64 n,.snil]]→zlb (.sl (VT.css args) .none) (.ptr H.length 0) (.ptr (H.length+1) 0) (.ptr (H.length+2) 0) (.int .i64 0) H1 (Out H.length K):=by
    rintro _ rfl;refine zxz (Inv:=λq t6 H'=>∃i:Nat,i≤ks.length∧q=ks.length-i∧t6=.int .i64 i∧H'=H++[.cells [.int .i64 k,.int .i64 n,.sl (VT.css ks) .none],.cells [.int .i64 0,.int .i64 0,.snil],.cells [.int .i64 k,.int .i64 n,zbw (VT.css ((zaH args ks).take i)) (H.length+3)]]++zbQ za9 3 i) ks.length ?_ ?_
    ·intro _;exact⟨0,by omega,by omega,rfl,by simp[zbQ,zbw,VT.css]⟩
    ·rintro q t6 H' ⟨i,hi,rfl,rfl,rfl⟩ hsc hlen hsF Kb hKb;by_cases hlt:i<ks.length
     ·have hki:=VT.kid_lt (k:=k) (n:=n) hlt;have hlt':i<(zaH args ks).length:=by rw[zdw];simpa using hlt
      have hsi:(zaH args ks)[i]=subst args ks[i]:=by simp[zdw]
      simp[zir,hlt];refine zaV (.agg (subst args ks[i]).cs) (λJ=>ih ks[i] (by omega) (by omega) _ _ ⟨rfl,rfl⟩) ?_;rw[zcX,←hsi];refine zjf (H0:=H++[.cells [.int .i64 k,.int .i64 n,.sl (VT.css ks) .none],.cells [.int .i64 0,.int .i64 0,.snil],.cells [.int .i64 k,.int .i64 n,zbw (VT.css ((zaH args ks).take i)) (H.length+3)]]) (n:=i) (by simp;omega) (by simp) (by simp) (by simp) (by simp;omega) (by simp;omega) ?_;rw[←zeY hlt'];simp;rw[zav (by omega) (by omega)];refine hKb _ _ ⟨ks.length-(i+1),by omega,Back.here (by simp[zbQ]) ?_ ?_ ⟨_,rfl,i+1,by omega,rfl,by simp,by simp⟩⟩
      ·refine hs.append ?_;simp[AB.sc,zbQ,AV.scA,AV.scB];exact zje _ (.inr (by omega))
      ·simp[zis,AV.sc,AV.scV,AV.scA,AV.scB]
     ·obtain rfl:i=ks.length:=by omega
      have e:(zaH args ks).take ks.length=zaH args ks:=List.take_of_length_le (by rw[zdw];simp);rw[e];simp[zir];exact zkq hs hK'
   simp only[VT.cs,ziq];by_cases h4:k=4
   ·subst h4;by_cases h0:0≤n
    ·have h1:¬n<args.length:=λh=>hvar ⟨rfl,h0,h⟩;simp[h0,h1,zao,zaM,Nat.add_assoc];exact go _ rfl
    ·simp[h0,zao,zaM,Nat.add_assoc];exact go _ rfl
   ·have h4':(k == 4)=false:=by simpa using h4
    simp[h4',zao,zaM,Nat.add_assoc];exact go _ rfl
mutual
theorem zwQ{args:List VT}{M:Nat}(h1:1≤M)(ha:∀ x∈args,x.nodes≤M):∀ v:VT,(subst args v).nodes≤v.nodes*M
 |.mk k n ks=>by
  unfold subst;split
  ·rename_i h;have hn:n.toNat<args.length:=by omega
   rw[List.getElem?_eq_getElem hn];have:=ha _ (List.getElem_mem hn);have h2:M≤(VT.mk k n ks).nodes*M:=by have:=(VT.mk k n ks).nodes_pos;exact Nat.le_mul_of_pos_left M this
   simp only[Option.getD_some];omega
  ·have:=zwO h1 ha ks;simp only[VT.nodes,Nat.succ_mul];omega
theorem zwO{args:List VT}{M:Nat}(h1:1≤M)(ha:∀ x∈args,x.nodes≤M):∀ l:List VT,VT.nodesL (zaH args l)≤VT.nodesL l*M
 |[]=>by simp[zaH,VT.nodesL]
 |t::ts=>by have h2:=zwQ h1 ha t;have h3:=zwO h1 ha ts;simp only[zaH,VT.nodesL,Nat.add_mul];omega
end
theorem zfI{k n:Int}{ks:List VT}:∀x∈ks,x.nodes≤(VT.mk k n ks).nodes:=by intro x hx;obtain⟨i,hi,rfl⟩:=List.mem_iff_getElem.1 hx;exact Nat.le_of_lt (VT.kid_lt hi)
theorem zoz{k n:Int}{ks:List VT}:∀x∈ks,x.nodes<(VT.mk k n ks).nodes:=by intro x hx;obtain⟨i,hi,rfl⟩:=List.mem_iff_getElem.1 hx;exact VT.kid_lt hi
theorem zw1{H:zaa}{x y:AB}:H++[x,y]=(H++[x])++[y]:=by simp
theorem zc0(data:List Dat)(k n:Int)(ks:List VT)(c:Int):zbq data (.mk k n ks) c=(if k=5∧0≤n∧0≤c then
  match data[n.toNat]? with
  | some d=>if (ks.length:Int)=d.vars then
    match d.cons[c.toNat]? with
    |some co=>if (co.args.map (subst ks)).all (λx=>decide (x.nodes≤200))=true then some (co.args.map (subst ks)) else none
    |none=>none
   else none
  |none=>none
 else none):=rfl
def zdl(o:Option (List VT)):AV:=match o with
 |some l=>.tup [.sl (VT.css l) .none,.bool true]
 |none=>.tup [.sl [] .none,.bool false]
theorem zoI{α:Type}{l:List α}{i:Nat}(h:i<l.length){p:α→Prop}(h1:∀x∈l.take i,p x)(h2:p l[i]):∀x∈l.take (i+1),p x:=by
 rw[List.take_succ_eq_append_getElem h];intro x hx;rcases List.mem_append.1 hx with hx|hx
 ·exact h1 x hx
 ·simp at hx;subst hx;exact h2
theorem zaL(v:VT):∃a b c,v.cs=[a,b,c]∧a.known=true∧b.known=true∧c.known=true:=by obtain⟨k,n,ks⟩:=v;exact⟨_,_,_,rfl,rfl,rfl,rfl⟩
theorem zOm(data:List Dat)(hdl:data.length≤1000000)(hda:∀ d∈data,∀ c∈d.cons,c.args.length≤1000∧∀ x∈c.args,x.nodes≤1000)(hdc:∀ d∈data,d.cons.length≤1000000)(t:VT)(ht:t.nodes≤1000)(c:Int)(H:zaa)(K:AV→zaa→Prop)(hK:K (zdl (zbq data t c)) H):
  ACalls tP zkd [.sl (data.map Dat.cs) .none,.agg t.cs,.int .i64 c] H K:=by
 refine ACalls.out (zAt λhs=>?_);obtain⟨k,n,ks⟩:=t;have hkn:VT.nodesL ks+1≤1000:=by simpa[VT.nodes]using ht
 have hkl:=VT.len_le ks;have hF:zbq data (.mk k n ks) c=none→∀J,Out H.length K (.tup [.snil,.bool false]) (H++J):=λh J=>by rw[h]at hK;exact Out.tup hs hK ⟨zgQ,zb4 rfl rfl,trivial⟩
 have hFF:∀J,zbq data (.mk k n ks) c=none→Out H.length K (.tup [.snil,.bool false]) (H++J):=λJ h=>hF h J;simp only[VT.cs,zsA];by_cases h5:k=5;case neg=>
  have:(k != 5)=true:=by simpa using h5
  simp[this,AV.isV];exact hF (by rw[zc0,if_neg (λh=>h5 h.1)]) _
 subst h5;by_cases h0:n<0
 ·simp[h0,AV.isV];exact hF (by rw[zc0,if_neg (λh=>by have:=h.2.1;omega)]) _
 by_cases h1:(data.length:Int)≤n
 ·simp[h0,h1,AV.isV];exact hF (by
   rw[zc0];split
   ·rw[List.getElem?_eq_none (by omega)]
   ·rfl) _
 have hn:n.toNat<data.length:=by omega
 have h1':n<data.length:=by omega
 have h0':0≤n:=by omega
 generalize hdd:data[n.toNat]=d at *;have hd:d∈data:=by rw[←hdd];exact List.getElem_mem hn
 have hget:data[n.toNat]?=some d:=by rw[List.getElem?_eq_getElem hn,hdd]
 cases hv:((ks.length:Int) == d.vars) with
 |false=>
  have hv':((ks.length:Int) != d.vars)=true:=by simp[bne,hv]
  simp[h0,h1,h0',h1',hn,hdd,Dat.cs,hv',AV.isV,hget];exact hF (by
   rw[zc0];split
   ·rw[hget];simp only;rw[if_neg (by simpa using hv)]
   ·rfl) _
 |true=>
 have hv':((ks.length:Int) != d.vars)=false:=by simp[bne,hv]
 have hve:(ks.length:Int)=d.vars:=by simpa using hv
 by_cases hc0:c<0
 ·simp[h0,h1,h0',h1',hn,hdd,Dat.cs,hv',AV.isV,hget,hc0];exact hF (by rw[zc0,if_neg (λh=>by have:=h.2.2;omega)]) _
 have hfe:∀o,(match d.cons[c.toNat]? with|some k=>if (k.args.map (subst ks)).all (λx=>decide (x.nodes≤200))=true then some (k.args.map (subst ks)) else none|none=>none)=o→zbq data (.mk 5 n ks) c=o:=λo h=>by rw[zc0,if_pos ⟨rfl,h0',by omega⟩,hget];simp only;rw[if_pos hve];exact h
 by_cases hc1:(d.cons.length:Int)≤c
 ·simp[h0,h1,h0',h1',hn,hdd,Dat.cs,hv',AV.isV,hget,hc0,hc1];exact hF (hfe none (by rw[List.getElem?_eq_none (by omega)])) _
 have hcn:c.toNat<d.cons.length:=by omega
 have hc1':c<d.cons.length:=by omega
 have hc0':0≤c:=by omega
 generalize hcc:d.cons[c.toNat]=co at *;have hco:co∈d.cons:=by rw[←hcc];exact List.getElem_mem hcn
 have hgc:d.cons[c.toNat]?=some co:=by rw[List.getElem?_eq_getElem hcn,hcc]
 obtain⟨hal,han⟩:=hda d hd co hco;have hfe':=λo=>hfe o;rw[hgc]at hfe';simp only at hfe';have hsub:∀x∈co.args,(subst ks x).nodes≤1000000:=λx hx=>by have h2:=zwQ (M:=1000) (by omega) (λy hy=>Nat.le_trans (zfI (k:=5) (n:=n) y hy) ht) x;have h3:=han x hx;have:x.nodes*1000≤1000*1000:=Nat.mul_le_mul_right _ h3;omega
 simp[h0,h1,h0',h1',hn,hdd,Dat.cs,hv',AV.isV,hget,hc0,hc1,hc0',hc1',hcn,hcc,Con.cs,hgc];have hperm:∀m,HSc (H++[.cells [.int .i64 5,.int .i64 n,.sl (VT.css ks) .none],.perm za9 3 m]):=λm=>hs.append rfl;unfold zhc;refine ALoop.own 8 za9 3 rfl ?_;have hlen1:(H++[AB.cells [.int .i64 5,.int .i64 n,.sl (VT.css ks) .none]]).length=H.length+1:=by simp
 rw[hlen1,List.append_assoc];show zhc (.ptr H.length 0) (.sl [] (.own (H.length+1))) (.sl (VT.css co.args) .none) (.int .i64 co.args.length) (.int .i64 0) (H++[.cells [.int .i64 5,.int .i64 n,.sl (VT.css ks) .none],.perm za9 3 0]) (Out H.length K);refine zAs (Inv:=λq t8 t65 H'=>∃i:Nat,i≤co.args.length∧q=co.args.length-i∧t65=.int .i64 i∧t8=.sl (VT.css ((co.args.map (subst ks)).take i)) (.own (H.length+1))∧(∀x∈co.args.take i,(subst ks x).nodes≤200)∧H'=H++[.cells [.int .i64 5,.int .i64 n,.sl (VT.css ks) .none],.perm za9 3 i]) co.args.length ?_ ?_
 ·intro _;exact⟨0,by omega,by omega,rfl,by simp[VT.css],by simp,rfl⟩
 ·rintro q t8 t65 H' ⟨i,hi,rfl,rfl,rfl,hall,rfl⟩ hsc hlen hsF Kb hKb;by_cases hlt:i<co.args.length
  ·have hmem:=List.getElem_mem hlt;have hx3:=hsub _ hmem;obtain⟨x,y,z,hvx,hx,hy,hz⟩:=zaL co.args[i];simp[zi0,hlt,hvx,hx,hy,hz];rw[←hvx];refine zHm ks (λy hy=>by have:=zfI (k:=5) (n:=n) y hy;omega) (by omega) _ co.args[i] (Nat.le_refl _) (by have:=han _ hmem;omega) _ _ ?_;obtain⟨x',y',z',hvx',hx',hy',hz'⟩:=zaL (subst ks co.args[i]);simp[hvx',hx',hy',hz'];rw[←hvx'];refine zAk _ _ (Nat.le_refl _) (by omega) _ _ ?_;by_cases h200:(subst ks co.args[i]).nodes≤200
   ·have h200':¬ (200:Int)<(subst ks co.args[i]).nodes:=by omega
    simp[h200'];rw[zcX];simp[zax,zbc,za2];refine⟨by omega,by omega,?_⟩;rw[zav (by omega) (by omega),show min i co.args.length=i by omega];refine hKb _ _ ⟨co.args.length-(i+1),by omega,Back.at (H2:=H++[.cells [.int .i64 5,.int .i64 n,.sl (VT.css ks) .none],.perm za9 3 (i+1)]) (J:=[_,_]) (by simp;exact⟨rfl,rfl⟩) (by simp) (hperm _) ?_ ⟨_,_,rfl,i+1,by omega,rfl,by simp,?_,zoI hlt hall h200,rfl⟩⟩
    ·simp[zi1,AV.sc,AV.scV,AV.scA,AV.scB]
    ·rw[zeY (by simpa using hlt)];simp
   ·have h200':(200:Int)<(subst ks co.args[i]).nodes:=by omega
    simp[h200',AV.isV];refine hF (hfe' none ?_) _;rw[if_neg];intro hal2;have:=List.all_eq_true.1 hal2 (subst ks co.args[i]) (List.mem_map.2 ⟨_,hmem,rfl⟩);exact h200 (of_decide_eq_true this)
  ·obtain rfl:i=co.args.length:=by omega
   rw[List.take_length]at hall;rw[List.take_of_length_le (by simp)];simp[zi0,AV.isV];have hfs:=hfe' (some (co.args.map (subst ks))) (if_pos (List.all_eq_true.2 λy hy=>by
    obtain⟨x,hx,rfl⟩:=List.mem_map.1 hy;exact decide_eq_true (hall x hx)))
   rw[hfs]at hK;exact Out.tup hs hK ⟨slV,zb4 rfl rfl,trivial⟩
theorem zJB:∀(m:Nat) (v:VT),v.nodes≤m→v.nodes≤1000000000→∀(H:zaa) (K:AV→zaa→Prop),K (.int .i64 v.nodes) H→ACalls tP zjS [.agg v.cs] H K:=by
 intro m;induction m with
 |zero=>intro v h;have:=v.nodes_pos;omega
 |succ m ih=>
  intro v hv hb H K hK;obtain⟨k,n,ks⟩:=v;have hnl:VT.nodesL ks+1≤1000000000:=by simpa[VT.nodes]using hb
  have hll:=VT.len_le ks;refine ACalls.out (zJz λhs=>?_);simp[VT.cs,zyx];refine zJx (Inv:=λq t3 t4 H'=>∃i:Nat,i≤ks.length∧q=ks.length-i∧t4=.int .i64 i∧t3=.int .i64 (1+VT.nodesL (ks.take i):Nat)∧H'=H++[.cells [.int .i64 k,.int .i64 n,.sl (VT.css ks) .none]]) ks.length ?_ ?_
  ·intro _;exact⟨0,by omega,by omega,rfl,by simp[VT.nodesL],rfl⟩
  ·rintro q t3 t4 H' ⟨i,hi,rfl,rfl,rfl,rfl⟩ hsc hlen hsF Kb hKb;by_cases hlt:i<ks.length
   ·have hki:=VT.kid_lt (k:=k) (n:=n) hlt;have h1:=VT.nodesL_take hlt;have h2:=VT.nodesL_take_le ks (i+1);obtain⟨x,y,z,hvx,hx,hy,hz⟩:=zaL ks[i];simp[zrg,hlt,hvx,hx,hy,hz];rw[←hvx];refine ih ks[i] (by omega) (by omega) _ _ ?_;simp;rw[zav (by omega) (by omega),zav (by omega) (by omega),zw1];refine hKb _ _ ⟨ks.length-(i+1),by omega,Back.same (by simp) hsc ?_ ⟨_,_,rfl,i+1,by omega,rfl,by simp,?_,rfl⟩⟩
    ·simp[zlK,AV.sc,AV.scV,AV.scA,AV.scB]
    ·rw[h1];congr 1;omega
   ·obtain rfl:i=ks.length:=by omega
    simp[zrg];refine Out.int rfl (Nat.le_refl _) hs ?_;simpa[VT.nodes,Int.add_comm]using hK
def zbm(f:VT→VT→Bool):List VT→List VT→Bool
 |[],[]=>true
 |a::x,b::y=>f a b && zbm f x y
 |_,_=>false
theorem zgs{f:VT→VT→Bool}:∀ {x y:List VT},x.length≠y.length→zbm f x y=false
 |[],[],h=>(h rfl).elim
 |a::x,b::y,h=>by have:x.length≠y.length:=λe=>h (by simp[e]);simp[zbm,zgs this]
 |[],_::_,_=>rfl
 |_::_,[],_=>rfl
theorem zDv(x:List VT)(hl:x.length≤1000000000)(fv:AV)(H:zaa)(K:AV→zaa→Prop)(hfv:fv.sc H.length=true)(Inv:Nat→zaa→Prop)(h0:Inv 0 H)(step:∀(i:Nat) (h:i<x.length) (H':zaa),H.length≤H'.length→Inv i H'→aCallV tP fv [.agg (x[i]).cs] H' λr H''=>(r=.bool false∧Inv (i+1) H'')∨(r=.bool true∧K (.int .i64 i) H''))(fin:∀H',Inv x.length H'→K (.int .i64 (-1)) H'):ACalls tP zjW [.sl (VT.css x) .none,fv] H K:=by
 refine zyL λhs=>?_;simp[zry];refine zyK (Inv:=λq t8 H'=>∃i:Nat,i≤x.length∧q=x.length-i∧t8=.int .i64 i∧H.length≤H'.length∧Inv i H') x.length ?_ ?_
 ·intro _;exact⟨0,by omega,by omega,rfl,Nat.le_refl _,h0⟩
 ·rintro q t8 H' ⟨i,hi,rfl,rfl,hle,hI⟩ hsc hlen hsF Kb hKb;by_cases hlt:i<x.length
  ·simp[ziB,hlt];refine (step i hlt H' hle hI).mono' λr H'' hsc' hle' hr=>?_;rcases hr with ⟨rfl,hI'⟩ | ⟨rfl,hk⟩
   ·simp;rw[zav (by omega) (by omega)];refine hKb _ _ ⟨x.length-(i+1),by omega,Back.here (by omega) hsc' ?_ ⟨_,rfl,i+1,by omega,rfl,by simp,by omega,hI'⟩⟩;simp[ziC,AV.sc,AV.scV,AV.scA,AV.scB];exact zb6 (by omega) hfv
   ·simpa using hk
  ·obtain rfl:i=x.length:=by omega
   simp[ziB];exact fin H' hI
theorem zjs(x:List VT)(hl:x.length≤1000000000)(fv:AV)(H:zaa)(K:AV→zaa→Prop)(hfv:fv.sc H.length=true)(Inv:Nat→zaa→Prop)(h0:Inv 0 H)(step:∀(i:Nat) (h:i<x.length) (H':zaa),H.length≤H'.length→Inv i H'→aCallV tP fv [.agg (x[i]).cs] H' λr H''=>(r=.bool false∧Inv (i+1) H'')∨(r=.bool true∧K (.bool true) H''))(fin:∀H',Inv x.length H'→K (.bool false) H'):ACalls tP zd5 [.sl (VT.css x) .none,fv] H K:=by
 refine zxB λhs=>?_;unfold zqv;refine zDv x hl fv H _ hfv Inv h0 (λi h H' hle hI=>(step i h H' hle hI).mono' λr H'' _ _ hr=>?_) (λH' hI=>?_)
 ·rcases hr with hr | ⟨h1,h2⟩
  ·exact .inl hr
  ·refine .inr ⟨h1,?_⟩;have:decide ((0:Int)≤i)=true:=by simp
   simpa using h2
 ·simpa using fin H' hI
theorem zt2:zdD tP zhU=true:=by kernel_rfl
section
variable (data:List Dat) (vars:Int)
theorem zw4:∀(l:List VT) (i:Nat) (h:i<l.length),zaI data vars l=true→zaz data vars l[i]=true:=by
 intro l;induction l with
 |nil=>intro i h;simp at h
 |cons a l ih=>
  intro i h hl;simp[zaI]at hl;cases i with
  |zero=>exact hl.1
  |succ i=>exact ih i (by simpa using h) hl.2
def zaX(left:Int):AB:=.cells [.sl (data.map Dat.cs) .none,.int .i64 vars,.int .i64 left]
theorem zGP:∀ (m:Nat) (v:VT),v.nodes≤m→v.nodes≤1000000000→∀ (left:Int),left≤1000000→-1≤left→∀ (H:zaa) (id:Nat),H[id]?=some (zaX data vars left)→∀ (K:AV→zaa→Prop),
  (zaz data vars v=true→(v.nodes:Int)≤left→K (.bool true) (H.set id (zaX data vars (left-v.nodes))))→(¬(zaz data vars v=true∧(v.nodes:Int)≤left)→∀l',K (.bool false) (H.set id (zaX data vars l'))) →
  ACalls tP zhQ [.ptr id 0,.agg v.cs] H K:=by
 intro m;induction m with
 |zero=>intro v h;have:=v.nodes_pos;omega
 |succ m ih=>
  intro v hv hb left hl1 hl0 H id hid K hK hF;obtain⟨k,n,ks⟩:=v;have hlt:=zfL hid;have hnn:(VT.mk k n ks).nodes=VT.nodesL ks+1:=by simp[VT.nodes]
  have hll:=VT.len_le ks;refine ACalls.out (zys λhs=>?_)
  -- the heap within: the receiver's copy and the type's
  generalize hJ:([.cells [.ptr id 0],.cells [.int .i64 k,.int .i64 n,.sl (VT.css ks) .none]]:zaa)=J;have hJ0:J[0]?=some (.cells [.ptr id 0]):=by subst hJ;rfl
  have hJ1:J[1]?=some (.cells [.int .i64 k,.int .i64 n,.sl (VT.css ks) .none]):=by subst hJ;rfl
  have hget:∀l',(H.set id (zaX data vars l')++J)[id]?=some (zaX data vars l'):=λl'=>zcm (zc7 _ hid);have bad:(¬(zaz data vars (.mk k n ks)=true∧((VT.mk k n ks).nodes:Int)≤left))→∀l',Out H.length K (.bool false) (H.set id (zaX data vars l')++J):=λh l'=>
   Out.bool rfl (by simp) (hs.set rfl) (hF h l')
  have badS:zaC data vars k n ks.length=false→∀l',Out H.length K (.bool false) (H.set id (zaX data vars l')++J):=λh l'=>bad (λ⟨h1,_⟩=>by simp[zaz,h]at h1) l'
  -- the arguments
  have args:zaC data vars k n ks.length=true→1≤left→∀ KK:AV→zaa→Prop,(∀ H',Out H.length K (.bool true) H'→KK (.bool false) H')→(∀ H',Out H.length K (.bool false) H'→KK (.bool true) H') →
    ACalls tP zd5 [.sl (VT.css ks) .none,.fn zhU [.ptr H.length 0]] (H.set id (zaX data vars (left-1))++J) KK:=by
   intro hsh h1 KK hKf hKt;subst hJ;refine zjs ks (by omega) _ _ _ (by simp[AV.sc,AV.scV,AV.scA,AV.scB]) (λi H'=>(VT.nodesL (ks.take i):Int)+1≤left∧zaI data vars (ks.take i)=true∧H'=H.set id (zaX data vars (left-1-VT.nodesL (ks.take i)))++[.cells [.ptr id 0],.cells [.int .i64 k,.int .i64 n,.sl (VT.css ks) .none]]) ⟨by simp[VT.nodesL];omega,by simp[zaI],by simp[VT.nodesL]⟩ ?_ ?_
   ·rintro i hi H' hle ⟨hb1,hb2,rfl⟩;have hki:=VT.kid_lt (k:=k) (n:=n) hi;have h1:=VT.nodesL_take hi;have h2:=VT.nodesL_take_le ks (i+1);have hokL:zaI data vars (ks.take (i+1))=(zaI data vars (ks.take i) && zaz data vars ks[i]):=by
     rw[List.take_succ_eq_append_getElem hi];have:∀(l:List VT) (x:VT),zaI data vars (l++[x])=(zaI data vars l && zaz data vars x):=by
      intro l x;induction l with
      |nil=>simp[zaI]
      |cons a l ih=>simp[zaI,ih,Bool.and_assoc]
     exact this _ _
    simp only[aCallV,zt2,List.singleton_append];refine ACalls.out (zyT λhs1=>?_);have hH1:∀l',HSc (H.set id (zaX data vars l')++[.cells [.ptr id 0],.cells [.int .i64 k,.int .i64 n,.sl (VT.css ks) .none]]):=λl'=>(hs.set rfl).append (by simp[AB.sc,AV.scA,AV.scB];omega);obtain⟨x1,x2,x3,hvx,hx1,hx2,hx3⟩:=zaL ks[i];have hll2:(H.set id (zaX data vars (left-1-VT.nodesL (ks.take i)))).length=H.length:=by simp
    have hg1:(H.set id (zaX data vars (left-1-VT.nodesL (ks.take i)))++[AB.cells [.ptr id 0],.cells [.int .i64 k,.int .i64 n,.sl (VT.css ks) .none],.cells [x1,x2,x3]])[H.length]?=some (.cells [.ptr id 0]):=by rw[List.getElem?_append_right (by simp)];simp
    have hg2:(H.set id (zaX data vars (left-1-VT.nodesL (ks.take i)))++[AB.cells [.ptr id 0],.cells [.int .i64 k,.int .i64 n,.sl (VT.css ks) .none],.cells [x1,x2,x3]])[H.length+2]?=some (.cells [x1,x2,x3]):=by rw[List.getElem?_append_right (by simp)];simp
    simp[zrH,hvx,hg1,hg2,hll2];rw[←hvx];refine ih ks[i] (by omega) (by omega) (left-1-VT.nodesL (ks.take i)) (by omega) (by omega) _ id (zcm (zc7 _ hid)) _ ?_ ?_
    ·intro ho hle2;rw[zet _ (zc7 _ hid),List.set_set,show left-1-(VT.nodesL (ks.take i):Int)-(ks[i]).nodes=left-1-VT.nodesL (ks.take (i+1)) by omega];simp;refine Out.bool (J:=[_]) (H2:=H.set id (zaX data vars (left-1-VT.nodesL (ks.take (i+1))))++[.cells [.ptr id 0],.cells [.int .i64 k,.int .i64 n,.sl (VT.css ks) .none]]) (by simp;rfl) (by simp) (hH1 _) (.inl ⟨rfl,by omega,by rw[hokL,hb2,ho];rfl,rfl⟩)
    ·intro ho l';rw[zet _ (zc7 _ hid),List.set_set];simp;have hno:¬(zaz data vars (.mk k n ks)=true∧((VT.mk k n ks).nodes:Int)≤left):=by
      rintro⟨g1,g2⟩;have hall:zaI data vars ks=true:=by simp[zaz]at g1;exact g1.2
      exact ho ⟨zw4 data vars ks i hi hall,by omega⟩
     have hb3:=bad hno l';exact Out.bool (J:=[_]) (H2:=H.set id (zaX data vars l')++[.cells [.ptr id 0],.cells [.int .i64 k,.int .i64 n,.sl (VT.css ks) .none]]) (by simp;rfl) (by simp) (hH1 _) (.inr ⟨rfl,hKt _ hb3⟩)
   ·rintro H' ⟨hb1,hb2,rfl⟩;rw[List.take_length]at *;refine hKf _ ?_;refine Out.bool rfl (by simp) (hs.set rfl) ?_;have:=hK (by simp[zaz,hsh,hb2]) (by omega);rw[hnn]at this;rw[show left-1-(VT.nodesL ks:Int)=left-((VT.nodesL ks+1:Nat):Int) by omega];exact this
  -- behind the shape
  have fin:∀ lo hi:Int,(k≠4→k≠5→n≠0→zaC data vars k n ks.length=false)→((ks.length:Int)<lo∨hi<(ks.length:Int)→zaC data vars k n ks.length=false)→1≤left →
    ((k=4∨k=5∨n=0)→lo≤(ks.length:Int)→(ks.length:Int)≤hi→zaC data vars k n ks.length=true) →
    zdO (.ptr H.length 0) (.ptr (H.length+1) 0) (.int .i64 lo) (.int .i64 hi) (H.set id (zaX data vars (left-1))++J) (Out H.length K):=by
   intro lo hi hz hr h1 hok;have hg3:(H.set id (zaX data vars (left-1))++J)[H.length+1]?=some (.cells [.int .i64 k,.int .i64 n,.sl (VT.css ks) .none]):=by rw[List.getElem?_append_right (by simp)];subst hJ;simp
   by_cases hcase:k=4∨k=5∨n=0
   ·have h3:(k != 4)=false∨((k != 4)=true∧(k != 5)=false)∨((k != 4)=true∧(k != 5)=true∧(n != 0)=false):=by
     by_cases g4:k=4
     ·left;simp[g4]
     ·by_cases g5:k=5
      ·right;left;simp[g5]
      ·right;right;simp[g4,g5];omega
    rcases h3 with g|⟨g,g'⟩|⟨g,g',g''⟩;case' inl=>simp[zdO,hg3,hJ1,g]
    case' inr.inl=>simp[zdO,hg3,hJ1,g,g']
    case' inr.inr=>simp[zdO,hg3,hJ1,g,g',g'']
    all_goals
     by_cases hlo:(ks.length:Int)<lo
     ·simp[hlo];exact badS (hr (.inl hlo)) _
     ·by_cases hhi:hi<(ks.length:Int)
      ·simp[hlo,hhi,hJ1];exact badS (hr (.inr hhi)) _
      ·simp[hlo,hhi,AV.isB,hJ1];refine args (hok hcase (by omega) (by omega)) h1 _ (λH' ho=>?_) (λH' ho=>?_) <;> simpa using ho
   ·have g:(k != 4)=true:=by simp;omega
    have g':(k != 5)=true:=by simp;omega
    have g'':(n != 0)=true:=by simp;omega
    simp[zdO,hg3,hJ1,g,g',g''];exact badS (hz (by omega) (by omega) (by omega)) _
  have start:(H++J)[id]?=some (zaX data vars left):=zcm hid;have hmain:zlA (.ptr H.length 0) (.ptr (H.length+1) 0) (H.set id (zaX data vars (left-1))++J) (Out H.length K):=by
   refine zyp λhs1=>?_;have hgv:=hget (left-1);unfold zaX at hgv;by_cases h0:left-1<0
   ·simp[ziw,hJ0,zaX,hgv,h0];exact bad (λh=>by have:=h.2;rw[hnn]at this;omega) _
   have h1:1≤left:=by omega
   simp[ziw,hJ0,hJ1,zaX,hgv,h0];refine zyr λ_=>?_;have hfin:=λlo hi a b c=>fin lo hi a b h1 c;unfold zaX at hfin badS
   -- the three without arguments
   by_cases h123:k=1∨k=2∨k=3
   ·have hsh:zaC data vars k n ks.length=(n == 0 && ks.length == 0):=by rcases h123 with rfl | rfl | rfl <;> rfl
    have:=hfin 0 0 (λ_ _ hn=>by rw[hsh];simp[hn]) (λh=>by rw[hsh];simp;intro _;rintro rfl;simp at h) (λh h2 h3=>by
     have hn:n=0:=by omega
     have hl:ks.length=0:=by omega
     rw[hsh,hn,hl];rfl)
    rcases h123 with rfl|rfl|rfl <;> simp[zix] <;> refine zlC λ_=>?_ <;> simp[zb1,zcj] <;> exact this
   have b1:(k == 1)=false:=by simp;omega
   have b2:(k == 2)=false:=by simp;omega
   have b3:(k == 3)=false:=by simp;omega
   simp[zix,b1,b2,b3];refine zlC λ_=>?_;by_cases h4:k=4
   ·subst h4;have hsh:zaC data vars 4 n ks.length=(decide (0≤n) && decide (n<vars) && ks.length == 0):=rfl;by_cases g1:n<0
    ·simp[zb1,hJ0,hJ1,hgv,g1];exact badS (by rw[hsh];simp;omega) _
    by_cases g2:vars≤n
    ·simp[zb1,hJ0,hJ1,hgv,g1,g2];exact badS (by rw[hsh];simp;omega) _
    have:=hfin 0 0 (λh=>(h rfl).elim) (λh=>by rw[hsh];simp;intro _ _;rintro rfl;simp at h) (λh h2 h3=>by
     have hl:ks.length=0:=by omega
     rw[hsh,hl];simp;omega)
    simp[zb1,hJ0,hJ1,hgv,g1,g2,zcj];exact this
   have b4:(k == 4)=false:=by simp;omega
   by_cases h5:k=5
   ·subst h5;have hsh:zaC data vars 5 n ks.length=(decide (0≤n) && (match data[n.toNat]? with | some d=>(ks.length:Int) == d.vars | none=>false)):=rfl;by_cases g1:n<0
    ·simp[zb1,hJ0,hJ1,hgv,g1];exact badS (by rw[hsh];simp;omega) _
    by_cases g2:(data.length:Int)≤n
    ·simp[zb1,hJ0,hJ1,hgv,g1,g2];exact badS (by rw[hsh,List.getElem?_eq_none (by omega)];simp) _
    have hnl:n.toNat<data.length:=by omega
    have g2':n<data.length:=by omega
    have g1':0≤n:=by omega
    rw[List.getElem?_eq_getElem hnl]at hsh;simp only[g1',decide_true,Bool.true_and]at hsh;have:=hfin (data[n.toNat]).vars (data[n.toNat]).vars (λ_ h=>(h rfl).elim) (λh=>by rw[hsh];simp;omega) (λh h2 h3=>by rw[hsh];simp;omega);simp[zb1,hJ0,hJ1,hgv,g1,g2,g1',g2',hnl,Dat.cs,zcj];exact this
   have b5:(k == 5)=false:=by simp;omega
   by_cases h6:k=6
   ·subst h6;have hsh:zaC data vars 6 n ks.length=(n == 0 && decide (2≤ks.length) && decide (ks.length≤6)):=rfl;have:=hfin 2 6 (λ_ _ hn=>by rw[hsh];simp[hn]) (λh=>by rw[hsh];simp;intros;omega) (λh h2 h3=>by rw[hsh];simp;omega);simp[zb1,zcj];exact this
   have b6:(k == 6)=false:=by simp;omega
   by_cases h78:k=7∨k=8
   ·have hsh:zaC data vars k n ks.length=(n == 0 && ks.length == 1):=by rcases h78 with rfl | rfl <;> rfl
    have:=hfin 1 1 (λ_ _ hn=>by rw[hsh];simp[hn]) (λh=>by rw[hsh];simp;intros;omega) (λh h2 h3=>by rw[hsh];simp;omega);rcases h78 with rfl|rfl <;> simp[zb1] <;> refine zlD λ_=>?_ <;> simp[zfZ,zcj] <;> exact this
   have b7:(k == 7)=false:=by simp;omega
   have b8:(k == 8)=false:=by simp;omega
   simp[zb1,b4,b5,b6,b7,b8];refine zlD λ_=>?_;by_cases h9:k=9
   ·subst h9;have hsh:zaC data vars 9 n ks.length=(n == 0 && decide (1≤ks.length) && decide (ks.length≤7)):=rfl;have:=hfin 1 7 (λ_ _ hn=>by rw[hsh];simp[hn]) (λh=>by rw[hsh];simp;intros;omega) (λh h2 h3=>by rw[hsh];simp;omega);simp[zfZ,zcj];exact this
   ·have b9:(k == 9)=false:=by simp;omega
    simp[zfZ,b9];exact badS (by unfold zaC;simp[b1,b2,b3,b4,b5,b6,b7,b8,b9]) _
  subst hJ;unfold zaX at start;simp[zq4,VT.cs,start];rw[zav (by omega) (by omega),zet _ hid];exact hmain
theorem zQe(v:VT)(hb:v.nodes≤1000000000)(H:zaa)(K:AV→zaa→Prop)(hK:K (.bool (zaA data vars v)) H):ACalls tP zfP [.sl (data.map Dat.cs) .none,.agg v.cs,.int .i64 vars] H K:=by
 refine ACalls.out (zBe λhs=>?_);have hO:∀J,Out H.length K (.bool (zaA data vars v)) (H++J):=λJ=>Out.bool rfl (Nat.le_refl _) hs hK;obtain⟨x1,x2,x3,hvx,hx1,hx2,hx3⟩:=zaL v;simp[ztg,hvx,zao,zaM];rw[←hvx];refine zGP data vars _ v (Nat.le_refl _) hb 200 (by omega) (by omega) _ (H.length+1) (by simp[zaX]) _ ?_ ?_
 ·intro ho hn;have:zaA data vars v=true:=by simp[zaA,ho];omega
  rw[this]at hO;simp;exact hO _
 ·intro hno l';have:zaA data vars v=false:=by
   cases h:zaA data vars v with
   |false=>rfl
   |true=>simp[zaA]at h;exact(hno ⟨h.2,by omega⟩).elim
  rw[this]at hO;simp;exact hO _
end
end Go.Proofs.YtaifokkaaahdoaaGreatDoor
