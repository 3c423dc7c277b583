import Derived.Test.YtaifokkaaahdoaaGreatDoorKNum
import Derived.Test.YtaifokkaaahdoaaGreatDoorProg
import Derived.KernelRfl
import Derived.Test.YtaifokkaaahdoaaGreatDoorLI9
import Derived.Test.YtaifokkaaahdoaaGreatDoorKP1
import Derived.Test.YtaifokkaaahdoaaGreatDoorLE4
import Derived.Test.YtaifokkaaahdoaaGreatDoorLA3
import Derived.Test.YtaifokkaaahdoaaGreatDoorLE7
set_option linter.unusedSectionVars false
set_option linter.unusedSimpArgs false
set_option linter.unusedVariables false
set_option maxRecDepth 8000
namespace Go.Proofs.YtaifokkaaahdoaaGreatDoor
open Go Go.Abs
set_option maxRecDepth 100000
def zM6(_:Nat):List Bool:=[]
noncomputable def zM7:Code:=Tryz.f7.body.getD .skip
def zq5(H:zaa)(K:Kt):Prop:=
 zao [(.int .i64 0),(.int .i64 0),.snil] [(0,1),(1,1),(2,1)] [(0,(.int .i64 1))] λt8=>
 zas 3 [(.int .i64 0),(.int .i64 0),.snil] 1 [(0,t8)] λt9=>
 zao [(.int .i64 0),(.int .i64 0),.snil] [(0,1),(1,1),(2,1)] [(0,(.int .i64 5)),(2,t9)] λt10=>
 zaw [(.int .i64 0),(.int .i64 0),.snil] H λt1 H=>
 zak 3 t1 t10 H λH=>
 zaM H (λH K'=>ACalls tP zhz [] H K') λt12=>
 zad H (λK'=>zam true 3 t1 H (K' · H)) λt13=>
 zad H (λK'=>zas 1 [(.int .i64 0)] 2 [(0,(.int .i64 0)),(1,(.int .i64 1))] (K' · H)) λt14=>
 zaM H (λH K'=>ACalls tP zeX [t12,t13,(.int .i64 1),t14] H K') λt15=>
 zad H (λK'=>K' t15 H) λt11=>
 zad H (λK'=>zaI t11 0 (K' · H)) λt16=>
 zad H (λK'=>zaI t11 1 (K' · H)) λt17=>
 zad H (λK'=>K' t16 H) λt2=>
 zad H (λK'=>K' t17 H) λt3=>
 zaM H (λH K'=>ACalls tP zhz [] H K') λt19=>
 zad H (λK'=>zam true 3 t1 H (K' · H)) λt20=>
 zad H (λK'=>zas 1 [(.int .i64 0)] 2 [(0,(.int .i64 0)),(1,(.int .i64 1))] (K' · H)) λt21=>
 zaM H (λH K'=>ACalls tP zeX [t19,t20,(.int .i64 2),t21] H K') λt22=>
 zad H (λK'=>K' t22 H) λt18=>
 zad H (λK'=>zaI t18 0 (K' · H)) λt23=>
 zad H (λK'=>zaI t18 1 (K' · H)) λt24=>
 zad H (λK'=>K' t23 H) λt4=>
 zad H (λK'=>K' t24 H) λt5=>
 zaM H (λH K'=>ACalls tP zhz [] H K') λt26=>
 zad H (λK'=>zam true 3 t1 H (K' · H)) λt27=>
 zad H (λK'=>zas 1 [(.int .i64 0)] 2 [(0,(.int .i64 0)),(1,(.int .i64 1))] (K' · H)) λt28=>
 zaM H (λH K'=>ACalls tP zeX [t26,t27,(.int .i64 5),t28] H K') λt29=>
 zad H (λK'=>K' t29 H) λt25=>
 zad H (λK'=>zaI t25 0 (K' · H)) λt30=>
 zad H (λK'=>zaI t25 1 (K' · H)) λt31=>
 zad H (λK'=>K' t30 H) λt6=>
 zad H (λK'=>K' t31 H) λt7=>
 zac .eql false t3 (.int .i64 0) λt33=>
 zab t33 true H (λK'=>K' t5 H) λt35 H=>
 zab t33 true H (λK'=>zac .eql false t35 (.int .i64 0) (K' · H)) λt36 H=>
 zai t33 t36 (.bool false) λt37=>
 zab t37 true H (λK'=>K' t7 H) λt39 H=>
 zab t37 true H (λK'=>zac .eql false t39 (.int .i64 0) (K' · H)) λt40 H=>
 zai t37 t40 (.bool false) λt41=>
 zab t41 true H (λK'=>K' t2 H) λt43 H=>
 zab t41 true H (λK'=>zah 1 t43 (K' · H)) λt44 H=>
 zab t41 true H (λK'=>zac .eql false t44 (.int .i64 1) (K' · H)) λt45 H=>
 zai t41 t45 (.bool false) λt46=>
 zab t46 true H (λK'=>K' t4 H) λt48 H=>
 zab t46 true H (λK'=>zah 1 t48 (K' · H)) λt49 H=>
 zab t46 true H (λK'=>zac .eql false t49 (.int .i64 0) (K' · H)) λt50 H=>
 zai t46 t50 (.bool false) λt51=>
 zab t51 true H (λK'=>K' t6 H) λt53 H=>
 zab t51 true H (λK'=>zah 1 t53 (K' · H)) λt54 H=>
 zab t51 true H (λK'=>zac .eql false t54 (.int .i64 4) (K' · H)) λt55 H=>
 zai t51 t55 (.bool false) λt56=>
 K t56 H
theorem zM8{H:zaa}{K:Kt}(h:HSc H→zq5 H K):ACalls tP zoy [] H K:=
 zan (M:=zM6) Tryz.func7 (c:=zM7) (by kernel_rfl) (λhs=>Eq.mpr (by kernel_rfl) (h hs))
def zd6:Nat→List Bool
 |4=>rl false [0,2,29,2,37]
 |9=>rl false [0,2,29,2,13,3,21]
 |16=>rl false [1,1,57,2,9]
 |_=>[]
noncomputable def zik:Code:=Tryz.f9.body.getD .skip
noncomputable def zz9:List ResultVar:=Tryz.f9.results.toList
def zmv(t0 t1 t31 t32:AV):List AV:=t0::t1::ux 29 (t31::t32::ux 37 [])
def zz8:List Bool:=zd6 4
noncomputable def zsl:Code:=zaq [1,1,0,1,0,0] zik
def zz4(K:Kt):AExit→List AV→zaa→Prop:=zar tP zd6 [1,1,0,1,0] zik (zaA tP zz9 K)
def zz6(t0 t1 t31 t32:AV)(H:zaa)(K:Kt):Prop:=ALoop tP zsl (zz4 K) (zmv t0 t1 t31 t32) H
def zmw(t0 t1 t31 t32 t46 t47 t48:AV):List AV:=t0::t1::ux 29 (t31::t32::ux 13 (t46::t47::t48::ux 21 []))
def zON:List Bool:=zd6 9
noncomputable def zOI:Code:=zaq [1,1,0,0,1,1,1,0,0] zsl
def zOG(K:Kt)(Kb4:Lt):AExit→List AV→zaa→Prop:=zar tP zd6 [1,1,0,0,1,1,1,0] zsl (zbG zz8 Kb4 (zz4 K))
def zz7(t0 t1 t31 t32 t46 t47 t48:AV)(H:zaa)(K:Kt)(Kb4:Lt):Prop:=ALoop tP zOI (zOG K Kb4) (zmw t0 t1 t31 t32 t46 t47 t48) H
def zmt(t0 t1 t31 t32 t46 t47 t48:AV)(H:zaa)(K:Kt)(Kb4:Lt)(Kb9:Lt):Prop:=
 zac .lss false t48 t47 λt49=>
 zag t49
 (zaj 2 t46 t48 λt50=>
 zae true 2 t50 H λt51=>
 zaw [(.str []),.snil] H λt11 H=>
 zak 2 t11 t51 H λH=>
 zaf 1 t11 λt52=>
 zae false 1 t52 H λt53=>
 zah 1 t53 λt54=>
 zac .gtr false t54 (.int .i64 3) λt55=>
 zag t55
 (K (.bool false) H)
 (zac .add false t48 (.int .i64 1) λt56=>
 Kb9 (zmw t0 t1 t31 t32 t46 t47 t56) H))
 (zac .add false t32 (.int .i64 1) λt57=>
 Kb4 (zmv t0 t1 t31 t57) H)
def zmu(t1 t59 t60:AV):List AV:=ux 1 (t1::ux 57 (t59::t60::ux 9 []))
def zOM:List Bool:=zd6 16
noncomputable def zOH:Code:=zaq [1,1,1,0,1,0,0] zik
def zOF(K:Kt):AExit→List AV→zaa→Prop:=zar tP zd6 [1,1,1,0,1,0] zik (zaA tP zz9 K)
def zz5(t1 t59 t60:AV)(H:zaa)(K:Kt):Prop:=ALoop tP zOH (zOF K) (zmu t1 t59 t60) H
def zsk(t1 t59 t60:AV)(H:zaa)(K:Kt)(Kb16:Lt):Prop:=
 zac .lss false t60 t59 λt61=>
 zag t61
 (zaj 3 t1 t60 λt65=>
 zae true 3 t65 H λt66=>
 ACalls tP zjk [t66] H λt67 H=>
 zac .gtr false t67 (.int .i64 8) λt68=>
 zag t68
 (K (.bool false) H)
 (zac .add false t60 (.int .i64 1) λt69=>
 Kb16 (zmu t1 t59 t69) H))
 (K (.bool true) H)
def zms(t0 t1 t31 t32:AV)(H:zaa)(K:Kt)(Kb4:Lt):Prop:=
 zac .lss false t32 t31 λt33=>
 zag t33
 (zaj 3 t0 t32 λt37=>
 zaf 2 t37 λt38=>
 zae false 1 t38 H λt39=>
 zah 1 t39 λt40=>
 zac .gtr false t40 (.int .i64 3) λt41=>
 zag t41
 (K (.bool false) H)
 (zaj 3 t0 t32 λt44=>
 zaf 2 t44 λt45=>
 zae false 1 t45 H λt46=>
 zah 1 t46 λt47=>
 zz7 t0 t1 t31 t32 t46 t47 (.int .i64 0) H K Kb4))
 (zah 1 t1 λt59=>
 zz5 t1 t59 (.int .i64 0) H K)
def zq7(t0 t1 t2 t3:AV)(H:zaa)(K:Kt):Prop:=
 zah 1 t0 λt14=>
 zac .gtr false t14 (.int .i64 2) λt15=>
 zab t15 false H (λK'=>K' t1 H) λt17 H=>
 zab t15 false H (λK'=>zah 1 t17 (K' · H)) λt18 H=>
 zab t15 false H (λK'=>zac .gtr false t18 (.int .i64 3) (K' · H)) λt19 H=>
 zai t15 (.bool true) t19 λt20=>
 zab t20 false H (λK'=>K' t2 H) λt22 H=>
 zab t20 false H (λK'=>zac .gtr false t22 (.int .i64 9) (K' · H)) λt23 H=>
 zai t20 (.bool true) t23 λt24=>
 zab t24 false H (λK'=>K' t3 H) λt26 H=>
 zab t24 false H (λK'=>zah 1 t26 (K' · H)) λt27 H=>
 zab t24 false H (λK'=>zac .gtr false t27 (.int .i64 9) (K' · H)) λt28 H=>
 zai t24 (.bool true) t28 λt29=>
 zag t29
 (K (.bool false) H)
 (zah 1 t0 λt31=>
 zz6 t0 t1 t31 (.int .i64 0) H K)
theorem zOL{t0 t1 t31 t32 t46 t47 t48:AV}{H:zaa}{K:Kt}{Kb4:Lt}(Inv:Nat→AV→zaa→Prop)(n:Nat)(h0:HSc H→Inv n t48 H)(round:Rd1 (λt48=>zmw t0 t1 t31 t32 t46 t47 t48) (λt48=>λH Kb9=>zmt t0 t1 t31 t32 t46 t47 t48 H K Kb4 Kb9) H Inv):zz7 t0 t1 t31 t32 t46 t47 t48 H K Kb4:=
 lp1 (M:=zd6) zON t48 (by kernel_rfl) Inv n h0 round
theorem zOJ{t1 t59 t60:AV}{H:zaa}{K:Kt}(Inv:Nat→AV→zaa→Prop)(n:Nat)(h0:HSc H→Inv n t60 H)(round:Rd1 (λt60=>zmu t1 t59 t60) (λt60=>λH Kb16=>zsk t1 t59 t60 H K Kb16) H Inv):zz5 t1 t59 t60 H K:=
 lp1 (M:=zd6) zOM t60 (by kernel_rfl) Inv n h0 round
theorem zOK{t0 t1 t31 t32:AV}{H:zaa}{K:Kt}(Inv:Nat→AV→zaa→Prop)(n:Nat)(h0:HSc H→Inv n t32 H)(round:Rd1 (λt32=>zmv t0 t1 t31 t32) (λt32=>λH Kb4=>zms t0 t1 t31 t32 H K Kb4) H Inv):zz6 t0 t1 t31 t32 H K:=
 lp1 (M:=zd6) zz8 t32 (by kernel_rfl) Inv n h0 round
theorem zOO{t0 t1 t2 t3:AV}{H:zaa}{K:Kt}(h:HSc H→zq7 t0 t1 t2 t3 H K):ACalls tP zoC [t0,t1,t2,t3] H K:=
 zan (M:=zd6) Tryz.func9 (c:=zik) (by kernel_rfl) (λhs=>Eq.mpr (by kernel_rfl) (h hs))
def zfY:Nat→List Bool
 |4=>rl false [2,1,2,1,7,3,24]
 |10=>rl false [1,1,27,3,8]
 |_=>[]
noncomputable def zip:Code:=Tryz.f11.body.getD .skip
noncomputable def zAD:List ResultVar:=Tryz.f11.results.toList
def ziq(t2 t5 t13 t14 t15:AV):List AV:=ux 2 (t2::ux 2 (t5::ux 7 (t13::t14::t15::ux 24 [])))
def zQa:List Bool:=zfY 4
noncomputable def zP6:Code:=zaq [1,0,1,0,1,0,1,0,0] zip
def zP4(K:Kt):AExit→List AV→zaa→Prop:=zar tP zfY [1,0,1,0,1,0,1,0] zip (zaA tP zAD K)
def zAC(t2 t5 t13 t14 t15:AV)(H:zaa)(K:Kt):Prop:=ALoop tP zP6 (zP4 K) (ziq t2 t5 t13 t14 t15) H
def zmM(t2 t5 t13 t14 t15:AV)(H:zaa)(K:Kt)(Kb4:Lt):Prop:=
 zac .lss false t15 t14 λt16=>
 zag t16
 (zaj 1 t13 t15 λt17=>
 zae false 1 t17 H λt18=>
 zab t5 false H (λK'=>K' t18 H) λt21 H=>
 zab t5 false H (λK'=>zaf 1 t2 (K' · H)) λt22 H=>
 zab t5 false H (λK'=>zae false 1 t22 H (K' · H)) λt23 H=>
 zab t5 false H (λK'=>zac .eql false t21 t23 (K' · H)) λt24 H=>
 zai t5 (.bool true) t24 λt25=>
 zac .add false t15 (.int .i64 1) λt26=>
 Kb4 (ziq t2 t25 t13 t14 t26) H)
 (K t5 H)
def zmN(t1 t29 t30 t31:AV):List AV:=ux 1 (t1::ux 27 (t29::t30::t31::ux 8 []))
def zP9:List Bool:=zfY 10
noncomputable def zP5:Code:=zaq [1,1,0,1,0,0] zip
def zP3(K:Kt):AExit→List AV→zaa→Prop:=zar tP zfY [1,1,0,1,0] zip (zaA tP zAD K)
def zAB(t1 t29 t30 t31:AV)(H:zaa)(K:Kt):Prop:=ALoop tP zP5 (zP3 K) (zmN t1 t29 t30 t31) H
def zsM(t1 t29 t30 t31:AV)(H:zaa)(K:Kt)(Kb10:Lt):Prop:=
 zac .lss false t31 t30 λt32=>
 zag t32
 (zaj 3 t29 t31 λt33=>
 zae true 3 t33 H λt34=>
 zaw [(.int .i64 0),(.int .i64 0),.snil] H λt9 H=>
 zak 3 t9 t34 H λH=>
 zae true 3 t9 H λt35=>
 ACalls tP zjA [t35,t1] H λt37 H=>
 aUn .not t37 λt38=>
 zag t38
 (K (.bool false) H)
 (zac .add false t31 (.int .i64 1) λt39=>
 Kb10 (zmN t1 t29 t30 t39) H))
 (K (.bool true) H)
def zq9(t0 t1:AV)(H:zaa)(K:Kt):Prop:=
 zav t0 H λt2 H=>
 zaf 0 t2 λt10=>
 zae false 1 t10 H λt11=>
 zac .eql false t11 (.int .i64 3) λt12=>
 zag t12
 (zah 1 t1 λt14=>
 zAC t2 (.bool false) t1 t14 (.int .i64 0) H K)
 (zaf 2 t2 λt28=>
 zae false 1 t28 H λt29=>
 zah 1 t29 λt30=>
 zAB t1 t29 t30 (.int .i64 0) H K)
theorem zP8{t2 t5 t13 t14 t15:AV}{H:zaa}{K:Kt}(Inv:Nat→AV→AV→zaa→Prop)(n:Nat)(h0:HSc H→Inv n t5 t15 H)(round:Rd2 (λt5=>λt15=>ziq t2 t5 t13 t14 t15) (λt5=>λt15=>λH Kb4=>zmM t2 t5 t13 t14 t15 H K Kb4) H Inv):zAC t2 t5 t13 t14 t15 H K:=
 lp2 (M:=zfY) zQa t5 t15 (by kernel_rfl) Inv n h0 round
theorem zP7{t1 t29 t30 t31:AV}{H:zaa}{K:Kt}(Inv:Nat→AV→zaa→Prop)(n:Nat)(h0:HSc H→Inv n t31 H)(round:Rd1 (λt31=>zmN t1 t29 t30 t31) (λt31=>λH Kb10=>zsM t1 t29 t30 t31 H K Kb10) H Inv):zAB t1 t29 t30 t31 H K:=
 lp1 (M:=zfY) zP9 t31 (by kernel_rfl) Inv n h0 round
theorem zQb{t0 t1:AV}{H:zaa}{K:Kt}(h:HSc H→zq9 t0 t1 H K):ACalls tP zjA [t0,t1] H K:=
 zan (M:=zfY) Tryz.func11 (c:=zip) (by kernel_rfl) (λhs=>Eq.mpr (by kernel_rfl) (h hs))
def zLi(_:Nat):List Bool:=[]
noncomputable def zLj:Code:=Tryz.f24.body.getD .skip
def zyN(H:zaa)(K:Kt):Prop:=
 zao [(.int .i64 0),(.int .i64 0),.snil] [(0,1),(1,1),(2,1)] [(0,(.int .i64 4))] λt2=>
 zaw [(.int .i64 0),(.int .i64 0),.snil] H λt1 H=>
 zak 3 t1 t2 H λH=>
 zao [(.str []),.snil] [(0,1),(1,1)] [(0,(.str [78]))] λt3=>
 zae true 3 t1 H λt4=>
 zae true 3 t1 H λt5=>
 zas 3 [(.int .i64 0),(.int .i64 0),.snil] 1 [(0,t5)] λt6=>
 zao [(.int .i64 0),(.int .i64 0),.snil] [(0,1),(1,1),(2,1)] [(0,(.int .i64 5)),(2,t6)] λt7=>
 zas 3 [(.int .i64 0),(.int .i64 0),.snil] 2 [(0,t4),(1,t7)] λt8=>
 zao [(.str []),.snil] [(0,1),(1,1)] [(0,(.str [67])),(1,t8)] λt9=>
 zas 2 [(.str []),.snil] 2 [(0,t3),(1,t9)] λt10=>
 zao [(.str []),(.int .i64 0),.snil] [(0,1),(1,1),(2,1)] [(0,(.str [76])),(1,(.int .i64 1)),(2,t10)] λt11=>
 zas 3 [(.str []),(.int .i64 0),.snil] 1 [(0,t11)] λt12=>
 K t12 H
theorem zLk{H:zaa}{K:Kt}(h:HSc H→zyN H K):ACalls tP zhz [] H K:=
 zan (M:=zLi) Tryz.func24 (c:=zLj) (by kernel_rfl) (λhs=>Eq.mpr (by kernel_rfl) (h hs))
def zlz:Nat→List Bool
 |3=>rl false [1,1,1,1,3,2,14]
 |_=>[]
noncomputable def zri:Code:=Tryz.f25.body.getD .skip
noncomputable def zLq:List ResultVar:=Tryz.f25.results.toList
def zlB(t1 t3 t7 t8:AV):List AV:=ux 1 (t1::ux 1 (t3::ux 3 (t7::t8::ux 14 [])))
def zLo:List Bool:=zlz 3
noncomputable def zLm:Code:=zaq [1,1,0,1,0,0] zri
def zLl(K:Kt):AExit→List AV→zaa→Prop:=zar tP zlz [1,1,0,1,0] zri (zaA tP zLq K)
def zyP(t1 t3 t7 t8:AV)(H:zaa)(K:Kt):Prop:=ALoop tP zLm (zLl K) (zlB t1 t3 t7 t8) H
def zlA(t1 t3 t7 t8:AV)(H:zaa)(K:Kt)(Kb3:Lt):Prop:=
 zac .lss false t8 t7 λt9=>
 zag t9
 (zac .gtr false t3 (.int .i64 8) λt12=>
 zag t12
 (K (.int .i64 9) H)
 (zaf 2 t1 λt14=>
 zae false 1 t14 H λt15=>
 zaj 3 t15 t8 λt17=>
 zae true 3 t17 H λt18=>
 ACalls tP zjk [t18] H λt19 H=>
 zac .add false t3 t19 λt20=>
 zac .add false t8 (.int .i64 1) λt21=>
 Kb3 (zlB t1 t20 t7 t21) H))
 (K t3 H)
def zyO(t0:AV)(H:zaa)(K:Kt):Prop:=
 zav t0 H λt1 H=>
 zaf 2 t1 λt5=>
 zae false 1 t5 H λt6=>
 zah 1 t6 λt7=>
 zyP t1 (.int .i64 1) t7 (.int .i64 0) H K
theorem zLn{t1 t3 t7 t8:AV}{H:zaa}{K:Kt}(Inv:Nat→AV→AV→zaa→Prop)(n:Nat)(h0:HSc H→Inv n t3 t8 H)(round:Rd2 (λt3=>λt8=>zlB t1 t3 t7 t8) (λt3=>λt8=>λH Kb3=>zlA t1 t3 t7 t8 H K Kb3) H Inv):zyP t1 t3 t7 t8 H K:=
 lp2 (M:=zlz) zLo t3 t8 (by kernel_rfl) Inv n h0 round
theorem zLp{t0:AV}{H:zaa}{K:Kt}(h:HSc H→zyO t0 H K):ACalls tP zjk [t0] H K:=
 zan (M:=zlz) Tryz.func25 (c:=zri) (by kernel_rfl) (λhs=>Eq.mpr (by kernel_rfl) (h hs))
end Go.Proofs.YtaifokkaaahdoaaGreatDoor
namespace Go.Proofs.YtaifokkaaahdoaaGreatDoor
open Go Go.Abs
theorem wrM{n:Nat}(h:n<9223372036854775807):IntKind.i64.wrap ((n:Int)+1)=((n+1:Nat):Int):=by rw[zax (by omega) (by omega)];rfl
theorem zLr:∀(m:Nat) (t:VT),t.nodes≤m→zbm t→∀(H:zaa) (K:Kt),(∀r:Int,K (.int .i64 r) H)→ACalls tP zjk [.agg t.cs] H K:=by
 intro m;induction m with
 |zero=>intro t h;have:=t.nodes_pos;omega
 |succ m ih=>
  intro t hm hf H K hK;obtain⟨k,n,ks⟩:=t;have hfit:ks.length≤9223372036854775807∧zdA ks:=by rw[zbm]at hf;exact hf
  refine ACalls.out (zLp λhs=>?_);have hO:∀(r:Int) J,Out H.length K (.int .i64 r) (H++J):=λr J=>Out.int rfl (Nat.le_refl _) hs (hK r);simp[zyO,VT.cs];obtain⟨A,hA⟩:∃A,A=H++[AB.cells [.int .i64 k,.int .i64 n,.sl (VT.css ks) .none]]:=⟨_,rfl⟩;have hAl:A.length=H.length+1:=by rw[hA];simp
  have hAs:HSc A:=by rw[hA];exact hs.snoc (by simp[AB.sc,AV.scA,AV.scB])
  have hg:A[H.length]?=some (.cells [.int .i64 k,.int .i64 n,.sl (VT.css ks) .none]):=by rw[hA];simp
  rw[←hA];refine zLn (Inv:=λq t3 t8 H'=>∃(i:Nat) (r:Int),i≤ks.length∧ks.length-i=q∧t8=.int .i64 i∧t3=.int .i64 r∧H'=A) ks.length ?_ ?_
  ·intro _;exact⟨0,1,by omega,rfl,rfl,rfl,rfl⟩
  ·rintro q t3 t8 H' ⟨i,r,hi,rfl,rfl,rfl,rfl⟩ hsc hlen hsF Kb hKb;have hE:∀ r:Int,Out H.length K (.int .i64 r) H':=λr=>by rw[hA];exact hO r _
   by_cases hlt:i<ks.length
   ·obtain⟨x,y,z,hvx,hx,hy,hz⟩:=zaU ks[i];by_cases h8:8<r
    ·simp[zlA,hlt,h8];exact hE 9
    ·simp[zlA,hlt,h8,hg,hvx];rw[←hvx];have hkn:=VT.kid_lt (k:=k) (n:=n) hlt;refine ih ks[i] (by omega) (ziQ hfit.2 _ (List.getElem_mem hlt)) _ _ λr'=>?_;simp;rw[wrM (by omega)];refine hKb _ _ ⟨ks.length-(i+1),by omega,Back.here (Nat.le_refl _) hAs ?_ ⟨_,_,rfl,i+1,_,by omega,rfl,rfl,rfl,rfl⟩⟩;simp[zlB,ux,AV.sc,AV.scA,AV.scB,AV.scV,hAl]
   ·obtain rfl:i=ks.length:=by omega
    simp[zlA];exact hE r
def KpD(D:Dat):Prop:=D.cons.length≤3∧∀c∈D.cons,c.args.length≤3
theorem zOP(data:List Dat)(hl:data.length≤9223372036854775807)(l:List VT)(hll:l.length≤1000000)(ht:∀t∈l,zbm t)(n:Int)(xs:List Int)(H:zaa)(K:Kt)(hK:∀b:Bool,(b=true→data.length≤2∧n≤9∧xs.length≤9∧Kpt data)→K (.bool b) H):ACalls tP zoC [.sl (data.map Dat.cs) .none,.sl (VT.css l) .none,.int .i64 n,.sl (ints xs) .none] H K:=by
 refine ACalls.out (zOO λhs=>?_);have hF:∀J,Out H.length K (.bool false) (H++J):=λJ=>Out.bool rfl (Nat.le_refl _) hs (hK false λh=>by cases h);have hF0:Out H.length K (.bool false) H:=zbt hs rfl rfl (hK false λh=>by cases h);by_cases c1:2<data.length
 ·have:(2:Int)<data.length:=by omega
  simp[zq7,this];exact hF0
 have c1':¬(2:Int)<data.length:=by omega
 by_cases c2:3<l.length
 ·have:(3:Int)<l.length:=by omega
  simp[zq7,c1',this];exact hF0
 have c2':¬(3:Int)<l.length:=by omega
 by_cases c3:9<n
 ·simp[zq7,c1',c2',c3];exact hF0
 by_cases c4:9<xs.length
 ·have:(9:Int)<xs.length:=by omega
  simp[zq7,c1',c2',c3,zdc,this];exact hF0
 have c4':¬(9:Int)<xs.length:=by omega
 simp[zq7,c1',c2',c3,zdc,c4'];refine zOK (Inv:=λq t32 H'=>∃i:Nat,i≤data.length∧data.length-i=q∧t32=.int .i64 i∧(∀D∈data.take i,KpD D)∧H'=H) data.length ?_ ?_
 ·intro _;exact⟨0,by omega,rfl,rfl,by simp,rfl⟩
 ·rintro q t32 H' ⟨i,hi,rfl,rfl,hk,rfl⟩ hsc4 hlen4 hsF4 Kb4 hKb4;by_cases hlt:i<data.length
  ·obtain⟨⟨nm,vs,cons⟩,hv⟩:∃ u,u=data[i]:=⟨_,rfl⟩;have hcl:Dat.cs (data[i])=[.str nm,.int .i64 vs,.sl (cons.map Con.cs) .none]:=by rw[←hv];rfl
   by_cases h3:3<cons.length
   ·have:(3:Int)<cons.length:=by omega
    simp[zms,hlt,hcl,this];exact hF0
   have h3':¬(3:Int)<cons.length:=by omega
   simp[zms,hlt,hcl,h3'];refine zOL (Inv:=λq t48 H2=>∃j:Nat,j≤cons.length∧cons.length-j=q∧t48=.int .i64 j∧(∀c∈cons.take j,c.args.length≤3)∧H2=H') cons.length ?_ ?_
   ·intro _;exact⟨0,by omega,rfl,rfl,by simp,rfl⟩
   ·rintro q t48 H2 ⟨j,hj,rfl,rfl,hc,rfl⟩ hsc9 hlen9 hsF9 Kb9 hKb9;by_cases hlj:j<cons.length
    ·obtain⟨⟨cn,ca⟩,hu⟩:∃ u,u=cons[j]:=⟨_,rfl⟩;have hcc:Con.cs (cons[j])=[.str cn,.sl (VT.css ca) .none]:=by rw[←hu];rfl
     by_cases h3a:3<ca.length
     ·have:(3:Int)<ca.length:=by omega
      simp[zmt,hlj,hcc,AV.known,this];exact hF _
     ·have h3a':¬ (3:Int)<ca.length:=by omega
      simp[zmt,hlj,hcc,AV.known,h3a'];rw[wr (by omega)];refine hKb9 _ _ ⟨cons.length-(j+1),by omega,Back.at (J:=[.cells [.str cn,.sl (VT.css ca) .none]]) (H2:=H2) rfl (Nat.le_refl _) hs ?_ ⟨_,rfl,j+1,by omega,rfl,rfl,λc hcm=>?_,rfl⟩⟩
      ·simp[zmw,ux,AV.sc,AV.scA,AV.scB,AV.scV]
      ·rw[List.take_succ_eq_append_getElem hlj]at hcm;rcases List.mem_append.1 hcm with h | h
       ·exact hc c h
       ·simp at h;rw[h,←hu];show ca.length≤3;omega
    ·obtain rfl:j=cons.length:=by omega
     rw[List.take_length]at hc;simp[zmt];rw[wr (by omega)];refine hKb4 _ _ ⟨data.length-(i+1),by omega,Back.here (Nat.le_refl _) hs ?_ ⟨_,rfl,i+1,by omega,rfl,rfl,λD hDm=>?_,rfl⟩⟩
     ·simp[zmv,ux,AV.sc,AV.scA,AV.scB,AV.scV]
     ·rw[List.take_succ_eq_append_getElem hlt]at hDm;rcases List.mem_append.1 hDm with h | h
      ·exact hk D h
      ·simp at h;rw[h,←hv];exact⟨by show cons.length≤3;omega,hc⟩
  ·obtain rfl:i=data.length:=by omega
   rw[List.take_length]at hk;simp[zms];refine zOJ (Inv:=λq t60 H2=>∃j:Nat,j≤l.length∧l.length-j=q∧t60=.int .i64 j∧H2=H') l.length ?_ ?_
   ·intro _;exact⟨0,by omega,rfl,rfl,rfl⟩
   ·rintro q t60 H2 ⟨j,hj,rfl,rfl,rfl⟩ hsc9 hlen9 hsF9 Kb9 hKb9;by_cases hlj:j<l.length
    ·obtain⟨x,y,z,hvx,hx,hy,hz⟩:=zaU l[j];simp[zsk,hlj,hvx];rw[←hvx];refine zLr _ _ (Nat.le_refl _) (ht _ (List.getElem_mem hlj)) _ _ λr=>?_;by_cases h8:8<r
     ·simp[h8];exact hF0
     ·simp[h8];rw[wr (by omega)];refine hKb9 _ _ ⟨l.length-(j+1),by omega,Back.here (Nat.le_refl _) hs ?_ ⟨_,rfl,j+1,by omega,rfl,rfl,rfl⟩⟩;simp[zmu,ux,AV.sc,AV.scA,AV.scB,AV.scV]
    ·obtain rfl:j=l.length:=by omega
     simp[zsk];exact zbt hs rfl rfl (hK true λ_=>⟨by omega,by omega,by omega,hk⟩)
theorem zBO{v w:VT}(h:VT.cmp v w=0):v=w:=(zo4 v w).1 ((VT.cmp_zero v w).1 h)
theorem zF0(a b:VT)(h1:vle a b)(h2:vle b a):a=b:=by unfold vle at h1 h2;have:=VT.cmp_anti a b;exact zBO (by omega)
theorem zF1{a b c:VT}(h1:vle a b)(h2:vle b c):vle a c:=by unfold vle at *;have:=VT.cmp_tri a b c;have a1:=VT.cmp_anti a b;have a2:=VT.cmp_anti b c;have a3:=VT.cmp_anti a c;unfold Tri at this;omega
def leB(a b:VT):Bool:=!decide (VT.cmp b a<0)
theorem ziZ(a b:VT):leB a b=true↔vle a b:=by simp[leB,vle]
def srt(W:List VT):List VT:=W.mergeSort leB
theorem zpe(W:List VT):(srt W).Perm W:=List.mergeSort_perm W leB
theorem zFe(W:List VT):(srt W).Pairwise vle:=
 (List.pairwise_mergeSort (le:=leB) (λa b c h1 h2=>(ziZ a c).2 (zF1 ((ziZ a b).1 h1) ((ziZ b c).1 h2))) (λa b=>by
  have:=VT.cmp_anti a b;simp[leB];omega) W).imp λh=>(ziZ _ _).1 h
theorem zFf{V W:List VT}(hp:V.Perm W)(hs:V.Pairwise vle):V=srt W:=
 List.Perm.eq_of_pairwise (le:=vle) (λa b _ _=>zF0 a b) hs (zFe W) (hp.trans (zpe W).symm)
def zeg(data:List Dat)(t:VT)(n:Int)(xs:List Int):List VT:=srt (vV data xs t n.toNat)
theorem zxe{data:List Dat}(hF:zd9 data)(hl:data.length≤1000000)(hk:Kpt data)(t:VT)(ht:zbm t)(xs:List Int)(hxl:xs.length≤1000000)(n:Int)(hn:n≤14∨24<n)(H:zaa)(h0:H[0]?=some .nodr)(K:Kt)(hE:zbF data [t] n xs≠0→K (.tup [.sl [] .none,.int .i64 (zbF data [t] n xs)]) H)(hK:zbF data [t] n xs=0→K (.tup [.sl (VT.css (zeg data t n xs)) .none,.int .i64 0]) H):
  ACalls tP zeX [.sl (data.map Dat.cs) .none,.agg t.cs,.int .i64 n,.sl (ints xs) .none] H K:=
 zHc hF hl hk t ht xs hxl n hn H h0 K hE λh V hp hs=>by rw[zFf hp hs];exact hK h
def tA:VT:=.mk 4 0 []
def tL:VT:=.mk 5 0 [tA]
def lstD:List Dat:=[⟨[76],1,[⟨[78],[]⟩,⟨[67],[tA,tL]⟩]⟩]
def tLI:VT:=.mk 5 0 [.mk 1 0 []]
theorem zrh(H:zaa)(K:Kt)(hK:K (.sl (lstD.map Dat.cs) .none) H):ACalls tP zhz [] H K:=by refine ACalls.out (zLk λhs=>?_);simp[zyN,zao,zaL,AV.known,zas,zba,plain,AV.pd];exact Out.at (H2:=H) (J:=_) rfl (Nat.le_refl _) hs (.atom (.sl _ _)) rfl rfl hK
theorem zC7:zb9 lstD tLI=true:=by decide +kernel
theorem zuQ:cV lstD 2 tLI 1=1:=by decide +kernel
theorem zuR:cV lstD 2 tLI 2=0:=by decide +kernel
theorem zuS:cV lstD 2 tLI 5=4:=by decide +kernel
theorem zDa:zf0 [0,1]:=by
 refine⟨by decide,λi hi=>?_⟩;simp at hi
 match i,hi with
 |0,_=>exact⟨by decide,by decide,λh=>absurd h (by omega)⟩
 |1,_=>exact⟨by decide,by decide,λ_=>by decide⟩
theorem ztu(g:VT→Nat→Nat)(t:VT)(n:Nat)(h0:g t 0=0):cL g [t] n=g t n:=by
 rw[cL];simp only[cL];rw[sm,Nat.sub_self,if_pos rfl,Nat.mul_one];have:sm n (λs=>g t s*if n-s=0 then 1 else 0)=sm n λ_=>0:=zcc λs hs=>by rw[if_neg (by omega),Nat.mul_zero]
 rw[this,zpc,Nat.zero_add]
theorem zC6{n:Nat}(hn:n≤24)(hc:cV lstD 2 tLI n≤2000):zbF lstD [tLI] n [0,1]=0:=by
 unfold zbF;have h1:¬ ∃t∈[tLI],zb9 lstD t=false:=λ⟨t,ht,h⟩=>by simp at ht;subst ht;rw[zC7]at h;cases h
 rw[if_neg (by decide),if_neg h1,if_neg (λh=>h.elim (λh=>by omega) λh=>h.elim (λh=>by omega) λh=>h zDa),if_neg];show ¬ 2000<cL (cV lstD 2) [tLI] n;rw[ztu _ _ _ (zbW lstD 2 tLI)];show ¬ 2000<cV lstD 2 tLI n;omega
theorem zC8:zd9 lstD:=λD hD=>by
 simp[lstD]at hD;subst hD;refine⟨by decide,λc hc=>?_⟩;simp at hc;rcases hc with rfl|rfl
 ·exact⟨by decide,by simp⟩
 ·refine⟨by decide,λx hx=>?_⟩;simp at hx;rcases hx with rfl|rfl <;> simp[tA,tL,zbm,zdA]
theorem zDb:Kpt lstD:=λD hD=>by simp[lstD]at hD;subst hD;refine⟨by decide,λc hc=>?_⟩;simp at hc;rcases hc with rfl|rfl <;> decide
theorem zix(data:List Dat)(t:VT)(n:Nat)(xs:List Int):(zeg data t n xs).length=cV data xs.length t n:=by unfold zeg;rw[(zpe _).length_eq,zeB];rfl
theorem zm0(n:Nat)(hn:n≤14)(hc:cV lstD 2 tLI n≤2000)(H:zaa)(h0:H[0]?=some .nodr)(K:Kt)(hK:K (.tup [.sl (VT.css (zeg lstD tLI n [0,1])) .none,.int .i64 0]) H):
  ACalls tP zeX [.sl (lstD.map Dat.cs) .none,.agg [.int .i64 5,.int .i64 0,.sl [[.int .i64 1,.int .i64 0,.sl [] .none]] .full],.int .i64 n,.sl [[.int .i64 0],[.int .i64 1]] .full] H K:=by
 refine ACalls.wk (args':=[.sl (lstD.map Dat.cs) .none,.agg tLI.cs,.int .i64 n,.sl (ints [0,1]) .none]) ?_ ⟨.atom (.refl _),.agg ⟨.refl _,.refl _,.sl _ _,trivial⟩,.atom (.refl _),.atom (.sl _ _),trivial⟩;exact zxe zC8 (by decide) zDb tLI (by simp[tLI,zbm,zdA]) [0,1] (by decide) n (by omega) H h0 K (λh=>absurd (zC6 (by omega) hc) h) λ_=>hK
theorem zM9(H:zaa)(h0:H[0]?=some .nodr)(K:Kt)(hK:K (.bool true) H):ACalls tP zoy [] H K:=by
 refine ACalls.out (zM8 λhs=>?_);have hlt0:0<H.length:=(List.getElem?_eq_some_iff.1 h0).1;have g0:∀J:zaa,(H++J)[0]?=some .nodr:=λJ=>by rw[List.getElem?_append_left hlt0];exact h0
 simp[zq5,zao,zaL,AV.known,zas,zba,plain,AV.pd];refine za0 _ (λJ=>zrh _ _ ⟨rfl,rfl⟩) ?_;refine za0 _ (λJ=>zm0 1 (by omega) (by rw[zuQ];omega) _ (by rw[List.append_assoc];exact g0 _) _ ⟨rfl,rfl⟩) ?_;simp;refine za0 _ (λJ=>zrh _ _ ⟨rfl,rfl⟩) ?_;refine za0 _ (λJ=>zm0 2 (by omega) (by rw[zuR];omega) _ (by rw[List.append_assoc];exact g0 _) _ ⟨rfl,rfl⟩) ?_;simp;refine za0 _ (λJ=>zrh _ _ ⟨rfl,rfl⟩) ?_;refine za0 _ (λJ=>zm0 5 (by omega) (by rw[zuS];omega) _ (by rw[List.append_assoc];exact g0 _) _ ⟨rfl,rfl⟩) ?_;have l1:(zeg lstD tLI 1 [0,1]).length=1:=(zix lstD tLI 1 [0,1]).trans zuQ;have l2:(zeg lstD tLI 2 [0,1]).length=0:=(zix lstD tLI 2 [0,1]).trans zuR;have l5:(zeg lstD tLI 5 [0,1]).length=4:=(zix lstD tLI 5 [0,1]).trans zuS;simp[l1,l2,l5];exact Out.at (H2:=H) (J:=_) rfl (Nat.le_refl _) hs .rfl' rfl rfl hK
end Go.Proofs.YtaifokkaaahdoaaGreatDoor
namespace Go.Proofs.YtaifokkaaahdoaaGreatDoor
open Go Go.Abs
set_option maxRecDepth 100000
def zmk:Nat→List Bool
 |3=>rl false [3,1,3,3,9]
 |_=>[]
noncomputable def zr8:Code:=Tryz.f8.body.getD .skip
noncomputable def zOa:List ResultVar:=Tryz.f8.results.toList
def zml(t3 t7 t8 t9:AV):List AV:=ux 3 (t3::ux 3 (t7::t8::t9::ux 9 []))
def zN8:List Bool:=zmk 3
noncomputable def zN6:Code:=zaq [1,1,0,1,0,0] zr8
def zN4(K:Kt):AExit→List AV→zaa→Prop:=zar tP zmk [1,1,0,1,0] zr8 (zaA tP zOa K)
def zzR(t3 t7 t8 t9:AV)(H:zaa)(K:Kt):Prop:=ALoop tP zN6 (zN4 K) (zml t3 t7 t8 t9) H
def zr7(t3 t7 t8 t9:AV)(H:zaa)(K:Kt)(Kb3:Lt):Prop:=
 zac .lss false t9 t8 λt10=>
 zag t10
 (zaj 3 t7 t9 λt11=>
 zae true 3 t11 H λt12=>
 zaw [(.int .i64 0),(.int .i64 0),.snil] H λt5 H=>
 zak 3 t5 t12 H λH=>
 zae true 3 t5 H λt14=>
 ACalls tP zjr [t14] H λt15 H=>
 zac .add false t3 t15 λt16=>
 zac .add false t9 (.int .i64 1) λt17=>
 Kb3 (zml t16 t7 t8 t17) H)
 (K t3 H)
def zq6(t0:AV)(H:zaa)(K:Kt):Prop:=
 zav t0 H λt1 H=>
 zaf 2 t1 λt6=>
 zae false 1 t6 H λt7=>
 zah 1 t7 λt8=>
 zzR (.int .i64 1) t7 t8 (.int .i64 0) H K
theorem zN7{t3 t7 t8 t9:AV}{H:zaa}{K:Kt}(Inv:Nat→AV→AV→zaa→Prop)(n:Nat)(h0:HSc H→Inv n t3 t9 H)(round:Rd2 (λt3=>λt9=>zml t3 t7 t8 t9) (λt3=>λt9=>λH Kb3=>zr7 t3 t7 t8 t9 H K Kb3) H Inv):zzR t3 t7 t8 t9 H K:=
 lp2 (M:=zmk) zN8 t3 t9 (by kernel_rfl) Inv n h0 round
theorem zN9{t0:AV}{H:zaa}{K:Kt}(h:HSc H→zq6 t0 H K):ACalls tP zjr [t0] H K:=
 zan (M:=zmk) Tryz.func8 (c:=zr8) (by kernel_rfl) (λhs=>Eq.mpr (by kernel_rfl) (h hs))
end Go.Proofs.YtaifokkaaahdoaaGreatDoor

namespace Go.Abs
def chs:Nat→Nat→Nat
 |_,0=>1
 |0,_+1=>0
 |n+1,k+1=>chs n k+chs n (k+1)
@[simp] theorem zS4(n:Nat):chs n 0=1:=by cases n <;> rfl
end Go.Abs
namespace Go.Proofs.YtaifokkaaahdoaaGreatDoor
open Go Go.Abs
end Go.Proofs.YtaifokkaaahdoaaGreatDoor
namespace Go.Proofs.YtaifokkaaahdoaaGreatDoor
open Go Go.Abs
set_option maxRecDepth 100000
def zlr:Nat→List Bool
 |10=>rl false [6,1,41,3,8]
 |_=>[]
noncomputable def zrb:Code:=Tryz.f3.body.getD .skip
noncomputable def zKE:List ResultVar:=Tryz.f3.results.toList
def zls(t6 t48 t49 t50:AV):List AV:=ux 6 (t6::ux 41 (t48::t49::t50::ux 8 []))
def zKC:List Bool:=zlr 10
noncomputable def zKA:Code:=zaq [1,1,1,1,1,1,0,1,0,0] zrb
def zKz(K:Kt):AExit→List AV→zaa→Prop:=zar tP zlr [1,1,1,1,1,1,0,1,0] zrb (zaA tP zKE K)
def zyA(t6 t48 t49 t50:AV)(H:zaa)(K:Kt):Prop:=ALoop tP zKA (zKz K) (zls t6 t48 t49 t50) H
def zyz(t6 t48 t49 t50:AV)(H:zaa)(K:Kt)(Kb10:Lt):Prop:=
 zac .lss false t50 t49 λt51=>
 zag t51
 (zaj 3 t48 t50 λt52=>
 zae true 3 t52 H λt53=>
 zaw [(.int .i64 0),(.int .i64 0),.snil] H λt13 H=>
 zak 3 t13 t53 H λH=>
 zae true 3 t6 H λt54=>
 zae true 3 t13 H λt55=>
 ACalls tP zfy [t54,t55] H λt56 H=>
 zac .eql false t56 (.int .i64 0) λt57=>
 zag t57
 (K (.bool true) H)
 (zac .add false t50 (.int .i64 1) λt58=>
 Kb10 (zls t6 t48 t49 t58) H))
 (K (.bool false) H)
def zq1(t0 t1 t2 t3:AV)(H:zaa)(K:Kt):Prop:=
 zav t1 H λt5 H=>
 zav t2 H λt6 H=>
 ACalls tP zoy [] H λt14 H=>
 aUn .not t14 λt15=>
 zag t15
 (K (.bool false) H)
 (zae true 3 t6 H λt16=>
 ACalls tP zjr [t16] H λt17 H=>
 zae true 3 t5 H λt19=>
 zas 3 [(.int .i64 0),(.int .i64 0),.snil] 1 [(0,t19)] λt20=>
 ACalls tP zoC [t0,t20,t17,t3] H λt23 H=>
 aUn .not t23 λt24=>
 zab t24 false H (λK'=>K' t0 H) λt26 H=>
 zab t24 false H (λK'=>zae true 3 t6 H (K' · H)) λt27 H=>
 zab t24 false H (λK'=>zae true 3 t5 H (K' · H)) λt28 H=>
 zab t24 false H (λK'=>ACalls tP zoE [t26,t27,t28] H K') λt29 H=>
 zab t24 false H (λK'=>aUn .not t29 (K' · H)) λt30 H=>
 zai t24 (.bool true) t30 λt31=>
 zab t31 false H (λK'=>zae true 3 t6 H (K' · H)) λt33 H=>
 zab t31 false H (λK'=>K' t3 H) λt34 H=>
 zab t31 false H (λK'=>ACalls tP zjA [t33,t34] H K') λt35 H=>
 zab t31 false H (λK'=>aUn .not t35 (K' · H)) λt36 H=>
 zai t31 (.bool true) t36 λt37=>
 zag t37
 (K (.bool true) H)
 (zae true 3 t5 H λt40=>
 ACalls tP zeX [t0,t40,t17,t3] H λt43 H=>
 zaI t43 0 λt44=>
 zaI t43 1 λt45=>
 zac .neq false t45 (.int .i64 0) λt47=>
 zag t47
 (K (.bool true) H)
 (zah 1 t44 λt49=>
 zyA t6 t44 t49 (.int .i64 0) H K)))
theorem zKB{t6 t48 t49 t50:AV}{H:zaa}{K:Kt}(Inv:Nat→AV→zaa→Prop)(n:Nat)(h0:HSc H→Inv n t50 H)(round:Rd1 (λt50=>zls t6 t48 t49 t50) (λt50=>λH Kb10=>zyz t6 t48 t49 t50 H K Kb10) H Inv):zyA t6 t48 t49 t50 H K:=
 lp1 (M:=zlr) zKC t50 (by kernel_rfl) Inv n h0 round
theorem zKD{t0 t1 t2 t3:AV}{H:zaa}{K:Kt}(h:HSc H→zq1 t0 t1 t2 t3 H K):ACalls tP znZ [t0,t1,t2,t3] H K:=
 zan (M:=zlr) Tryz.func3 (c:=zrb) (by kernel_rfl) (λhs=>Eq.mpr (by kernel_rfl) (h hs))
end Go.Proofs.YtaifokkaaahdoaaGreatDoor
namespace Go.Proofs.YtaifokkaaahdoaaGreatDoor
open Go Go.Abs
theorem zCn{data:List Dat}(hT:∀D∈data,∀c∈D.cons,∀x∈c.args,zbm x)(hk:Kpt data):zd9 data:=λD hD=>by obtain⟨h1,h2⟩:=hk D hD;exact⟨by omega,λc hc=>⟨by have:=h2 c hc;omega,hT D hD c hc⟩⟩
theorem zCD(x:List VT)(hl:x.length≤1000000000)(fv:AV)(H:zaa)(K:AV→zaa→Prop)(hfv:fv.sc H.length=true)(Inv:Nat→zaa→Prop)(h0:Inv 0 H)(step:∀(i:Nat) (h:i<x.length) (H':zaa),H.length≤H'.length→Inv i H'→aCallV tP fv [.agg (x[i]).cs] H' λr H''=>(r=.bool false∧Inv (i+1) H'')∨(r=.bool true∧K (.int .i64 i) H''))(fin:∀H',Inv x.length H'→K (.int .i64 (-1)) H'):ACalls tP zoc [.sl (VT.css x) .none,fv] H K:=by
 refine zIz λhs=>?_;simp[zx0];refine zIx (Inv:=λq t8 H'=>∃i:Nat,i≤x.length∧q=x.length-i∧t8=.int .i64 i∧H.length≤H'.length∧Inv i H') x.length ?_ ?_
 ·intro _;exact⟨0,by omega,by omega,rfl,Nat.le_refl _,h0⟩
 ·rintro q t8 H' ⟨i,hi,rfl,rfl,hle,hI⟩ hsc hlen hsF Kb hKb;by_cases hlt:i<x.length
  ·simp[zqp,hlt];refine (step i hlt H' hle hI).mono' λr H'' hsc' hle' hr=>?_;rcases hr with ⟨rfl,hI'⟩ | ⟨rfl,hk⟩
   ·simp;rw[zax (by omega) (by omega)];refine hKb _ _ ⟨x.length-(i+1),by omega,Back.here (by omega) hsc' ?_ ⟨_,rfl,i+1,by omega,rfl,by simp,by omega,hI'⟩⟩;simp[zkP,AV.sc,AV.scV,AV.scA,AV.scB];exact zbZ (by omega) hfv
   ·simpa using hk
  ·obtain rfl:i=x.length:=by omega
   simp[zqp];exact fin H' hI
theorem zBY(x:List VT)(hl:x.length≤1000000000)(fv:AV)(H:zaa)(K:AV→zaa→Prop)(hfv:fv.sc H.length=true)(Inv:Nat→zaa→Prop)(h0:Inv 0 H)(step:∀(i:Nat) (h:i<x.length) (H':zaa),H.length≤H'.length→Inv i H'→aCallV tP fv [.agg (x[i]).cs] H' λr H''=>(r=.bool false∧Inv (i+1) H'')∨(r=.bool true∧K (.bool true) H''))(fin:∀H',Inv x.length H'→K (.bool false) H'):ACalls tP zoH [.sl (VT.css x) .none,fv] H K:=by
 refine zPM λhs=>?_;unfold zAv;refine zCD x hl fv H _ hfv Inv h0 (λi h H' hle hI=>(step i h H' hle hI).mono' λr H'' _ _ hr=>?_) (λH' hI=>?_)
 ·rcases hr with hr | ⟨h1,h2⟩
  ·exact .inl hr
  ·refine .inr ⟨h1,?_⟩;have:decide ((0:Int)≤i)=true:=by simp
   simpa using h2
 ·simpa using fin H' hI
theorem zCh(f:VT→VT→Bool)(fv:AV)(x y:List VT)(H:zaa)(hsc:fv.sc H.length=true)(hf:∀(i:Nat) (h1:i<x.length) (h2:i<y.length),x.length=y.length→∀(J:zaa) (K:AV→zaa→Prop),K (.bool (f x[i] y[i])) (H++J)→aCallV tP fv [.agg (x[i]).cs,.agg (y[i]).cs] (H++J) K)(hl:x.length≤1000000000)(K:AV→zaa→Prop)(hK:K (.bool (zbS f x y)) H):ACalls tP zod [.sl (VT.css x) .none,.sl (VT.css y) .none,fv] H K:=by
 refine ACalls.out (zIF λhs=>?_);have hO:∀J,Out H.length K (.bool (zbS f x y)) (H++J):=λJ=>Out.bool rfl (Nat.le_refl _) hs hK;by_cases hlen:x.length=y.length
 ·simp[zqr,hlen];refine zID (Inv:=λq t17 H'=>∃i:Nat,i≤x.length∧q=x.length-i∧t17=.int .i64 i∧zbS f (x.drop i) (y.drop i)=zbS f x y∧H=H') x.length ?_ ?_
  ·intro _;exact⟨0,by omega,by omega,rfl,by simp,rfl⟩
  ·rintro q t17 H' ⟨i,hi,rfl,rfl,ho,rfl⟩ hsc4 hlen2 hsF Kb hKb;by_cases hlt:i<x.length
   ·have hlt':i<y.length:=by omega
    have hltI:(i:Int)<y.length:=by omega
    rw[List.drop_eq_getElem_cons hlt,List.drop_eq_getElem_cons hlt',zbS]at ho;obtain⟨x1,x2,x3,hvx,hx1,hx2,hx3⟩:=zaU x[i];obtain⟨y1,y2,y3,hvy,hy1,hy2,hy3⟩:=zaU y[i];simp[zqs,hlt,hlt',hvx,hx1,hx2,hx3,hvy,hy1,hy2,hy3];rw[←hvx,←hvy];refine hf i hlt hlt' hlen _ _ ?_;cases hb:f x[i] y[i] with
    |false=>rw[hb,Bool.false_and]at ho;rw[←ho]at hO;simp;exact hO _
    |true=>rw[hb,Bool.true_and]at ho;simp;rw[zax (by omega) (by omega)];refine hKb _ _ ⟨x.length-(i+1),by omega,Back.same (by simp) hs ?_ ⟨_,rfl,i+1,by omega,rfl,by simp,ho,rfl⟩⟩;simp[zkR,AV.sc,AV.scV,AV.scA,AV.scB];exact hsc
   ·have hlt':¬ i<y.length:=by omega
    obtain rfl:i=x.length:=by omega
    rw[List.drop_length,hlen,List.drop_length,zbS]at ho;rw[←ho]at hO;simp[zqs,hlt'];simpa using hO []
 ·have hl':((x.length:Int) != y.length)=true:=by simp;omega
  rw[ziN hlen]at hO;simp[zqr,hl'];simpa using hO []
theorem zLK:∀ (m:Nat) (v:VT),v.nodes≤m→∀ (left:Int),left≤1000000→-1≤left→∀ (H:zaa) (id:Nat),H[id]?=some (.cells [.int .i64 left])→∀ (K:AV→zaa→Prop),
  ((v.nodes:Int)≤left→K (.bool true) (H.set id (.cells [.int .i64 (left-v.nodes)])))→(¬(v.nodes:Int)≤left→∀l',K (.bool false) (H.set id (.cells [.int .i64 l']))) →
  ACalls tP zjm [.agg v.cs,.ptr id 0] H K:=by
 intro m;induction m with
 |zero=>intro v h;have:=v.nodes_pos;omega
 |succ m ih=>
  intro v hv left hl1 hl0 H id hid K hK hF;obtain⟨k,n,ks⟩:=v;have hlt:=zfw hid;have hnn:(VT.mk k n ks).nodes=VT.nodesL ks+1:=by simp[VT.nodes]
  refine ACalls.out (zLI λhs=>?_);have hget:(H++[AB.cells [.int .i64 k,.int .i64 n,.sl (VT.css ks) .none]])[id]?=some (.cells [.int .i64 left]):=zcf hid;have bad:(¬((VT.mk k n ks).nodes:Int)≤left)→∀l' H',H'=H.set id (.cells [.int .i64 l'])++[.cells [.int .i64 k,.int .i64 n,.sl (VT.css ks) .none]]→Out H.length K (.bool false) H':=by intro h l' H' he;exact Out.bool he (by simp) (hs.set rfl) (hF h l')
  simp[zyZ,VT.cs,hget,AV.known];rw[zax (by omega) (by omega),zei _ hid,zcf (zcZ _ hid)];by_cases h0:left-1<0
  ·simp[h0];exact bad (by omega) _ _ rfl
  ·simp[h0];refine zLG (Inv:=λq t5 H'=>∃i:Nat,i≤ks.length∧q=ks.length-i∧t5=.int .i64 i∧((VT.nodesL (ks.take i):Int)+1≤left)∧H'=H.set id (.cells [.int .i64 (left-1-VT.nodesL (ks.take i))])++[.cells [.int .i64 k,.int .i64 n,.sl (VT.css ks) .none]]) ks.length ?_ ?_
   ·intro _;exact⟨0,by omega,by omega,rfl,by simp[VT.nodesL];omega,by simp[VT.nodesL]⟩
   ·rintro q t5 H' ⟨i,hi,rfl,rfl,hb,rfl⟩ hsc hlen hsF Kb hKb;by_cases hil:i<ks.length
    ·have hki:=VT.kid_lt (k:=k) (n:=n) hil;have h1:=VT.nodesL_take hil;have h2:=VT.nodesL_take_le ks (i+1);have hll:=VT.len_le (ks.take i);simp only[List.length_take]at hll;have hge:(H.set id (.cells [.int .i64 (left-1-VT.nodesL (ks.take i))])++[AB.cells [.int .i64 k,.int .i64 n,.sl (VT.css ks) .none]])[id]?=some (.cells [.int .i64 (left-1-VT.nodesL (ks.take i))]):=zcf (zcZ _ hid);simp[zrp,hil];refine ih ks[i] (by omega) (left-1-VT.nodesL (ks.take i)) (by omega) (by omega) _ id hge _ ?_ ?_
     ·intro hle;rw[zei _ (zcZ _ hid),List.set_set];simp;rw[zax (by omega) (by omega)];refine hKb _ _ ⟨ks.length-(i+1),by omega,Back.here (by simp) ((hs.set rfl).snoc rfl) ?_ ⟨_,rfl,i+1,by omega,rfl,by simp,by omega,?_⟩⟩
      ·simp[zlI,AV.sc,AV.scV,AV.scA,AV.scB];omega
      ·rw[h1];congr 5;omega
     ·intro hle l';rw[zei _ (zcZ _ hid),List.set_set];simp;exact bad (by omega) _ _ rfl
    ·obtain rfl:i=ks.length:=by omega
     rw[List.take_length]at hb ⊢;simp[zrp];refine Out.bool rfl (by simp) (hs.set rfl) ?_;have:=hK (by omega);rw[hnn]at this;rw[show left-1-(VT.nodesL ks:Int)=left-((VT.nodesL ks+1:Nat):Int) by omega];exact this
theorem ziT(data:List Dat):∀ vs ts:List VT,zbx data vs ts=zbS (zat data) vs ts
 |[],[]=>by simp[zbx,zbS]
 |[],_::_=>by simp[zbx,zbS]
 |_::_,[]=>by simp[zbx,zbS]
 |v::vs,t::ts=>by simp[zbx,zbS,ziT data vs ts]
theorem zBF:zdr tP zoe=true:=by kernel_rfl
theorem zBE:zdr tP zn0=true:=by kernel_rfl
theorem zpt{data:List Dat}{k n:Int}{ks:List VT}(h:zaC data 0 (.mk k n ks)=true):(k=1∧ks=[])∨(k=2∧ks=[])∨(k=3∧ks=[])∨k=5∨(k=6∧2≤ks.length)∨(k=7∧ks.length=1)∨(k=8∧ks.length=1)∨(k=9∧1≤ks.length):=by
 rw[zaC,Bool.and_eq_true]at h;have h:=h.1;unfold zaE at h;by_cases h1:k=1
 ·subst h1;simp at h;simp[h.2]
 by_cases h2:k=2
 ·subst h2;simp at h;simp[h.2]
 by_cases h3:k=3
 ·subst h3;simp at h;simp[h.2]
 by_cases h4:k=4
 ·subst h4;simp at h;omega
 by_cases h5:k=5
 ·subst h5;simp
 by_cases h6:k=6
 ·subst h6;simp at h;simp;omega
 by_cases h7:k=7
 ·subst h7;simp at h;simp;omega
 by_cases h8:k=8
 ·subst h8;simp at h;simp;omega
 by_cases h9:k=9
 ·subst h9;simp at h;simp;omega
 simp[h1,h2,h3,h4,h5,h6,h7,h8,h9]at h
structure DOk (data:List Dat):Prop where
 ok:zaB data=true
theorem zuB{data:List Dat}(h:zaB data=true):data.length≤1000000∧(∀d∈data,∀c∈d.cons,c.args.length≤1000∧∀x∈c.args,x.nodes≤1000)∧∀d∈data,d.cons.length≤1000000:=by
 refine⟨by have:=ziK h;omega,λD hD c hc=>?_,λD hD=>?_⟩
 ·obtain⟨i,hi,rfl⟩:=List.mem_iff_getElem.1 hD;obtain⟨h1,h2⟩:=zg4 h hi c hc;exact⟨by omega,λx hx=>by have:=(h2 x hx).1;omega⟩
 ·obtain⟨i,hi,rfl⟩:=List.mem_iff_getElem.1 hD;have:=ziF h hi;omega
section
variable {data:List Dat} (hD:DOk data)
def zmR(data:List Dat)(v:VT):Prop:=∀(t:VT),zaz data 0 t=true→∀(H:zaa) (K:AV→zaa→Prop),K (.bool (zat data v t)) H→ACalls tP zjq [.sl (data.map Dat.cs) .none,.agg v.cs,.agg t.cs] H K
theorem zsH(vs ts:List VT)(hl:vs.length≤1000000)(hv:∀ v∈vs,zmR data v)(ht:∀ t∈ts,zaz data 0 t=true)(H:zaa)(K:AV→zaa→Prop)(hK:K (.bool (zbx data vs ts)) H):
  ACalls tP zhK [.sl (data.map Dat.cs) .none,.sl (VT.css vs) .none,.sl (VT.css ts) .none] H K:=by
 refine ACalls.out (zPP λhs=>?_);simp[zAw];refine⟨rfl,zCh (zat data) _ vs ts _ (by simp[AV.sc,AV.scV,AV.scA,AV.scB]) ?_ (by omega) _ ?_⟩
 ·intro i h1 h2 hle J K' hK';simp[aCallV,zBF];refine ACalls.out (zIJ λhs1=>?_);obtain⟨x,y,z,hvx,hx,hy,hz⟩:=zaU vs[i];obtain⟨x2,y2,z2,hvx2,hx2,hy2,hz2⟩:=zaU ts[i];simp[zx3,hvx,hvx2];rw[←hvx,←hvx2];refine hv _ (List.getElem_mem h1) _ (ht _ (List.getElem_mem h2)) _ _ ?_;refine Out.bool (H2:=H++[.cells [.sl (data.map Dat.cs) .none]]++J) (J:=[.cells (vs[i]).cs,.cells (ts[i]).cs]) (by simp) (by simp) (by simpa using hs1) (by simpa using hK')
 ·rw[←ziT];exact Out.bool rfl (Nat.le_refl _) hs hK
theorem i0(n:Nat):((n:Int) == 0)=(n == 0):=by rw[Bool.eq_iff_iff];simp
theorem zt8{ks:List VT}(h:0<ks.length):ks.getD 0 (.mk 0 0 [])=ks[0]:=by simp[List.getD_eq_getElem?_getD,h]
theorem zue{data:List Dat}{t:VT}{vs:List VT}{i:Nat}(h:i<vs.length):zcj data (vs.drop i) t=(zat data vs[i] t && zcj data (vs.drop (i+1)) t):=by rw[List.drop_eq_getElem_cons h,zcj]
include hD in
theorem zTU:∀(m:Nat) (v:VT),v.nodes≤m→v.nodes≤1000000→zmR data v:=by
 intro m;induction m with
 |zero=>intro v h;have:=v.nodes_pos;omega
 |succ m ih=>
  intro v hm hb t ht H K hK;obtain⟨vk,vn,vks⟩:=v;obtain⟨k,n,ks⟩:=t;refine ACalls.out (zM5 λhs=>?_);have hO:∀b J,zat data (.mk vk vn vks) (.mk k n ks)=b→Out H.length K (.bool b) (H++J):=λb J h=>Out.bool rfl (Nat.le_refl _) hs (h ▸ hK);have hll:=VT.len_le vks;have hnn:(VT.mk vk vn vks).nodes=VT.nodesL vks+1:=by simp[VT.nodes]
  have hkids:∀x∈vks,zmR data x:=λx hx=>ih x (by have:=zuC (k:=vk) (n:=vn) x hx;omega) (by have:=zgf (k:=vk) (n:=vn) x hx;omega);have htk:=zd0 ht;have hto:zaC data 0 (.mk k n ks)=true:=by rw[zaz,Bool.and_eq_true]at ht;exact ht.2
  have htn:(VT.mk k n ks).nodes≤200:=by rw[zaz,Bool.and_eq_true]at ht;exact of_decide_eq_true ht.1
  obtain⟨f1,f2,f3⟩:=zuB hD.ok;rcases zpt hto with ⟨rfl,rfl⟩|⟨rfl,rfl⟩|⟨rfl,rfl⟩|rfl|⟨rfl,hk⟩|⟨rfl,hk⟩|⟨rfl,hk⟩|⟨rfl,hk⟩
  ·simp[zeG,VT.cs,Nat.add_assoc];cases h1:(vk == 3) <;> simp
   ·exact hO _ _ (by simp[zat,h1])
   by_cases h2:-1099511627776≤vn <;> simp[h2]
   ·by_cases h3:vn≤1099511627776 <;> simp[h3]
    ·exact hO _ _ (by simp[zat,h1,h2,h3,i0])
    ·exact hO _ _ (by simp[zat,h1,h2,h3])
   ·exact hO _ _ (by simp[zat,h1,h2])
  ·simp[zeG,VT.cs,Nat.add_assoc];cases h1:(vk == 2) <;> simp
   ·exact hO _ _ (by simp[zat,h1])
   cases h2:(vn == 0) <;> simp[Nat.add_assoc]
   ·cases h3:(vn == 1) <;> simp
    ·exact hO _ _ (by simp[zat,h1,h2,h3])
    ·exact hO _ _ (by simp[zat,h1,h2,h3,i0])
   ·exact hO _ _ (by simp[zat,h1,h2,i0])
  ·simp[zeG,VT.cs,Nat.add_assoc];cases h1:(vk == 1) <;> simp
   ·exact hO _ _ (by simp[zat,h1])
   cases h2:(vn == 0) <;> simp[Nat.add_assoc]
   ·exact hO _ _ (by simp[zat,h1,h2])
   ·exact hO _ _ (by simp[zat,h1,h2,i0])
  ·-- a data type
   simp[zeG,VT.cs,Nat.add_assoc];cases h1:(vk == 5) with
   |false=>
    have:(vk != 5)=true:=by simp[bne,h1]
    simp[this];exact hO _ _ (by simp[zat,h1])
   |true=>
   have h1':(vk != 5)=false:=by simp[bne,h1]
   by_cases h2:vn<0
   ·simp[h1',h2];exact hO _ _ (by simp[zat,h1];omega)
   by_cases h3:8≤vn
   ·simp[h1',h2,h3];exact hO _ _ (by simp[zat,h1];omega)
   simp[h1',h2,h3,Nat.add_assoc];have e:∀o,zbl data (.mk 5 n ks) vn=o→zat data (.mk vk vn vks) (.mk 5 n ks)=zeS data vks o:=λo ho=>by
    have q1:0≤vn:=by omega
    have q2:vn<8:=by omega
    simp[zat,h1,q1,q2,ho]
   have hcs:(VT.mk 5 n ks).cs=[.int .i64 5,.int .i64 n,.sl (VT.css ks) .none]:=rfl;rw[←hcs];refine zAA data f1 f2 f3 (.mk 5 n ks) (by omega) vn _ _ ?_;cases hf:zbl data (.mk 5 n ks) vn with
   |none=>simp[zel];exact hO _ _ (by rw[e _ hf,znx])
   |some l=>simp[zel,hcs];refine zsH vks l (by omega) hkids (ziP hD.ok hto hf) _ _ ?_;exact hO _ _ (by rw[e _ hf,zny])
  ·simp[zeG,VT.cs,Nat.add_assoc];cases h1:(vk == 4) <;> simp
   ·exact hO _ _ (by simp[zat,h1])
   cases h2:(vn == 0) <;> simp[Nat.add_assoc]
   ·exact hO _ _ (by simp[zat,h1,h2])
   refine zsH vks ks (by omega) hkids htk _ _ ?_;exact hO _ _ (by simp[zat,h1,h2])
  ·-- an array
   simp[zeG,VT.cs,Nat.add_assoc];cases h1:(vk == 6) <;> simp
   ·exact hO _ _ (by simp[zat,h1])
   cases h2:(vn == 0) <;> simp[Nat.add_assoc]
   ·exact hO _ _ (by simp[zat,h1,h2])
   by_cases h3:vks.length≤4096;case neg=>
    have h3':¬(vks.length:Int)≤4096:=by omega
    simp[h3,h3'];exact hO _ _ (by simp[zat,h1,h2,h3])
   have h3':(vks.length:Int)≤4096:=by omega
   simp[h3,h3'];refine⟨⟨rfl,rfl⟩,?_⟩;have hk0:0<ks.length:=by omega
   have e:zat data (.mk vk vn vks) (.mk 7 n ks)=zcj data vks ks[0]:=by have:=zt8 hk0;simp[zat,h1,h2,h3,this,hk0]
   refine zBY vks (by omega) _ _ _ (by simp[AV.sc,AV.scV,AV.scA,AV.scB]) (λi H'=>H'=H++[.cells [.sl (data.map Dat.cs) .none],.cells [.int .i64 vk,.int .i64 vn,.sl (VT.css vks) .none],.cells [.int .i64 7,.int .i64 n,.sl (VT.css ks) .none]]∧zcj data (vks.drop i) ks[0]=zcj data vks ks[0]) ⟨rfl,by simp⟩ ?_ ?_
   ·rintro i hi H' hle ⟨rfl,ho⟩;rw[zue hi]at ho;simp[aCallV,zBE];refine ACalls.out (zGf λhs1=>?_);obtain⟨x,y,z,hvx,hx,hy,hz⟩:=zaU vks[i];obtain⟨x2,y2,z2,hvx2,hx2,hy2,hz2⟩:=zaU ks[0];simp[zw5,hvx,hk0,hvx2,Nat.add_assoc];rw[←hvx,←hvx2];refine za0 (.bool (zat data vks[i] ks[0])) (λJ=>hkids _ (List.getElem_mem hi) ks[0] (htk _ (List.getElem_mem hk0)) _ _ ⟨rfl,rfl⟩) ?_;simp;cases hb:zat data vks[i] ks[0] with
    |true=>rw[hb,Bool.true_and]at ho;exact Out.bool (H2:=H++[.cells [.sl (data.map Dat.cs) .none],.cells [.int .i64 vk,.int .i64 vn,.sl (VT.css vks) .none],.cells [.int .i64 7,.int .i64 n,.sl (VT.css ks) .none]]) (J:=[_]) (by simp;rfl) (by simp) hs1 (.inl ⟨rfl,rfl,ho⟩)
    |false=>rw[hb,Bool.false_and]at ho;refine Out.bool (H2:=H++[.cells [.sl (data.map Dat.cs) .none],.cells [.int .i64 vk,.int .i64 vn,.sl (VT.css vks) .none],.cells [.int .i64 7,.int .i64 n,.sl (VT.css ks) .none]]) (J:=[_]) (by simp;rfl) (by simp) hs1 (.inr ⟨rfl,?_⟩);exact hO _ _ (by rw[e,←ho])
   ·rintro H' ⟨rfl,ho⟩;rw[List.drop_length,zcj]at ho;simp;exact hO _ _ (by rw[e,←ho])
  ·simp[zeG,VT.cs,Nat.add_assoc];cases h1:(vk == 7) <;> simp
   ·exact hO _ _ (by simp[zat,h1])
   cases h2:(vn == 0) <;> simp[Nat.add_assoc]
   ·exact hO _ _ (by simp[zat,h1,h2])
   refine zsH vks ks (by omega) hkids htk _ _ ?_;exact hO _ _ (by simp[zat,h1,h2])
  ·simp[zeG,VT.cs,Nat.add_assoc];cases h1:(vk == 8) <;> simp
   ·exact hO _ _ (by simp[zat,h1])
   by_cases h2:0≤vn <;> simp[h2]
   ·by_cases h3:vn<64 <;> simp[h3]
    ·exact hO _ _ (by simp[zat,h1,h2,h3,i0])
    ·exact hO _ _ (by simp[zat,h1,h2,h3])
   ·exact hO _ _ (by simp[zat,h1,h2])
end
section
variable {data:List Dat} (hD:DOk data)
def zmQ(data:List Dat)(v:VT):Prop:=∀(t:VT),zaz data 0 t=true→∀(H:zaa) (K:AV→zaa→Prop),K (.bool (zat data v t)) H→ACalls tP zhA [.sl (data.map Dat.cs) .none,.agg v.cs,.agg t.cs] H K
theorem zCg{f:VT→VT→Bool}{x y:List VT}{i:Nat}(h:i<x.length)(h':i<y.length):zbS f (x.drop i) (y.drop i)=(f x[i] y[i] && zbS f (x.drop (i+1)) (y.drop (i+1))):=by rw[List.drop_eq_getElem_cons h,List.drop_eq_getElem_cons h',zbS]
theorem zzJ(vs ts:List VT)(hl:vs.length≤1000000)(hv:∀ v∈vs,zmQ data v)(ht:∀ t∈ts,zaz data 0 t=true)(H:zaa)(K:AV→zaa→Prop)(hK:K (.bool (zbx data vs ts)) H):
  ACalls tP zju [.sl (data.map Dat.cs) .none,.sl (VT.css vs) .none,.sl (VT.css ts) .none] H K:=by
 refine ACalls.out (zNI λhs=>?_);rw[ziT]at hK;have hO:∀b,zbS (zat data) vs ts=b→Out H.length K (.bool b) H:=λb h=>by have:=Out.bool (J:=[]) rfl (Nat.le_refl _) hs (h ▸ hK);simpa using this
 by_cases hlen:vs.length=ts.length;case neg=>
  have hl':((vs.length:Int) != ts.length)=true:=by simp;omega
  simp[zrX,hl'];exact hO _ (ziN hlen)
 simp[zrX,hlen];refine zNG (Inv:=λq t H'=>∃i:Nat,i≤vs.length∧q=vs.length-i∧t=.int .i64 i∧zbS (zat data) (vs.drop i) (ts.drop i)=zbS (zat data) vs ts∧H=H') vs.length ?_ ?_
 ·intro _;exact⟨0,by omega,by omega,rfl,by simp,rfl⟩
 rintro q t H' ⟨i,hi,rfl,rfl,ho,rfl⟩ hsc hle hsF Kb hKb;by_cases hlt:i<vs.length
 ·have hlt':i<ts.length:=by omega
  have hlt2:(i:Int)<ts.length:=by omega
  rw[zCg hlt hlt']at ho;obtain⟨x,y,z,hvx,hx,hy,hz⟩:=zaU vs[i];obtain⟨x2,y2,z2,hvx2,hx2,hy2,hz2⟩:=zaU ts[i];simp[zrY,hlt,hlt',hlt2,hvx,hvx2];rw[←hvx,←hvx2];refine za0 (.bool (zat data vs[i] ts[i])) (λJ=>hv _ (List.getElem_mem hlt) _ (ht _ (List.getElem_mem hlt')) _ _ ⟨rfl,rfl⟩) ?_;cases hb:zat data vs[i] ts[i] with
  |false=>rw[hb,Bool.false_and]at ho;simp;exact hO _ ho.symm
  |true=>rw[hb,Bool.true_and]at ho;simp;rw[zax (by omega) (by omega)];refine hKb _ _ ⟨vs.length-(i+1),by omega,Back.here (Nat.le_refl _) hs ?_ ⟨_,rfl,i+1,by omega,rfl,by simp,ho,rfl⟩⟩;simp[zmd,AV.sc,AV.scV,AV.scA,AV.scB]
 ·obtain rfl:i=vs.length:=by omega
  rw[List.drop_length,hlen,List.drop_length,zbS]at ho;simp[zrY,hlen];exact hO _ ho.symm
theorem zCy{data:List Dat}{vks ks:List VT}(h1:vks.length=1)(h2:ks.length=1):zbx data vks ks=zcj data vks (ks[0]'(by omega)):=by
 match vks,ks,h1,h2 with
 |[v],[k],_,_=>simp[zbx,zcj]
include hD in
theorem zLR:∀(m:Nat) (v:VT),v.nodes≤m→v.nodes≤1000000→zmQ data v:=by
 intro m;induction m with
 |zero=>intro v h;have:=v.nodes_pos;omega
 |succ m ih=>
  intro v hm hb t ht H K hK;obtain⟨vk,vn,vks⟩:=v;obtain⟨k,n,ks⟩:=t;refine ACalls.out (zLP λhs=>?_);have hO:∀b J,zat data (.mk vk vn vks) (.mk k n ks)=b→Out H.length K (.bool b) (H++J):=λb J h=>Out.bool rfl (Nat.le_refl _) hs (h ▸ hK);have hll:=VT.len_le vks;have hnn:(VT.mk vk vn vks).nodes=VT.nodesL vks+1:=by simp[VT.nodes]
  have hkids:∀x∈vks,zmQ data x:=λx hx=>ih x (by have:=zuC (k:=vk) (n:=vn) x hx;omega) (by have:=zgf (k:=vk) (n:=vn) x hx;omega);have htk:=zd0 ht;have hto:zaC data 0 (.mk k n ks)=true:=by rw[zaz,Bool.and_eq_true]at ht;exact ht.2
  have htn:(VT.mk k n ks).nodes≤200:=by rw[zaz,Bool.and_eq_true]at ht;exact of_decide_eq_true ht.1
  obtain⟨f1,f2,f3⟩:=zuB hD.ok;have loop:∀ (hk:ks.length=1) ,zat data (.mk vk vn vks) (.mk k n ks)=zcj data vks (ks[0]'(by omega)) →
    zrt (.sl (data.map Dat.cs) .none) (.ptr H.length 0) (.ptr (H.length+1) 0) (.int .i64 vks.length) (.int .i64 0) (H++[.cells [.int .i64 vk,.int .i64 vn,.sl (VT.css vks) .none],.cells [.int .i64 k,.int .i64 n,.sl (VT.css ks) .none]]) (Out H.length K):=by
   intro hk e;have hk0:0<ks.length:=by omega
   refine zLN (Inv:=λq t10 H'=>∃i:Nat,i≤vks.length∧q=vks.length-i∧t10=.int .i64 i∧zcj data (vks.drop i) ks[0]=zcj data vks ks[0]∧H'=H++[.cells [.int .i64 vk,.int .i64 vn,.sl (VT.css vks) .none],.cells [.int .i64 k,.int .i64 n,.sl (VT.css ks) .none]]) vks.length ?_ ?_
   ·intro _;exact⟨0,by omega,by omega,rfl,by simp,rfl⟩
   rintro q t10 H' ⟨i,hi,rfl,rfl,ho,rfl⟩ hsc hle hsF Kb hKb;by_cases hlt:i<vks.length
   ·rw[zue hlt]at ho;obtain⟨x,y,z,hvx,hx,hy,hz⟩:=zaU vks[i];obtain⟨x2,y2,z2,hvx2,hx2,hy2,hz2⟩:=zaU ks[0];simp[zrr,hlt,hvx,hk0,hvx2];rw[←hvx,←hvx2];refine za0 (.bool (zat data vks[i] ks[0])) (λJ=>hkids _ (List.getElem_mem hlt) ks[0] (htk _ (List.getElem_mem hk0)) _ _ ⟨rfl,rfl⟩) ?_;cases hb2:zat data vks[i] ks[0] with
    |false=>rw[hb2,Bool.false_and]at ho;simp;exact hO _ _ (e.trans ho.symm)
    |true=>rw[hb2,Bool.true_and]at ho;simp;rw[zax (by omega) (by omega)];refine hKb _ _ ⟨vks.length-(i+1),by omega,Back.here (by simp) hsc ?_ ⟨_,rfl,i+1,by omega,rfl,by simp,ho,rfl⟩⟩;simp[zlK,AV.sc,AV.scV,AV.scA,AV.scB]
   ·obtain rfl:i=vks.length:=by omega
    rw[List.drop_length,zcj]at ho;simp[zrr];exact hO _ _ (e.trans ho.symm)
  rcases zpt hto with ⟨rfl,rfl⟩|⟨rfl,rfl⟩|⟨rfl,rfl⟩|rfl|⟨rfl,hk⟩|⟨rfl,hk⟩|⟨rfl,hk⟩|⟨rfl,hk⟩
  ·simp[zeE,VT.cs,Nat.add_assoc];cases h1:(vk == 3) <;> simp
   ·exact hO _ _ (by simp[zat,h1])
   by_cases h2:-1099511627776≤vn <;> simp[h2]
   ·by_cases h3:vn≤1099511627776 <;> simp[h3]
    ·exact hO _ _ (by simp[zat,h1,h2,h3,i0])
    ·exact hO _ _ (by simp[zat,h1,h2,h3])
   ·exact hO _ _ (by simp[zat,h1,h2])
  ·simp[zeE,VT.cs,Nat.add_assoc];cases h1:(vk == 2) <;> simp
   ·exact hO _ _ (by simp[zat,h1])
   cases h2:(vn == 0) <;> simp
   ·cases h3:(vn == 1) <;> simp
    ·exact hO _ _ (by simp[zat,h1,h2,h3])
    ·exact hO _ _ (by simp[zat,h1,h2,h3,i0])
   ·exact hO _ _ (by simp[zat,h1,h2,i0])
  ·simp[zeE,VT.cs,Nat.add_assoc];cases h1:(vk == 1) <;> simp
   ·exact hO _ _ (by simp[zat,h1])
   cases h2:(vn == 0) <;> simp
   ·exact hO _ _ (by simp[zat,h1,h2])
   ·exact hO _ _ (by simp[zat,h1,h2,i0])
  ·-- a data type
   simp[zeE,VT.cs,Nat.add_assoc];cases h1:(vk == 5) with
   |false=>
    have:(vk != 5)=true:=by simp[bne,h1]
    simp[this];exact hO _ _ (by simp[zat,h1])
   |true=>
   have h1':(vk != 5)=false:=by simp[bne,h1]
   by_cases h2:vn<0
   ·simp[h1',h2];exact hO _ _ (by simp[zat,h1];omega)
   by_cases h3:8≤vn
   ·simp[h1',h2,h3];exact hO _ _ (by simp[zat,h1];omega)
   simp[h1',h2,h3,Nat.add_assoc];have e:∀o,zbl data (.mk 5 n ks) vn=o→zat data (.mk vk vn vks) (.mk 5 n ks)=zeS data vks o:=λo ho=>by
    have q1:0≤vn:=by omega
    have q2:vn<8:=by omega
    simp[zat,h1,q1,q2,ho]
   have hcs:(VT.mk 5 n ks).cs=[.int .i64 5,.int .i64 n,.sl (VT.css ks) .none]:=rfl;rw[←hcs];refine zNQ data f1 f2 f3 (.mk 5 n ks) (by omega) vn _ _ ?_;cases hf:zbl data (.mk 5 n ks) vn with
   |none=>simp[zel];exact hO _ _ (by rw[e _ hf,znx])
   |some l=>simp[zel,hcs];refine zzJ vks l (by omega) hkids (ziP hD.ok hto hf) _ _ ?_;exact hO _ _ (by rw[e _ hf,zny])
  ·simp[zeE,VT.cs,Nat.add_assoc];cases h1:(vk == 4) <;> simp
   ·exact hO _ _ (by simp[zat,h1])
   cases h2:(vn == 0) <;> simp
   ·exact hO _ _ (by simp[zat,h1,h2])
   refine zzJ vks ks (by omega) hkids htk _ _ ?_;exact hO _ _ (by simp[zat,h1,h2])
  ·-- an array
   simp[zeE,zie,VT.cs,Nat.add_assoc];have hk0:0<ks.length:=by omega
   cases h1:(vk == 6) with
   |false=>
    have:(vk != 6)=true:=by simp[bne,h1]
    simp[this];exact hO _ _ (by simp[zat,h1])
   |true=>
   have h1':(vk != 6)=false:=by simp[bne,h1]
   by_cases h3:vks.length≤4096;case neg=>
    have h3':(4096:Int)<vks.length:=by omega
    simp[h1',h3'];exact hO _ _ (by simp[zat,h1,h3])
   have h3':¬(4096:Int)<vks.length:=by omega
   cases h2:(vn == 0) with
   |false=>
    have:(vn != 0)=true:=by simp[bne,h2]
    simp[h1',h3',this];exact hO _ _ (by simp[zat,h1,h2])
   |true=>
   have h2':(vn != 0)=false:=by simp[bne,h2]
   simp[h1',h3',h2'];exact loop hk (by have:=zt8 hk0;simp[zat,h1,h2,h3,this,hk0])
  ·simp[zeE,zie,VT.cs,Nat.add_assoc];have hk0:0<ks.length:=by omega
   cases h1:(vk == 7) with
   |false=>
    have:(vk != 7)=true:=by simp[bne,h1]
    simp[this];exact hO _ _ (by simp[zat,h1])
   |true=>
   have h1':(vk != 7)=false:=by simp[bne,h1]
   by_cases h3:vks.length=1;case neg=>
    have h3':((vks.length:Int) != 1)=true:=by simp;omega
    simp[h1',h3'];refine hO _ _ ?_;have:zbx data vks ks=false:=by rw[ziT];exact ziN (by omega)
    simp[zat,h1,this]
   have h3':((vks.length:Int) != 1)=false:=by simp;omega
   cases h2:(vn == 0) with
   |false=>
    have:(vn != 0)=true:=by simp[bne,h2]
    simp[h1',h3',this];exact hO _ _ (by simp[zat,h1,h2])
   |true=>
   have h2':(vn != 0)=false:=by simp[bne,h2]
   simp[h1',h3',h2'];exact loop hk (by rw[←zCy h3 hk];simp[zat,h1,h2])
  ·simp[zeE,zie,VT.cs,Nat.add_assoc];cases h1:(vk == 8) <;> simp
   ·exact hO _ _ (by simp[zat,h1])
   by_cases h2:0≤vn <;> simp[h2]
   ·by_cases h3:vn<64 <;> simp[h3]
    ·exact hO _ _ (by simp[zat,h1,h2,h3,i0])
    ·exact hO _ _ (by simp[zat,h1,h2,h3])
   ·exact hO _ _ (by simp[zat,h1,h2])
end
def zhi(data:List Dat)(v t:VT):Bool:=zdb data t && zat data v t
def zAL(c:Con):Prop:=True∧c.args.length≤8∧∀t∈c.args,t.nodes≤1000000
def zAM(d:Dat):Prop:=True∧d.cons.length≤10∧∀c∈d.cons,zAL c
def zmS(ds:List Dat):Prop:=ds.length≤14∧∀d∈ds,zAM d
theorem zLt(data:List Dat)(hkd:zmS data)(H:zaa)(K:AV→zaa→Prop)(hK:∀b,(b=true↔RData data)→K (.bool b) H):ACalls tP zoq [.sl (data.map Dat.cs) .none] H K:=by
 refine ACalls.out (zLz λhs=>?_);obtain⟨kl,kd⟩:=hkd;have hF:¬RData data→∀J,Out H.length K (.bool false) (H++J):=λh J=>Out.bool rfl (Nat.le_refl _) hs (hK _ (by simp[h]));have hT:∀b:Bool,(b=true↔RData data)→∀J,Out H.length K (.bool b) (H++J):=λb h J=>Out.bool rfl (Nat.le_refl _) hs (hK _ h);by_cases h12:data.length>12
 ·have h12':(12:Int)<data.length:=by omega
  simp[zrj,h12'];have:=hF (λh=>by have:=h.len;omega) [];simpa using this
 have h12':¬(12:Int)<data.length:=by omega
 simp[zrj,h12'];unfold zlG;refine ALoop.own 3 zbr 1 rfl ?_;refine ALoop.own 4 zbr 1 rfl ?_;rw[List.append_assoc];have hcn:∀d,(zaX (data.take d)).length≤140:=λd=>by have:=ztC (data.take d) (λD hD=>(kd D (List.mem_of_mem_take hD)).2.1);rw[List.length_take]at this;have:min d data.length*10≤14*10:=Nat.mul_le_mul_right _ (by omega);omega
 have hl1:(H++[AB.perm zbr 1 0]).length=H.length+1:=by simp
 rw[hl1];show zlG (.sl (data.map Dat.cs) .none) (.sl [] (.own H.length)) (.sl [] (.own (H.length+1))) (.int .i64 0) (H++[.perm zbr 1 0,.perm zbr 1 0]) (Out H.length K);have hsP:∀m n,HSc (H++[.perm zbr 1 m,.perm zbr 1 n]):=λm n=>hs.append rfl;refine zLx (Inv:=λq t3 t4 t5 H'=>∃d:Nat,d≤data.length∧q=data.length-d∧t5=.int .i64 d∧t3=.sl (strs (zbh (data.take d))) (.own H.length)∧t4=.sl (strs (zaX (data.take d))) (.own (H.length+1))∧(∀j (h:j<data.length),j<d→RDat data j data[j])∧H'=H++[.perm zbr 1 d,.perm zbr 1 (zaX (data.take d)).length]) data.length ?_ ?_
 ·intro _;exact⟨0,by omega,by omega,rfl,by simp[zbh,strs],by simp[zaX,strs],by omega,by simp[zaX]⟩
 ·rintro q t3 t4 t5 H' ⟨d,hd,rfl,rfl,rfl,rfl,hok,rfl⟩ hsc hlen hsF Kb hKb;by_cases hlt:d<data.length
  ·have hbad:¬ RDat data d data[d]→∀ J,Out H.length K (.bool false) (H++J):=λh=>hF λhh=>h (hh.dats d hlt);have hcd:=hcn d;have hds:=zCf hlt;have hcs:=zBP hlt;obtain⟨kn,kc,kcc⟩:=kd _ (List.getElem_mem hlt);have hdl:(zbh (data.take d)).length=d:=by simp[zbh];omega
   generalize hD:data[d]=D at *;have hge:(data.map Dat.cs)[d]?.getD []=[.str D.name,.int .i64 D.vars,.sl (D.cons.map Con.cs) .none]:=by simp[hlt,hD,Dat.cs]
   by_cases hv0:D.vars<0
   ·simp[zfP,hlt,hD,Dat.cs,hv0];exact hbad (λh=>by have:=h.v0;omega) _
   by_cases hv6:6<D.vars
   ·simp[zfP,hlt,hD,Dat.cs,hv0,hv6];exact hbad (λh=>by have:=h.v6;omega) _
   by_cases hc1:D.cons.length<1
   ·have hc1':(D.cons.length:Int)<1:=by omega
    simp[zfP,hlt,hD,Dat.cs,hv0,hv6,hc1'];exact hbad (λh=>by have:=h.c1;omega) _
   have hc1':¬(D.cons.length:Int)<1:=by omega
   by_cases hc8:8<D.cons.length
   ·have hc8':(8:Int)<D.cons.length:=by omega
    simp[zfP,hlt,hD,Dat.cs,hv0,hv6,hc1',hc8'];exact hbad (λh=>by have:=h.c8;omega) _
   have hc8':¬(8:Int)<D.cons.length:=by omega
   simp[zfP,hlt,hD,Dat.cs,hv0,hv6,hc1',hc8'];refine zzx _ _ _ ?_;cases hup:zb3 D.name with
   |false=>simp;exact hbad (λh=>by have:=h.up;rw[hup]at this;cases this) _
   |true=>
   simp[ztq];simp[zay,zbb,za2,hdl];refine⟨by omega,?_⟩;rw[←zwk,←hds];refine zLv (Inv:=λq t4 t7 H'=>∃k:Nat,k≤D.cons.length∧q=D.cons.length-k∧t7=.int .i64 k∧t4=.sl (strs (zaX (data.take d)++(D.cons.map Con.name).take k)) (.own (H.length+1))∧(∀c∈D.cons.take k,RCon data d D.vars c)∧H'=H++[.perm zbr 1 (d+1),.perm zbr 1 ((zaX (data.take d)).length+k),.cells [.str D.name,.int .i64 D.vars,.sl (D.cons.map Con.cs) .none]]) D.cons.length ?_ ?_
   ·intro _;exact⟨0,by omega,by omega,rfl,by simp,by simp,by simp⟩
   ·rintro q t4 t7 H' ⟨k,hk,rfl,rfl,rfl,hck,rfl⟩ hsc1 hlen1 hsF1 Kb1 hKb1;have hlk:(zaX (data.take d)++(D.cons.map Con.name).take k).length=(zaX (data.take d)).length+k:=by simp;omega
    by_cases hkl:k<D.cons.length
    ·have hkI:(k:Int)<D.cons.length:=by omega
     have hca:=zBV hkl;have hcbad:¬RCon data d D.vars D.cons[k]→∀J,Out H.length K (.bool false) (H++J):=λh=>hbad λhh=>h (hh.cons _ (List.getElem_mem hkl));have hns:zaX (data.take d)++(D.cons.map Con.name).take (k+1)=(zaX (data.take d)++(D.cons.map Con.name).take k)++[(D.cons[k]).name]:=by rw[zpm (by simpa using hkl)];simp
     obtain⟨_,ka,kan⟩:=kcc _ (List.getElem_mem hkl);generalize hC:D.cons[k]=C at *;simp[zrk,hkl,hC,Con.cs];refine zzx _ _ _ ?_;cases hupc:zb3 C.name with
     |false=>simp;exact hcbad (λh=>by have:=h.up;rw[hupc]at this;cases this) _
     |true=>
     by_cases ha6:6<C.args.length
     ·have ha6':(6:Int)<C.args.length:=by omega
      simp[hkl,hC,Con.cs,ha6'];exact hcbad (λh=>by have:=h.len;omega) _
     have ha6':¬(6:Int)<C.args.length:=by omega
     simp[hkl,hC,Con.cs,ha6',ztq];generalize hA:zaX (data.take d)++(D.cons.map Con.name).take k=A at *;have hAl:A.length=(zaX (data.take d)).length+k:=hlk;simp[zay,zbb,za2,hAl,hkl,hC,Con.cs];refine⟨by omega,?_⟩;rw[←zwk,←hns];refine zLw (Inv:=λq t95 H'=>∃i:Nat,i≤C.args.length∧q=C.args.length-i∧t95=.int .i64 i∧(∀x∈C.args.take i,zet data d D.vars x=true)∧H'=H++[.perm zbr 1 (d+1),.perm zbr 1 ((zaX (data.take d)).length+k+1),.cells [.str D.name,.int .i64 D.vars,.sl (D.cons.map Con.cs) .none]]) C.args.length ?_ ?_
     ·intro _;exact⟨0,by omega,by omega,rfl,by simp,rfl⟩
     ·rintro q t95 H' ⟨i,hi,rfl,rfl,hok3,rfl⟩ hsc2 hlen2 hsF2 Kb2 hKb2;by_cases hil:i<C.args.length
      ·have hxn:=kan _ (List.getElem_mem hil);have habad:zet data d D.vars C.args[i]=false→∀ J,Out H.length K (.bool false) (H++J):=λh=>hcbad λhh=>by have:=hh.args _ (List.getElem_mem hil);rw[h]at this;cases this
       obtain⟨x,y,z,hvx,hx,hy,hz⟩:=vt3 C.args[i];have good:zet data d D.vars C.args[i]=true→zlF (.sl (data.map Dat.cs) .none) (.sl (strs (zbh (data.take (d+1)))) (.own H.length)) (.sl (strs (zaX (data.take d)++(D.cons.map Con.name).take (k+1))) (.own (H.length+1))) (.int .i64 d) (.ptr (H.length+2) 0) (.int .i64 k) (.sl (VT.css C.args) .none) (.int .i64 C.args.length) (.int .i64 i) (H++[.perm zbr 1 (d+1),.perm zbr 1 ((zaX (data.take d)).length+k+1),.cells [.str D.name,.int .i64 D.vars,.sl (D.cons.map Con.cs) .none],.cells [x,y,z]]) (Out H.length K) Kb Kb1 Kb2:=λhg=>by simp[zlF,zyS];rw[zax (by omega) (by omega)];refine hKb2 _ _ ⟨C.args.length-(i+1),by omega,Back.at (J:=[_]) (H2:=H++[.perm zbr 1 (d+1),.perm zbr 1 ((zaX (data.take d)).length+k+1),.cells [.str D.name,.int .i64 D.vars,.sl (D.cons.map Con.cs) .none]]) (by simp;rfl) (by simp) hsc2 ?_ ⟨_,rfl,i+1,by omega,rfl,by simp,zuV hil hok3 hg,rfl⟩⟩;simp[zlD,AV.sc,AV.scV,AV.scA,AV.scB]
       simp[zrl,hil,hvx,hx,hy,hz];rw[←hvx];refine zAK _ _ _ (by omega) _ _ ?_;cases hself:zcl d D.vars C.args[i] with
       |true=>rw[hvx];simp;exact good (by simp[zet,hself])
       |false=>
        simp[hvx];refine⟨⟨by omega,λa _=>rfl⟩,?_⟩;rw[←List.map_take,←hvx];refine za0 (.bool (zaz (data.take d) D.vars C.args[i])) (λJ=>zyY (data.take d) (by simp;omega) _ _ (by omega) _ _ ⟨rfl,rfl⟩) ?_;cases hty:zaz (data.take d) D.vars C.args[i] with
        |false=>simp;exact habad (by simp[zet,hself,hty]) _
        |true=>rw[hvx];simp;exact good (by simp[zet,hty])
      ·obtain rfl:i=C.args.length:=by omega
       rw[List.take_length]at *;simp[zrl];rw[zax (by omega) (by omega)];refine hKb1 _ _ ⟨D.cons.length-(k+1),by omega,Back.here (by simp) hsc2 ?_ ⟨_,_,rfl,k+1,by omega,rfl,by simp,rfl,?_,by simp[Nat.add_assoc]⟩⟩
       ·simp[zlC,AV.sc,AV.scV,AV.scA,AV.scB]
       ·exact zuV hkl hck (by rw[hC];exact⟨hupc,by omega,hok3⟩)
    ·obtain rfl:k=D.cons.length:=by omega
     rw[List.take_length]at *;simp[zrk];rw[zax (by omega) (by omega)];refine hKb _ _ ⟨data.length-(d+1),by omega,Back.at (J:=[_]) (H2:=H++[.perm zbr 1 (d+1),.perm zbr 1 (zaX (data.take (d+1))).length]) (by rw[hcs];simp;rfl) (by simp) (hsP _ _) ?_ ⟨_,_,_,rfl,d+1,by omega,rfl,by simp,rfl,by rw[hcs];exact congrArg (λl=>AV.sl (strs (zaX (data.take d)++l)) (.own (H.length+1))) (List.take_of_length_le (Nat.le_of_eq (List.length_map _))),λj hj hji=>?_,rfl⟩⟩
     ·simp[zlE,AV.sc,AV.scV,AV.scA,AV.scB]
     ·by_cases hjd:j=d
      ·subst hjd;rw[hD];exact⟨by omega,by omega,by omega,by omega,hup,hck⟩
      ·exact hok j hj (by omega)
  ·obtain rfl:d=data.length:=by omega
   rw[List.take_length]at *;have hdn:(zbh data).length=data.length:=by simp[zbh]
   have hcn':=hcn data.length;rw[List.take_length]at hcn';simp[zfP];refine zvK _ (by omega) _ _ ?_;cases hr:zb2 (zbh data) with
   |true=>simp;refine hT _ ?_ _;simp;intro h;have:=zoY h.names;rw[hr]at this;cases this
   |false=>simp;refine zvK _ (by omega) _ _ ?_;refine hT _ ?_ _;simp only[zb2,Bool.not_eq_false',decide_eq_true_eq,Bool.not_not]at hr ⊢;exact⟨λh=>⟨by omega,λj hj=>hok j hj hj,hr,h⟩,λh=>h.cons⟩
end Go.Proofs.YtaifokkaaahdoaaGreatDoor
