import Derived.Test.YtaifokkaaahdoaaGreatDoorKNum
import Derived.Test.YtaifokkaaahdoaaGreatDoorProg
import Derived.KernelRfl
import Derived.Test.YtaifokkaaahdoaaGreatDoorLI9
import Derived.Test.YtaifokkaaahdoaaGreatDoorKP1
import Derived.Test.YtaifokkaaahdoaaGreatDoorLE4
import Derived.Test.YtaifokkaaahdoaaGreatDoorLA3
import Derived.Test.YtaifokkaaahdoaaGreatDoorLE7
set_option linter.unusedSectionVars false
set_option linter.unusedSimpArgs false
set_option linter.unusedVariables false
set_option maxRecDepth 8000
namespace Go.Proofs.YtaifokkaaahdoaaGreatDoor
open Go Go.Abs
set_option maxRecDepth 100000
def zNJ(_:Nat):List Bool:=[]
noncomputable def zNK:Code:=Tryz.f7.body.getD .skip
def zq5(H:zaa)(K:Kt):Prop:=
 zao [(.int .i64 0),(.int .i64 0),.snil] [(0,1),(1,1),(2,1)] [(0,(.int .i64 1))] λt8=>
 zas 3 [(.int .i64 0),(.int .i64 0),.snil] 1 [(0,t8)] λt9=>
 zao [(.int .i64 0),(.int .i64 0),.snil] [(0,1),(1,1),(2,1)] [(0,(.int .i64 5)),(2,t9)] λt10=>
 zay [(.int .i64 0),(.int .i64 0),.snil] H λt1 H=>
 zak 3 t1 t10 H λH=>
 zaQ H (λH K'=>ACalls tP zhY [] H K') λt12=>
 zad H (λK'=>zam true 3 t1 H (K' · H)) λt13=>
 zad H (λK'=>zas 1 [(.int .i64 0)] 2 [(0,(.int .i64 0)),(1,(.int .i64 1))] (K' · H)) λt14=>
 zaQ H (λH K'=>ACalls tP ze7 [t12,t13,(.int .i64 1),t14] H K') λt15=>
 zad H (λK'=>K' t15 H) λt11=>
 zad H (λK'=>zaN t11 0 (K' · H)) λt16=>
 zad H (λK'=>zaN t11 1 (K' · H)) λt17=>
 zad H (λK'=>K' t16 H) λt2=>
 zad H (λK'=>K' t17 H) λt3=>
 zaQ H (λH K'=>ACalls tP zhY [] H K') λt19=>
 zad H (λK'=>zam true 3 t1 H (K' · H)) λt20=>
 zad H (λK'=>zas 1 [(.int .i64 0)] 2 [(0,(.int .i64 0)),(1,(.int .i64 1))] (K' · H)) λt21=>
 zaQ H (λH K'=>ACalls tP ze7 [t19,t20,(.int .i64 2),t21] H K') λt22=>
 zad H (λK'=>K' t22 H) λt18=>
 zad H (λK'=>zaN t18 0 (K' · H)) λt23=>
 zad H (λK'=>zaN t18 1 (K' · H)) λt24=>
 zad H (λK'=>K' t23 H) λt4=>
 zad H (λK'=>K' t24 H) λt5=>
 zaQ H (λH K'=>ACalls tP zhY [] H K') λt26=>
 zad H (λK'=>zam true 3 t1 H (K' · H)) λt27=>
 zad H (λK'=>zas 1 [(.int .i64 0)] 2 [(0,(.int .i64 0)),(1,(.int .i64 1))] (K' · H)) λt28=>
 zaQ H (λH K'=>ACalls tP ze7 [t26,t27,(.int .i64 5),t28] H K') λt29=>
 zad H (λK'=>K' t29 H) λt25=>
 zad H (λK'=>zaN t25 0 (K' · H)) λt30=>
 zad H (λK'=>zaN t25 1 (K' · H)) λt31=>
 zad H (λK'=>K' t30 H) λt6=>
 zad H (λK'=>K' t31 H) λt7=>
 zac .eql false t3 (.int .i64 0) λt33=>
 zab t33 true H (λK'=>K' t5 H) λt35 H=>
 zab t33 true H (λK'=>zac .eql false t35 (.int .i64 0) (K' · H)) λt36 H=>
 zai t33 t36 (.bool false) λt37=>
 zab t37 true H (λK'=>K' t7 H) λt39 H=>
 zab t37 true H (λK'=>zac .eql false t39 (.int .i64 0) (K' · H)) λt40 H=>
 zai t37 t40 (.bool false) λt41=>
 zab t41 true H (λK'=>K' t2 H) λt43 H=>
 zab t41 true H (λK'=>zah 1 t43 (K' · H)) λt44 H=>
 zab t41 true H (λK'=>zac .eql false t44 (.int .i64 1) (K' · H)) λt45 H=>
 zai t41 t45 (.bool false) λt46=>
 zab t46 true H (λK'=>K' t4 H) λt48 H=>
 zab t46 true H (λK'=>zah 1 t48 (K' · H)) λt49 H=>
 zab t46 true H (λK'=>zac .eql false t49 (.int .i64 0) (K' · H)) λt50 H=>
 zai t46 t50 (.bool false) λt51=>
 zab t51 true H (λK'=>K' t6 H) λt53 H=>
 zab t51 true H (λK'=>zah 1 t53 (K' · H)) λt54 H=>
 zab t51 true H (λK'=>zac .eql false t54 (.int .i64 4) (K' · H)) λt55 H=>
 zai t51 t55 (.bool false) λt56=>
 K t56 H
theorem zNL{H:zaa}{K:Kt}(h:HSc H→zq5 H K):ACalls tP zpj [] H K:=
 zan (M:=zNJ) Tryz.func7 (c:=zNK) (by kernel_rfl) (λhs=>Eq.mpr (by kernel_rfl) (h hs))
def zeh:Nat→List Bool
 |4=>rl false [0,2,29,2,37]
 |9=>rl false [0,2,29,2,13,3,21]
 |16=>rl false [1,1,57,2,9]
 |_=>[]
noncomputable def zi3:Code:=Tryz.f9.body.getD .skip
noncomputable def zAS:List ResultVar:=Tryz.f9.results.toList
def znc(t0 t1 t31 t32:AV):List AV:=t0::t1::ux 29 (t31::t32::ux 37 [])
def zAR:List Bool:=zeh 4
noncomputable def zsV:Code:=zaq [1,1,0,1,0,0] zi3
def zAN(K:Kt):AExit→List AV→zaa→Prop:=zar tP zeh [1,1,0,1,0] zi3 (zaB tP zAS K)
def zAP(t0 t1 t31 t32:AV)(H:zaa)(K:Kt):Prop:=ALoop tP zsV (zAN K) (znc t0 t1 t31 t32) H
def znd(t0 t1 t31 t32 t46 t47 t48:AV):List AV:=t0::t1::ux 29 (t31::t32::ux 13 (t46::t47::t48::ux 21 []))
def zPi:List Bool:=zeh 9
noncomputable def zPd:Code:=zaq [1,1,0,0,1,1,1,0,0] zsV
def zPb(K:Kt)(Kb4:Lt):AExit→List AV→zaa→Prop:=zar tP zeh [1,1,0,0,1,1,1,0] zsV (zbK zAR Kb4 (zAN K))
def zAQ(t0 t1 t31 t32 t46 t47 t48:AV)(H:zaa)(K:Kt)(Kb4:Lt):Prop:=ALoop tP zPd (zPb K Kb4) (znd t0 t1 t31 t32 t46 t47 t48) H
def zna(t0 t1 t31 t32 t46 t47 t48:AV)(H:zaa)(K:Kt)(Kb4:Lt)(Kb9:Lt):Prop:=
 zac .lss false t48 t47 λt49=>
 zag t49
 (zaj 2 t46 t48 λt50=>
 zae true 2 t50 H λt51=>
 zay [(.str []),.snil] H λt11 H=>
 zak 2 t11 t51 H λH=>
 zaf 1 t11 λt52=>
 zae false 1 t52 H λt53=>
 zah 1 t53 λt54=>
 zac .gtr false t54 (.int .i64 3) λt55=>
 zag t55
 (K (.bool false) H)
 (zac .add false t48 (.int .i64 1) λt56=>
 Kb9 (znd t0 t1 t31 t32 t46 t47 t56) H))
 (zac .add false t32 (.int .i64 1) λt57=>
 Kb4 (znc t0 t1 t31 t57) H)
def znb(t1 t59 t60:AV):List AV:=ux 1 (t1::ux 57 (t59::t60::ux 9 []))
def zPh:List Bool:=zeh 16
noncomputable def zPc:Code:=zaq [1,1,1,0,1,0,0] zi3
def zPa(K:Kt):AExit→List AV→zaa→Prop:=zar tP zeh [1,1,1,0,1,0] zi3 (zaB tP zAS K)
def zAO(t1 t59 t60:AV)(H:zaa)(K:Kt):Prop:=ALoop tP zPc (zPa K) (znb t1 t59 t60) H
def zsU(t1 t59 t60:AV)(H:zaa)(K:Kt)(Kb16:Lt):Prop:=
 zac .lss false t60 t59 λt61=>
 zag t61
 (zaj 3 t1 t60 λt65=>
 zae true 3 t65 H λt66=>
 ACalls tP zj3 [t66] H λt67 H=>
 zac .gtr false t67 (.int .i64 8) λt68=>
 zag t68
 (K (.bool false) H)
 (zac .add false t60 (.int .i64 1) λt69=>
 Kb16 (znb t1 t59 t69) H))
 (K (.bool true) H)
def zm9(t0 t1 t31 t32:AV)(H:zaa)(K:Kt)(Kb4:Lt):Prop:=
 zac .lss false t32 t31 λt33=>
 zag t33
 (zaj 3 t0 t32 λt37=>
 zaf 2 t37 λt38=>
 zae false 1 t38 H λt39=>
 zah 1 t39 λt40=>
 zac .gtr false t40 (.int .i64 3) λt41=>
 zag t41
 (K (.bool false) H)
 (zaj 3 t0 t32 λt44=>
 zaf 2 t44 λt45=>
 zae false 1 t45 H λt46=>
 zah 1 t46 λt47=>
 zAQ t0 t1 t31 t32 t46 t47 (.int .i64 0) H K Kb4))
 (zah 1 t1 λt59=>
 zAO t1 t59 (.int .i64 0) H K)
def zq7(t0 t1 t2 t3:AV)(H:zaa)(K:Kt):Prop:=
 zah 1 t0 λt14=>
 zac .gtr false t14 (.int .i64 2) λt15=>
 zab t15 false H (λK'=>K' t1 H) λt17 H=>
 zab t15 false H (λK'=>zah 1 t17 (K' · H)) λt18 H=>
 zab t15 false H (λK'=>zac .gtr false t18 (.int .i64 3) (K' · H)) λt19 H=>
 zai t15 (.bool true) t19 λt20=>
 zab t20 false H (λK'=>K' t2 H) λt22 H=>
 zab t20 false H (λK'=>zac .gtr false t22 (.int .i64 9) (K' · H)) λt23 H=>
 zai t20 (.bool true) t23 λt24=>
 zab t24 false H (λK'=>K' t3 H) λt26 H=>
 zab t24 false H (λK'=>zah 1 t26 (K' · H)) λt27 H=>
 zab t24 false H (λK'=>zac .gtr false t27 (.int .i64 9) (K' · H)) λt28 H=>
 zai t24 (.bool true) t28 λt29=>
 zag t29
 (K (.bool false) H)
 (zah 1 t0 λt31=>
 zAP t0 t1 t31 (.int .i64 0) H K)
theorem zPg{t0 t1 t31 t32 t46 t47 t48:AV}{H:zaa}{K:Kt}{Kb4:Lt}(Inv:Nat→AV→zaa→Prop)(n:Nat)(h0:HSc H→Inv n t48 H)(round:Rd1 (λt48=>znd t0 t1 t31 t32 t46 t47 t48) (λt48=>λH Kb9=>zna t0 t1 t31 t32 t46 t47 t48 H K Kb4 Kb9) H Inv):zAQ t0 t1 t31 t32 t46 t47 t48 H K Kb4:=
 lp1 (M:=zeh) zPi t48 (by kernel_rfl) Inv n h0 round
theorem zPe{t1 t59 t60:AV}{H:zaa}{K:Kt}(Inv:Nat→AV→zaa→Prop)(n:Nat)(h0:HSc H→Inv n t60 H)(round:Rd1 (λt60=>znb t1 t59 t60) (λt60=>λH Kb16=>zsU t1 t59 t60 H K Kb16) H Inv):zAO t1 t59 t60 H K:=
 lp1 (M:=zeh) zPh t60 (by kernel_rfl) Inv n h0 round
theorem zPf{t0 t1 t31 t32:AV}{H:zaa}{K:Kt}(Inv:Nat→AV→zaa→Prop)(n:Nat)(h0:HSc H→Inv n t32 H)(round:Rd1 (λt32=>znc t0 t1 t31 t32) (λt32=>λH Kb4=>zm9 t0 t1 t31 t32 H K Kb4) H Inv):zAP t0 t1 t31 t32 H K:=
 lp1 (M:=zeh) zAR t32 (by kernel_rfl) Inv n h0 round
theorem zPj{t0 t1 t2 t3:AV}{H:zaa}{K:Kt}(h:HSc H→zq7 t0 t1 t2 t3 H K):ACalls tP zpl [t0,t1,t2,t3] H K:=
 zan (M:=zeh) Tryz.func9 (c:=zi3) (by kernel_rfl) (λhs=>Eq.mpr (by kernel_rfl) (h hs))
def zgc:Nat→List Bool
 |4=>rl false [2,1,2,1,7,3,24]
 |10=>rl false [1,1,27,3,8]
 |_=>[]
noncomputable def zi8:Code:=Tryz.f11.body.getD .skip
noncomputable def zBn:List ResultVar:=Tryz.f11.results.toList
def zi9(t2 t5 t13 t14 t15:AV):List AV:=ux 2 (t2::ux 2 (t5::ux 7 (t13::t14::t15::ux 24 [])))
def zQF:List Bool:=zgc 4
noncomputable def zQB:Code:=zaq [1,0,1,0,1,0,1,0,0] zi8
def zQz(K:Kt):AExit→List AV→zaa→Prop:=zar tP zgc [1,0,1,0,1,0,1,0] zi8 (zaB tP zBn K)
def zBm(t2 t5 t13 t14 t15:AV)(H:zaa)(K:Kt):Prop:=ALoop tP zQB (zQz K) (zi9 t2 t5 t13 t14 t15) H
def znt(t2 t5 t13 t14 t15:AV)(H:zaa)(K:Kt)(Kb4:Lt):Prop:=
 zac .lss false t15 t14 λt16=>
 zag t16
 (zaj 1 t13 t15 λt17=>
 zae false 1 t17 H λt18=>
 zab t5 false H (λK'=>K' t18 H) λt21 H=>
 zab t5 false H (λK'=>zaf 1 t2 (K' · H)) λt22 H=>
 zab t5 false H (λK'=>zae false 1 t22 H (K' · H)) λt23 H=>
 zab t5 false H (λK'=>zac .eql false t21 t23 (K' · H)) λt24 H=>
 zai t5 (.bool true) t24 λt25=>
 zac .add false t15 (.int .i64 1) λt26=>
 Kb4 (zi9 t2 t25 t13 t14 t26) H)
 (K t5 H)
def znu(t1 t29 t30 t31:AV):List AV:=ux 1 (t1::ux 27 (t29::t30::t31::ux 8 []))
def zQE:List Bool:=zgc 10
noncomputable def zQA:Code:=zaq [1,1,0,1,0,0] zi8
def zQy(K:Kt):AExit→List AV→zaa→Prop:=zar tP zgc [1,1,0,1,0] zi8 (zaB tP zBn K)
def zBl(t1 t29 t30 t31:AV)(H:zaa)(K:Kt):Prop:=ALoop tP zQA (zQy K) (znu t1 t29 t30 t31) H
def ztm(t1 t29 t30 t31:AV)(H:zaa)(K:Kt)(Kb10:Lt):Prop:=
 zac .lss false t31 t30 λt32=>
 zag t32
 (zaj 3 t29 t31 λt33=>
 zae true 3 t33 H λt34=>
 zay [(.int .i64 0),(.int .i64 0),.snil] H λt9 H=>
 zak 3 t9 t34 H λH=>
 zae true 3 t9 H λt35=>
 ACalls tP zkk [t35,t1] H λt37 H=>
 aUn .not t37 λt38=>
 zag t38
 (K (.bool false) H)
 (zac .add false t31 (.int .i64 1) λt39=>
 Kb10 (znu t1 t29 t30 t39) H))
 (K (.bool true) H)
def zq9(t0 t1:AV)(H:zaa)(K:Kt):Prop:=
 zaw t0 H λt2 H=>
 zaf 0 t2 λt10=>
 zae false 1 t10 H λt11=>
 zac .eql false t11 (.int .i64 3) λt12=>
 zag t12
 (zah 1 t1 λt14=>
 zBm t2 (.bool false) t1 t14 (.int .i64 0) H K)
 (zaf 2 t2 λt28=>
 zae false 1 t28 H λt29=>
 zah 1 t29 λt30=>
 zBl t1 t29 t30 (.int .i64 0) H K)
theorem zQD{t2 t5 t13 t14 t15:AV}{H:zaa}{K:Kt}(Inv:Nat→AV→AV→zaa→Prop)(n:Nat)(h0:HSc H→Inv n t5 t15 H)(round:Rd2 (λt5=>λt15=>zi9 t2 t5 t13 t14 t15) (λt5=>λt15=>λH Kb4=>znt t2 t5 t13 t14 t15 H K Kb4) H Inv):zBm t2 t5 t13 t14 t15 H K:=
 lp2 (M:=zgc) zQF t5 t15 (by kernel_rfl) Inv n h0 round
theorem zQC{t1 t29 t30 t31:AV}{H:zaa}{K:Kt}(Inv:Nat→AV→zaa→Prop)(n:Nat)(h0:HSc H→Inv n t31 H)(round:Rd1 (λt31=>znu t1 t29 t30 t31) (λt31=>λH Kb10=>ztm t1 t29 t30 t31 H K Kb10) H Inv):zBl t1 t29 t30 t31 H K:=
 lp1 (M:=zgc) zQE t31 (by kernel_rfl) Inv n h0 round
theorem zQG{t0 t1:AV}{H:zaa}{K:Kt}(h:HSc H→zq9 t0 t1 H K):ACalls tP zkk [t0,t1] H K:=
 zan (M:=zgc) Tryz.func11 (c:=zi8) (by kernel_rfl) (λhs=>Eq.mpr (by kernel_rfl) (h hs))
def zL1(_:Nat):List Bool:=[]
noncomputable def zL2:Code:=Tryz.f24.body.getD .skip
def zzh(H:zaa)(K:Kt):Prop:=
 zao [(.int .i64 0),(.int .i64 0),.snil] [(0,1),(1,1),(2,1)] [(0,(.int .i64 4))] λt2=>
 zay [(.int .i64 0),(.int .i64 0),.snil] H λt1 H=>
 zak 3 t1 t2 H λH=>
 zao [(.str []),.snil] [(0,1),(1,1)] [(0,(.str [78]))] λt3=>
 zae true 3 t1 H λt4=>
 zae true 3 t1 H λt5=>
 zas 3 [(.int .i64 0),(.int .i64 0),.snil] 1 [(0,t5)] λt6=>
 zao [(.int .i64 0),(.int .i64 0),.snil] [(0,1),(1,1),(2,1)] [(0,(.int .i64 5)),(2,t6)] λt7=>
 zas 3 [(.int .i64 0),(.int .i64 0),.snil] 2 [(0,t4),(1,t7)] λt8=>
 zao [(.str []),.snil] [(0,1),(1,1)] [(0,(.str [67])),(1,t8)] λt9=>
 zas 2 [(.str []),.snil] 2 [(0,t3),(1,t9)] λt10=>
 zao [(.str []),(.int .i64 0),.snil] [(0,1),(1,1),(2,1)] [(0,(.str [76])),(1,(.int .i64 1)),(2,t10)] λt11=>
 zas 3 [(.str []),(.int .i64 0),.snil] 1 [(0,t11)] λt12=>
 K t12 H
theorem zL3{H:zaa}{K:Kt}(h:HSc H→zzh H K):ACalls tP zhY [] H K:=
 zan (M:=zL1) Tryz.func24 (c:=zL2) (by kernel_rfl) (λhs=>Eq.mpr (by kernel_rfl) (h hs))
def zmp:Nat→List Bool
 |3=>rl false [1,1,1,1,3,2,14]
 |_=>[]
noncomputable def zrZ:Code:=Tryz.f25.body.getD .skip
noncomputable def zL9:List ResultVar:=Tryz.f25.results.toList
def zmr(t1 t3 t7 t8:AV):List AV:=ux 1 (t1::ux 1 (t3::ux 3 (t7::t8::ux 14 [])))
def zL7:List Bool:=zmp 3
noncomputable def zL5:Code:=zaq [1,1,0,1,0,0] zrZ
def zL4(K:Kt):AExit→List AV→zaa→Prop:=zar tP zmp [1,1,0,1,0] zrZ (zaB tP zL9 K)
def zzj(t1 t3 t7 t8:AV)(H:zaa)(K:Kt):Prop:=ALoop tP zL5 (zL4 K) (zmr t1 t3 t7 t8) H
def zmq(t1 t3 t7 t8:AV)(H:zaa)(K:Kt)(Kb3:Lt):Prop:=
 zac .lss false t8 t7 λt9=>
 zag t9
 (zac .gtr false t3 (.int .i64 8) λt12=>
 zag t12
 (K (.int .i64 9) H)
 (zaf 2 t1 λt14=>
 zae false 1 t14 H λt15=>
 zaj 3 t15 t8 λt17=>
 zae true 3 t17 H λt18=>
 ACalls tP zj3 [t18] H λt19 H=>
 zac .add false t3 t19 λt20=>
 zac .add false t8 (.int .i64 1) λt21=>
 Kb3 (zmr t1 t20 t7 t21) H))
 (K t3 H)
def zzi(t0:AV)(H:zaa)(K:Kt):Prop:=
 zaw t0 H λt1 H=>
 zaf 2 t1 λt5=>
 zae false 1 t5 H λt6=>
 zah 1 t6 λt7=>
 zzj t1 (.int .i64 1) t7 (.int .i64 0) H K
theorem zL6{t1 t3 t7 t8:AV}{H:zaa}{K:Kt}(Inv:Nat→AV→AV→zaa→Prop)(n:Nat)(h0:HSc H→Inv n t3 t8 H)(round:Rd2 (λt3=>λt8=>zmr t1 t3 t7 t8) (λt3=>λt8=>λH Kb3=>zmq t1 t3 t7 t8 H K Kb3) H Inv):zzj t1 t3 t7 t8 H K:=
 lp2 (M:=zmp) zL7 t3 t8 (by kernel_rfl) Inv n h0 round
theorem zL8{t0:AV}{H:zaa}{K:Kt}(h:HSc H→zzi t0 H K):ACalls tP zj3 [t0] H K:=
 zan (M:=zmp) Tryz.func25 (c:=zrZ) (by kernel_rfl) (λhs=>Eq.mpr (by kernel_rfl) (h hs))
end Go.Proofs.YtaifokkaaahdoaaGreatDoor
namespace Go.Proofs.YtaifokkaaahdoaaGreatDoor
open Go Go.Abs
theorem wrM{n:Nat}(h:n<9223372036854775807):IntKind.i64.wrap ((n:Int)+1)=((n+1:Nat):Int):=by rw[zav (by omega) (by omega)];rfl
theorem zMa:∀(m:Nat) (t:VT),t.nodes≤m→zaW t→∀(H:zaa) (K:Kt),(∀r:Int,K (.int .i64 r) H)→ACalls tP zj3 [.agg t.cs] H K:=by
 intro m;induction m with
 |zero=>intro t h;have:=t.nodes_pos;omega
 |succ m ih=>
  intro t hm hf H K hK;obtain⟨k,n,ks⟩:=t;have hfit:ks.length≤9223372036854775807∧zci ks:=by rw[zaW]at hf;exact hf
  refine ACalls.out (zL8 λhs=>?_);have hO:∀(r:Int) J,Out H.length K (.int .i64 r) (H++J):=λr J=>Out.int rfl (Nat.le_refl _) hs (hK r);simp[zzi,VT.cs];obtain⟨A,hA⟩:∃A,A=H++[AB.cells [.int .i64 k,.int .i64 n,.sl (VT.css ks) .none]]:=⟨_,rfl⟩;have hAl:A.length=H.length+1:=by rw[hA];simp
  have hAs:HSc A:=by rw[hA];exact hs.snoc (by simp[AB.sc,AV.scA,AV.scB])
  have hg:A[H.length]?=some (.cells [.int .i64 k,.int .i64 n,.sl (VT.css ks) .none]):=by rw[hA];simp
  rw[←hA];refine zL6 (Inv:=λq t3 t8 H'=>∃(i:Nat) (r:Int),i≤ks.length∧ks.length-i=q∧t8=.int .i64 i∧t3=.int .i64 r∧H'=A) ks.length ?_ ?_
  ·intro _;exact⟨0,1,by omega,rfl,rfl,rfl,rfl⟩
  ·rintro q t3 t8 H' ⟨i,r,hi,rfl,rfl,rfl,rfl⟩ hsc hlen hsF Kb hKb;have hE:∀ r:Int,Out H.length K (.int .i64 r) H':=λr=>by rw[hA];exact hO r _
   by_cases hlt:i<ks.length
   ·obtain⟨x,y,z,hvx,hx,hy,hz⟩:=zaL ks[i];by_cases h8:8<r
    ·simp[zmq,hlt,h8];exact hE 9
    ·simp[zmq,hlt,h8,hg,hvx];rw[←hvx];have hkn:=VT.kid_lt (k:=k) (n:=n) hlt;refine ih ks[i] (by omega) (zfC hfit.2 _ (List.getElem_mem hlt)) _ _ λr'=>?_;simp;rw[wrM (by omega)];refine hKb _ _ ⟨ks.length-(i+1),by omega,Back.here (Nat.le_refl _) hAs ?_ ⟨_,_,rfl,i+1,_,by omega,rfl,rfl,rfl,rfl⟩⟩;simp[zmr,ux,AV.sc,AV.scA,AV.scB,AV.scV,hAl]
   ·obtain rfl:i=ks.length:=by omega
    simp[zmq];exact hE r
def KpD(D:Dat):Prop:=D.cons.length≤3∧∀c∈D.cons,c.args.length≤3
theorem zPk(data:List Dat)(hl:data.length≤9223372036854775807)(l:List VT)(hll:l.length≤1000000)(ht:∀t∈l,zaW t)(n:Int)(xs:List Int)(H:zaa)(K:Kt)(hK:∀b:Bool,(b=true→data.length≤2∧n≤9∧xs.length≤9∧Kpt data)→K (.bool b) H):ACalls tP zpl [.sl (data.map Dat.cs) .none,.sl (VT.css l) .none,.int .i64 n,.sl (ints xs) .none] H K:=by
 refine ACalls.out (zPj λhs=>?_);have hF:∀J,Out H.length K (.bool false) (H++J):=λJ=>Out.bool rfl (Nat.le_refl _) hs (hK false λh=>by cases h);have hF0:Out H.length K (.bool false) H:=zby hs rfl rfl (hK false λh=>by cases h);by_cases c1:2<data.length
 ·have:(2:Int)<data.length:=by omega
  simp[zq7,this];exact hF0
 have c1':¬(2:Int)<data.length:=by omega
 by_cases c2:3<l.length
 ·have:(3:Int)<l.length:=by omega
  simp[zq7,c1',this];exact hF0
 have c2':¬(3:Int)<l.length:=by omega
 by_cases c3:9<n
 ·simp[zq7,c1',c2',c3];exact hF0
 by_cases c4:9<xs.length
 ·have:(9:Int)<xs.length:=by omega
  simp[zq7,c1',c2',c3,zdn,this];exact hF0
 have c4':¬(9:Int)<xs.length:=by omega
 simp[zq7,c1',c2',c3,zdn,c4'];refine zPf (Inv:=λq t32 H'=>∃i:Nat,i≤data.length∧data.length-i=q∧t32=.int .i64 i∧(∀D∈data.take i,KpD D)∧H'=H) data.length ?_ ?_
 ·intro _;exact⟨0,by omega,rfl,rfl,by simp,rfl⟩
 ·rintro q t32 H' ⟨i,hi,rfl,rfl,hk,rfl⟩ hsc4 hlen4 hsF4 Kb4 hKb4;by_cases hlt:i<data.length
  ·obtain⟨⟨nm,vs,cons⟩,hv⟩:∃ u,u=data[i]:=⟨_,rfl⟩;have hcl:Dat.cs (data[i])=[.str nm,.int .i64 vs,.sl (cons.map Con.cs) .none]:=by rw[←hv];rfl
   by_cases h3:3<cons.length
   ·have:(3:Int)<cons.length:=by omega
    simp[zm9,hlt,hcl,this];exact hF0
   have h3':¬(3:Int)<cons.length:=by omega
   simp[zm9,hlt,hcl,h3'];refine zPg (Inv:=λq t48 H2=>∃j:Nat,j≤cons.length∧cons.length-j=q∧t48=.int .i64 j∧(∀c∈cons.take j,c.args.length≤3)∧H2=H') cons.length ?_ ?_
   ·intro _;exact⟨0,by omega,rfl,rfl,by simp,rfl⟩
   ·rintro q t48 H2 ⟨j,hj,rfl,rfl,hc,rfl⟩ hsc9 hlen9 hsF9 Kb9 hKb9;by_cases hlj:j<cons.length
    ·obtain⟨⟨cn,ca⟩,hu⟩:∃ u,u=cons[j]:=⟨_,rfl⟩;have hcc:Con.cs (cons[j])=[.str cn,.sl (VT.css ca) .none]:=by rw[←hu];rfl
     by_cases h3a:3<ca.length
     ·have:(3:Int)<ca.length:=by omega
      simp[zna,hlj,hcc,AV.known,this];exact hF _
     ·have h3a':¬ (3:Int)<ca.length:=by omega
      simp[zna,hlj,hcc,AV.known,h3a'];rw[wr (by omega)];refine hKb9 _ _ ⟨cons.length-(j+1),by omega,Back.at (J:=[.cells [.str cn,.sl (VT.css ca) .none]]) (H2:=H2) rfl (Nat.le_refl _) hs ?_ ⟨_,rfl,j+1,by omega,rfl,rfl,λc hcm=>?_,rfl⟩⟩
      ·simp[znd,ux,AV.sc,AV.scA,AV.scB,AV.scV]
      ·rw[List.take_succ_eq_append_getElem hlj]at hcm;rcases List.mem_append.1 hcm with h | h
       ·exact hc c h
       ·simp at h;rw[h,←hu];show ca.length≤3;omega
    ·obtain rfl:j=cons.length:=by omega
     rw[List.take_length]at hc;simp[zna];rw[wr (by omega)];refine hKb4 _ _ ⟨data.length-(i+1),by omega,Back.here (Nat.le_refl _) hs ?_ ⟨_,rfl,i+1,by omega,rfl,rfl,λD hDm=>?_,rfl⟩⟩
     ·simp[znc,ux,AV.sc,AV.scA,AV.scB,AV.scV]
     ·rw[List.take_succ_eq_append_getElem hlt]at hDm;rcases List.mem_append.1 hDm with h | h
      ·exact hk D h
      ·simp at h;rw[h,←hv];exact⟨by show cons.length≤3;omega,hc⟩
  ·obtain rfl:i=data.length:=by omega
   rw[List.take_length]at hk;simp[zm9];refine zPe (Inv:=λq t60 H2=>∃j:Nat,j≤l.length∧l.length-j=q∧t60=.int .i64 j∧H2=H') l.length ?_ ?_
   ·intro _;exact⟨0,by omega,rfl,rfl,rfl⟩
   ·rintro q t60 H2 ⟨j,hj,rfl,rfl,rfl⟩ hsc9 hlen9 hsF9 Kb9 hKb9;by_cases hlj:j<l.length
    ·obtain⟨x,y,z,hvx,hx,hy,hz⟩:=zaL l[j];simp[zsU,hlj,hvx];rw[←hvx];refine zMa _ _ (Nat.le_refl _) (ht _ (List.getElem_mem hlj)) _ _ λr=>?_;by_cases h8:8<r
     ·simp[h8];exact hF0
     ·simp[h8];rw[wr (by omega)];refine hKb9 _ _ ⟨l.length-(j+1),by omega,Back.here (Nat.le_refl _) hs ?_ ⟨_,rfl,j+1,by omega,rfl,rfl,rfl⟩⟩;simp[znb,ux,AV.sc,AV.scA,AV.scB,AV.scV]
    ·obtain rfl:j=l.length:=by omega
     simp[zsU];exact zby hs rfl rfl (hK true λ_=>⟨by omega,by omega,by omega,hk⟩)
theorem zCy{v w:VT}(h:VT.cmp v w=0):v=w:=(zpK v w).1 ((VT.cmp_zero v w).1 h)
theorem zGM(a b:VT)(h1:vle a b)(h2:vle b a):a=b:=by unfold vle at h1 h2;have:=VT.cmp_anti a b;exact zCy (by omega)
theorem zGN{a b c:VT}(h1:vle a b)(h2:vle b c):vle a c:=by unfold vle at *;have:=VT.cmp_tri a b c;have a1:=VT.cmp_anti a b;have a2:=VT.cmp_anti b c;have a3:=VT.cmp_anti a c;unfold Tri at this;omega
def leB(a b:VT):Bool:=!decide (VT.cmp b a<0)
theorem zjI(a b:VT):leB a b=true↔vle a b:=by simp[leB,vle]
def srt(W:List VT):List VT:=W.mergeSort leB
theorem zpV(W:List VT):(srt W).Perm W:=List.mergeSort_perm W leB
theorem zF4(W:List VT):(srt W).Pairwise vle:=
 (List.pairwise_mergeSort (le:=leB) (λa b c h1 h2=>(zjI a c).2 (zGN ((zjI a b).1 h1) ((zjI b c).1 h2))) (λa b=>by
  have:=VT.cmp_anti a b;simp[leB];omega) W).imp λh=>(zjI _ _).1 h
theorem zF5{V W:List VT}(hp:V.Perm W)(hs:V.Pairwise vle):V=srt W:=
 List.Perm.eq_of_pairwise (le:=vle) (λa b _ _=>zGM a b) hs (zF4 W) (hp.trans (zpV W).symm)
def zer(data:List Dat)(t:VT)(n:Int)(xs:List Int):List VT:=srt (vV data xs t n.toNat)
theorem zqG{data:List Dat}(hF:zek data)(hl:data.length≤1000000)(hk:Kpt data)(t:VT)(ht:zaW t)(xs:List Int)(hxl:xs.length≤1000000)(n:Int)(hn:n≤14∨24<n)(H:zaa)(h0:H[0]?=some .nodr)(K:Kt)(hE:zbH data [t] n xs≠0→K (.tup [.sl [] .none,.int .i64 (zbH data [t] n xs)]) H)(hK:zbH data [t] n xs=0→K (.tup [.sl (VT.css (zer data t n xs)) .none,.int .i64 0]) H):
  ACalls tP ze7 [.sl (data.map Dat.cs) .none,.agg t.cs,.int .i64 n,.sl (ints xs) .none] H K:=
 zHX hF hl hk t ht xs hxl n hn H h0 K hE λh V hp hs=>by rw[zF5 hp hs];exact hK h
def tA:VT:=.mk 4 0 []
def tL:VT:=.mk 5 0 [tA]
def lstD:List Dat:=[⟨[76],1,[⟨[78],[]⟩,⟨[67],[tA,tL]⟩]⟩]
def tLI:VT:=.mk 5 0 [.mk 1 0 []]
theorem zrY(H:zaa)(K:Kt)(hK:K (.sl (lstD.map Dat.cs) .none) H):ACalls tP zhY [] H K:=by refine ACalls.out (zL3 λhs=>?_);simp[zzh,zao,zaM,AV.known,zas,zbh,plain,AV.pd];exact Out.at (H2:=H) (J:=_) rfl (Nat.le_refl _) hs (.atom (.sl _ _)) rfl rfl hK
theorem zD0:zce lstD tLI=true:=by decide +kernel
theorem zvk:cV lstD 2 tLI 1=1:=by decide +kernel
theorem zvl:cV lstD 2 tLI 2=0:=by decide +kernel
theorem zvm:cV lstD 2 tLI 5=4:=by decide +kernel
theorem zD3:zge [0,1]:=by
 refine⟨by decide,λi hi=>?_⟩;simp at hi
 match i,hi with
 |0,_=>exact⟨by decide,by decide,λh=>absurd h (by omega)⟩
 |1,_=>exact⟨by decide,by decide,λ_=>by decide⟩
theorem zt1(g:VT→Nat→Nat)(t:VT)(n:Nat)(h0:g t 0=0):cL g [t] n=g t n:=by
 rw[cL];simp only[cL];rw[sm,Nat.sub_self,if_pos rfl,Nat.mul_one];have:sm n (λs=>g t s*if n-s=0 then 1 else 0)=sm n λ_=>0:=zch λs hs=>by rw[if_neg (by omega),Nat.mul_zero]
 rw[this,zpT,Nat.zero_add]
theorem zDZ{n:Nat}(hn:n≤24)(hc:cV lstD 2 tLI n≤2000):zbH lstD [tLI] n [0,1]=0:=by
 unfold zbH;have h1:¬ ∃t∈[tLI],zce lstD t=false:=λ⟨t,ht,h⟩=>by simp at ht;subst ht;rw[zD0]at h;cases h
 rw[if_neg (by decide),if_neg h1,if_neg (λh=>h.elim (λh=>by omega) λh=>h.elim (λh=>by omega) λh=>h zD3),if_neg];show ¬ 2000<cL (cV lstD 2) [tLI] n;rw[zt1 _ _ _ (zb2 lstD 2 tLI)];show ¬ 2000<cV lstD 2 tLI n;omega
theorem zD1:zek lstD:=λD hD=>by
 simp[lstD]at hD;subst hD;refine⟨by decide,λc hc=>?_⟩;simp at hc;rcases hc with rfl|rfl
 ·exact⟨by decide,by simp⟩
 ·refine⟨by decide,λx hx=>?_⟩;simp at hx;rcases hx with rfl|rfl <;> simp[tA,tL,zaW,zci]
theorem zD4:Kpt lstD:=λD hD=>by simp[lstD]at hD;subst hD;refine⟨by decide,λc hc=>?_⟩;simp at hc;rcases hc with rfl|rfl <;> decide
theorem zjh(data:List Dat)(t:VT)(n:Nat)(xs:List Int):(zer data t n xs).length=cV data xs.length t n:=by unfold zer;rw[(zpV _).length_eq,zeL];rfl
theorem znI(n:Nat)(hn:n≤14)(hc:cV lstD 2 tLI n≤2000)(H:zaa)(h0:H[0]?=some .nodr)(K:Kt)(hK:K (.tup [.sl (VT.css (zer lstD tLI n [0,1])) .none,.int .i64 0]) H):
  ACalls tP ze7 [.sl (lstD.map Dat.cs) .none,.agg [.int .i64 5,.int .i64 0,.sl [[.int .i64 1,.int .i64 0,.sl [] .none]] .full],.int .i64 n,.sl [[.int .i64 0],[.int .i64 1]] .full] H K:=by
 refine ACalls.wk (args':=[.sl (lstD.map Dat.cs) .none,.agg tLI.cs,.int .i64 n,.sl (ints [0,1]) .none]) ?_ ⟨.atom (.refl _),.agg ⟨.refl _,.refl _,.sl _ _,trivial⟩,.atom (.refl _),.atom (.sl _ _),trivial⟩;exact zqG zD1 (by decide) zD4 tLI (by simp[tLI,zaW,zci]) [0,1] (by decide) n (by omega) H h0 K (λh=>absurd (zDZ (by omega) hc) h) λ_=>hK
theorem zNM(H:zaa)(h0:H[0]?=some .nodr)(K:Kt)(hK:K (.bool true) H):ACalls tP zpj [] H K:=by
 refine ACalls.out (zNL λhs=>?_);have hlt0:0<H.length:=(List.getElem?_eq_some_iff.1 h0).1;have g0:∀J:zaa,(H++J)[0]?=some .nodr:=λJ=>by rw[List.getElem?_append_left hlt0];exact h0
 simp[zq5,zao,zaM,AV.known,zas,zbh,plain,AV.pd];refine zaV _ (λJ=>zrY _ _ ⟨rfl,rfl⟩) ?_;refine zaV _ (λJ=>znI 1 (by omega) (by rw[zvk];omega) _ (by rw[List.append_assoc];exact g0 _) _ ⟨rfl,rfl⟩) ?_;simp;refine zaV _ (λJ=>zrY _ _ ⟨rfl,rfl⟩) ?_;refine zaV _ (λJ=>znI 2 (by omega) (by rw[zvl];omega) _ (by rw[List.append_assoc];exact g0 _) _ ⟨rfl,rfl⟩) ?_;simp;refine zaV _ (λJ=>zrY _ _ ⟨rfl,rfl⟩) ?_;refine zaV _ (λJ=>znI 5 (by omega) (by rw[zvm];omega) _ (by rw[List.append_assoc];exact g0 _) _ ⟨rfl,rfl⟩) ?_;have l1:(zer lstD tLI 1 [0,1]).length=1:=(zjh lstD tLI 1 [0,1]).trans zvk;have l2:(zer lstD tLI 2 [0,1]).length=0:=(zjh lstD tLI 2 [0,1]).trans zvl;have l5:(zer lstD tLI 5 [0,1]).length=4:=(zjh lstD tLI 5 [0,1]).trans zvm;simp[l1,l2,l5];exact Out.at (H2:=H) (J:=_) rfl (Nat.le_refl _) hs .rfl' rfl rfl hK
end Go.Proofs.YtaifokkaaahdoaaGreatDoor
namespace Go.Proofs.YtaifokkaaahdoaaGreatDoor
open Go Go.Abs
set_option maxRecDepth 100000
def zm1:Nat→List Bool
 |3=>rl false [3,1,3,3,9]
 |_=>[]
noncomputable def zsI:Code:=Tryz.f8.body.getD .skip
noncomputable def zOG:List ResultVar:=Tryz.f8.results.toList
def zm2(t3 t7 t8 t9:AV):List AV:=ux 3 (t3::ux 3 (t7::t8::t9::ux 9 []))
def zOE:List Bool:=zm1 3
noncomputable def zOC:Code:=zaq [1,1,0,1,0,0] zsI
def zOA(K:Kt):AExit→List AV→zaa→Prop:=zar tP zm1 [1,1,0,1,0] zsI (zaB tP zOG K)
def zAA(t3 t7 t8 t9:AV)(H:zaa)(K:Kt):Prop:=ALoop tP zOC (zOA K) (zm2 t3 t7 t8 t9) H
def zsH(t3 t7 t8 t9:AV)(H:zaa)(K:Kt)(Kb3:Lt):Prop:=
 zac .lss false t9 t8 λt10=>
 zag t10
 (zaj 3 t7 t9 λt11=>
 zae true 3 t11 H λt12=>
 zay [(.int .i64 0),(.int .i64 0),.snil] H λt5 H=>
 zak 3 t5 t12 H λH=>
 zae true 3 t5 H λt14=>
 ACalls tP zka [t14] H λt15 H=>
 zac .add false t3 t15 λt16=>
 zac .add false t9 (.int .i64 1) λt17=>
 Kb3 (zm2 t16 t7 t8 t17) H)
 (K t3 H)
def zq6(t0:AV)(H:zaa)(K:Kt):Prop:=
 zaw t0 H λt1 H=>
 zaf 2 t1 λt6=>
 zae false 1 t6 H λt7=>
 zah 1 t7 λt8=>
 zAA (.int .i64 1) t7 t8 (.int .i64 0) H K
theorem zOD{t3 t7 t8 t9:AV}{H:zaa}{K:Kt}(Inv:Nat→AV→AV→zaa→Prop)(n:Nat)(h0:HSc H→Inv n t3 t9 H)(round:Rd2 (λt3=>λt9=>zm2 t3 t7 t8 t9) (λt3=>λt9=>λH Kb3=>zsH t3 t7 t8 t9 H K Kb3) H Inv):zAA t3 t7 t8 t9 H K:=
 lp2 (M:=zm1) zOE t3 t9 (by kernel_rfl) Inv n h0 round
theorem zOF{t0:AV}{H:zaa}{K:Kt}(h:HSc H→zq6 t0 H K):ACalls tP zka [t0] H K:=
 zan (M:=zm1) Tryz.func8 (c:=zsI) (by kernel_rfl) (λhs=>Eq.mpr (by kernel_rfl) (h hs))
end Go.Proofs.YtaifokkaaahdoaaGreatDoor

namespace Go.Abs
def chs:Nat→Nat→Nat
 |_,0=>1
 |0,_+1=>0
 |n+1,k+1=>chs n k+chs n (k+1)
@[simp] theorem zTA(n:Nat):chs n 0=1:=by cases n <;> rfl
end Go.Abs
namespace Go.Proofs.YtaifokkaaahdoaaGreatDoor
open Go Go.Abs
end Go.Proofs.YtaifokkaaahdoaaGreatDoor
namespace Go.Proofs.YtaifokkaaahdoaaGreatDoor
open Go Go.Abs
set_option maxRecDepth 100000
def zmh:Nat→List Bool
 |10=>rl false [6,1,41,3,8]
 |_=>[]
noncomputable def zrS:Code:=Tryz.f3.body.getD .skip
noncomputable def zLn:List ResultVar:=Tryz.f3.results.toList
def zmi(t6 t48 t49 t50:AV):List AV:=ux 6 (t6::ux 41 (t48::t49::t50::ux 8 []))
def zLl:List Bool:=zmh 10
noncomputable def zLj:Code:=zaq [1,1,1,1,1,1,0,1,0,0] zrS
def zLi(K:Kt):AExit→List AV→zaa→Prop:=zar tP zmh [1,1,1,1,1,1,0,1,0] zrS (zaB tP zLn K)
def zy4(t6 t48 t49 t50:AV)(H:zaa)(K:Kt):Prop:=ALoop tP zLj (zLi K) (zmi t6 t48 t49 t50) H
def zy3(t6 t48 t49 t50:AV)(H:zaa)(K:Kt)(Kb10:Lt):Prop:=
 zac .lss false t50 t49 λt51=>
 zag t51
 (zaj 3 t48 t50 λt52=>
 zae true 3 t52 H λt53=>
 zay [(.int .i64 0),(.int .i64 0),.snil] H λt13 H=>
 zak 3 t13 t53 H λH=>
 zae true 3 t6 H λt54=>
 zae true 3 t13 H λt55=>
 ACalls tP zfN [t54,t55] H λt56 H=>
 zac .eql false t56 (.int .i64 0) λt57=>
 zag t57
 (K (.bool true) H)
 (zac .add false t50 (.int .i64 1) λt58=>
 Kb10 (zmi t6 t48 t49 t58) H))
 (K (.bool false) H)
def zq1(t0 t1 t2 t3:AV)(H:zaa)(K:Kt):Prop:=
 zaw t1 H λt5 H=>
 zaw t2 H λt6 H=>
 ACalls tP zpj [] H λt14 H=>
 aUn .not t14 λt15=>
 zag t15
 (K (.bool false) H)
 (zae true 3 t6 H λt16=>
 ACalls tP zka [t16] H λt17 H=>
 zae true 3 t5 H λt19=>
 zas 3 [(.int .i64 0),(.int .i64 0),.snil] 1 [(0,t19)] λt20=>
 ACalls tP zpl [t0,t20,t17,t3] H λt23 H=>
 aUn .not t23 λt24=>
 zab t24 false H (λK'=>K' t0 H) λt26 H=>
 zab t24 false H (λK'=>zae true 3 t6 H (K' · H)) λt27 H=>
 zab t24 false H (λK'=>zae true 3 t5 H (K' · H)) λt28 H=>
 zab t24 false H (λK'=>ACalls tP zkg [t26,t27,t28] H K') λt29 H=>
 zab t24 false H (λK'=>aUn .not t29 (K' · H)) λt30 H=>
 zai t24 (.bool true) t30 λt31=>
 zab t31 false H (λK'=>zae true 3 t6 H (K' · H)) λt33 H=>
 zab t31 false H (λK'=>K' t3 H) λt34 H=>
 zab t31 false H (λK'=>ACalls tP zkk [t33,t34] H K') λt35 H=>
 zab t31 false H (λK'=>aUn .not t35 (K' · H)) λt36 H=>
 zai t31 (.bool true) t36 λt37=>
 zag t37
 (K (.bool true) H)
 (zae true 3 t5 H λt40=>
 ACalls tP ze7 [t0,t40,t17,t3] H λt43 H=>
 zaN t43 0 λt44=>
 zaN t43 1 λt45=>
 zac .neq false t45 (.int .i64 0) λt47=>
 zag t47
 (K (.bool true) H)
 (zah 1 t44 λt49=>
 zy4 t6 t44 t49 (.int .i64 0) H K)))
theorem zLk{t6 t48 t49 t50:AV}{H:zaa}{K:Kt}(Inv:Nat→AV→zaa→Prop)(n:Nat)(h0:HSc H→Inv n t50 H)(round:Rd1 (λt50=>zmi t6 t48 t49 t50) (λt50=>λH Kb10=>zy3 t6 t48 t49 t50 H K Kb10) H Inv):zy4 t6 t48 t49 t50 H K:=
 lp1 (M:=zmh) zLl t50 (by kernel_rfl) Inv n h0 round
theorem zLm{t0 t1 t2 t3:AV}{H:zaa}{K:Kt}(h:HSc H→zq1 t0 t1 t2 t3 H K):ACalls tP zoL [t0,t1,t2,t3] H K:=
 zan (M:=zmh) Tryz.func3 (c:=zrS) (by kernel_rfl) (λhs=>Eq.mpr (by kernel_rfl) (h hs))
end Go.Proofs.YtaifokkaaahdoaaGreatDoor
namespace Go.Proofs.YtaifokkaaahdoaaGreatDoor
open Go Go.Abs
theorem zC9{data:List Dat}(hT:∀D∈data,∀c∈D.cons,∀x∈c.args,zaW x)(hk:Kpt data):zek data:=λD hD=>by obtain⟨h1,h2⟩:=hk D hD;exact⟨by omega,λc hc=>⟨by have:=h2 c hc;omega,hT D hD c hc⟩⟩
theorem zDt(x:List VT)(hl:x.length≤1000000000)(fv:AV)(H:zaa)(K:AV→zaa→Prop)(hfv:fv.sc H.length=true)(Inv:Nat→zaa→Prop)(h0:Inv 0 H)(step:∀(i:Nat) (h:i<x.length) (H':zaa),H.length≤H'.length→Inv i H'→aCallV tP fv [.agg (x[i]).cs] H' λr H''=>(r=.bool false∧Inv (i+1) H'')∨(r=.bool true∧K (.int .i64 i) H''))(fin:∀H',Inv x.length H'→K (.int .i64 (-1)) H'):ACalls tP zoY [.sl (VT.css x) .none,fv] H K:=by
 refine zJk λhs=>?_;simp[zyt];refine zJi (Inv:=λq t8 H'=>∃i:Nat,i≤x.length∧q=x.length-i∧t8=.int .i64 i∧H.length≤H'.length∧Inv i H') x.length ?_ ?_
 ·intro _;exact⟨0,by omega,by omega,rfl,Nat.le_refl _,h0⟩
 ·rintro q t8 H' ⟨i,hi,rfl,rfl,hle,hI⟩ hsc hlen hsF Kb hKb;by_cases hlt:i<x.length
  ·simp[zrb,hlt];refine (step i hlt H' hle hI).mono' λr H'' hsc' hle' hr=>?_;rcases hr with ⟨rfl,hI'⟩ | ⟨rfl,hk⟩
   ·simp;rw[zav (by omega) (by omega)];refine hKb _ _ ⟨x.length-(i+1),by omega,Back.here (by omega) hsc' ?_ ⟨_,rfl,i+1,by omega,rfl,by simp,by omega,hI'⟩⟩;simp[zlG,AV.sc,AV.scV,AV.scA,AV.scB];exact zb6 (by omega) hfv
   ·simpa using hk
  ·obtain rfl:i=x.length:=by omega
   simp[zrb];exact fin H' hI
theorem zCG(x:List VT)(hl:x.length≤1000000000)(fv:AV)(H:zaa)(K:AV→zaa→Prop)(hfv:fv.sc H.length=true)(Inv:Nat→zaa→Prop)(h0:Inv 0 H)(step:∀(i:Nat) (h:i<x.length) (H':zaa),H.length≤H'.length→Inv i H'→aCallV tP fv [.agg (x[i]).cs] H' λr H''=>(r=.bool false∧Inv (i+1) H'')∨(r=.bool true∧K (.bool true) H''))(fin:∀H',Inv x.length H'→K (.bool false) H'):ACalls tP zpp [.sl (VT.css x) .none,fv] H K:=by
 refine zQh λhs=>?_;unfold zBf;refine zDt x hl fv H _ hfv Inv h0 (λi h H' hle hI=>(step i h H' hle hI).mono' λr H'' _ _ hr=>?_) (λH' hI=>?_)
 ·rcases hr with hr | ⟨h1,h2⟩
  ·exact .inl hr
  ·refine .inr ⟨h1,?_⟩;have:decide ((0:Int)≤i)=true:=by simp
   simpa using h2
 ·simpa using fin H' hI
theorem zC1(f:VT→VT→Bool)(fv:AV)(x y:List VT)(H:zaa)(hsc:fv.sc H.length=true)(hf:∀(i:Nat) (h1:i<x.length) (h2:i<y.length),x.length=y.length→∀(J:zaa) (K:AV→zaa→Prop),K (.bool (f x[i] y[i])) (H++J)→aCallV tP fv [.agg (x[i]).cs,.agg (y[i]).cs] (H++J) K)(hl:x.length≤1000000000)(K:AV→zaa→Prop)(hK:K (.bool (zbm f x y)) H):ACalls tP zoZ [.sl (VT.css x) .none,.sl (VT.css y) .none,fv] H K:=by
 refine ACalls.out (zJq λhs=>?_);have hO:∀J,Out H.length K (.bool (zbm f x y)) (H++J):=λJ=>Out.bool rfl (Nat.le_refl _) hs hK;by_cases hlen:x.length=y.length
 ·simp[zrd,hlen];refine zJo (Inv:=λq t17 H'=>∃i:Nat,i≤x.length∧q=x.length-i∧t17=.int .i64 i∧zbm f (x.drop i) (y.drop i)=zbm f x y∧H=H') x.length ?_ ?_
  ·intro _;exact⟨0,by omega,by omega,rfl,by simp,rfl⟩
  ·rintro q t17 H' ⟨i,hi,rfl,rfl,ho,rfl⟩ hsc4 hlen2 hsF Kb hKb;by_cases hlt:i<x.length
   ·have hlt':i<y.length:=by omega
    have hltI:(i:Int)<y.length:=by omega
    rw[List.drop_eq_getElem_cons hlt,List.drop_eq_getElem_cons hlt',zbm]at ho;obtain⟨x1,x2,x3,hvx,hx1,hx2,hx3⟩:=zaL x[i];obtain⟨y1,y2,y3,hvy,hy1,hy2,hy3⟩:=zaL y[i];simp[zre,hlt,hlt',hvx,hx1,hx2,hx3,hvy,hy1,hy2,hy3];rw[←hvx,←hvy];refine hf i hlt hlt' hlen _ _ ?_;cases hb:f x[i] y[i] with
    |false=>rw[hb,Bool.false_and]at ho;rw[←ho]at hO;simp;exact hO _
    |true=>rw[hb,Bool.true_and]at ho;simp;rw[zav (by omega) (by omega)];refine hKb _ _ ⟨x.length-(i+1),by omega,Back.same (by simp) hs ?_ ⟨_,rfl,i+1,by omega,rfl,by simp,ho,rfl⟩⟩;simp[zlI,AV.sc,AV.scV,AV.scA,AV.scB];exact hsc
   ·have hlt':¬ i<y.length:=by omega
    obtain rfl:i=x.length:=by omega
    rw[List.drop_length,hlen,List.drop_length,zbm]at ho;rw[←ho]at hO;simp[zre,hlt'];simpa using hO []
 ·have hl':((x.length:Int) != y.length)=true:=by simp;omega
  rw[zgs hlen]at hO;simp[zrd,hl'];simpa using hO []
theorem zzz:∀ (m:Nat) (v:VT),v.nodes≤m→∀ (left:Int),left≤1000000→-1≤left→∀ (H:zaa) (id:Nat),H[id]?=some (.cells [.int .i64 left])→∀ (K:AV→zaa→Prop),
  ((v.nodes:Int)≤left→K (.bool true) (H.set id (.cells [.int .i64 (left-v.nodes)])))→(¬(v.nodes:Int)≤left→∀l',K (.bool false) (H.set id (.cells [.int .i64 l']))) →
  ACalls tP zj5 [.agg v.cs,.ptr id 0] H K:=by
 intro m;induction m with
 |zero=>intro v h;have:=v.nodes_pos;omega
 |succ m ih=>
  intro v hv left hl1 hl0 H id hid K hK hF;obtain⟨k,n,ks⟩:=v;have hlt:=zfL hid;have hnn:(VT.mk k n ks).nodes=VT.nodesL ks+1:=by simp[VT.nodes]
  refine ACalls.out (zMn λhs=>?_);have hget:(H++[AB.cells [.int .i64 k,.int .i64 n,.sl (VT.css ks) .none]])[id]?=some (.cells [.int .i64 left]):=zcm hid;have bad:(¬((VT.mk k n ks).nodes:Int)≤left)→∀l' H',H'=H.set id (.cells [.int .i64 l'])++[.cells [.int .i64 k,.int .i64 n,.sl (VT.css ks) .none]]→Out H.length K (.bool false) H':=by intro h l' H' he;exact Out.bool he (by simp) (hs.set rfl) (hF h l')
  simp[zzx,VT.cs,hget,AV.known];rw[zav (by omega) (by omega),zet _ hid,zcm (zc7 _ hid)];by_cases h0:left-1<0
  ·simp[h0];exact bad (by omega) _ _ rfl
  ·simp[h0];refine zMl (Inv:=λq t5 H'=>∃i:Nat,i≤ks.length∧q=ks.length-i∧t5=.int .i64 i∧((VT.nodesL (ks.take i):Int)+1≤left)∧H'=H.set id (.cells [.int .i64 (left-1-VT.nodesL (ks.take i))])++[.cells [.int .i64 k,.int .i64 n,.sl (VT.css ks) .none]]) ks.length ?_ ?_
   ·intro _;exact⟨0,by omega,by omega,rfl,by simp[VT.nodesL];omega,by simp[VT.nodesL]⟩
   ·rintro q t5 H' ⟨i,hi,rfl,rfl,hb,rfl⟩ hsc hlen hsF Kb hKb;by_cases hil:i<ks.length
    ·have hki:=VT.kid_lt (k:=k) (n:=n) hil;have h1:=VT.nodesL_take hil;have h2:=VT.nodesL_take_le ks (i+1);have hll:=VT.len_le (ks.take i);simp only[List.length_take]at hll;have hge:(H.set id (.cells [.int .i64 (left-1-VT.nodesL (ks.take i))])++[AB.cells [.int .i64 k,.int .i64 n,.sl (VT.css ks) .none]])[id]?=some (.cells [.int .i64 (left-1-VT.nodesL (ks.take i))]):=zcm (zc7 _ hid);simp[zr5,hil];refine ih ks[i] (by omega) (left-1-VT.nodesL (ks.take i)) (by omega) (by omega) _ id hge _ ?_ ?_
     ·intro hle;rw[zet _ (zc7 _ hid),List.set_set];simp;rw[zav (by omega) (by omega)];refine hKb _ _ ⟨ks.length-(i+1),by omega,Back.here (by simp) ((hs.set rfl).snoc rfl) ?_ ⟨_,rfl,i+1,by omega,rfl,by simp,by omega,?_⟩⟩
      ·simp[zmt,AV.sc,AV.scV,AV.scA,AV.scB];omega
      ·rw[h1];congr 5;omega
     ·intro hle l';rw[zet _ (zc7 _ hid),List.set_set];simp;exact bad (by omega) _ _ rfl
    ·obtain rfl:i=ks.length:=by omega
     rw[List.take_length]at hb ⊢;simp[zr5];refine Out.bool rfl (by simp) (hs.set rfl) ?_;have:=hK (by omega);rw[hnn]at this;rw[show left-1-(VT.nodesL ks:Int)=left-((VT.nodesL ks+1:Nat):Int) by omega];exact this
theorem zjD(data:List Dat):∀ vs ts:List VT,zbD data vs ts=zbm (zat data) vs ts
 |[],[]=>by simp[zbD,zbm]
 |[],_::_=>by simp[zbD,zbm]
 |_::_,[]=>by simp[zbD,zbm]
 |v::vs,t::ts=>by simp[zbD,zbm,zjD data vs ts]
theorem zCp:zdD tP zo0=true:=by kernel_rfl
theorem zCo:zdD tP zoM=true:=by kernel_rfl
theorem zkU{data:List Dat}{k n:Int}{ks:List VT}(h:zaz data 0 (.mk k n ks)=true):(k=1∧ks=[])∨(k=2∧ks=[])∨(k=3∧ks=[])∨k=5∨(k=6∧2≤ks.length)∨(k=7∧ks.length=1)∨(k=8∧ks.length=1)∨(k=9∧1≤ks.length):=by
 rw[zaz,Bool.and_eq_true]at h;have h:=h.1;unfold zaC at h;by_cases h1:k=1
 ·subst h1;simp at h;simp[h.2]
 by_cases h2:k=2
 ·subst h2;simp at h;simp[h.2]
 by_cases h3:k=3
 ·subst h3;simp at h;simp[h.2]
 by_cases h4:k=4
 ·subst h4;simp at h;omega
 by_cases h5:k=5
 ·subst h5;simp
 by_cases h6:k=6
 ·subst h6;simp at h;simp;omega
 by_cases h7:k=7
 ·subst h7;simp at h;simp;omega
 by_cases h8:k=8
 ·subst h8;simp at h;simp;omega
 by_cases h9:k=9
 ·subst h9;simp at h;simp;omega
 simp[h1,h2,h3,h4,h5,h6,h7,h8,h9]at h
structure DOk (data:List Dat):Prop where
 ok:zaD data=true
theorem zu8{data:List Dat}(h:zaD data=true):data.length≤1000000∧(∀d∈data,∀c∈d.cons,c.args.length≤1000∧∀x∈c.args,x.nodes≤1000)∧∀d∈data,d.cons.length≤1000000:=by
 refine⟨by have:=zjw h;omega,λD hD c hc=>?_,λD hD=>?_⟩
 ·obtain⟨i,hi,rfl⟩:=List.mem_iff_getElem.1 hD;obtain⟨h1,h2⟩:=zhq h hi c hc;exact⟨by omega,λx hx=>by have:=(h2 x hx).1;omega⟩
 ·obtain⟨i,hi,rfl⟩:=List.mem_iff_getElem.1 hD;have:=zjr h hi;omega
section
variable {data:List Dat} (hD:DOk data)
def znz(data:List Dat)(v:VT):Prop:=∀(t:VT),zaA data 0 t=true→∀(H:zaa) (K:AV→zaa→Prop),K (.bool (zat data v t)) H→ACalls tP zj9 [.sl (data.map Dat.cs) .none,.agg v.cs,.agg t.cs] H K
theorem zth(vs ts:List VT)(hl:vs.length≤1000000)(hv:∀ v∈vs,znz data v)(ht:∀ t∈ts,zaA data 0 t=true)(H:zaa)(K:AV→zaa→Prop)(hK:K (.bool (zbD data vs ts)) H):
  ACalls tP zia [.sl (data.map Dat.cs) .none,.sl (VT.css vs) .none,.sl (VT.css ts) .none] H K:=by
 refine ACalls.out (zQk λhs=>?_);simp[zBg];refine⟨rfl,zC1 (zat data) _ vs ts _ (by simp[AV.sc,AV.scV,AV.scA,AV.scB]) ?_ (by omega) _ ?_⟩
 ·intro i h1 h2 hle J K' hK';simp[aCallV,zCp];refine ACalls.out (zJu λhs1=>?_);obtain⟨x,y,z,hvx,hx,hy,hz⟩:=zaL vs[i];obtain⟨x2,y2,z2,hvx2,hx2,hy2,hz2⟩:=zaL ts[i];simp[zyw,hvx,hvx2];rw[←hvx,←hvx2];refine hv _ (List.getElem_mem h1) _ (ht _ (List.getElem_mem h2)) _ _ ?_;refine Out.bool (H2:=H++[.cells [.sl (data.map Dat.cs) .none]]++J) (J:=[.cells (vs[i]).cs,.cells (ts[i]).cs]) (by simp) (by simp) (by simpa using hs1) (by simpa using hK')
 ·rw[←zjD];exact Out.bool rfl (Nat.le_refl _) hs hK
theorem i0(n:Nat):((n:Int) == 0)=(n == 0):=by rw[Bool.eq_iff_iff];simp
theorem zog{ks:List VT}(h:0<ks.length):ks.getD 0 (.mk 0 0 [])=ks[0]:=by simp[List.getD_eq_getElem?_getD,h]
theorem zuL{data:List Dat}{t:VT}{vs:List VT}{i:Nat}(h:i<vs.length):zcq data (vs.drop i) t=(zat data vs[i] t && zcq data (vs.drop (i+1)) t):=by rw[List.drop_eq_getElem_cons h,zcq]
include hD in
theorem zUq:∀(m:Nat) (v:VT),v.nodes≤m→v.nodes≤1000000→znz data v:=by
 intro m;induction m with
 |zero=>intro v h;have:=v.nodes_pos;omega
 |succ m ih=>
  intro v hm hb t ht H K hK;obtain⟨vk,vn,vks⟩:=v;obtain⟨k,n,ks⟩:=t;refine ACalls.out (zNI λhs=>?_);have hO:∀b J,zat data (.mk vk vn vks) (.mk k n ks)=b→Out H.length K (.bool b) (H++J):=λb J h=>Out.bool rfl (Nat.le_refl _) hs (h ▸ hK);have hll:=VT.len_le vks;have hnn:(VT.mk vk vn vks).nodes=VT.nodesL vks+1:=by simp[VT.nodes]
  have hkids:∀x∈vks,znz data x:=λx hx=>ih x (by have:=zoz (k:=vk) (n:=vn) x hx;omega) (by have:=zfI (k:=vk) (n:=vn) x hx;omega);have htk:=zed ht;have hto:zaz data 0 (.mk k n ks)=true:=by rw[zaA,Bool.and_eq_true]at ht;exact ht.2
  have htn:(VT.mk k n ks).nodes≤200:=by rw[zaA,Bool.and_eq_true]at ht;exact of_decide_eq_true ht.1
  obtain⟨f1,f2,f3⟩:=zu8 hD.ok;rcases zkU hto with ⟨rfl,rfl⟩|⟨rfl,rfl⟩|⟨rfl,rfl⟩|rfl|⟨rfl,hk⟩|⟨rfl,hk⟩|⟨rfl,hk⟩|⟨rfl,hk⟩
  ·simp[zeP,VT.cs,Nat.add_assoc];cases h1:(vk == 3) <;> simp
   ·exact hO _ _ (by simp[zat,h1])
   by_cases h2:-1099511627776≤vn <;> simp[h2]
   ·by_cases h3:vn≤1099511627776 <;> simp[h3]
    ·exact hO _ _ (by simp[zat,h1,h2,h3,i0])
    ·exact hO _ _ (by simp[zat,h1,h2,h3])
   ·exact hO _ _ (by simp[zat,h1,h2])
  ·simp[zeP,VT.cs,Nat.add_assoc];cases h1:(vk == 2) <;> simp
   ·exact hO _ _ (by simp[zat,h1])
   cases h2:(vn == 0) <;> simp[Nat.add_assoc]
   ·cases h3:(vn == 1) <;> simp
    ·exact hO _ _ (by simp[zat,h1,h2,h3])
    ·exact hO _ _ (by simp[zat,h1,h2,h3,i0])
   ·exact hO _ _ (by simp[zat,h1,h2,i0])
  ·simp[zeP,VT.cs,Nat.add_assoc];cases h1:(vk == 1) <;> simp
   ·exact hO _ _ (by simp[zat,h1])
   cases h2:(vn == 0) <;> simp[Nat.add_assoc]
   ·exact hO _ _ (by simp[zat,h1,h2])
   ·exact hO _ _ (by simp[zat,h1,h2,i0])
  ·-- a data type
   simp[zeP,VT.cs,Nat.add_assoc];cases h1:(vk == 5) with
   |false=>
    have:(vk != 5)=true:=by simp[bne,h1]
    simp[this];exact hO _ _ (by simp[zat,h1])
   |true=>
   have h1':(vk != 5)=false:=by simp[bne,h1]
   by_cases h2:vn<0
   ·simp[h1',h2];exact hO _ _ (by simp[zat,h1];omega)
   by_cases h3:8≤vn
   ·simp[h1',h2,h3];exact hO _ _ (by simp[zat,h1];omega)
   simp[h1',h2,h3,Nat.add_assoc];have e:∀o,zbq data (.mk 5 n ks) vn=o→zat data (.mk vk vn vks) (.mk 5 n ks)=ze2 data vks o:=λo ho=>by
    have q1:0≤vn:=by omega
    have q2:vn<8:=by omega
    simp[zat,h1,q1,q2,ho]
   have hcs:(VT.mk 5 n ks).cs=[.int .i64 5,.int .i64 n,.sl (VT.css ks) .none]:=rfl;rw[←hcs];refine zBk data f1 f2 f3 (.mk 5 n ks) (by omega) vn _ _ ?_;cases hf:zbq data (.mk 5 n ks) vn with
   |none=>simp[zdl];exact hO _ _ (by rw[e _ hf,zoh])
   |some l=>simp[zdl,hcs];refine zth vks l (by omega) hkids (zjB hD.ok hto hf) _ _ ?_;exact hO _ _ (by rw[e _ hf,zoi])
  ·simp[zeP,VT.cs,Nat.add_assoc];cases h1:(vk == 4) <;> simp
   ·exact hO _ _ (by simp[zat,h1])
   cases h2:(vn == 0) <;> simp[Nat.add_assoc]
   ·exact hO _ _ (by simp[zat,h1,h2])
   refine zth vks ks (by omega) hkids htk _ _ ?_;exact hO _ _ (by simp[zat,h1,h2])
  ·-- an array
   simp[zeP,VT.cs,Nat.add_assoc];cases h1:(vk == 6) <;> simp
   ·exact hO _ _ (by simp[zat,h1])
   cases h2:(vn == 0) <;> simp[Nat.add_assoc]
   ·exact hO _ _ (by simp[zat,h1,h2])
   by_cases h3:vks.length≤4096;case neg=>
    have h3':¬(vks.length:Int)≤4096:=by omega
    simp[h3,h3'];exact hO _ _ (by simp[zat,h1,h2,h3])
   have h3':(vks.length:Int)≤4096:=by omega
   simp[h3,h3'];refine⟨⟨rfl,rfl⟩,?_⟩;have hk0:0<ks.length:=by omega
   have e:zat data (.mk vk vn vks) (.mk 7 n ks)=zcq data vks ks[0]:=by have:=zog hk0;simp[zat,h1,h2,h3,this,hk0]
   refine zCG vks (by omega) _ _ _ (by simp[AV.sc,AV.scV,AV.scA,AV.scB]) (λi H'=>H'=H++[.cells [.sl (data.map Dat.cs) .none],.cells [.int .i64 vk,.int .i64 vn,.sl (VT.css vks) .none],.cells [.int .i64 7,.int .i64 n,.sl (VT.css ks) .none]]∧zcq data (vks.drop i) ks[0]=zcq data vks ks[0]) ⟨rfl,by simp⟩ ?_ ?_
   ·rintro i hi H' hle ⟨rfl,ho⟩;rw[zuL hi]at ho;simp[aCallV,zCo];refine ACalls.out (zG1 λhs1=>?_);obtain⟨x,y,z,hvx,hx,hy,hz⟩:=zaL vks[i];obtain⟨x2,y2,z2,hvx2,hx2,hy2,hz2⟩:=zaL ks[0];simp[zxx,hvx,hk0,hvx2,Nat.add_assoc];rw[←hvx,←hvx2];refine zaV (.bool (zat data vks[i] ks[0])) (λJ=>hkids _ (List.getElem_mem hi) ks[0] (htk _ (List.getElem_mem hk0)) _ _ ⟨rfl,rfl⟩) ?_;simp;cases hb:zat data vks[i] ks[0] with
    |true=>rw[hb,Bool.true_and]at ho;exact Out.bool (H2:=H++[.cells [.sl (data.map Dat.cs) .none],.cells [.int .i64 vk,.int .i64 vn,.sl (VT.css vks) .none],.cells [.int .i64 7,.int .i64 n,.sl (VT.css ks) .none]]) (J:=[_]) (by simp;rfl) (by simp) hs1 (.inl ⟨rfl,rfl,ho⟩)
    |false=>rw[hb,Bool.false_and]at ho;refine Out.bool (H2:=H++[.cells [.sl (data.map Dat.cs) .none],.cells [.int .i64 vk,.int .i64 vn,.sl (VT.css vks) .none],.cells [.int .i64 7,.int .i64 n,.sl (VT.css ks) .none]]) (J:=[_]) (by simp;rfl) (by simp) hs1 (.inr ⟨rfl,?_⟩);exact hO _ _ (by rw[e,←ho])
   ·rintro H' ⟨rfl,ho⟩;rw[List.drop_length,zcq]at ho;simp;exact hO _ _ (by rw[e,←ho])
  ·simp[zeP,VT.cs,Nat.add_assoc];cases h1:(vk == 7) <;> simp
   ·exact hO _ _ (by simp[zat,h1])
   cases h2:(vn == 0) <;> simp[Nat.add_assoc]
   ·exact hO _ _ (by simp[zat,h1,h2])
   refine zth vks ks (by omega) hkids htk _ _ ?_;exact hO _ _ (by simp[zat,h1,h2])
  ·simp[zeP,VT.cs,Nat.add_assoc];cases h1:(vk == 8) <;> simp
   ·exact hO _ _ (by simp[zat,h1])
   by_cases h2:0≤vn <;> simp[h2]
   ·by_cases h3:vn<64 <;> simp[h3]
    ·exact hO _ _ (by simp[zat,h1,h2,h3,i0])
    ·exact hO _ _ (by simp[zat,h1,h2,h3])
   ·exact hO _ _ (by simp[zat,h1,h2])
end
section
variable {data:List Dat} (hD:DOk data)
def znx(data:List Dat)(v:VT):Prop:=∀(t:VT),zaA data 0 t=true→∀(H:zaa) (K:AV→zaa→Prop),K (.bool (zat data v t)) H→ACalls tP zgA [.sl (data.map Dat.cs) .none,.agg v.cs,.agg t.cs] H K
theorem zCZ{f:VT→VT→Bool}{x y:List VT}{i:Nat}(h:i<x.length)(h':i<y.length):zbm f (x.drop i) (y.drop i)=(f x[i] y[i] && zbm f (x.drop (i+1)) (y.drop (i+1))):=by rw[List.drop_eq_getElem_cons h,List.drop_eq_getElem_cons h',zbm]
theorem zAr(vs ts:List VT)(hl:vs.length≤1000000)(hv:∀ v∈vs,znx data v)(ht:∀ t∈ts,zaA data 0 t=true)(H:zaa)(K:AV→zaa→Prop)(hK:K (.bool (zbD data vs ts)) H):
  ACalls tP zh3 [.sl (data.map Dat.cs) .none,.sl (VT.css vs) .none,.sl (VT.css ts) .none] H K:=by
 refine ACalls.out (zAq λhs=>?_);rw[zjD]at hK;have hO:∀b,zbm (zat data) vs ts=b→Out H.length K (.bool b) H:=λb h=>by have:=Out.bool (J:=[]) rfl (Nat.le_refl _) hs (h ▸ hK);simpa using this
 by_cases hlen:vs.length=ts.length;case neg=>
  have hl':((vs.length:Int) != ts.length)=true:=by simp;omega
  simp[ziX,hl'];exact hO _ (zgs hlen)
 simp[ziX,hlen];refine zAp (Inv:=λq t H'=>∃i:Nat,i≤vs.length∧q=vs.length-i∧t=.int .i64 i∧zbm (zat data) (vs.drop i) (ts.drop i)=zbm (zat data) vs ts∧H=H') vs.length ?_ ?_
 ·intro _;exact⟨0,by omega,by omega,rfl,by simp,rfl⟩
 rintro q t H' ⟨i,hi,rfl,rfl,ho,rfl⟩ hsc hle hsF Kb hKb;by_cases hlt:i<vs.length
 ·have hlt':i<ts.length:=by omega
  have hlt2:(i:Int)<ts.length:=by omega
  rw[zCZ hlt hlt']at ho;obtain⟨x,y,z,hvx,hx,hy,hz⟩:=zaL vs[i];obtain⟨x2,y2,z2,hvx2,hx2,hy2,hz2⟩:=zaL ts[i];simp[ziY,hlt,hlt',hlt2,hvx,hvx2];rw[←hvx,←hvx2];refine zaV (.bool (zat data vs[i] ts[i])) (λJ=>hv _ (List.getElem_mem hlt) _ (ht _ (List.getElem_mem hlt')) _ _ ⟨rfl,rfl⟩) ?_;cases hb:zat data vs[i] ts[i] with
  |false=>rw[hb,Bool.false_and]at ho;simp;exact hO _ ho.symm
  |true=>rw[hb,Bool.true_and]at ho;simp;rw[zav (by omega) (by omega)];refine hKb _ _ ⟨vs.length-(i+1),by omega,Back.here (Nat.le_refl _) hs ?_ ⟨_,rfl,i+1,by omega,rfl,by simp,ho,rfl⟩⟩;simp[ziZ,AV.sc,AV.scV,AV.scA,AV.scB]
 ·obtain rfl:i=vs.length:=by omega
  rw[List.drop_length,hlen,List.drop_length,zbm]at ho;simp[ziY,hlen];exact hO _ ho.symm
theorem zDm{data:List Dat}{vks ks:List VT}(h1:vks.length=1)(h2:ks.length=1):zbD data vks ks=zcq data vks (ks[0]'(by omega)):=by
 match vks,ks,h1,h2 with
 |[v],[k],_,_=>simp[zbD,zcq]
include hD in
theorem zMu:∀(m:Nat) (v:VT),v.nodes≤m→v.nodes≤1000000→znx data v:=by
 intro m;induction m with
 |zero=>intro v h;have:=v.nodes_pos;omega
 |succ m ih=>
  intro v hm hb t ht H K hK;obtain⟨vk,vn,vks⟩:=v;obtain⟨k,n,ks⟩:=t;refine ACalls.out (zzB λhs=>?_);have hO:∀b J,zat data (.mk vk vn vks) (.mk k n ks)=b→Out H.length K (.bool b) (H++J):=λb J h=>Out.bool rfl (Nat.le_refl _) hs (h ▸ hK);have hll:=VT.len_le vks;have hnn:(VT.mk vk vn vks).nodes=VT.nodesL vks+1:=by simp[VT.nodes]
  have hkids:∀x∈vks,znx data x:=λx hx=>ih x (by have:=zoz (k:=vk) (n:=vn) x hx;omega) (by have:=zfI (k:=vk) (n:=vn) x hx;omega);have htk:=zed ht;have hto:zaz data 0 (.mk k n ks)=true:=by rw[zaA,Bool.and_eq_true]at ht;exact ht.2
  have htn:(VT.mk k n ks).nodes≤200:=by rw[zaA,Bool.and_eq_true]at ht;exact of_decide_eq_true ht.1
  obtain⟨f1,f2,f3⟩:=zu8 hD.ok;have loop:∀ (hk:ks.length=1) ,zat data (.mk vk vn vks) (.mk k n ks)=zcq data vks (ks[0]'(by omega)) →
    zmv (.sl (data.map Dat.cs) .none) (.ptr H.length 0) (.ptr (H.length+1) 0) (.int .i64 vks.length) (.int .i64 0) (H++[.cells [.int .i64 vk,.int .i64 vn,.sl (VT.css vks) .none],.cells [.int .i64 k,.int .i64 n,.sl (VT.css ks) .none]]) (Out H.length K):=by
   intro hk e;have hk0:0<ks.length:=by omega
   refine zzA (Inv:=λq t10 H'=>∃i:Nat,i≤vks.length∧q=vks.length-i∧t10=.int .i64 i∧zcq data (vks.drop i) ks[0]=zcq data vks ks[0]∧H'=H++[.cells [.int .i64 vk,.int .i64 vn,.sl (VT.css vks) .none],.cells [.int .i64 k,.int .i64 n,.sl (VT.css ks) .none]]) vks.length ?_ ?_
   ·intro _;exact⟨0,by omega,by omega,rfl,by simp,rfl⟩
   rintro q t10 H' ⟨i,hi,rfl,rfl,ho,rfl⟩ hsc hle hsF Kb hKb;by_cases hlt:i<vks.length
   ·rw[zuL hlt]at ho;obtain⟨x,y,z,hvx,hx,hy,hz⟩:=zaL vks[i];obtain⟨x2,y2,z2,hvx2,hx2,hy2,hz2⟩:=zaL ks[0];simp[ziN,hlt,hvx,hk0,hvx2];rw[←hvx,←hvx2];refine zaV (.bool (zat data vks[i] ks[0])) (λJ=>hkids _ (List.getElem_mem hlt) ks[0] (htk _ (List.getElem_mem hk0)) _ _ ⟨rfl,rfl⟩) ?_;cases hb2:zat data vks[i] ks[0] with
    |false=>rw[hb2,Bool.false_and]at ho;simp;exact hO _ _ (e.trans ho.symm)
    |true=>rw[hb2,Bool.true_and]at ho;simp;rw[zav (by omega) (by omega)];refine hKb _ _ ⟨vks.length-(i+1),by omega,Back.here (by simp) hsc ?_ ⟨_,rfl,i+1,by omega,rfl,by simp,ho,rfl⟩⟩;simp[ziO,AV.sc,AV.scV,AV.scA,AV.scB]
   ·obtain rfl:i=vks.length:=by omega
    rw[List.drop_length,zcq]at ho;simp[ziN];exact hO _ _ (e.trans ho.symm)
  rcases zkU hto with ⟨rfl,rfl⟩|⟨rfl,rfl⟩|⟨rfl,rfl⟩|rfl|⟨rfl,hk⟩|⟨rfl,hk⟩|⟨rfl,hk⟩|⟨rfl,hk⟩
  ·simp[zcy,VT.cs,Nat.add_assoc];cases h1:(vk == 3) <;> simp
   ·exact hO _ _ (by simp[zat,h1])
   by_cases h2:-1099511627776≤vn <;> simp[h2]
   ·by_cases h3:vn≤1099511627776 <;> simp[h3]
    ·exact hO _ _ (by simp[zat,h1,h2,h3,i0])
    ·exact hO _ _ (by simp[zat,h1,h2,h3])
   ·exact hO _ _ (by simp[zat,h1,h2])
  ·simp[zcy,VT.cs,Nat.add_assoc];cases h1:(vk == 2) <;> simp
   ·exact hO _ _ (by simp[zat,h1])
   cases h2:(vn == 0) <;> simp
   ·cases h3:(vn == 1) <;> simp
    ·exact hO _ _ (by simp[zat,h1,h2,h3])
    ·exact hO _ _ (by simp[zat,h1,h2,h3,i0])
   ·exact hO _ _ (by simp[zat,h1,h2,i0])
  ·simp[zcy,VT.cs,Nat.add_assoc];cases h1:(vk == 1) <;> simp
   ·exact hO _ _ (by simp[zat,h1])
   cases h2:(vn == 0) <;> simp
   ·exact hO _ _ (by simp[zat,h1,h2])
   ·exact hO _ _ (by simp[zat,h1,h2,i0])
  ·-- a data type
   simp[zcy,VT.cs,Nat.add_assoc];cases h1:(vk == 5) with
   |false=>
    have:(vk != 5)=true:=by simp[bne,h1]
    simp[this];exact hO _ _ (by simp[zat,h1])
   |true=>
   have h1':(vk != 5)=false:=by simp[bne,h1]
   by_cases h2:vn<0
   ·simp[h1',h2];exact hO _ _ (by simp[zat,h1];omega)
   by_cases h3:8≤vn
   ·simp[h1',h2,h3];exact hO _ _ (by simp[zat,h1];omega)
   simp[h1',h2,h3,Nat.add_assoc];have e:∀o,zbq data (.mk 5 n ks) vn=o→zat data (.mk vk vn vks) (.mk 5 n ks)=ze2 data vks o:=λo ho=>by
    have q1:0≤vn:=by omega
    have q2:vn<8:=by omega
    simp[zat,h1,q1,q2,ho]
   have hcs:(VT.mk 5 n ks).cs=[.int .i64 5,.int .i64 n,.sl (VT.css ks) .none]:=rfl;rw[←hcs];refine zOm data f1 f2 f3 (.mk 5 n ks) (by omega) vn _ _ ?_;cases hf:zbq data (.mk 5 n ks) vn with
   |none=>simp[zdl];exact hO _ _ (by rw[e _ hf,zoh])
   |some l=>simp[zdl,hcs];refine zAr vks l (by omega) hkids (zjB hD.ok hto hf) _ _ ?_;exact hO _ _ (by rw[e _ hf,zoi])
  ·simp[zcy,VT.cs,Nat.add_assoc];cases h1:(vk == 4) <;> simp
   ·exact hO _ _ (by simp[zat,h1])
   cases h2:(vn == 0) <;> simp
   ·exact hO _ _ (by simp[zat,h1,h2])
   refine zAr vks ks (by omega) hkids htk _ _ ?_;exact hO _ _ (by simp[zat,h1,h2])
  ·-- an array
   simp[zcy,zfn,VT.cs,Nat.add_assoc];have hk0:0<ks.length:=by omega
   cases h1:(vk == 6) with
   |false=>
    have:(vk != 6)=true:=by simp[bne,h1]
    simp[this];exact hO _ _ (by simp[zat,h1])
   |true=>
   have h1':(vk != 6)=false:=by simp[bne,h1]
   by_cases h3:vks.length≤4096;case neg=>
    have h3':(4096:Int)<vks.length:=by omega
    simp[h1',h3'];exact hO _ _ (by simp[zat,h1,h3])
   have h3':¬(4096:Int)<vks.length:=by omega
   cases h2:(vn == 0) with
   |false=>
    have:(vn != 0)=true:=by simp[bne,h2]
    simp[h1',h3',this];exact hO _ _ (by simp[zat,h1,h2])
   |true=>
   have h2':(vn != 0)=false:=by simp[bne,h2]
   simp[h1',h3',h2'];exact loop hk (by have:=zog hk0;simp[zat,h1,h2,h3,this,hk0])
  ·simp[zcy,zfn,VT.cs,Nat.add_assoc];have hk0:0<ks.length:=by omega
   cases h1:(vk == 7) with
   |false=>
    have:(vk != 7)=true:=by simp[bne,h1]
    simp[this];exact hO _ _ (by simp[zat,h1])
   |true=>
   have h1':(vk != 7)=false:=by simp[bne,h1]
   by_cases h3:vks.length=1;case neg=>
    have h3':((vks.length:Int) != 1)=true:=by simp;omega
    simp[h1',h3'];refine hO _ _ ?_;have:zbD data vks ks=false:=by rw[zjD];exact zgs (by omega)
    simp[zat,h1,this]
   have h3':((vks.length:Int) != 1)=false:=by simp;omega
   cases h2:(vn == 0) with
   |false=>
    have:(vn != 0)=true:=by simp[bne,h2]
    simp[h1',h3',this];exact hO _ _ (by simp[zat,h1,h2])
   |true=>
   have h2':(vn != 0)=false:=by simp[bne,h2]
   simp[h1',h3',h2'];exact loop hk (by rw[←zDm h3 hk];simp[zat,h1,h2])
  ·simp[zcy,zfn,VT.cs,Nat.add_assoc];cases h1:(vk == 8) <;> simp
   ·exact hO _ _ (by simp[zat,h1])
   by_cases h2:0≤vn <;> simp[h2]
   ·by_cases h3:vn<64 <;> simp[h3]
    ·exact hO _ _ (by simp[zat,h1,h2,h3,i0])
    ·exact hO _ _ (by simp[zat,h1,h2,h3])
   ·exact hO _ _ (by simp[zat,h1,h2])
end
def zhD(data:List Dat)(v t:VT):Bool:=zdm data t && zat data v t
end Go.Proofs.YtaifokkaaahdoaaGreatDoor
