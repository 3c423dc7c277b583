import Derived.Test.YtdmamdnkcefmmaaGreatDoorKNum
import Derived.IntWalk
set_option linter.unusedSimpArgs false
set_option linter.unusedVariables false
set_option linter.unusedSectionVars false
set_option linter.defProp false
set_option maxRecDepth 100000
namespace Go.Proofs.YtdmamdnkcefmmaaGreatDoor
section
variable (t0 t1 t3 t4 t5 t6 t7 t8 t9 t10 t11 t12 t13 t14 t21 t22 t25 t26 t30 t31:AV) (H:or) (K:Kt) (Kb1 Kb2 Kb3 Kb4 Kb5 Kb6 Kb12:Lt)
def ycx(_:Nat):List Bool:=[]
def VM:=un [(.bool false),.ZG,.ZG] H λt2 H=>gt .lss false t0 I0 λt4=>ge tP 113 [t0] H λt6 H=>uk 1 [(.int .u32 0)] 1 [(0,(.int .u32 1))] λt7=>ug [(.bool false),.ZG,.ZG] [(0,1),(1,1),(2,1)] [(0,t4),(1,t6),(2,t7)] λt8=>ge tP 114 [t8] H λt9 H=>ua 3 t2 t9 H λH=>tL true 3 t2 H λr0=>K r0 H
def ydg(_:Nat):List Bool:=[]
def VN:=ul t0 H λt2 H=>ul t1 H λt3 H=>un [(.bool false),.ZG,.ZG] H λt4 H=>apu H (tY true 3 t2 H) λt7=>apc tP H 120 [t7] λt8=>apu H (tY true 3 t3 H) λt9=>apc tP H 120 [t9] λt10=>un [(.bool false),.ZG,.ZG] H λt5 H=>un [(.bool false),.ZG,.ZG] H λt6 H=>ua 3 t5 t8 H λH=>ua 3 t6 t10 H λH=>apu H (tN 0 t5) λt11=>apu H (tY false 1 t11 H) λt12=>apu H (tN 0 t6) λt13=>apu H (tY false 1 t13 H) λt14=>apu H (gt .neq true t12 t14) λt15=>apu H (tN 1 t5) λt16=>apu H (tY false 1 t16 H) λt17=>apu H (tN 1 t6) λt18=>apu H (tY false 1 t18 H) λt19=>apc tP H 121 [t17,t19] λt20=>apu H (tN 2 t5) λt21=>apu H (tY false 1 t21 H) λt22=>apu H (tN 2 t6) λt23=>apu H (tY false 1 t23 H) λt24=>apc tP H 121 [t22,t24] λt25=>apu H (ug [(.bool false),.ZG,.ZG] [(0,1),(1,1),(2,1)] [(0,t15),(1,t20),(2,t25)]) λt26=>apc tP H 114 [t26] λt27=>ua 3 t4 t27 H λH=>tL true 3 t4 H λr0=>K r0 H
def ydP(_:Nat):List Bool:=[]
def VO:=ul t0 H λt2 H=>ul t1 H λt3 H=>un [(.bool false),.ZG,.ZG] H λt4 H=>apu H (tY true 3 t2 H) λt5=>apc tP H 120 [t5] λt6=>apu H (tY true 3 t3 H) λt7=>apc tP H 120 [t7] λt8=>apc tP H 129 [t6,t8] λt9=>apc tP H 114 [t9] λt10=>ua 3 t4 t10 H λH=>tL true 3 t4 H λr0=>K r0 H
def zRl(_:Nat):List Bool:=[]
def VP:=gt .lss false t0 I0 λt4=>tO t4 (uw .u64 t0 λt6=>aUn .neg t6 λt7=>ge tP 152 [t7] H λt8 H=>K t8 H) (uw .u64 t0 λt10=>ge tP 152 [t10] H λt11 H=>K t11 H)
def zRo(_:Nat):List Bool:=[]
def VQ:=ul t0 H λt1 H=>un [(.bool false),.ZG,.ZG] H λt2 H=>tL true 3 t1 H λt4=>ge tP 153 [t4] H λt5 H=>un [(.bool false),.ZG,.ZG] H λt3 H=>ua 3 t3 t5 H λH=>tN 0 t3 λt6=>tL false 1 t6 H λt7=>tN 1 t3 λt8=>tL false 1 t8 H λt9=>tN 2 t3 λt10=>tL false 1 t10 H λt11=>ug [(.bool false),.ZG,.ZG] [(0,1),(1,1),(2,1)] [(0,t7),(1,t9),(2,t11)] λt12=>ua 3 t2 t12 H λH=>tL true 3 t2 H λr0=>K r0 H
def zRL(_:Nat):List Bool:=[]
def VR:=ul t0 H λt1 H=>un [(.bool false),.ZG,.ZG] H λt2 H=>apu H (tN 1 t1) λt5=>apu H (tY false 1 t5 H) λt6=>apc tP H 157 [t6] λt7=>apu H (tN 2 t1) λt8=>apu H (tY false 1 t8 H) λt9=>apc tP H 157 [t9] λt10=>apm H t7 λt3=>apm H t10 λt4=>tV 1 t3 λt12=>gt .eql false t12 I0 λt13=>agm t13 false H t4 λt15 H=>agu t13 false H (tV 1 t15) λt16 H=>agu t13 false H (gt .eql false t16 I0) λt17 H=>tZ t13 (.bool true) t17 λt18=>tO t18 (uk 1 [(.int .u32 0)] 1 [(0,(.int .u32 1))] λt19=>ug [(.bool false),.ZG,.ZG] [(0,1),(1,1),(2,1)] [(2,t19)] λt20=>ua 3 t2 t20 H λH=>tL true 3 t2 H λr0=>K r0 H) (tN 0 t1 λt21=>tL false 1 t21 H λt22=>ug [(.bool false),.ZG,.ZG] [(0,1),(1,1),(2,1)] [(0,t22),(1,t3),(2,t4)] λt25=>ua 3 t2 t25 H λH=>tL true 3 t2 H λr0=>K r0 H)
def Bg:Nat→List Bool|5=>rl false [0,2,3,1,19,2,50]|9=>rl false [0,2,3,3,17,2,3,2,45]|_=>[]
noncomputable def VS:=bd Tryz.f121
def Hu:=t0::t1::ux 3 (t5::ux 19 (t25::t26::ux 50 []))
def VU:=Bg 5
noncomputable def Pe:=uc [1,1,1,0,1,0,0] VS
def VV:=ud tP Bg [1,1,1,0,1,0] VS (uq tP Tryz.f121.results.toList K)
def VW:=tM tP Pe (VV K) (Hu t0 t1 t5 t25 t26) H
def ED:=t0::t1::ux 3 (t5::t6::t7::ux 17 (t25::t26::ux 3 (t30::t31::ux 45 [])))
def zRS:=Bg 9
noncomputable def zRP:=uc [1,1,0,0,1,1,0,1,0,0] Pe
def zRO:=ud tP Bg [1,1,0,0,1,1,0,1,0] Pe (vz VU Kb5 (VV K))
def VX:=tM tP zRP (zRO K Kb5) (ED t0 t1 t5 t6 t7 t25 t26 t30 t31) H
def Pf(t0 t1 t5 t6 t7 t25 t26 t30 t31:AV)(H:or)(K:Kt)(Kb5:Lt)(Kb9:Lt):Prop:=gt .lss false t31 t30 λt32=>tO t32 (apm H t0 λt34=>apm H t6 λt35=>apu H (tW 1 t34 t35) λt36=>apu H (tY false 1 t36 H) λt37=>apu H (uw .u64 t37) λt38=>apm H t1 λt39=>apm H t31 λt40=>apu H (tW 1 t39 t40) λt41=>apu H (tY false 1 t41 H) λt42=>apu H (uw .u64 t42) λt43=>apu H (gt .mul false t38 t43) λt44=>apm H t5 λt45=>apm H t6 λt46=>apm H t31 λt47=>apu H (gt .add false t46 t47) λt48=>apu H (tW 1 t45 t48) λt49=>apu H (tY false 1 t49 H) λt50=>apu H (uw .u64 t50) λt51=>apu H (gt .add false t44 t51) λt52=>apm H t7 λt53=>apu H (gt .add false t52 t53) λt54=>apm H t54 λt9=>gt .add false t6 t31 λt58=>gt .rem false t9 (.int .u64 1000000000) λt60=>uw .u32 t60 λt61=>tW 1 t5 t58 λt62=>ua 1 t62 t61 H λH=>gt .quo false t9 (.int .u64 1000000000) λt64=>gt .add false t31 I1 λt65=>Kb9 (ED t0 t1 t5 t6 t64 t25 t26 t30 t65) H) (tV 1 t1 λt69=>gt .add false t6 t69 λt70=>uw .u32 t7 λt72=>tW 1 t5 t70 λt73=>ua 1 t73 t72 H λH=>gt .add false t26 I1 λt74=>Kb5 (Hu t0 t1 t5 t25 t74) H)
def Pg:=gt .lss false t26 t25 λt27=>tO t27 (tV 1 t1 λt30=>VX t0 t1 t5 t26 (.int .u64 0) t25 t26 t30 I0 H K Kb5) (ge tP 158 [t5] H λt76 H=>K t76 H)
def Hv:=tV 1 t0 λt11=>gt .eql false t11 I0 λt12=>agm t12 false H t1 λt14 H=>agu t12 false H (tV 1 t14) λt15 H=>agu t12 false H (gt .eql false t15 I0) λt16 H=>tZ t12 (.bool true) t16 λt17=>tO t17 (K .ZG H) (tV 1 t0 λt19=>tV 1 t1 λt21=>gt .add false t19 t21 λt22=>vo 4 [(.int .u32 0)] t22 t22 H λt23 H=>tV 1 t0 λt25=>VW t0 t1 t23 t25 I0 H K)
def zSj(_:Nat):List Bool:=[]
def VY:=ul t0 H λt2 H=>ul t1 H λt3 H=>un [(.bool false),.ZG,.ZG] H λt4 H=>apu H (tN 1 t2) λt8=>apu H (tY false 1 t8 H) λt9=>apu H (tN 2 t3) λt10=>apu H (tY false 1 t10 H) λt11=>apc tP H 121 [t9,t11] λt12=>apu H (tN 1 t3) λt13=>apu H (tY false 1 t13 H) λt14=>apu H (tN 2 t2) λt15=>apu H (tY false 1 t15 H) λt16=>apc tP H 121 [t14,t16] λt17=>apm H t12 λt5=>apm H t17 λt6=>tN 2 t2 λt18=>tL false 1 t18 H λt19=>tN 2 t3 λt20=>tL false 1 t20 H λt21=>ge tP 121 [t19,t21] H λt22 H=>tN 0 t2 λt23=>tL false 1 t23 H λt24=>tN 0 t3 λt25=>tL false 1 t25 H λt26=>gt .eql true t24 t26 λt27=>tO t27 (apu H (tN 0 t2) λt28=>apu H (tY false 1 t28 H) λt29=>apm H t5 λt30=>apm H t6 λt31=>apc tP H 171 [t30,t31] λt32=>apm H t22 λt33=>apu H (ug [(.bool false),.ZG,.ZG] [(0,1),(1,1),(2,1)] [(0,t29),(1,t32),(2,t33)]) λt34=>ua 3 t4 t34 H λH=>tL true 3 t4 H λr0=>K r0 H) (ge tP 172 [t5,t6] H λt37 H=>gt .geq false t37 I0 λt38=>tO t38 (apu H (tN 0 t2) λt39=>apu H (tY false 1 t39 H) λt40=>apm H t5 λt41=>apm H t6 λt42=>apc tP H 173 [t41,t42] λt43=>apm H t22 λt44=>apu H (ug [(.bool false),.ZG,.ZG] [(0,1),(1,1),(2,1)] [(0,t40),(1,t43),(2,t44)]) λt45=>ua 3 t4 t45 H λH=>tL true 3 t4 H λr0=>K r0 H) (apu H (tN 0 t3) λt46=>apu H (tY false 1 t46 H) λt47=>apm H t6 λt48=>apm H t5 λt49=>apc tP H 173 [t48,t49] λt50=>apm H t22 λt51=>apu H (ug [(.bool false),.ZG,.ZG] [(0,1),(1,1),(2,1)] [(0,t47),(1,t50),(2,t51)]) λt52=>ua 3 t4 t52 H λH=>tL true 3 t4 H λr0=>K r0 H))
def zSC(_:Nat):List Bool:=[]
def Ph:=ul t0 H λt1 H=>tN 1 t1 λt4=>tL false 1 t4 H λt5=>tV 1 t5 λt6=>gt .eql false t6 I0 λt7=>tO t7 (K I0 H) (tN 0 t1 λt9=>tL false 1 t9 H λt10=>tO t10 (K (I6 (-1)) H) (K I1 H))
def Hw:Nat→List Bool|6=>rl false [0,2,3,1,37]|_=>[]
noncomputable def VZ:=bd Tryz.f172
def Hx:=t0::t1::ux 3 (t5::ux 37 [])
def zWi:=Hw 6
noncomputable def zWg:=uc [1,1,0,1,0,0] VZ
def zWf:=ud tP Hw [1,1,0,1,0] VZ (uq tP Tryz.f172.results.toList K)
def V0:=tM tP zWg (zWf K) (Hx t0 t1 t5) H
def EE:=gt .geq false t5 I0 λt20=>tO t20 (apm H t0 λt24=>apm H t5 λt25=>apu H (tW 1 t24 t25) λt26=>apu H (tY false 1 t26 H) λt27=>apm H t1 λt28=>apm H t5 λt29=>apu H (tW 1 t28 t29) λt30=>apu H (tY false 1 t30 H) λt31=>apu H (gt .lss false t27 t31) λt32=>apm H t32 λt23=>tO t23 (K (I6 (-1)) H) (apm H t0 λt34=>apm H t5 λt35=>apu H (tW 1 t34 t35) λt36=>apu H (tY false 1 t36 H) λt37=>apm H t1 λt38=>apm H t5 λt39=>apu H (tW 1 t38 t39) λt40=>apu H (tY false 1 t40 H) λt41=>apu H (gt .gtr false t37 t41) λt42=>apm H t42 λt33=>tO t33 (K I1 H) (gt .sub false t5 I1 λt22=>Kb6 (Hx t0 t1 t22) H))) (K I0 H)
def Hy:=tV 1 t0 λt7=>tV 1 t1 λt9=>gt .neq false t7 t9 λt10=>tO t10 (tV 1 t0 λt12=>tV 1 t1 λt14=>gt .lss false t12 t14 λt15=>tO t15 (K (I6 (-1)) H) (K I1 H)) (tV 1 t0 λt17=>gt .sub false t17 I1 λt18=>V0 t0 t1 t18 H K)
def Hz:Nat→List Bool|2=>rl false [0,1,2,1,11]|_=>[]
noncomputable def V1:=bd Tryz.f152
def HA:=t0::ux 2 (t3::ux 11 [])
def zUc:=Hz 2
noncomputable def zUa:=uc [1,1,0,0,0] V1
def zT9:=ud tP Hz [1,1,0,0] V1 (uq tP Tryz.f152.results.toList K)
def HC:=tM tP zUa (zT9 K) (HA t0 t3) H
def Pi:=gt .gtr false t0 (.int .u64 0) λt5=>tO t5 (gt .rem false t0 (.int .u64 1000000000) λt10=>uw .u32 t10 λt11=>uk 1 [(.int .u32 0)] 1 [(0,t11)] λt12=>uj 88 1 4 t3 t12 H λt13 H=>gt .quo false t0 (.int .u64 1000000000) λt7=>Kb2 (HA t7 t13) H) (K t3 H)
def V2:=HC t0 .ZG H K
def zUf(_:Nat):List Bool:=[]
def Pj:=ul t0 H λt1 H=>un [(.bool false),.ZG,.ZG] H λt2 H=>tN 1 t1 λt8=>tL false 1 t8 H λt9=>tV 1 t9 λt10=>gt .eql false t10 I0 λt11=>tO t11 (uk 1 [(.int .u32 0)] 1 [(0,(.int .u32 1))] λt12=>ug [(.bool false),.ZG,.ZG] [(0,1),(1,1),(2,1)] [(2,t12)] λt13=>ua 3 t2 t13 H λH=>tL true 3 t2 H λr0=>K r0 H) (tN 2 t1 λt14=>tL false 1 t14 H λt15=>ge tP 197 [t15] H λt16 H=>tO t16 (tL true 3 t1 H λt17=>ua 3 t2 t17 H λH=>tL true 3 t2 H λr0=>K r0 H) (tN 1 t1 λt18=>tL false 1 t18 H λt19=>tN 2 t1 λt20=>tL false 1 t20 H λt21=>ge tP 198 [t19,t21] H λt22 H=>ge tP 197 [t22] H λt24 H=>tO t24 (tL true 3 t1 H λt25=>ua 3 t2 t25 H λH=>tL true 3 t2 H λr0=>K r0 H) (tN 1 t1 λt27=>tL false 1 t27 H λt28=>ge tP 199 [t28,t22] H λt30 H=>uo t30 0 λt31=>uo t30 1 λt32=>tN 2 t1 λt34=>tL false 1 t34 H λt35=>ge tP 199 [t35,t22] H λt37 H=>uo t37 0 λt38=>uo t37 1 λt39=>tN 0 t1 λt40=>tL false 1 t40 H λt41=>ug [(.bool false),.ZG,.ZG] [(0,1),(1,1),(2,1)] [(0,t41),(1,t31),(2,t38)] λt44=>ua 3 t2 t44 H λH=>tL true 3 t2 H λr0=>K r0 H)))
def HD:Nat→List Bool|300000=>rl false [0,1]|300001=>rl false [0,1]|300002=>rl false [0,1]|300003=>rl false [0,1]|4=>rl false [0,1,2,2,7,2,27]|_=>[]
noncomputable def V3:=bd Tryz.f157
def HE:=t0::ux 2 (t3::t4::ux 7 (t12::t13::ux 27 []))
def zUA:=HD 4
noncomputable def zUy:=uc [1,1,1,0,1,0,0] V3
def zUx:=ud tP HD [1,1,1,0,1,0] V3 (uq tP Tryz.f157.results.toList K)
def V4:=tM tP zUy (zUx K) (HE t0 t3 t4 t12 t13) H
def HF:=ge tP 158 [t3] H λt40 H=>K t40 H
def HG:=gt .lss false t13 t12 λt14=>tO t14 (tW 1 t0 t13 λt18=>tL false 1 t18 H λt19=>uw .u64 t19 λt20=>gt .add false t20 t4 λt22=>gt .rem false t22 (.int .u64 1000000000) λt25=>uw .u32 t25 λt26=>uk 1 [(.int .u32 0)] 1 [(0,t26)] λt27=>uj 88 1 4 t3 t27 H λt28 H=>gt .quo false t22 (.int .u64 1000000000) λt30=>gt .add false t13 I1 λt31=>Kb4 (HE t0 t28 t30 t12 t31) H) (gt .gtr false t4 (.int .u64 0) λt33=>tO t33 (uw .u32 t4 λt36=>uk 1 [(.int .u32 0)] 1 [(0,t36)] λt37=>uj 88 1 4 t3 t37 H λt38 H=>HF t38 H K) (HF t3 H K))
def V5:=tV 1 t0 λt8=>gt .add false t8 I1 λt9=>zI 88 1 4 t9 H λt10 H=>tV 1 t0 λt12=>V4 t0 t10 (.int .u64 0) t12 I0 H K
def HH:Nat→List Bool|2=>rl false [0,1,2,1,17]|_=>[]
noncomputable def V6:=bd Tryz.f158
def HI:=t0::ux 2 (t3::ux 17 [])
def zUG:=HH 2
noncomputable def zUE:=uc [1,1,0,0,0] V6
def zUD:=ud tP HH [1,1,0,0] V6 (uq tP Tryz.f158.results.toList K)
def V7:=tM tP zUE (zUD K) (HI t0 t3) H
def HJ:=gt .gtr false t3 I0 λt7=>agm t7 true H t0 λt9 H=>agm t7 true H t3 λt10 H=>agu t7 true H (gt .sub false t10 I1) λt11 H=>agu t7 true H (tW 1 t9 t11) λt12 H=>agu t7 true H (tL false 1 t12 H) λt13 H=>agu t7 true H (gt .eql false t13 (.int .u32 0)) λt14 H=>tZ t7 t14 (.bool false) λt15=>tO t15 (gt .sub false t3 I1 λt17=>Kb2 (HI t0 t17) H) (uF 1 1 t0 none (some t3) λt20=>K t20 H)
def V8:=tV 1 t0 λt5=>V7 t0 t5 H K
def HK:Nat→List Bool|300000=>rl false [0,1]|300001=>rl false [0,1]|300002=>rl false [0,1]|300003=>rl false [0,1]|300004=>rl false [0,1]|6=>rl false [0,2,3,2,14,2,33]|_=>[]
noncomputable def V9:=bd Tryz.f171
def HL:=t0::t1::ux 3 (t5::t6::ux 14 (t21::t22::ux 33 []))
def zWb:=HK 6
noncomputable def zV9:=uc [1,1,1,1,0,1,0,0] V9
def zV8:=ud tP HK [1,1,1,1,0,1,0] V9 (uq tP Tryz.f171.results.toList K)
def Wa:=tM tP zV9 (zV8 K) (HL t0 t1 t5 t6 t21 t22) H
def HM(t0 t1 t5 t8 t21 t22:AV)(H:or)(K:Kt)(Kb6:Lt):Prop:=gt .quo false t8 (.int .u32 1000000000) λt42=>gt .rem false t8 (.int .u32 1000000000) λt45=>uk 1 [(.int .u32 0)] 1 [(0,t45)] λt46=>uj 88 1 4 t5 t46 H λt47 H=>gt .add false t22 I1 λt48=>Kb6 (HL t0 t1 t47 t42 t21 t48) H
def HN:=K t5 H
def EF:=gt .lss false t22 t21 λt23=>tO t23 (tW 1 t0 t22 λt27=>tL false 1 t27 H λt28=>gt .add false t28 t6 λt30=>tV 1 t1 λt33=>gt .lss false t22 t33 λt34=>tO t34 (tW 1 t1 t22 λt38=>tL false 1 t38 H λt39=>gt .add false t30 t39 λt40=>HM t0 t1 t5 t40 t21 t22 H K Kb6) (HM t0 t1 t5 t30 t21 t22 H K Kb6)) (gt .gtr false t6 (.int .u32 0) λt50=>tO t50 (uk 1 [(.int .u32 0)] 1 [(0,t6)] λt53=>uj 88 1 4 t5 t53 H λt54 H=>HN t54 H K) (HN t5 H K))
def HO:=tV 1 t0 λt17=>gt .add false t17 I1 λt18=>zI 88 1 4 t18 H λt19 H=>tV 1 t0 λt21=>Wa t0 t1 t19 (.int .u32 0) t21 I0 H K
def Pk:=tV 1 t0 λt10=>tV 1 t1 λt12=>gt .lss false t10 t12 λt13=>tO t13 (HO t1 t0 H K) (HO t0 t1 H K)
def HP:Nat→List Bool|300000=>rl false [0,1]|300001=>rl false [0,1]|300002=>rl false [0,1]|300003=>rl false [0,1]|4=>rl false [0,2,3,2,6,2,32]|_=>[]
noncomputable def Wc:=bd Tryz.f173
def EG:=t0::t1::ux 3 (t5::t6::ux 6 (t13::t14::ux 32 []))
def zWo:=HP 4
noncomputable def zWm:=uc [1,1,1,0,1,0,0] Wc
def zWl:=ud tP HP [1,1,1,0,1,0] Wc (uq tP Tryz.f173.results.toList K)
def Wd:=tM tP zWm (zWl K) (EG t0 t1 t5 t6 t13 t14) H
def HQ(t0 t1 t5 t6 t8 t13 t14:AV)(H:or)(K:Kt)(Kb4:Lt):Prop:=uw .u32 t8 λt41=>uk 1 [(.int .u32 0)] 1 [(0,t41)] λt42=>uj 88 1 4 t5 t42 H λt43 H=>gt .add false t14 I1 λt44=>Kb4 (EG t0 t1 t43 t6 t13 t44) H
def EH:=gt .lss false t8 I0 λt36=>tO t36 (gt .add false t8 (I6 1000000000) λt38=>HQ t0 t1 t5 I1 t38 t13 t14 H K Kb4) (HQ t0 t1 t5 I0 t8 t13 t14 H K Kb4)
def HR:=gt .lss false t14 t13 λt15=>tO t15 (tW 1 t0 t14 λt19=>tL false 1 t19 H λt20=>uw .i64 t20 λt21=>gt .sub false t21 t6 λt23=>tV 1 t1 λt26=>gt .lss false t14 t26 λt27=>tO t27 (tW 1 t1 t14 λt31=>tL false 1 t31 H λt32=>uw .i64 t32 λt33=>gt .sub false t23 t33 λt34=>EH t0 t1 t5 t34 t13 t14 H K Kb4) (EH t0 t1 t5 t23 t13 t14 H K Kb4)) (ge tP 158 [t5] H λt46 H=>K t46 H)
def We:=tV 1 t0 λt10=>zI 88 1 4 t10 H λt11 H=>tV 1 t0 λt13=>Wd t0 t1 t11 I0 t13 I0 H K
def zXj(_:Nat):List Bool:=[]
def HS:=tV 1 t0 λt4=>gt .eql false t4 I1 λt5=>agm t5 true H t0 λt7 H=>agu t5 true H (tW 1 t7 I0) λt8 H=>agu t5 true H (tL false 1 t8 H) λt9 H=>agu t5 true H (gt .eql false t9 (.int .u32 1)) λt10 H=>tZ t5 t10 (.bool false) λt11=>K t11 H
def Bh:Nat→List Bool|1=>rl false [0,2,47]|5=>rl false [5,1,1,1,41]|_=>[]
noncomputable def Wf:=bd Tryz.f198
def EI:=t0::t1::ux 47 []
def Wg:=Bh 1
noncomputable def Pl:=uc [1,0,0,0] Wf
def Wh:=ud tP Bh [1,0,0] Wf (uq tP Tryz.f198.results.toList K)
def Wi:=tM tP Pl (Wh K) (EI t0 t1) H
def HT:=ux 5 (t5::ux 1 (t7::ux 41 []))
def zXq:=Bh 5
noncomputable def zXn:=uc [1,0,0,1,0,1,1,0,0,0] Pl
def zXm:=ud tP Bh [1,0,0,1,0,1,1,0,0] Pl (vz Wg Kb1 (Wh K))
def Wj:=tM tP zXn (zXm K Kb1) (HT t5 t7) H
def Pm(t5 t7:AV)(H:or)(K:Kt)(Kb1:Lt)(Kb5:Lt):Prop:=gt .gtr false t7 (.int .u64 0) λt33=>tO t33 (apm H t7 λt34=>apm H t5 λt35=>apm H t7 λt36=>apu H (gt .rem false t35 t36) λt37=>apm H t34 λt5=>apm H t37 λt7=>Kb5 (HT t5 t7) H) (ge tP 152 [t5] H λt39 H=>K t39 H)
def EJ:=tV 1 t1 λt12=>gt .gtr false t12 I0 λt13=>tO t13 (tV 1 t0 λt15=>gt .leq false t15 (I6 2) λt16=>agm t16 true H t1 λt18 H=>agu t16 true H (tV 1 t18) λt19 H=>agu t16 true H (gt .leq false t19 (I6 2)) λt20 H=>tZ t16 t20 (.bool false) λt21=>tO t21 (ge tP 223 [t0] H λt24 H=>uo t24 0 λt25=>uo t24 1 λt26=>ge tP 223 [t1] H λt29 H=>uo t29 0 λt30=>uo t29 1 λt31=>Wj t25 t30 H K Kb1) (ge tP 199 [t0,t1] H λt43 H=>uo t43 0 λt44=>uo t43 1 λt45=>Kb1 (EI t1 t45) H)) (K t0 H)
def Wk:=Wi t0 t1 H K
def HU:Nat→List Bool|12=>rl false [8,6,77]|_=>[]
noncomputable def Wl:=bd Tryz.f199
def HV:=ux 8 (t8::t9::t10::t11::t12::t13::ux 77 [])
def zXw:=HU 12
noncomputable def zXu:=uc [1,1,1,1,1,1,1,1,0,1,0,0] Wl
def zXt:=ud tP HU [1,1,1,1,1,1,1,1,0,1,0] Wl (uq tP Tryz.f199.results.toList K)
def Pn:=tM tP zXu (zXt K) (HV t8 t9 t10 t11 t12 t13) H
def Po:=gt .geq false t13 I0 λt66=>tO t66 (gt .add false t13 t8 λt75=>gt .add false t75 I1 λt76=>uF 1 1 t10 (some t13) (some t76) λt77=>ge tP 226 [t77,t11] H λt79 H=>tW 1 t12 t13 λt80=>ua 1 t80 t79 H λH=>gt .sub false t13 I1 λt68=>Kb12 (HV t8 t9 t10 t11 t12 t68) H) (ge tP 158 [t10] H λt83 H=>ge tP 224 [t83,t9] H λt85 H=>uo t85 0 λt86=>uo t85 1 λt87=>ge tP 158 [t12] H λt89 H=>ut [t89,t86] (K · H))
def HW:=ge tP 172 [t0,t1] H λt18 H=>gt .lss false t18 I0 λt19=>tO t19 (uj 88 1 4 .ZG t0 H λt21 H=>ut [.ZG,t21] (K · H)) (tV 1 t1 λt23=>gt .eql false t23 I1 λt24=>tO t24 (tW 1 t1 I0 λt28=>tL false 1 t28 H λt29=>uw .u64 t29 λt30=>ge tP 224 [t0,t30] H λt31 H=>uo t31 0 λt32=>uo t31 1 λt33=>ge tP 152 [t33] H λt36 H=>ut [t32,t36] (K · H)) (tV 1 t1 λt38=>gt .sub false t38 I1 λt41=>tW 1 t1 t41 λt42=>tL false 1 t42 H λt43=>uw .u64 t43 λt44=>gt .add false t44 (.int .u64 1) λt45=>gt .quo false (.int .u64 1000000000) t45 λt46=>ge tP 225 [t0,t46] H λt49 H=>ge tP 225 [t1,t46] H λt52 H=>uF 1 1 t52 none (some t38) λt54=>tV 1 t0 λt56=>gt .sub false t56 t38 λt58=>gt .add false t58 I1 λt59=>vo 4 [(.int .u32 0)] t59 t59 H λt60 H=>tV 1 t0 λt62=>gt .sub false t62 t38 λt64=>Pn t38 t46 t49 t54 t60 t64 H K))
def zYf(_:Nat):List Bool:=[]
def Wm:=un [(.bool false),.ZG,.ZG] H λt4 H=>gt .eql false t1 I0 λt6=>tO t6 (ge tP 61 [I0] H λt7 H=>ua 3 t4 t7 H λH=>tL true 3 t4 H λr0=>K r0 H) (gt .lss false t0 I0 λt9=>gt .lss false t1 I0 λt11=>gt .neq true t9 t11 λt12=>ge tP 113 [t0] H λt14 H=>ge tP 113 [t1] H λt16 H=>ug [(.bool false),.ZG,.ZG] [(0,1),(1,1),(2,1)] [(0,t12),(1,t14),(2,t16)] λt17=>ge tP 114 [t17] H λt18 H=>ua 3 t4 t18 H λH=>tL true 3 t4 H λr0=>K r0 H)
def HX:Nat→List Bool|3=>rl false [0,1,3,1,3,2,22]|_=>[]
noncomputable def Wn:=bd Tryz.f223
def HY:=t0::ux 3 (t4::ux 3 (t8::t9::ux 22 []))
def zYo:=HX 3
noncomputable def zYm:=uc [1,1,0,1,0,0] Wn
def zYl:=ud tP HX [1,1,0,1,0] Wn (uq tP Tryz.f223.results.toList K)
def Wo:=tM tP zYm (zYl K) (HY t0 t4 t8 t9) H
def Pp:=gt .lss false t9 t8 λt10=>tO t10 (tV 1 t0 λt14=>gt .sub false t14 I1 λt15=>gt .sub false t15 t9 λt17=>tW 1 t0 t17 λt18=>tL false 1 t18 H λt19=>uw .u64 t19 λt20=>gt .sub false (.int .u64 18446744073709551615) t20 λt23=>gt .quo false t23 (.int .u64 1000000000) λt24=>gt .gtr false t4 t24 λt25=>tO t25 (ut [(.int .u64 0),(.bool false)] (K · H)) (gt .mul false t4 (.int .u64 1000000000) λt27=>gt .add false t27 t20 λt29=>gt .add false t9 I1 λt30=>Kb3 (HY t0 t29 t8 t30) H)) (ut [t4,(.bool true)] (K · H))
def Wp:=tV 1 t0 λt8=>Wo t0 (.int .u64 0) t8 I0 H K
def HZ:Nat→List Bool|4=>rl false [0,2,4,3,32]|_=>[]
noncomputable def Wq:=bd Tryz.f224
def H6:=t0::t1::ux 4 (t6::t7::t8::ux 32 [])
def zYu:=HZ 4
noncomputable def zYs:=uc [1,1,1,0,1,0,0] Wq
def zYr:=ud tP HZ [1,1,1,0,1,0] Wq (uq tP Tryz.f224.results.toList K)
def Wr:=tM tP zYs (zYr K) (H6 t0 t1 t6 t7 t8) H
def Pq:=gt .geq false t8 I0 λt17=>tO t17 (gt .mul false t7 (.int .u64 1000000000) λt21=>tW 1 t0 t8 λt24=>tL false 1 t24 H λt25=>uw .u64 t25 λt26=>gt .add false t21 t26 λt27=>gt .quo false t27 t1 λt32=>uw .u32 t32 λt33=>tW 1 t6 t8 λt34=>ua 1 t34 t33 H λH=>gt .rem false t27 t1 λt37=>gt .sub false t8 I1 λt19=>Kb4 (H6 t0 t1 t6 t37 t19) H) (ge tP 158 [t6] H λt39 H=>ut [t39,t7] (K · H))
def Wt:=tV 1 t0 λt11=>vo 4 [(.int .u32 0)] t11 t11 H λt12 H=>tV 1 t0 λt14=>gt .sub false t14 I1 λt15=>Wr t0 t1 t12 (.int .u64 0) t15 H K
def yd4(_:Nat):List Bool:=[]
def Wu:=ul t0 H λt1 H=>tL true 3 t1 H λt3=>ge tP 120 [t3] H λt4 H=>ge tP 132 [t4] H λt5 H=>K t5 H
def H7:Nat→List Bool|3=>rl false [0,1,3,2,2,2,16]|_=>[]
noncomputable def Wv:=bd Tryz.f175
def H8:=t0::ux 3 (t4::t5::ux 2 (t8::t9::ux 16 []))
def zWA:=H7 3
noncomputable def zWy:=uc [1,1,0,1,0,0] Wv
def zWx:=ud tP H7 [1,1,0,1,0] Wv (uq tP Tryz.f175.results.toList K)
def Ww:=tM tP zWy (zWx K) (H8 t0 t4 t5 t8 t9) H
def H9:=gt .lss false t9 t8 λt10=>tO t10 (gt .eql false t0 t9 λt14=>tO t14 (ge tP 61 [I0] H λt15 H=>ua 3 t4 t15 H λH=>tL true 3 t4 H λr0=>K r0 H) (apu H (tY true 3 t5 H) λt16=>apm H t0 λt17=>apm H t9 λt18=>apu H (gt .sub false t17 t18) λt19=>apm H t9 λt20=>apu H (gt .add false t20 I1) λt21=>apc tP H 216 [t19,t21] λt22=>apc tP H 70 [t16,t22] λt23=>ua 3 t5 t23 H λH=>gt .add false t9 I1 λt24=>Kb3 (H8 t0 t4 t5 t8 t24) H)) (tL true 3 t5 H λt25=>ua 3 t4 t25 H λH=>tL true 3 t4 H λr0=>K r0 H)
def Wx:=un [(.bool false),.ZG,.ZG] H λt4 H=>ge tP 61 [I1] H λt7 H=>un [(.bool false),.ZG,.ZG] H λt5 H=>ua 3 t5 t7 H λH=>Ww t0 t4 t5 t1 I0 H K
variable {t0 t1 t3 t4 t5 t6 t7 t8 t9 t10 t11 t12 t13 t14 t21 t22 t25 t26 t30 t31} {H} {K} {Kb1 Kb2 Kb3 Kb4 Kb5 Kb6 Kb12}
def ycz(h:HSc H→VM t0 H K):ge tP 61 [t0] H K:=
 acb ycx Tryz.func61 h
def ydi(h:HSc H→VN t0 t1 H K):ge tP 70 [t0,t1] H K:=
 acb ydg Tryz.func70 h
def ydR(h:HSc H→VO t0 t1 H K):ge tP 77 [t0,t1] H K:=
 acb ydP Tryz.func77 h
def zRn(h:HSc H→VP t0 H K):ge tP 113 [t0] H K:=
 acb zRl Tryz.func113 h
def zRq(h:HSc H→VQ t0 H K):ge tP 114 [t0] H K:=
 acb zRo Tryz.func114 h
def zRN(h:HSc H→VR t0 H K):ge tP 120 [t0] H K:=
 acb zRL Tryz.func120 h
def zRR:Lo2 (λt7 t31=>ED t0 t1 t5 t6 t7 t25 t26 t30 t31) (λt7 t31 H Kb9=>Pf t0 t1 t5 t6 t7 t25 t26 t30 t31 H K Kb5 Kb9) t7 t31 H (VX t0 t1 t5 t6 t7 t25 t26 t30 t31 H K Kb5):=lq2 Bg zRS
def zRQ:Lo1 (λt26=>Hu t0 t1 t5 t25 t26) (λt26 H Kb5=>Pg t0 t1 t5 t25 t26 H K Kb5) t26 H (VW t0 t1 t5 t25 t26 H K):=lq1 Bg VU
def zRT(h:HSc H→Hv t0 t1 H K):ge tP 121 [t0,t1] H K:=
 acb Bg Tryz.func121 h
def zSl(h:HSc H→VY t0 t1 H K):ge tP 129 [t0,t1] H K:=
 acb zSj Tryz.func129 h
def zSE(h:HSc H→Ph t0 H K):ge tP 132 [t0] H K:=
 acb zSC Tryz.func132 h
def zWh:Lo1 (λt5=>Hx t0 t1 t5) (λt5 H Kb6=>EE t0 t1 t5 H K Kb6) t5 H (V0 t0 t1 t5 H K):=lq1 Hw zWi
def zWj(h:HSc H→Hy t0 t1 H K):ge tP 172 [t0,t1] H K:=
 acb Hw Tryz.func172 h
def zUb:Lo2 (λt0 t3=>HA t0 t3) (λt0 t3 H Kb2=>Pi t0 t3 H K Kb2) t0 t3 H (HC t0 t3 H K):=lq2 Hz zUc
def zUd(h:HSc H→V2 t0 H K):ge tP 152 [t0] H K:=
 acb Hz Tryz.func152 h
def zUh(h:HSc H→Pj t0 H K):ge tP 153 [t0] H K:=
 acb zUf Tryz.func153 h
def zUz:Lo3 (λt3 t4 t13=>HE t0 t3 t4 t12 t13) (λt3 t4 t13 H Kb4=>HG t0 t3 t4 t12 t13 H K Kb4) t3 t4 t13 H (V4 t0 t3 t4 t12 t13 H K):=lq3 HD zUA
def zUB(h:HSc H→V5 t0 H K):ge tP 157 [t0] H K:=
 acb HD Tryz.func157 h
def zUF:Lo1 (λt3=>HI t0 t3) (λt3 H Kb2=>HJ t0 t3 H K Kb2) t3 H (V7 t0 t3 H K):=lq1 HH zUG
def zUH(h:HSc H→V8 t0 H K):ge tP 158 [t0] H K:=
 acb HH Tryz.func158 h
def zWa:Lo3 (λt5 t6 t22=>HL t0 t1 t5 t6 t21 t22) (λt5 t6 t22 H Kb6=>EF t0 t1 t5 t6 t21 t22 H K Kb6) t5 t6 t22 H (Wa t0 t1 t5 t6 t21 t22 H K):=lq3 HK zWb
def zWc(h:HSc H→Pk t0 t1 H K):ge tP 171 [t0,t1] H K:=
 acb HK Tryz.func171 h
def zWn:Lo3 (λt5 t6 t14=>EG t0 t1 t5 t6 t13 t14) (λt5 t6 t14 H Kb4=>HR t0 t1 t5 t6 t13 t14 H K Kb4) t5 t6 t14 H (Wd t0 t1 t5 t6 t13 t14 H K):=lq3 HP zWo
def zWp(h:HSc H→We t0 t1 H K):ge tP 173 [t0,t1] H K:=
 acb HP Tryz.func173 h
def zXl(h:HSc H→HS t0 H K):ge tP 197 [t0] H K:=
 acb zXj Tryz.func197 h
def zXp:Lo2 (λt5 t7=>HT t5 t7) (λt5 t7 H Kb5=>Pm t5 t7 H K Kb1 Kb5) t5 t7 H (Wj t5 t7 H K Kb1):=lq2 Bh zXq
def zXo:Lo2 (λt0 t1=>EI t0 t1) (λt0 t1 H Kb1=>EJ t0 t1 H K Kb1) t0 t1 H (Wi t0 t1 H K):=lq2 Bh Wg
def zXr(h:HSc H→Wk t0 t1 H K):ge tP 198 [t0,t1] H K:=
 acb Bh Tryz.func198 h
def zXv:Lo1 (λt13=>HV t8 t9 t10 t11 t12 t13) (λt13 H Kb12=>Po t8 t9 t10 t11 t12 t13 H K Kb12) t13 H (Pn t8 t9 t10 t11 t12 t13 H K):=lq1 HU zXw
def Pr(h:HSc H→HW t0 t1 H K):ge tP 199 [t0,t1] H K:=
 acb HU Tryz.func199 h
def zYh(h:HSc H→Wm t0 t1 H K):ge tP 216 [t0,t1] H K:=
 acb zYf Tryz.func216 h
def zYn:Lo2 (λt4 t9=>HY t0 t4 t8 t9) (λt4 t9 H Kb3=>Pp t0 t4 t8 t9 H K Kb3) t4 t9 H (Wo t0 t4 t8 t9 H K):=lq2 HX zYo
def zYp(h:HSc H→Wp t0 H K):ge tP 223 [t0] H K:=
 acb HX Tryz.func223 h
def zYt:Lo2 (λt7 t8=>H6 t0 t1 t6 t7 t8) (λt7 t8 H Kb4=>Pq t0 t1 t6 t7 t8 H K Kb4) t7 t8 H (Wr t0 t1 t6 t7 t8 H K):=lq2 HZ zYu
def zYv(h:HSc H→Wt t0 t1 H K):ge tP 224 [t0,t1] H K:=
 acb HZ Tryz.func224 h
def yd6(h:HSc H→Wu t0 H K):ge tP 80 [t0] H K:=
 acb yd4 Tryz.func80 h
def zWz:Lo1 (λt9=>H8 t0 t4 t5 t8 t9) (λt9 H Kb3=>H9 t0 t4 t5 t8 t9 H K Kb3) t9 H (Ww t0 t4 t5 t8 t9 H K):=lq1 H7 zWA
def zWB(h:HSc H→Wx t0 t1 H K):ge tP 175 [t0,t1] H K:=
 acb H7 Tryz.func175 h
end
section
variable (t0 t1 t2 t3 t4 t5 t6 t7 t8 t9 t10 t11:AV) (H:or) (K:Kt) (Kb1 Kb2 Kb3 Kb4 Kb6 Kb7 Kb9 Kb13:Lt)
def yaq(_:Nat):List Bool:=[]
def Wz:=un [(.bool false),.ZG,.ZG] H λt2 H=>gt .lss false t0 I0 λt4=>tO t4 (gt .add false t0 I1 λt6=>aUn .neg t6 λt7=>uw .u64 t7 λt8=>gt .add false t8 (.int .u64 1) λt9=>ge tP 71 [t9] H λt10 H=>uk 1 [(.int .u32 0)] 1 [(0,(.int .u32 1))] λt11=>ge tP 57 [(.bool true),t10,t11] H λt12 H=>ua 3 t2 t12 H λH=>tL true 3 t2 H λr0=>K r0 H) (uw .u64 t0 λt14=>ge tP 71 [t14] H λt15 H=>uk 1 [(.int .u32 0)] 1 [(0,(.int .u32 1))] λt16=>ge tP 57 [(.bool false),t15,t16] H λt17 H=>ua 3 t2 t17 H λH=>tL true 3 t2 H λr0=>K r0 H)
def zXY(_:Nat):List Bool:=[]
def WA:=ul t0 H λt2 H=>ul t1 H λt3 H=>un [(.bool false),.ZG,.ZG] H λt4 H=>apu H (tY true 3 t2 H) λt5=>apc tP H 56 [t5] λt6=>apu H (tY true 3 t3 H) λt7=>apc tP H 56 [t7] λt8=>ua 3 t2 t6 H λH=>ua 3 t3 t8 H λH=>apu H (tN 0 t2) λt9=>apu H (tY false 1 t9 H) λt10=>apu H (tN 0 t3) λt11=>apu H (tY false 1 t11 H) λt12=>apu H (gt .neq true t10 t12) λt13=>apu H (tN 1 t2) λt14=>apu H (tY false 1 t14 H) λt15=>apu H (tN 1 t3) λt16=>apu H (tY false 1 t16 H) λt17=>apc tP H 58 [t15,t17] λt18=>apu H (tN 2 t2) λt19=>apu H (tY false 1 t19 H) λt20=>apu H (tN 2 t3) λt21=>apu H (tY false 1 t21 H) λt22=>apc tP H 58 [t20,t22] λt23=>apc tP H 57 [t13,t18,t23] λt24=>ua 3 t4 t24 H λH=>tL true 3 t4 H λr0=>K r0 H
def yb0(_:Nat):List Bool:=[]
def WB:=ul t0 H λt2 H=>ul t1 H λt3 H=>un [(.bool false),.ZG,.ZG] H λt4 H=>apu H (tY true 3 t2 H) λt8=>apc tP H 56 [t8] λt9=>apu H (tY true 3 t3 H) λt10=>apc tP H 56 [t10] λt11=>ua 3 t2 t9 H λH=>ua 3 t3 t11 H λH=>apu H (tN 1 t2) λt12=>apu H (tY false 1 t12 H) λt13=>apu H (tN 2 t3) λt14=>apu H (tY false 1 t14 H) λt15=>apc tP H 58 [t13,t15] λt16=>apu H (tN 1 t3) λt17=>apu H (tY false 1 t17 H) λt18=>apu H (tN 2 t2) λt19=>apu H (tY false 1 t19 H) λt20=>apc tP H 58 [t18,t20] λt21=>apm H t16 λt5=>apm H t21 λt6=>tN 2 t2 λt22=>tL false 1 t22 H λt23=>tN 2 t3 λt24=>tL false 1 t24 H λt25=>ge tP 58 [t23,t25] H λt26 H=>tN 0 t2 λt27=>tL false 1 t27 H λt28=>tN 0 t3 λt29=>tL false 1 t29 H λt30=>gt .eql true t28 t30 λt31=>tO t31 (apu H (tN 0 t2) λt32=>apu H (tY false 1 t32 H) λt33=>apm H t5 λt34=>apm H t6 λt35=>apc tP H 104 [t34,t35] λt36=>apm H t26 λt37=>apc tP H 57 [t33,t36,t37] λt38=>ua 3 t4 t38 H λH=>tL true 3 t4 H λr0=>K r0 H) (ge tP 105 [t5,t6] H λt41 H=>gt .geq false t41 I0 λt42=>tO t42 (apu H (tN 0 t2) λt43=>apu H (tY false 1 t43 H) λt44=>apm H t5 λt45=>apm H t6 λt46=>apc tP H 106 [t45,t46] λt47=>apm H t26 λt48=>apc tP H 57 [t44,t47,t48] λt49=>ua 3 t4 t49 H λH=>tL true 3 t4 H λr0=>K r0 H) (apu H (tN 0 t3) λt50=>apu H (tY false 1 t50 H) λt51=>apm H t6 λt52=>apm H t5 λt53=>apc tP H 106 [t52,t53] λt54=>apm H t26 λt55=>apc tP H 57 [t51,t54,t55] λt56=>ua 3 t4 t56 H λH=>tL true 3 t4 H λr0=>K r0 H))
def Ia:Nat→List Bool|2=>rl false [0,1,2,1,11]|_=>[]
noncomputable def WC:=bd Tryz.f71
def Ib:=t0::ux 2 (t3::ux 11 [])
def ydm:=Ia 2
noncomputable def ydk:=uc [1,1,0,0,0] WC
def ydj:=ud tP Ia [1,1,0,0] WC (uq tP Tryz.f71.results.toList K)
def Ic:=tM tP ydk (ydj K) (Ib t0 t3) H
def Ps:=gt .gtr false t0 (.int .u64 0) λt5=>tO t5 (gt .rem false t0 (.int .u64 1000000000) λt8=>uw .u32 t8 λt9=>uk 1 [(.int .u32 0)] 1 [(0,t9)] λt10=>uj 88 1 4 t3 t10 H λt11 H=>gt .quo false t0 (.int .u64 1000000000) λt13=>Kb2 (Ib t13 t11) H) (K t3 H)
def WD:=Ic t0 .ZG H K
def yca(_:Nat):List Bool:=[]
def WE:=ul t0 H λt1 H=>un [(.bool false),.ZG,.ZG] H λt2 H=>tN 0 t1 λt3=>tL false 1 t3 H λt4=>tN 1 t1 λt5=>tL false 1 t5 H λt6=>tN 2 t1 λt7=>tL false 1 t7 H λt8=>ge tP 57 [t4,t6,t8] H λt9 H=>ua 3 t2 t9 H λH=>tL true 3 t2 H λr0=>K r0 H
def Bi:Nat→List Bool|3=>rl false [0,2,3,2,63]|7=>rl false [0,2,3,4,61]|_=>[]
noncomputable def WF:=bd Tryz.f58
def Id:=t0::t1::ux 3 (t5::t6::ux 63 [])
def WG:=Bi 3
noncomputable def Pt:=uc [1,1,0,1,0,0] WF
def WH:=ud tP Bi [1,1,0,1,0] WF (uq tP Tryz.f58.results.toList K)
def WI:=tM tP Pt (WH K) (Id t0 t1 t5 t6) H
def Ie:=t0::t1::ux 3 (t5::t6::t7::t8::ux 61 [])
def yck:=Bi 7
noncomputable def ych:=uc [1,0,0,1,1,0,0] Pt
def ycg:=ud tP Bi [1,0,0,1,1,0] Pt (vz WG Kb3 (WH K))
def WJ:=tM tP ych (ycg K Kb3) (Ie t0 t1 t5 t6 t7 t8) H
def If(t0 t1 t5 t6 t7 t8:AV)(H:or)(K:Kt)(Kb3:Lt)(Kb7:Lt):Prop:=gt .add false t6 t8 λt61=>gt .rem false t7 (.int .u64 1000000000) λt63=>uw .u32 t63 λt64=>tW 1 t5 t61 λt65=>ua 1 t65 t64 H λH=>gt .quo false t7 (.int .u64 1000000000) λt67=>gt .add false t8 I1 λt31=>Kb7 (Ie t0 t1 t5 t6 t67 t31) H
def Ig:=tV 1 t1 λt24=>gt .lss false t8 t24 λt25=>agm t25 false H t7 λt27 H=>agu t25 false H (gt .gtr false t27 (.int .u64 0)) λt28 H=>tZ t25 (.bool true) t28 λt29=>tO t29 (gt .add false t6 t8 λt36=>tW 1 t5 t36 λt37=>tL false 1 t37 H λt38=>uw .u64 t38 λt39=>gt .add false t7 t39 λt40=>tV 1 t1 λt43=>gt .lss false t8 t43 λt44=>tO t44 (apm H t40 λt45=>apm H t0 λt46=>apm H t6 λt47=>apu H (tW 1 t46 t47) λt48=>apu H (tY false 1 t48 H) λt49=>apu H (uw .u64 t49) λt50=>apm H t1 λt51=>apm H t8 λt52=>apu H (tW 1 t51 t52) λt53=>apu H (tY false 1 t53 H) λt54=>apu H (uw .u64 t54) λt55=>apu H (gt .mul false t50 t55) λt56=>apu H (gt .add false t45 t56) λt57=>apm H t57 λt7=>If t0 t1 t5 t6 t7 t8 H K Kb3 Kb7) (If t0 t1 t5 t6 t40 t8 H K Kb3 Kb7)) (gt .add false t6 I1 λt21=>Kb3 (Id t0 t1 t5 t21) H)
def Pu:=tV 1 t0 λt18=>gt .lss false t6 t18 λt19=>tO t19 (WJ t0 t1 t5 t6 (.int .u64 0) I0 H K Kb3) (ge tP 110 [t5] H λt69 H=>K t69 H)
def WK:=tV 1 t0 λt10=>tV 1 t1 λt12=>gt .add false t10 t12 λt13=>gt .add false t13 I1 λt14=>vo 4 [(.int .u32 0)] t14 t14 H λt15 H=>WI t0 t1 t15 I0 H K
def Ih:Nat→List Bool|4=>rl false [0,2,3,3,46]|_=>[]
noncomputable def WL:=bd Tryz.f104
def Ii:=t0::t1::ux 3 (t5::t6::t7::ux 46 [])
def zQl:=Ih 4
noncomputable def zQj:=uc [1,1,1,0,1,0,0] WL
def zQi:=ud tP Ih [1,1,1,0,1,0] WL (uq tP Tryz.f104.results.toList K)
def Ij:=tM tP zQj (zQi K) (Ii t0 t1 t5 t6 t7) H
def Ik(t0 t1 t5 t7 t8:AV)(H:or)(K:Kt)(Kb4:Lt):Prop:=gt .quo false t8 (.int .u32 1000000000) λt47=>gt .rem false t8 (.int .u32 1000000000) λt50=>uk 1 [(.int .u32 0)] 1 [(0,t50)] λt51=>uj 88 1 4 t5 t51 H λt52 H=>gt .add false t7 I1 λt24=>Kb4 (Ii t0 t1 t52 t47 t24) H
def CO:=tV 1 t1 λt38=>gt .lss false t7 t38 λt39=>tO t39 (tW 1 t1 t7 λt43=>tL false 1 t43 H λt44=>gt .add false t8 t44 λt45=>Ik t0 t1 t5 t7 t45 H K Kb4) (Ik t0 t1 t5 t7 t8 H K Kb4)
def CP:=tV 1 t0 λt11=>gt .lss false t7 t11 λt12=>agm t12 false H t7 λt14 H=>agm t12 false H t1 λt15 H=>agu t12 false H (tV 1 t15) λt16 H=>agu t12 false H (gt .lss false t14 t16) λt17 H=>tZ t12 (.bool true) t17 λt18=>agm t18 false H t6 λt20 H=>agu t18 false H (gt .gtr false t20 (.int .u32 0)) λt21 H=>tZ t18 (.bool true) t21 λt22=>tO t22 (tV 1 t0 λt28=>gt .lss false t7 t28 λt29=>tO t29 (tW 1 t0 t7 λt33=>tL false 1 t33 H λt34=>gt .add false t6 t34 λt35=>CO t0 t1 t5 t7 t35 H K Kb4) (CO t0 t1 t5 t7 t6 H K Kb4)) (K t5 H)
def WN:=Ij t0 t1 .ZG (.int .u32 0) I0 H K
def Il:Nat→List Bool|6=>rl false [0,2,3,1,35]|_=>[]
noncomputable def WO:=bd Tryz.f105
def Im:=t0::t1::ux 3 (t5::ux 35 [])
def zQs:=Il 6
noncomputable def zQq:=uc [1,1,0,1,0,0] WO
def zQp:=ud tP Il [1,1,0,1,0] WO (uq tP Tryz.f105.results.toList K)
def WP:=tM tP zQq (zQp K) (Im t0 t1 t5) H
def EK:=gt .geq false t5 I0 λt20=>tO t20 (apm H t0 λt23=>apm H t5 λt24=>apu H (tW 1 t23 t24) λt25=>apu H (tY false 1 t25 H) λt26=>apm H t1 λt27=>apm H t5 λt28=>apu H (tW 1 t27 t28) λt29=>apu H (tY false 1 t29 H) λt30=>apu H (gt .lss false t26 t30) λt31=>tO t31 (K (I6 (-1)) H) (apm H t0 λt32=>apm H t5 λt33=>apu H (tW 1 t32 t33) λt34=>apu H (tY false 1 t34 H) λt35=>apm H t1 λt36=>apm H t5 λt37=>apu H (tW 1 t36 t37) λt38=>apu H (tY false 1 t38 H) λt39=>apu H (gt .gtr false t35 t39) λt40=>tO t40 (K I1 H) (gt .sub false t5 I1 λt22=>Kb6 (Im t0 t1 t22) H))) (K I0 H)
def In:=tV 1 t0 λt7=>tV 1 t1 λt9=>gt .neq false t7 t9 λt10=>tO t10 (tV 1 t0 λt12=>tV 1 t1 λt14=>gt .lss false t12 t14 λt15=>tO t15 (K (I6 (-1)) H) (K I1 H)) (tV 1 t0 λt17=>gt .sub false t17 I1 λt18=>WP t0 t1 t18 H K)
def Io:Nat→List Bool|4=>rl false [0,2,3,3,48]|_=>[]
noncomputable def WQ:=bd Tryz.f106
def EL:=t0::t1::ux 3 (t5::t6::t7::ux 48 [])
def zQy:=Io 4
noncomputable def zQw:=uc [1,1,1,0,1,0,0] WQ
def zQv:=ud tP Io [1,1,1,0,1,0] WQ (uq tP Tryz.f106.results.toList K)
def WR:=tM tP zQw (zQv K) (EL t0 t1 t5 t6 t7) H
def Pv(t0 t1 t5 t6 t7:AV)(H:or)(K:Kt)(Kb4:Lt):Prop:=gt .add false t7 I1 λt17=>Kb4 (EL t0 t1 t5 t6 t17) H
def Ip:=Pv t0 t1 t5 t6 t7 H K Kb4
def EM:=tW 1 t0 t7 λt31=>tL false 1 t31 H λt32=>gt .geq false t32 t8 λt34=>tO t34 (tW 1 t0 t7 λt39=>tL false 1 t39 H λt40=>gt .sub false t40 t8 λt42=>tW 1 t5 t7 λt43=>ua 1 t43 t42 H λH=>Ip t0 t1 t5 (.int .u32 0) t7 H K Kb4) (tW 1 t0 t7 λt48=>tL false 1 t48 H λt49=>gt .add false t49 (.int .u32 1000000000) λt50=>gt .sub false t50 t8 λt52=>tW 1 t5 t7 λt53=>ua 1 t53 t52 H λH=>Ip t0 t1 t5 (.int .u32 1) t7 H K Kb4)
def Iq:=tV 1 t0 λt14=>gt .lss false t7 t14 λt15=>tO t15 (tV 1 t1 λt21=>gt .lss false t7 t21 λt22=>tO t22 (tW 1 t1 t7 λt26=>tL false 1 t26 H λt27=>gt .add false t6 t27 λt28=>EM t0 t1 t5 t7 t28 H K Kb4) (EM t0 t1 t5 t7 t6 H K Kb4)) (ge tP 110 [t5] H λt55 H=>K t55 H)
def WS:=tV 1 t0 λt10=>vo 4 [(.int .u32 0)] t10 t10 H λt11 H=>WR t0 t1 t11 (.int .u32 0) I0 H K
def zY8(_:Nat):List Bool:=[]
def WT:=ul t0 H λt1 H=>tL true 3 t1 H λt3=>ge tP 56 [t3] H λt4 H=>ua 3 t1 t4 H λH=>tN 1 t1 λt6=>tL false 1 t6 H λt7=>tV 1 t7 λt8=>gt .eql false t8 I0 λt9=>tO t9 (K I0 H) (tN 0 t1 λt11=>tL false 1 t11 H λt12=>tO t12 (K (I6 (-1)) H) (K I1 H))
def Ir:Nat→List Bool|4=>rl false [0,1,2,3,30]|_=>[]
noncomputable def WU:=bd Tryz.f107
def Is:=t0::ux 2 (t3::t4::t5::ux 30 [])
def zQF:=Ir 4
noncomputable def zQD:=uc [1,1,1,0,1,0,0] WU
def zQC:=ud tP Ir [1,1,1,0,1,0] WU (uq tP Tryz.f107.results.toList K)
def It:=tM tP zQD (zQC K) (Is t0 t3 t4 t5) H
def Iu:=ge tP 110 [t3] H λt35 H=>K t35 H
def Iw:=tV 1 t0 λt8=>gt .lss false t5 t8 λt9=>tO t9 (tW 1 t0 t5 λt15=>tL false 1 t15 H λt16=>uw .u64 t16 λt17=>gt .add false t4 t17 λt18=>gt .rem false t18 (.int .u64 1000000000) λt21=>uw .u32 t21 λt22=>uk 1 [(.int .u32 0)] 1 [(0,t22)] λt23=>uj 88 1 4 t3 t23 H λt24 H=>gt .quo false t18 (.int .u64 1000000000) λt26=>gt .add false t5 I1 λt11=>Kb4 (Is t0 t24 t26 t11) H) (gt .gtr false t4 (.int .u64 0) λt28=>tO t28 (uw .u32 t4 λt31=>uk 1 [(.int .u32 0)] 1 [(0,t31)] λt32=>uj 88 1 4 t3 t32 H λt33 H=>Iu t33 H K) (Iu t3 H K))
def WV:=It t0 .ZG (.int .u64 0) I0 H K
def Ix:Nat→List Bool|1=>rl false [0,2,17]|_=>[]
noncomputable def WW:=bd Tryz.f108
def Iy:=t0::t1::ux 17 []
def zQL:=Ix 1
noncomputable def zQJ:=uc [1,0,0,0] WW
def zQI:=ud tP Ix [1,0,0] WW (uq tP Tryz.f108.results.toList K)
def WX:=tM tP zQJ (zQI K) (Iy t0 t1) H
def Pw:=tV 1 t1 λt8=>gt .gtr false t8 I0 λt9=>tO t9 (ge tP 109 [t0,t1] H λt13 H=>uo t13 0 λt14=>uo t13 1 λt15=>Kb1 (Iy t1 t15) H) (K t0 H)
def WY:=WX t0 t1 H K
def Iz:Nat→List Bool|2=>rl false [0,1,2,1,18]|_=>[]
noncomputable def WZ:=bd Tryz.f110
def IA:=t0::ux 2 (t3::ux 18 [])
def zQ2:=Iz 2
noncomputable def zQ0:=uc [1,1,0,0,0] WZ
def zQZ:=ud tP Iz [1,1,0,0] WZ (uq tP Tryz.f110.results.toList K)
def W0:=tM tP zQ0 (zQZ K) (IA t0 t3) H
def IB:=gt .gtr false t3 I0 λt7=>agm t7 true H t0 λt9 H=>agm t7 true H t3 λt10 H=>agu t7 true H (gt .sub false t10 I1) λt11 H=>agu t7 true H (tW 1 t9 t11) λt12 H=>agu t7 true H (tL false 1 t12 H) λt13 H=>agu t7 true H (gt .eql false t13 (.int .u32 0)) λt14 H=>tZ t7 t14 (.bool false) λt15=>tO t15 (gt .sub false t3 I1 λt17=>Kb2 (IA t0 t17) H) (uF 1 1 t0 none (some t3) λt20=>uj 88 1 4 .ZG t20 H λt21 H=>K t21 H)
def W1:=tV 1 t0 λt5=>W0 t0 t5 H K
def IC:Nat→List Bool|4=>rl false [0,2,4,3,31]|_=>[]
noncomputable def W2:=bd Tryz.f150
def ID:=t0::t1::ux 4 (t6::t7::t8::ux 31 [])
def zT2:=IC 4
noncomputable def zT0:=uc [1,1,1,0,1,0,0] W2
def zTZ:=ud tP IC [1,1,1,0,1,0] W2 (uq tP Tryz.f150.results.toList K)
def W3:=tM tP zT0 (zTZ K) (ID t0 t1 t6 t7 t8) H
def Px:=gt .geq false t8 I0 λt16=>tO t16 (gt .mul false t7 (.int .u64 1000000000) λt20=>tW 1 t0 t8 λt23=>tL false 1 t23 H λt24=>uw .u64 t24 λt25=>gt .add false t20 t25 λt26=>gt .quo false t26 t1 λt31=>uw .u32 t31 λt32=>tW 1 t6 t8 λt33=>ua 1 t33 t32 H λH=>gt .rem false t26 t1 λt36=>gt .sub false t8 I1 λt18=>Kb4 (ID t0 t1 t6 t36 t18) H) (ge tP 110 [t6] H λt38 H=>ut [t38,t7] (K · H))
def W4:=tV 1 t0 λt10=>vo 4 [(.int .u32 0)] t10 t10 H λt11 H=>tV 1 t0 λt13=>gt .sub false t13 I1 λt14=>W3 t0 t1 t11 (.int .u64 0) t14 H K
def zTq(_:Nat):List Bool:=[]
def W5:=ul t0 H λt2 H=>ul t1 H λt3 H=>un [(.bool false),.ZG,.ZG] H λt4 H=>apu H (tY true 3 t2 H) λt6=>apc tP H 56 [t6] λt7=>apu H (tY true 3 t3 H) λt8=>apc tP H 56 [t8] λt9=>ua 3 t2 t7 H λH=>ua 3 t3 t9 H λH=>tN 1 t3 λt10=>tL false 1 t10 H λt11=>tV 1 t11 λt12=>gt .eql false t12 I0 λt13=>tO t13 (ge tP 36 [I0] H λt14 H=>ua 3 t4 t14 H λH=>tL true 3 t4 H λr0=>ut [r0,(.bool false)] (K · H)) (apu H (tN 0 t2) λt15=>apu H (tY false 1 t15 H) λt16=>apu H (tN 0 t3) λt17=>apu H (tY false 1 t17 H) λt18=>apu H (gt .neq true t16 t18) λt19=>apu H (tN 1 t2) λt20=>apu H (tY false 1 t20 H) λt21=>apu H (tN 2 t3) λt22=>apu H (tY false 1 t22 H) λt23=>apc tP H 58 [t21,t23] λt24=>apu H (tN 2 t2) λt25=>apu H (tY false 1 t25 H) λt26=>apu H (tN 1 t3) λt27=>apu H (tY false 1 t27 H) λt28=>apc tP H 58 [t26,t28] λt29=>apc tP H 57 [t19,t24,t29] λt30=>ua 3 t4 t30 H λH=>apm H (.bool true) λt5=>tL true 3 t4 H λr0=>ut [r0,t5] (K · H))
def ycd(_:Nat):List Bool:=[]
def EN:=ug [(.bool false),.ZG,.ZG] [(0,1),(1,1),(2,1)] [(0,t0),(1,t1),(2,t2)] λt49=>ua 3 t6 t49 H λH=>tL true 3 t6 H λr0=>K r0 H
def W6:=un [(.bool false),.ZG,.ZG] H λt6 H=>ge tP 107 [t1] H λt9 H=>ge tP 107 [t2] H λt11 H=>tV 1 t9 λt13=>gt .eql false t13 I0 λt14=>agm t14 false H t11 λt16 H=>agu t14 false H (tV 1 t16) λt17 H=>agu t14 false H (gt .eql false t17 I0) λt18 H=>tZ t14 (.bool true) t18 λt19=>tO t19 (uk 1 [(.int .u32 0)] 1 [(0,(.int .u32 1))] λt20=>ug [(.bool false),.ZG,.ZG] [(0,1),(1,1),(2,1)] [(2,t20)] λt21=>ua 3 t6 t21 H λH=>tL true 3 t6 H λr0=>K r0 H) (ge tP 108 [t9,t11] H λt24 H=>tV 1 t24 λt26=>gt .neq false t26 I1 λt27=>agm t27 false H t24 λt29 H=>agu t27 false H (tW 1 t29 I0) λt30 H=>agu t27 false H (tL false 1 t30 H) λt31 H=>agu t27 false H (gt .neq false t31 (.int .u32 1)) λt32 H=>tZ t27 (.bool true) t32 λt33=>tO t33 (ge tP 109 [t9,t24] H λt37 H=>uo t37 0 λt38=>uo t37 1 λt39=>ge tP 109 [t11,t24] H λt43 H=>uo t43 0 λt44=>uo t43 1 λt45=>EN t0 t38 t44 t6 H K) (EN t0 t9 t11 t6 H K))
def zk:Nat→List Bool|9=>rl false [0,2,6,3,79]|13=>rl false [0,2,6,4,78]|16=>rl false [0,2,6,4,78]|_=>[]
noncomputable def W7:=bd Tryz.f109
def CQ:=t0::t1::ux 6 (t8::t9::t10::ux 79 [])
def Py:=zk 9
noncomputable def EO:=uc [1,1,1,1,1,0,1,0,0] W7
def Pz:=ud tP zk [1,1,1,1,1,0,1,0] W7 (uq tP Tryz.f109.results.toList K)
def W8:=tM tP EO (Pz K) (CQ t0 t1 t8 t9 t10) H
def IE:=t0::t1::ux 6 (t8::t9::t10::t11::ux 78 [])
def zQV:=zk 13
noncomputable def zQQ:=uc [1,0,0,1,1,0,0,0] EO
def zQO:=ud tP zk [1,0,0,1,1,0,0] EO (vz Py Kb9 (Pz K))
def IF:=tM tP zQQ (zQO K Kb9) (IE t0 t1 t8 t9 t10 t11) H
def IG:=t0::t1::ux 6 (t8::t9::t10::t11::ux 78 [])
def zQW:=zk 16
noncomputable def zQR:=uc [1,0,0,1,1,1,1,0,0,0] EO
def zQP:=ud tP zk [1,0,0,1,1,1,1,0,0] EO (vz Py Kb9 (Pz K))
def IH:=tM tP zQR (zQP K Kb9) (IG t0 t1 t8 t9 t10 t11) H
def W9(t0 t1 t8 t9 t10 t11:AV)(H:or)(K:Kt)(Kb9:Lt)(Kb16:Lt):Prop:=ge tP 105 [t9,t1] H λt75 H=>gt .geq false t75 I0 λt76=>tO t76 (ge tP 106 [t9,t1] H λt79 H=>gt .add false t11 (.int .u64 1) λt81=>Kb16 (IG t0 t1 t8 t79 t10 t81) H) (uw .u32 t11 λt85=>tW 1 t8 t10 λt86=>ua 1 t86 t85 H λH=>gt .sub false t10 I1 λt42=>Kb9 (CQ t0 t1 t8 t9 t42) H)
def II:=gt .gtr false t11 (.int .u64 0) λt55=>agm t55 true H t1 λt57 H=>agm t55 true H t11 λt58 H=>agc tP t55 true H 71 [t58] λt59 H=>agc tP t55 true H 58 [t57,t59] λt60 H=>agm t55 true H t9 λt61 H=>agc tP t55 true H 105 [t60,t61] λt62 H=>agu t55 true H (gt .gtr false t62 I0) λt63 H=>tZ t55 t63 (.bool false) λt64=>tO t64 (gt .sub false t11 (.int .u64 1) λt66=>Kb13 (IE t0 t1 t8 t9 t10 t66) H) (ge tP 71 [t11] H λt70 H=>ge tP 58 [t1,t70] H λt71 H=>ge tP 106 [t9,t71] H λt72 H=>IH t0 t1 t8 t72 t10 t11 H K Kb9)
def PA:=gt .geq false t10 I0 λt40=>tO t40 (tW 1 t0 t10 λt45=>tL false 1 t45 H λt46=>uk 1 [(.int .u32 0)] 1 [(0,t46)] λt47=>uj 88 1 4 t47 t9 H λt49 H=>ge tP 110 [t49] H λt50 H=>ge tP 151 [t50,t1] H λt53 H=>IF t0 t1 t8 t50 t10 t53 H K Kb9) (ge tP 110 [t8] H λt88 H=>ut [t88,t9] (K · H))
def IJ:=ge tP 105 [t0,t1] H λt14 H=>gt .lss false t14 I0 λt15=>tO t15 (ge tP 110 [t0] H λt17 H=>ut [.ZG,t17] (K · H)) (tV 1 t1 λt19=>gt .eql false t19 I1 λt20=>tO t20 (tW 1 t1 I0 λt24=>tL false 1 t24 H λt25=>uw .u64 t25 λt26=>ge tP 150 [t0,t26] H λt27 H=>uo t27 0 λt28=>uo t27 1 λt29=>ge tP 71 [t29] H λt32 H=>ut [t28,t32] (K · H)) (tV 1 t0 λt34=>vo 4 [(.int .u32 0)] t34 t34 H λt35 H=>tV 1 t0 λt37=>gt .sub false t37 I1 λt38=>W8 t0 t1 t35 .ZG t38 H K))
variable {t0 t1 t2 t3 t4 t5 t6 t7 t8 t9 t10 t11} {H} {K} {Kb1 Kb2 Kb3 Kb4 Kb6 Kb7 Kb9 Kb13}
def yas(h:HSc H→Wz t0 H K):ge tP 36 [t0] H K:=
 acb yaq Tryz.func36 h
def zX0(h:HSc H→WA t0 t1 H K):ge tP 22 [t0,t1] H K:=
 acb zXY Tryz.func22 h
def yb2(h:HSc H→WB t0 t1 H K):ge tP 54 [t0,t1] H K:=
 acb yb0 Tryz.func54 h
def ydl:Lo2 (λt0 t3=>Ib t0 t3) (λt0 t3 H Kb2=>Ps t0 t3 H K Kb2) t0 t3 H (Ic t0 t3 H K):=lq2 Ia ydm
def ydn(h:HSc H→WD t0 H K):ge tP 71 [t0] H K:=
 acb Ia Tryz.func71 h
def ycc(h:HSc H→WE t0 H K):ge tP 56 [t0] H K:=
 acb yca Tryz.func56 h
def ycj:Lo2 (λt7 t8=>Ie t0 t1 t5 t6 t7 t8) (λt7 t8 H Kb7=>Ig t0 t1 t5 t6 t7 t8 H K Kb3 Kb7) t7 t8 H (WJ t0 t1 t5 t6 t7 t8 H K Kb3):=lq2 Bi yck
def yci:Lo1 (λt6=>Id t0 t1 t5 t6) (λt6 H Kb3=>Pu t0 t1 t5 t6 H K Kb3) t6 H (WI t0 t1 t5 t6 H K):=lq1 Bi WG
def ycl(h:HSc H→WK t0 t1 H K):ge tP 58 [t0,t1] H K:=
 acb Bi Tryz.func58 h
def zQk:Lo3 (λt5 t6 t7=>Ii t0 t1 t5 t6 t7) (λt5 t6 t7 H Kb4=>CP t0 t1 t5 t6 t7 H K Kb4) t5 t6 t7 H (Ij t0 t1 t5 t6 t7 H K):=lq3 Ih zQl
def zQm(h:HSc H→WN t0 t1 H K):ge tP 104 [t0,t1] H K:=
 acb Ih Tryz.func104 h
def zQr:Lo1 (λt5=>Im t0 t1 t5) (λt5 H Kb6=>EK t0 t1 t5 H K Kb6) t5 H (WP t0 t1 t5 H K):=lq1 Il zQs
def zQt(h:HSc H→In t0 t1 H K):ge tP 105 [t0,t1] H K:=
 acb Il Tryz.func105 h
def zQx:Lo2 (λt6 t7=>EL t0 t1 t5 t6 t7) (λt6 t7 H Kb4=>Iq t0 t1 t5 t6 t7 H K Kb4) t6 t7 H (WR t0 t1 t5 t6 t7 H K):=lq2 Io zQy
def zQz(h:HSc H→WS t0 t1 H K):ge tP 106 [t0,t1] H K:=
 acb Io Tryz.func106 h
def zZa(h:HSc H→WT t0 H K):ge tP 24 [t0] H K:=
 acb zY8 Tryz.func24 h
def zQE:Lo3 (λt3 t4 t5=>Is t0 t3 t4 t5) (λt3 t4 t5 H Kb4=>Iw t0 t3 t4 t5 H K Kb4) t3 t4 t5 H (It t0 t3 t4 t5 H K):=lq3 Ir zQF
def zQG(h:HSc H→WV t0 H K):ge tP 107 [t0] H K:=
 acb Ir Tryz.func107 h
def zQK:Lo2 (λt0 t1=>Iy t0 t1) (λt0 t1 H Kb1=>Pw t0 t1 H K Kb1) t0 t1 H (WX t0 t1 H K):=lq2 Ix zQL
def zQM(h:HSc H→WY t0 t1 H K):ge tP 108 [t0,t1] H K:=
 acb Ix Tryz.func108 h
def zQ1:Lo1 (λt3=>IA t0 t3) (λt3 H Kb2=>IB t0 t3 H K Kb2) t3 H (W0 t0 t3 H K):=lq1 Iz zQ2
def zQ3(h:HSc H→W1 t0 H K):ge tP 110 [t0] H K:=
 acb Iz Tryz.func110 h
def zT1:Lo2 (λt7 t8=>ID t0 t1 t6 t7 t8) (λt7 t8 H Kb4=>Px t0 t1 t6 t7 t8 H K Kb4) t7 t8 H (W3 t0 t1 t6 t7 t8 H K):=lq2 IC zT2
def zT3(h:HSc H→W4 t0 t1 H K):ge tP 150 [t0,t1] H K:=
 acb IC Tryz.func150 h
def zTs(h:HSc H→W5 t0 t1 H K):ge tP 143 [t0,t1] H K:=
 acb zTq Tryz.func143 h
def ycf(h:HSc H→W6 t0 t1 t2 H K):ge tP 57 [t0,t1,t2] H K:=
 acb ycd Tryz.func57 h
def zQT:Lo2 (λt9 t11=>IG t0 t1 t8 t9 t10 t11) (λt9 t11 H Kb16=>W9 t0 t1 t8 t9 t10 t11 H K Kb9 Kb16) t9 t11 H (IH t0 t1 t8 t9 t10 t11 H K Kb9):=lq2 zk zQW
def zQS:Lo1 (λt11=>IE t0 t1 t8 t9 t10 t11) (λt11 H Kb13=>II t0 t1 t8 t9 t10 t11 H K Kb9 Kb13) t11 H (IF t0 t1 t8 t9 t10 t11 H K Kb9):=lq1 zk zQV
def zQU:Lo2 (λt9 t10=>CQ t0 t1 t8 t9 t10) (λt9 t10 H Kb9=>PA t0 t1 t8 t9 t10 H K Kb9) t9 t10 H (W8 t0 t1 t8 t9 t10 H K):=lq2 zk Py
def PB(h:HSc H→IJ t0 t1 H K):ge tP 109 [t0,t1] H K:=
 acb zk Tryz.func109 h
end
def tQ:List Nat→Nat
 |[]=>0
 |x::l=>x+1000000000*tQ l
def lim(n:Nat):List Nat:=if _h:n=0 then [] else n % 1000000000::lim (n / 1000000000)
termination_by n
decreasing_by exact dN (by omega) (by decide)
@[simp] theorem EP:lim 0=[]:=by rw[lim];rfl
def xK{n:Nat}(h:n≠0):lim n=n % 1000000000::lim (n / 1000000000):=by rw[lim,eK h]
def uN(n:Nat):tQ (lim n)=n:=by
 induction n using Nat.strongRecOn with
 |_ n ih=>
  by_cases h:n=0
  ·subst h;simp[tQ]
  ·rw[xK h,tQ,ih _ (dN (by omega) (by decide))];exact Nat.mod_add_div n 1000000000
def uZ(n:Nat):∀x∈lim n,x<1000000000:=by
 induction n using Nat.strongRecOn with
 |_ n ih=>
  by_cases h:n=0
  ·subst h;simp
  ·rw[xK h];intro x hx;rcases aT.1 hx with rfl | hx
   ·exact ci _ (by decide)
   ·exact ih _ (dN (by omega) (by decide)) x hx
def lim_nil{n:Nat}:lim n=[]↔n=0:=by
 by_cases h:n=0
 ·simp[h]
 ·rw[xK h];simp[h]
def vX:List Nat→List Nat
 |[]=>[]
 |x::l=>if x=0∧vX l=[] then [] else x::vX l
theorem yq:∀ (a b:List Nat),tQ (a++b)=tQ a+1000000000 ^ a.length*tQ b
 |[],b=>by simp[tQ]
 |x::a,b=>by simp only[List.cons_append,tQ,yq a b,List.length_cons,Nat.pow_succ];grind
theorem zQ:∀ (l:List Nat),(∀ x∈l,x<1000000000)→vX l=lim (tQ l)
 |[],_=>by simp[vX,tQ]
 |x::l,h=>by
  have hx:=h x (by simp);have ih:=zQ l (λy hy=>h y (by simp[hy]));rw[vX,tQ,ih];have e1:(x+1000000000*tQ l) % 1000000000=x:=by rw[cW,bC hx]
  have e2:(x+1000000000*tQ l) / 1000000000=tQ l:=by rw[du _ _ (by decide),bB hx];omega
  by_cases h0:x=0∧lim (tQ l)=[]
  ·rw[aN h0];have:=lim_nil.1 h0.2;rw[this,h0.1];simp
  ·rw[aG h0];have:x+1000000000*tQ l≠0:=by
    intro h1;refine h0 ⟨by omega,lim_nil.2 ?_⟩;have:1000000000*tQ l=0:=by omega
    rcases Nat.mul_eq_zero.1 this with h2|h2
    ·cases h2
    ·exact h2
   rw[xK this,e1,e2]
theorem wr:∀ (l:List Nat),(∀ x∈l,x<1000000000)→tQ l<1000000000 ^ l.length
 |[],_=>by simp[tQ]
 |x::l,h=>by have hx:=h x (by simp);have ih:=wr l (λy hy=>h y (by simp[hy]));simp only[tQ,List.length_cons,Nat.pow_succ];have:1000000000*(tQ l+1)≤1000000000*1000000000 ^ l.length:=bf _ ih;rw[bh (1000000000 ^ l.length)];rw[Nat.mul_succ]at this;omega
def wx{n k:Nat}(h:n<1000000000 ^ k):(lim n).length≤k:=by
 induction k generalizing n with
 | zero => have : n = 0 := by simp at h; omega
           subst this;simp
 |succ k ih=>
  by_cases h0:n=0
  ·subst h0;simp
  ·rw[xK h0,List.length_cons];have:=ih (n:=n / 1000000000) (dv (by rw[Nat.pow_succ,bh]at h;exact h));omega
def EQ{n:Nat}(h:n≠0):1000000000 ^ ((lim n).length-1)≤n:=by
 induction n using Nat.strongRecOn with
 |_ n ih=>
  rw[xK h,List.length_cons,bY];by_cases h1:n / 1000000000=0
  ·rw[h1];simp;omega
  ·have:=ih (n / 1000000000) (dN (by omega) (by decide)) h1;have hl:0<(lim (n / 1000000000)).length:=by rw[xK h1];simp
   have e:(lim (n / 1000000000)).length=(lim (n / 1000000000)).length-1+1:=by omega
   rw[e,Nat.pow_succ];calc _≤(n / 1000000000)*1000000000:=aD _ this
    _≤n:=Nat.div_mul_le_self _ _
def ER{n:Nat}(h0:n≠0)(h:n<1000000000):lim n=[n]:=by rw[xK h0,bC h,bB h];simp
theorem IK:∀ (l:List Nat) (j:Nat) (x:Nat) (h:j<l.length),tQ (l.set j x)+l[j]*1000000000 ^ j=tQ l+x*1000000000 ^ j
 |[],j,x,h=>by simp at h
 |y::l,0,x,h=>by simp[tQ];omega
 |y::l,j+1,x,h=>by have:=IK l j x (by simpa using h);simp only[List.set_cons_succ,tQ,List.getElem_cons_succ,Nat.pow_succ];grind
def wH(l:List Nat)(i:Nat)(h:i<l.length):tQ (l.take (i+1))=tQ (l.take i)+l[i]*1000000000 ^ i:=by rw[ag h,yq];simp[tQ,bo (bH h)];exact bh _ _
def Xa(n:Nat):tQ (List.replicate n 0)=0:=by
 induction n with
 |zero=>rfl
 |succ n ih=>rw[List.replicate_succ,tQ,ih]
def yH(l:List Nat)(i:Nat)(h:i<l.length):tQ (l.drop i)=l[i]+1000000000*tQ (l.drop (i+1)):=by rw[ai h,tQ]
def ES{a b:Nat}(h:(lim a).length<(lim b).length):a<b:=by
 by_cases hb:b=0
 ·subst hb;simp at h
 ·have h1:=EQ hb;have h2:=wr (lim a) (uZ a);rw[uN]at h2;exact bK h2 (aC (bi (by decide) (by omega)) h1)
section
open Go.RowKit

section
variable {H:or} {K:AV→or→Prop} {k:AV→Prop}
def PC(b:Bool)(p q:Prop):tO (.bool b) p q=(if b=true then p else q):=rfl
@[simp] theorem zKq(p q:Prop):tO (.bool true) p q=p:=propext bk
@[simp] theorem zKp(p q:Prop):tO (.bool false) p q=q:=propext bk
@[simp] theorem yhl(x y:AV):tZ (.bool true) x y k=k x:=propext bk
@[simp] theorem yhk(x y:AV):tZ (.bool false) x y k=k y:=propext bk
@[simp] theorem ygy(p:(AV→or→Prop)→Prop)(J:AV→or→Prop):ui (.bool true) true H p J=p J:=propext bk
@[simp] theorem ygv(p:(AV→or→Prop)→Prop)(J:AV→or→Prop):ui (.bool false) false H p J=p J:=propext bk
@[simp] theorem ygx(p:(AV→or→Prop)→Prop)(J:AV→or→Prop):ui (.bool true) false H p J=J (.tup []) H:=propext bk
@[simp] theorem ygw(p:(AV→or→Prop)→Prop)(J:AV→or→Prop):ui (.bool false) true H p J=J (.tup []) H:=propext bk
@[simp] theorem ygz(want:Bool)(p:(AV→or→Prop)→Prop)(J:AV→or→Prop):ui (.tup []) want H p J=J (.tup []) H:=propext bk
@[simp] theorem yh9(cs:List AV):(AV.agg cs).cs?=some cs:=rfl
@[simp] theorem yic(j:IntKind)(n:Int):(AV.int j n).cs?=some [.int j n]:=rfl
@[simp] theorem yia(b:Bool):(AV.bool b).cs?=some [.bool b]:=rfl
@[simp] theorem yin(s:List UInt8):(AV.str s).cs?=some [.str s]:=rfl
@[simp] theorem yil(es:List (List AV))(t:Tok):(AV.sl es t).cs?=some [.sl es t]:=rfl
@[simp] theorem yim:(AV.ZG).cs?=some [.ZG]:=rfl
@[simp] theorem yik(i o:Nat):(AV.ptr i o).cs?=some [.ptr i o]:=rfl
@[simp] theorem yie(i o l c:Nat):(AV.ms i o l c).cs?=some [.ms i o l c]:=rfl
@[simp] theorem yib(f:Nat)(c:List AV):(AV.fn f c).cs?=some [.fn f c]:=rfl
@[simp] theorem yih:(AV.nilp).cs?=some [.nilp]:=rfl
@[simp] theorem yig:(AV.nili).cs?=some [.nili]:=rfl
@[simp] theorem yij(i n:Nat):(AV.ov i n).cs?=some [.ov i n]:=rfl
@[simp] theorem yio(i n o:Nat):(AV.vp i n o).cs?=some [.vp i n o]:=rfl
@[simp] theorem yif:(AV.nilfn).cs?=some [.nilfn]:=rfl
@[simp] theorem yhg(cs:List AV):un cs H K=K (.ptr H.length 0) (H++[.cells cs]):=propext bk
@[simp] theorem yf4(cs:List AV):ul (.agg cs) H K=K (.ptr H.length 0) (H++[.cells cs]):=propext bk
@[simp] theorem yf6(j:IntKind)(n:Int):ul (.int j n) H K=K (.ptr H.length 0) (H++[.cells [.int j n]]):=propext bk
@[simp] theorem yf8(es:List (List AV))(t:Tok):ul (.sl es t) H K=K (.ptr H.length 0) (H++[.cells [.sl es t]]):=propext bk
@[simp] theorem ygc(n off:Nat)(cs:List AV):vH true n off cs k=(off+n≤cs.length∧k (.agg ((cs.drop off).take n))):=propext bk
def x6{cs:List AV}{off:Nat}{c:AV}(n:Nat)(h:cs[off]?=some c):vH false n off cs k=k c:=by simp[vH,h]
@[simp] theorem ygf(n:Nat)(c:AV)(cs:List AV):vH false n 0 (c::cs) k=k c:=propext bk
@[simp] theorem yge(n i:Nat)(c:AV)(cs:List AV):vH false n (i+1) (c::cs) k=vH false n i cs k:=by simp[vH]
@[simp] theorem ygY(g:Bool)(n:Nat)(cs:List AV):tL g n (.view cs) H k=vH g n 0 cs k:=propext bk
def CR(g:Bool)(n off:Nat)(b:Option AB)(k:AV→Prop):Prop:=
 match b with
 |some (.cells cs)=>vH g n off cs k
 |_=>False
@[simp] theorem ygS(g:Bool)(n off:Nat)(cs:List AV):CR g n off (some (.cells cs)) k=vH g n off cs k:=propext bk
@[simp] theorem ygX(g:Bool)(n id off:Nat):tL g n (.ptr id off) H k=CR g n off H[id]? k:=by rw[Ch];rfl
def Bj(n off id:Nat)(xs:Option (List AV))(b:Option AB)(H:or)(K:or→Prop):Prop:=
 match xs,b with
 |some xs,some (.cells cs)=>(xs.length=n∧off+n≤cs.length∧xs.all AV.ZP=true)∧K (H.set id (.cells (cs.take off++xs++cs.drop (off+n))))
 |_,_=>False
@[simp] theorem zKo{K':or→Prop}(n off id:Nat)(xs cs:List AV):Bj n off id (some xs) (some (.cells cs)) H K'=((xs.length=n∧off+n≤cs.length∧xs.all AV.ZP=true)∧K' (H.set id (.cells (cs.take off++xs++cs.drop (off+n))))):=propext bk
@[simp] theorem yhN{K':or→Prop}(n id off:Nat)(x:AV):ua n (.ptr id off) x H K'=Bj n off id x.cs? H[id]? H K':=by
 cases hx:x.cs? with
 |none=>simp[Ai,Bj,hx]
 | some xs=>cases hb:H[id]? with
  |none=>simp[Ai,Bj,hx,hb]
  |some b=>cases b <;> simp[Ai,Bj,hx,hb]
def Xb(g:Bool)(n m off:Nat)(b:Option AB)(k:AV→Prop):Prop:=
 match b with
 |some (.vec _ _ m' cs)=>m'=m∧vH g n off cs k
 |_=>False
@[simp] theorem ygV(g:Bool)(n m off e s m':Nat)(cs:List AV):Xb g n m off (some (.vec e s m' cs)) k=(m'=m∧vH g n off cs k):=propext bk
@[simp] theorem ygZ(g:Bool)(n id m off:Nat):tL g n (.vp id m off) H k=Xb g n m off H[id]? k:=by rw[Ch];rfl
def ET(n m off id:Nat)(xs:Option (List AV))(b:Option AB)(H:or)(K':or→Prop):Prop:=
 match xs,b with
 |some xs,some (.vec e s m' cs)=>(m'=m∧xs.length=n∧off+n≤cs.length∧xs.all AV.ZP=true)∧K' (H.set id (.vec e s m' (cs.take off++xs++cs.drop (off+n))))
 |_,_=>False
@[simp] theorem yhL{K':or→Prop}(n m off id e s m':Nat)(xs cs:List AV):ET n m off id (some xs) (some (.vec e s m' cs)) H K'=((m'=m∧xs.length=n∧off+n≤cs.length∧xs.all AV.ZP=true)∧K' (H.set id (.vec e s m' (cs.take off++xs++cs.drop (off+n))))):=propext bk
@[simp] theorem yhO{K':or→Prop}(n id m off:Nat)(x:AV):ua n (.vp id m off) x H K'=ET n m off id x.cs? H[id]? H K':=by
 cases hx:x.cs? with
 |none=>simp[Ai,ET,hx]
 | some xs=>cases hb:H[id]? with
  |none=>simp[Ai,ET,hx,hb]
  |some b=>cases b <;> simp[Ai,ET,hx,hb]
@[simp] theorem ygC(ft id m:Nat)(j:IntKind)(n:Int):tW ft (.ov id m) (.int j n) k=((0≤n∧n<m)∧k (.vp id m (n.toNat*ft))):=Ci ..
@[simp] theorem ygI(id n:Nat):tV 1 (.ov id n) k=k (.int .i64 n):=propext bk
@[simp] theorem ygs(off i m o:Nat):tN off (.vp i m o) k=k (.vp i m (o+off)):=propext bk
@[simp] theorem yiD(i n:Nat):(AV.ov i n).ZP=true:=rfl
@[simp] theorem yiX(m i n:Nat):(AV.ov i n).ZH m=decide (i<m):=rfl
@[simp] theorem yhh(i o:Nat):vJ (.ptr i o) k=k (.ptr i o):=propext bk
@[simp] theorem ygq(off i o:Nat):tN off (.ptr i o) k=k (.ptr i (o+off)):=propext bk
@[simp] theorem ygr(off:Nat)(cs:List AV):tN off (.view cs) k=(off≤cs.length∧k (.view (cs.drop off))):=Ux ..
@[simp] theorem ygD(ft:Nat)(es:List (List AV))(t:Tok)(j:IntKind)(n:Int):tW ft (.sl es t) (.int j n) k=((0≤n∧n<es.length)∧((es.getD n.toNat []).length=ft∧k (.view (es.getD n.toNat [])))):=Ci ..
@[simp] theorem ygB(ft id off len cap:Nat)(j:IntKind)(n:Int):tW ft (.ms id off len cap) (.int j n) k=((0≤n∧n<len)∧k (.ptr id (off+n.toNat*ft))):=Ci ..
@[simp] theorem ygF(s:List UInt8)(j:IntKind)(n:Int):wl (.str s) (.int j n) k=((0≤n∧n<s.length)∧k (.int .u8 (s.getD n.toNat 0).toNat)):=propext bk
@[simp] theorem ygL(s:List UInt8):tV 0 (.str s) k=k (.int .i64 s.length):=propext bk
@[simp] theorem ygJ(es:List (List AV))(t:Tok):tV 1 (.sl es t) k=k (.int .i64 es.length):=propext bk
@[simp] theorem ygK:tV 1 .ZG k=k (.int .i64 0):=propext bk
@[simp] theorem ygH(i o l c:Nat):tV 1 (.ms i o l c) k=k (.int .i64 l):=propext bk
@[simp] theorem Xc(d:Nat)(q:Nat→Prop):wn none d q=q d:=propext bk
@[simp] theorem PD(j:IntKind)(n:Int)(d:Nat)(q:Nat→Prop):wn (some (.int j n)) d q=(0≤n∧q n.toNat):=propext bk
@[simp] theorem yg5{K:AV→or→Prop}{H:or}(e s b:Nat)(c:Int):zI e s b (.int .i64 c) H K=((0≤c∧c*b≤140737488355328∧c≤9223372036854775807)∧K (.ov H.length 0) (H++[.vec e s 0 []])):=propext bk
@[congr] theorem yg4{K:AV→or→Prop}{H H':or}{e s b:Nat}{c c':AV}(hc:c=c')(hH:H=H'):zI e s b c H K=zI e s b c' H' K:=by rw[hc,hH]
@[simp] theorem yg7{K:AV→Prop}(k k':IntKind)(m n:Int):DN (.int k m) (.int k' n) K=K (.int k (if n>m then n else m)):=propext bk
@[simp] theorem yg8{K:AV→Prop}(k k':IntKind)(m n:Int):Gc (.int k m) (.int k' n) K=K (.int k (if n<m then n else m)):=propext bk
@[simp] theorem yhI(ft id n:Nat)(lo hi:Option AV):uF 1 ft (.ov id n) lo hi k=Cj ft id n lo hi k:=propext bk
@[simp] theorem yhG(ft id n:Nat)(lo:AV)(hi:Option AV):Cj ft id n (some lo) hi k=wn hi n λh=>wn (some lo) 0 λl=>(l≤h∧h=n)∧k (.os id n l ft):=propext bk
@[simp] theorem yhF(ft id n:Nat)(j:IntKind)(m:Int):Cj ft id n none (some (.int j m)) k=((0≤m∧m≤n)∧k (.pf id n m.toNat)):=propext bk
def PE(e size bytes id n lo h:Nat)(b:Option AB)(H:or)(K:AV→or→Prop):Prop:=
 match b with
 | some (.vec e' s' m cs)=>(m=n∧s'=size∧e'=e)∧((cs.drop (lo*size)).all AV.ZP=true∧(cs.drop (lo*size)).length=(n-lo)*size∧(h+(n-lo))*bytes≤140737488355328∧h+(n-lo)≤9223372036854775807) ∧
   K (.ov H.length (h+(n-lo))) (H.set id .dead++[.vec e size (h+(n-lo)) (cs.take (h*size)++cs.drop (lo*size))])
 |_=>False
@[simp] theorem zKa{K : AV → or → Prop}(e size bytes id n lo h e' s' m : Nat)(cs : List AV): PE e size bytes id n lo h (some (.vec e' s' m cs)) H K = ((m = n ∧ s' = size ∧ e' = e) ∧ ((cs.drop (lo * size)).all AV.ZP = true ∧ (cs.drop (lo * size)).length = (n - lo) * size ∧ (h + (n - lo)) * bytes ≤ 140737488355328 ∧ h + (n - lo) ≤ 9223372036854775807) ∧
   K (.ov H.length (h+(n-lo))) (H.set id .dead++[.vec e size (h+(n-lo)) (cs.take (h*size)++cs.drop (lo*size))])):=propext bk
def zKb{K:AV→or→Prop}{e size bytes id n lo h:Nat}(hk:PE e size bytes id n lo h H[id]? H K):uj e size bytes (.pf id n h) (.os id n lo size) H K:=by
 unfold PE at hk;split at hk
 ·rename_i e' s' m cs fA;obtain⟨⟨rfl,rfl,rfl⟩,⟨h1,h2,h3,h4⟩,hk⟩:=hk;simp only[uj,fA];refine⟨by simp,?_⟩;simp only[xY];have hg:(H.set id .dead++[AB.vec e' s' h (cs.take (h*s'))])[H.length]?=some (.vec e' s' h (cs.take (h*s'))):=by simp
  rw[hg];refine⟨⟨by simp,h1,h2,h3,h4⟩,?_⟩;have hs:(H.set id .dead++[AB.vec e' s' h (cs.take (h*s'))]).set H.length (.vec e' s' (h+(m-lo)) (cs.take (h*s')++cs.drop (lo*s')))=H.set id .dead++[.vec e' s' (h+(m-lo)) (cs.take (h*s')++cs.drop (lo*s'))]:=by rw[au _ _ (by simp)];simp
  rw[hs];exact hk
 ·exact hk.elim
@[simp] theorem yii(i n l z:Nat):(AV.os i n l z).cs?=some [.os i n l z]:=rfl
def Xd(size id n lo z id' n' lo' z':Nat)(b:Option AB)(H:or)(K:AV→or→Prop):Prop:=
 match b with
 | some (.vec e s m cs) => (((id' = id ∧ n' = n ∧ m = n) ∧ z = size ∧ z' = size ∧ s = size) ∧ cs.all AV.ZP = true) ∧
    K (.int .i64 ((min (n-lo') (n-lo):Nat):Int)) (H.set id (.vec e s m (ym cs (lo*size) ((cs.drop (lo'*size)).take (min (n-lo') (n-lo)*size)))))
 |_=>False
@[simp] theorem ygj{K:AV→or→Prop}(size id n lo z id' n' lo' z':Nat):A5 size (.os id n lo z) (.os id' n' lo' z') H K=Xd size id n lo z id' n' lo' z' H[id]? H K:=propext bk
@[simp] theorem zKg{K : AV → or → Prop}(size id n lo z id' n' lo' z' e s m : Nat)(cs : List AV): Xd size id n lo z id' n' lo' z' (some (.vec e s m cs)) H K = ((((id' = id ∧ n' = n ∧ m = n) ∧ z = size ∧ z' = size ∧ s = size) ∧ cs.all AV.ZP = true) ∧
        K (.int .i64 ((min (n-lo') (n-lo):Nat):Int)) (H.set id (.vec e s m (ym cs (lo*size) ((cs.drop (lo'*size)).take (min (n-lo') (n-lo)*size)))))):=propext bk
@[simp] theorem zKn(s:List UInt8)(lo hi:Option AV):uF 0 0 (.str s) lo hi k=wn hi s.length λh=>wn lo 0 λl=>(l≤h∧h≤s.length)∧k (.str ((s.take h).drop l)):=propext bk
@[simp] theorem yhJ(ft:Nat)(es:List (List AV))(t:Tok)(lo hi:Option AV):uF 1 ft (.sl es t) lo hi k=wn hi es.length λh=>wn lo 0 λl=>(l≤h∧h≤es.length∧∀c∈es,c.length=ft)∧k (.sl ((es.take h).drop l) .none):=propext bk
@[simp] theorem PF(b:Bool)(j:IntKind)(m n:Int):gt .add b (.int j m) (.int j n) k=k (.int j (j.wrap (m+n))):=by simp[xj]
@[simp] theorem yhP(b:Bool)(j:IntKind)(m n:Int):gt .sub b (.int j m) (.int j n) k=k (.int j (j.wrap (m-n))):=by simp[xj]
@[simp] theorem yha(b:Bool)(j:IntKind)(m n:Int):gt .mul b (.int j m) (.int j n) k=k (.int j (j.wrap (m*n))):=by simp[xj]
@[simp] theorem zKh(b:Bool)(j:IntKind)(m n:Int):gt .eql b (.int j m) (.int j n) k=k (.bool (m == n)):=by simp[xj]
@[simp] theorem yhd(b:Bool)(j:IntKind)(m n:Int):gt .neq b (.int j m) (.int j n) k=k (.bool (m != n)):=by simp[xj]
@[simp] theorem zKk(b:Bool)(j:IntKind)(m n:Int):gt .lss b (.int j m) (.int j n) k=k (.bool (decide (m<n))):=by simp[xj]
@[simp] theorem ygM(b:Bool)(j:IntKind)(m n:Int):gt .leq b (.int j m) (.int j n) k=k (.bool (decide (m≤n))):=by simp[xj]
@[simp] theorem ygt(b:Bool)(j:IntKind)(m n:Int):gt .gtr b (.int j m) (.int j n) k=k (.bool (decide (m>n))):=by simp[xj]
@[simp] theorem zKi(b:Bool)(j:IntKind)(m n:Int):gt .geq b (.int j m) (.int j n) k=k (.bool (decide (m≥n))):=by simp[xj]
@[simp] theorem ygl(b:Bool)(s t:List UInt8):gt .eql b (.str s) (.str t) k=k (.bool (s == t)):=propext bk
@[simp] theorem yhe(b:Bool)(s t:List UInt8):gt .neq b (.str s) (.str t) k=k (.bool (!(s == t))):=rfl
@[simp] theorem ygk(m n:Bool):gt .eql true (.bool m) (.bool n) k=k (.bool (m == n)):=by simp[xj]
@[simp] theorem yhc(m n:Bool):gt .neq true (.bool m) (.bool n) k=k (.bool (!(m == n))):=by simp[xj]
@[simp] theorem yhi(b:Bool):aUn .not (.bool b) k=k (.bool (!b)):=rfl
@[simp] theorem yhb(j:IntKind)(n:Int):aUn .neg (.int j n) k=k (.int j (j.wrap (0-n))):=rfl
@[simp] theorem zKf(j i:IntKind)(n:Int):uw j (.int i n) k=k (.int j (j.wrap n)):=propext bk
@[simp] theorem ygm(v:AV)(vs:List AV):uo (.tup (v::vs)) 0 k=k v:=propext bk
@[simp] theorem ygo(v:AV)(vs:List AV)(i:Nat):uo (.tup (v::vs)) (i+1) k=uo (.tup vs) i k:=by simp[uo]
@[simp] theorem ygh(f:Nat)(caps:List AV):yl f caps k=(caps.all AV.isB=true∧k (.fn f caps)):=propext bk
@[simp] theorem yhE(v u:AV)(vs:List AV):ut (v::u::vs) k=((v::u::vs).all AV.isV=true∧k (.tup (v::u::vs))):=propext bk
end


section
variable {H:or} {K:AV→or→Prop} {k:AV→Prop} {kh:or→Prop}
@[simp] theorem yid(i:Nat):(AV.map i).cs?=some [.map i]:=rfl
@[simp] theorem yg9:Aj H K=K (.map H.length) (H++[.map []]):=propext bk
def CS(zero:AV)(ok:Bool)(s:List UInt8)(b:Option AB)(k:AV→Prop):Prop:=
 match b with
 | some (.map kvs)=>k (match ok with
   |true=>.tup [(wo kvs s).getD zero,.bool (wo kvs s).isSome]
   |false=>(wo kvs s).getD zero)
 |_=>False
@[simp] theorem ygQ(z:AV)(ok:Bool)(id:Nat)(s:List UInt8):zG z ok (.map id) (.str s) H k=CS z ok s H[id]? k:=by unfold zG CS;rfl
@[simp] theorem ygO(z:AV)(s:List UInt8)(kvs:List (List UInt8×AV)):CS z false s (some (.map kvs)) k=k ((wo kvs s).getD z):=propext bk
@[simp] theorem ygP(z:AV)(s:List UInt8)(kvs:List (List UInt8×AV)):CS z true s (some (.map kvs)) k=k (.tup [(wo kvs s).getD z,.bool (wo kvs s).isSome]):=propext bk
def CT(id:Nat)(s:List UInt8)(x:AV)(b:Option AB)(H:or)(kh:or→Prop):Prop:=
 match b with
 | some (.map kvs)=>(match x with
   |.tup _=>False
   |x=>kh (H.set id (.map (xx kvs s x))))
 |_=>False
@[simp] theorem yg3(id:Nat)(s:List UInt8)(x:AV):yC (.map id) (.str s) x H kh=CT id s x H[id]? H kh:=by unfold yC CT;rfl
@[simp] theorem yg0(id:Nat)(s:List UInt8)(b:Bool)(kvs:List (List UInt8×AV)):CT id s (.bool b) (some (.map kvs)) H kh=kh (H.set id (.map (xx kvs s (.bool b)))):=propext bk
@[simp] theorem yg2(id:Nat)(s:List UInt8)(j:IntKind)(n:Int)(kvs:List (List UInt8×AV)):CT id s (.int j n) (some (.map kvs)) H kh=kh (H.set id (.map (xx kvs s (.int j n)))):=propext bk
@[congr] theorem ygN{z:AV}{ok:Bool}{s s':List UInt8}{b b':Option AB}(hs:s=s')(hb:b=b'):CS z ok s b k=CS z ok s' b' k:=by rw[hs,hb]
@[congr] theorem yg1{H':or}{id id':Nat}{s s':List UInt8}{x x':AV}{b b':Option AB}(hi:id=id')(hs:s=s')(hx:x=x')(hb:b=b')(hH:H=H'):CT id s x b H kh=CT id' s' x' b' H' kh:=by rw[hi,hs,hx,hb,hH]
@[simp] theorem yh6(n id off:Nat):DM n (.ptr id off)=.ms id off n n:=rfl
end

section
variable {H H':or} {K:AV→or→Prop} {k:AV→Prop} {kh:or→Prop}
@[congr] theorem yhQ{c c':AV}{p q:Prop}(h:c=c'):tO c p q=tO c' p q:=by rw[h]
@[congr] theorem ygu{c c':AV}{w:Bool}{p:(AV→or→Prop)→Prop}{J:AV→or→Prop}(h:c=c')(hH:H=H'):ui c w H p J=ui c' w H' p J:=by rw[h,hH]
@[congr] theorem yhj{c c' a a' b b':AV}(h:c=c')(ha:a=a')(hb:b=b'):tZ c a b k=tZ c' a' b' k:=by rw[h,ha,hb]
@[congr] theorem yf5{x x':AV}(h:x=x')(hH:H=H'):ul x H K=ul x' H' K:=by rw[h,hH]
@[congr] theorem yhf{x x':List AV}(h:x=x')(hH:H=H'):un x H K=un x' H' K:=by rw[h,hH]
@[congr] theorem ygd{g:Bool}{n n' o o':Nat}{c c':List AV}(hn:n=n')(ho:o=o')(hc:c=c'):vH g n o c k=vH g n' o' c' k:=by rw[hn,ho,hc]
@[congr] theorem ygW{g:Bool}{n:Nat}{x x':AV}(h:x=x')(hH:H=H'):tL g n x H k=tL g n x' H' k:=by rw[h,hH]
@[congr] theorem ygR{g:Bool}{n o o':Nat}{b b':Option AB}(ho:o=o')(h:b=b'):CR g n o b k=CR g n o' b' k:=by rw[h,ho]
@[congr] theorem yhM{n:Nat}{a a' x x':AV}(ha:a=a')(h:x=x')(hH:H=H'):ua n a x H kh=ua n a' x' H' kh:=by rw[ha,h,hH]
@[congr] theorem yhK{n o o' i i':Nat}{x x':Option (List AV)}{b b':Option AB}(ho:o=o')(hi:i=i')(h:x=x')(hb:b=b')(hH:H=H'):Bj n o i x b H kh=Bj n o' i' x' b' H' kh:=by rw[ho,hi,h,hb,hH]
@[congr] theorem ygp{n:Nat}{x x':AV}(h:x=x'):tN n x k=tN n x' k:=by rw[h]
@[congr] theorem ygA{n:Nat}{x x' i i':AV}(h:x=x')(hi:i=i'):tW n x i k=tW n x' i' k:=by rw[h,hi]
@[congr] theorem ygE{x x' i i':AV}(h:x=x')(hi:i=i'):wl x i k=wl x' i' k:=by rw[h,hi]
@[congr] theorem ygG{u:Nat}{x x':AV}(h:x=x'):tV u x k=tV u x' k:=by rw[h]
@[congr] theorem yf3{x x':Option AV}{d d':Nat}{q:Nat→Prop}(h:x=x')(hd:d=d'):wn x d q=wn x' d' q:=by rw[h,hd]
@[congr] theorem yhH{u e:Nat}{x x':AV}{l l' h h':Option AV}(hx:x=x')(hl:l=l')(hh:h=h'):uF u e x l h k=uF u e x' l' h' k:=by rw[hx,hl,hh]
@[congr] theorem yf2{o:BinOp}{b:Bool}{x x' y y':AV}(h:x=x')(hy:y=y'):gt o b x y k=gt o b x' y' k:=by rw[h,hy]
@[congr] theorem yhR{o:UnOp}{x x':AV}(h:x=x'):aUn o x k=aUn o x' k:=by rw[h]
@[congr] theorem ygi{o:IntKind}{x x':AV}(h:x=x'):uw o x k=uw o x' k:=by rw[h]
@[congr] theorem ygn{x x':AV}{i:Nat}(h:x=x'):uo x i k=uo x' i k:=by rw[h]
@[congr] theorem ygg{f:Nat}{x x':List AV}(h:x=x'):yl f x k=yl f x' k:=by rw[h]
@[congr] theorem yga{z:List AV}{p:List (Nat×Nat)}{x x':List (Nat×AV)}(h:x=x'):ug z p x k=ug z p x' k:=by rw[h]
@[congr] theorem yf9{e:Nat}{z:List AV}{l:Nat}{x x':List (Nat×AV)}(h:x=x'):uk e z l x k=uk e z l x' k:=by rw[h]
@[congr] theorem yg6{b:Nat}{z:List AV}{l l' c c':AV}(h:l=l')(hc:c=c')(hH:H=H'):vo b z l c H K=vo b z l' c' H' K:=by rw[h,hc,hH]
@[congr] theorem yf1{e s b:Nat}{x x' y y':AV}(h:x=x')(hy:y=y')(hH:H=H'):uj e s b x y H K=uj e s b x' y' H' K:=by rw[h,hy,hH]
@[congr] theorem yfW{P:Program}{f:FuncId}{x x':List AV}(h:x=x')(hH:H=H'):ge P f x H K=ge P f x' H' K:=by rw[h,hH]
@[congr] theorem ygb{P:Program}{g g':AV}{x x':List AV}(hg:g=g')(h:x=x')(hH:H=H'):aCallV P g x H K=aCallV P g' x' H' K:=by rw[hg,h,hH]
@[congr] theorem yhp{p:(AV→or→Prop)→Prop}:ub H p k=ub H p k:=rfl
@[congr] theorem yf0{n:Nat}{r r':AV}(hr:r=r')(hH:H=H'):Out n K r H=Out n K r' H':=by rw[hr,hH]
end
section
variable {H:or} {k:AV→Prop}
def xL{p:(AV→Prop)→Prop}(h:∀q:AV→Prop,p q↔∃v,p (λu=>u=v)∧q v):ub H (λK'=>p λv=>K' v H) k=p k:=by unfold ub;rw[eq_iff_iff,h k];simp only[and_true]
@[simp] theorem yht(x:AV):ub H (λK'=>K' x H) k=k x:=by simp[ub]
def Xe(g:Bool)(n o:Nat)(cs:List AV)(q:AV→Prop):vH g n o cs q↔∃v,vH g n o cs (λu=>u=v)∧q v:=by
 unfold vH;split
 ·constructor
  ·rintro⟨h1,h2⟩;exact⟨_,⟨h1,rfl⟩,h2⟩
  ·rintro⟨v,⟨h1,rfl⟩,h2⟩;exact⟨h1,h2⟩
 ·split <;> simp
@[simp] theorem yhx(g:Bool)(n:Nat)(a:AV):ub H (λK'=>tL g n a H λv=>K' v H) k=tL g n a H k:=xL (p:=λq=>tL g n a H q) λq=>by
 unfold tL;split
 ·exact Xe _ _ _ _ q
 ·simp
@[simp] theorem ygT(g:Bool)(n id off:Nat):tY g n (.ptr id off) H k=tL g n (.ptr id off) H k:=propext bk
@[simp] theorem ygU(g:Bool)(n:Nat)(cs:List AV):tY g n (.view cs) H k=tL g n (.view cs) H k:=propext bk
@[simp] theorem yhy(g:Bool)(n:Nat)(a:AV):ub H (λK'=>tY g n a H λv=>K' v H) k=tY g n a H k:=xL (p:=λq=>tY g n a H q) λq=>by
 unfold tY;split
 ·simp
 unfold tL;split
 ·exact Xe _ _ _ _ q
 ·simp
@[simp] theorem yhA(c a b:AV):ub H (λK'=>tZ c a b λv=>K' v H) k=tZ c a b k:=xL (p:=λq=>tZ c a b q) λq=>by unfold tZ;split <;> simp
@[simp] theorem yhs(o:Nat)(a:AV):ub H (λK'=>tN o a λv=>K' v H) k=tN o a k:=xL (p:=λq=>tN o a q) λq=>by unfold tN;split <;> simp
@[simp] theorem yhu(n:Nat)(x i:AV):ub H (λK'=>tW n x i λv=>K' v H) k=tW n x i k:=xL (p:=λq=>tW n x i q) λq=>by unfold tW;split <;> simp
@[simp] theorem yhv(x i:AV):ub H (λK'=>wl x i λv=>K' v H) k=wl x i k:=xL (p:=λq=>wl x i q) λq=>by
 unfold wl;split
 ·constructor
  ·rintro⟨h1,h2⟩;exact⟨_,⟨h1,rfl⟩,h2⟩
  ·rintro⟨v,⟨h1,rfl⟩,h2⟩;exact⟨h1,h2⟩
 ·simp
@[simp] theorem yhw(u:Nat)(x:AV):ub H (λK'=>tV u x λv=>K' v H) k=tV u x k:=xL (p:=λq=>tV u x q) λq=>by unfold tV;split <;> simp
@[simp] theorem yhC(o:UnOp)(x:AV):ub H (λK'=>aUn o x λv=>K' v H) k=aUn o x k:=xL (p:=λq=>aUn o x q) λq=>by unfold aUn;split <;> simp
@[simp] theorem yhq(o:IntKind)(x:AV):ub H (λK'=>uw o x λv=>K' v H) k=uw o x k:=xL (p:=λq=>uw o x q) λq=>by unfold uw;split <;> simp
@[simp] theorem yhz(x:AV):ub H (λK'=>vJ x λv=>K' v H) k=vJ x k:=xL (p:=λq=>vJ x q) λq=>by unfold vJ;split <;> simp
@[simp] theorem yhr(x:AV)(i:Nat):ub H (λK'=>uo x i λv=>K' v H) k=uo x i k:=xL (p:=λq=>uo x i q) λq=>by
 unfold uo;split
 ·split <;> simp
 ·simp
@[simp] theorem yhn(z:List AV)(ps:List (Nat×Nat))(x:List (Nat×AV)):ub H (λK'=>ug z ps x λv=>K' v H) k=ug z ps x k:=xL (p:=λq=>ug z ps x q) λq=>by unfold ug;split <;> simp
@[simp] theorem yho(e:Nat)(z:List AV)(l:Nat)(x:List (Nat×AV)):ub H (λK'=>uk e z l x λv=>K' v H) k=uk e z l x k:=xL (p:=λq=>uk e z l x q) λq=>by
 unfold uk;split
 ·split <;> simp
 ·simp
@[simp] theorem yhm(o:BinOp)(b:Bool)(x y:AV):ub H (λK'=>gt o b x y λv=>K' v H) k=gt o b x y k:=xL (p:=λq=>gt o b x y q) λq=>by unfold gt;split <;> simp
end
@[simp] theorem zLY(A l:or):(A++l)[A.length]?=l[0]?:=by rw[aM (af _)];simp
@[simp] theorem zLZ(A l:or)(k:Nat):(A++l)[A.length+k]?=l[k]?:=by rw[aM (by omega)];congr 1;omega
@[simp] theorem zOe(A l:or)(k:Nat)(x:AB):(A++l).set (A.length+k) x=A++l.set k x:=by rw[au _ _ (by omega)];congr 2;omega
@[simp] theorem yip(A l:or)(i:Nat)(y:AB):(A.set i y++l)[A.length]?=l[0]?:=by have:=zLY (A.set i y) l;rwa [ct]at this
@[simp] theorem yiq(A l:or)(i:Nat)(y:AB)(k:Nat):(A.set i y++l)[A.length+k]?=l[k]?:=by have:=zLZ (A.set i y) l k;rwa [ct]at this
def vq{H J:or}{id:Nat}{b:AB}(h:H[id]?=some b):(H++J)[id]?=some b:=by rw[ah (ac.1 h).1];exact h
def uR{H:or}{id:Nat}{b:AB}(h:H[id]?=some b):id<H.length:=(ac.1 h).1
def zS{H J:or}{id:Nat}{b:AB}(x:AB)(h:H[id]?=some b):(H++J).set id x=H.set id x++J:=aY _ _ (uR h)
def yI{H:or}{id:Nat}{b:AB}(x:AB)(h:H[id]?=some b):(H.set id x)[id]?=some x:=ak (uR h)

def um{n:Int}(h1:-9223372036854775808≤n)(h2:n≤9223372036854775807):IntKind.i64.wrap n=n:=IntWalk.i64_in n ⟨h1,h2⟩

theorem HSc.set{H:or}{id:Nat}{b:AB}(h:HSc H)(hb:b.sc H.length=true):HSc (H.set id b):=by
 intro x hx;rw[ct];rcases cj hx with h1|h1
 ·exact h x h1
 ·rw[h1];exact hb
def wJ{n m:Nat}(h:n≤m):∀{a:AV},a.sc n=true→a.sc m=true:=by
 have hB:∀{a:AV},a.ZI n=true→a.ZI m=true:=by
  intro a ha;cases a with
  |sl es t=>cases t <;> simp_all [AV.ZI];omega
  |_=>simp_all [AV.ZI] <;> omega
 have hA:∀{a:AV},a.ZH n=true→a.ZH m=true:=by
  intro a ha;cases a with
  |fn f caps=>simp only[AV.ZH,aA]at ha ⊢;exactλx hx=>hB (ha x hx)
  |_=>simp only[AV.ZH]at ha ⊢;exact hB ha
 have hV:∀{a:AV},a.ZJ n=true→a.ZJ m=true:=by
  intro a ha;cases a with
  |agg caps=>simp only[AV.ZJ,aA]at ha ⊢;exactλx hx=>hA (ha x hx)
  |_=>simp only[AV.ZJ]at ha ⊢;exact hA ha
 intro a ha;cases a with
 |tup caps=>simp only[AV.sc,aA]at ha ⊢;exactλx hx=>hV (ha x hx)
 |_=>simp only[AV.sc]at ha ⊢;exact hV ha
def Back.here{n0:Nat}{Inv:List AV→or→Prop}{F:List AV}{H:or}(hn:n0≤H.length)(hsc:HSc H)(hs:F.all (AV.sc H.length)=true)(h:Inv F H):Back n0 Inv F H:=by have:=Back.same (J:=[]) hn hsc hs h;simpa using this
def PG{n m:Nat}(h:n≤m){a:AV}(ha:a.ZH n=true):a.ZH m=true:=by
 cases a with
 |agg cs=>rfl
 |tup vs=>rfl
 |fn f caps=>exact wJ h (a:=.fn f caps) ha
 |sl es t=>exact wJ h (a:=.sl es t) ha
 |ptr i o=>exact wJ h (a:=.ptr i o) ha
 |ms i o l c=>exact wJ h (a:=.ms i o l c) ha
 |ov i n=>exact wJ h (a:=.ov i n) ha
 |vp i n o=>exact wJ h (a:=.vp i n o) ha
 |os i n l e=>exact wJ h (a:=.os i n l e) ha
 |pf i n l=>exact wJ h (a:=.pf i n l) ha
 |map i=>exact wJ h (a:=.map i) ha
 |_=>rfl
def zN3{n m:Nat}(h:n≤m){a:AV}(ha:a.ZJ n=true):a.ZJ m=true:=by
 cases a with
 |tup vs=>rfl
 |agg cs=>exact wJ h (a:=.agg cs) ha
 |fn f caps=>exact wJ h (a:=.fn f caps) ha
 |sl es t=>exact wJ h (a:=.sl es t) ha
 |ptr i o=>exact wJ h (a:=.ptr i o) ha
 |ms i o l c=>exact wJ h (a:=.ms i o l c) ha
 |ov i n=>exact wJ h (a:=.ov i n) ha
 |vp i n o=>exact wJ h (a:=.vp i n o) ha
 |os i n l e=>exact wJ h (a:=.os i n l e) ha
 |pf i n l=>exact wJ h (a:=.pf i n l) ha
 |map i=>exact wJ h (a:=.map i) ha
 |_=>rfl
def zJV{n m:Nat}(h:n≤m){b:AB}(hb:b.sc n=true):b.sc m=true:=by
 cases b with
 |cells cs=>simp only[AB.sc,aA]at hb ⊢;exactλx hx=>PG h (hb x hx)
 |perm e s n=>rfl
 |gap=>rfl
 |dead=>rfl
 |nodr=>rfl
 |fact φ=>rfl
 |frz e s n=>rfl
 |map kvs=>simp only[AB.sc,aA]at hb ⊢;exactλx hx=>zN3 h (hb x hx)
 |bld t cs=>simp only[AB.sc,aA]at hb ⊢;exactλx hx=>PG h (hb x hx)
 |vec e s n cs=>simp only[AB.sc,aA]at hb ⊢;exactλx hx=>PG h (hb x hx)
def HSc.append{A J:or}(hA:HSc A)(hJ:J.all (AB.sc (A.length+J.length))=true):HSc (A++J):=by
 intro x hx;rw[aH];rcases bg.1 hx with h1|h1
 ·exact zJV (by omega) (hA x h1)
 ·exact aA.1 hJ x h1
end
theorem Out.tup{H J:or}{K:AV→or→Prop}{asx bs:List AV}(hs:HSc H)(h:K (.tup bs) H)(hw:All2 (λa b=>vK a b∧b.isV=true∧b.ZJ H.length=true) asx bs):Out H.length K (.tup asx) (H++J):=
 ⟨_,H,J,rfl,af _,hs,.tup (hw.mono λ_ _ h=>.wk h.1 h.2.1 h.2.2),h⟩
def Out.tup0{H:or}{K:AV→or→Prop}{asx bs:List AV}(hs:HSc H)(h:K (.tup bs) H)(hw:All2 (λa b=>vK a b∧b.isV=true∧b.ZJ H.length=true) asx bs):Out H.length K (.tup asx) H:=by have:=Out.tup (J:=[]) hs h hw;simpa using this
theorem Out.one{H J:or}{K:AV→or→Prop}{a b:AV}(hs:HSc H)(hw:vK a b)(hv:b.isV=true)(hc:b.ZJ H.length=true)(h:K b H):Out H.length K a (H++J):=
 ⟨_,H,J,rfl,af _,hs,.one (.wk hw hv hc),h⟩
def Out.one0{H:or}{K:AV→or→Prop}{a b:AV}(hs:HSc H)(hw:vK a b)(hv:b.isV=true)(hc:b.ZJ H.length=true)(h:K b H):Out H.length K a H:=by have:=Out.one (J:=[]) hs hw hv hc h;simpa using this
@[simp] theorem yiz(k:IntKind)(n:Int):(AV.int k n).ZP=true:=rfl
@[simp] theorem yiG(s:List UInt8):(AV.str s).ZP=true:=rfl
@[simp] theorem yix(b:Bool):(AV.bool b).ZP=true:=rfl
@[simp] theorem yiF(es:List (List AV))(t:Tok):(AV.sl es t).ZP=true:=rfl
@[simp] theorem xb:AV.ZG.ZP=true:=rfl
@[simp] theorem yiC:AV.nilp.ZP=true:=rfl
@[simp] theorem yiE(i o:Nat):(AV.ptr i o).ZP=true:=rfl
@[simp] theorem yiB(i o l c:Nat):(AV.ms i o l c).ZP=true:=rfl
@[simp] theorem yiy(f:Nat)(c:List AV):(AV.fn f c).ZP=true:=rfl
@[simp] theorem yiA(i:Nat):(AV.map i).ZP=true:=rfl
@[simp] theorem yiH(cs:List AV):(AV.view cs).ZP=true:=rfl
section
variable {H:or} {K:AV→or→Prop}
@[simp] theorem yf7(i o:Nat):ul (.ptr i o) H K=K (.ptr H.length 0) (H++[.cells [.ptr i o]]):=propext bk
end
def ur{H:or}{p:or→(AV→or→Prop)→Prop}{k:AV→Prop}(r:AV)(h:∀J:or,p (H++J) λv H'=>v=r∧H'=H++J)(hk:k r):xZ H p k:=⟨r,h,hk⟩
@[simp] theorem yiU(m:Nat)(k:IntKind)(n:Int):(AV.int k n).ZH m=true:=rfl
@[simp] theorem yi2(m:Nat)(s:List UInt8):(AV.str s).ZH m=true:=rfl
@[simp] theorem yiT(m:Nat)(b:Bool):(AV.bool b).ZH m=true:=rfl
@[simp] theorem yi0(m:Nat)(es:List (List AV)):(AV.sl es .none).ZH m=true:=rfl
@[simp] theorem yi1(m:Nat):AV.ZG.ZH m=true:=rfl
@[simp] theorem yiZ(m i o:Nat):(AV.ptr i o).ZH m=decide (i<m):=rfl
@[simp] theorem yiW(m i o l c:Nat):(AV.ms i o l c).ZH m=decide (i<m):=rfl
@[simp] theorem yiV(m i:Nat):(AV.map i).ZH m=decide (i<m):=rfl
@[simp] theorem yiY(m:Nat)(es:List (List AV))(i:Nat):(AV.sl es (.own i)).ZH m=decide (i<m):=rfl
def vK.rfl'{a:AV}:vK a a:=.atom (.refl a)
def uJ{n:Nat}{a:AV}(h1:a.isV=true)(h2:a.ZJ n=true):vK a a∧a.isV=true∧a.ZJ n=true:=⟨.rfl',h1,h2⟩
def slV{n:Nat}{es:List (List AV)}{t:Tok}:vK (.sl es t) (.sl es .none)∧(AV.sl es .none).isV=true∧(AV.sl es .none).ZJ n=true:=⟨.atom (.sl es t),rfl,rfl⟩
def xd{n:Nat}:vK .ZG (.sl [] .none)∧(AV.sl [] .none).isV=true∧(AV.sl [] .none).ZJ n=true:=⟨.atom .ZG,rfl,rfl⟩
def zl{x:Option AV}{d:Nat}{p:Nat→Prop}{p':AV→Nat→Prop}{q:AV→Prop}(hp:∀n,p n↔∃v,p' v n∧q v):wn x d p↔∃v,wn x d (p' v)∧q v:=by
 unfold wn;split
 ·exact hp d
 ·rename_i n;constructor
  ·rintro⟨h1,h2⟩;obtain⟨v,h3,h4⟩:=(hp _).1 h2;exact⟨v,⟨h1,h3⟩,h4⟩
  ·rintro⟨v,⟨h1,h3⟩,h4⟩;exact⟨h1,(hp _).2 ⟨v,h3,h4⟩⟩
 ·simp
def CU{a:Prop}{q:AV→Prop}{x:AV}:(a∧q x)↔∃v,(a∧x=v)∧q v:=by
 constructor
 ·rintro⟨h1,h2⟩;exact⟨_,⟨h1,rfl⟩,h2⟩
 ·rintro⟨v,⟨h1,rfl⟩,h2⟩;exact⟨h1,h2⟩
@[simp] theorem yhB{H:or}{k:AV→Prop}(u e:Nat)(x:AV)(lo hi:Option AV):ub H (λK'=>uF u e x lo hi λv=>K' v H) k=uF u e x lo hi k:=xL (p:=λq=>uF u e x lo hi q) λq=>by
 unfold uF;split
 ·exact zl λh=>zl λl=>CU
 ·exact zl λh=>zl λl=>CU
 ·exact zl λh=>zl λl=>CU
 ·unfold Cj;split
  ·exact CU
  ·exact zl λh=>zl λl=>CU
 ·exact zl λh=>zl λl=>CU
 ·simp
def Out.at{n:Nat}{H2 J H':or}{K:AV→or→Prop}{a b:AV}(he:H'=H2++J)(hn:n≤H2.length)(hs:HSc H2)(hw:vK a b)(hv:b.isV=true)(hc:b.ZJ H2.length=true)(h:K b H2):Out n K a H':=by subst he;exact⟨_,H2,J,rfl,hn,hs,.one (.wk hw hv hc),h⟩
theorem Out.bool{n:Nat}{H2 J H':or}{K:AV→or→Prop}{b:Bool}(he:H'=H2++J)(hn:n≤H2.length)(hs:HSc H2)(h:K (.bool b) H2):Out n K (.bool b) H':=Out.at he hn hs .rfl' rfl rfl h
theorem Out.int{n:Nat}{H2 J H':or}{K:AV→or→Prop}{k:IntKind}{b:Int}(he:H'=H2++J)(hn:n≤H2.length)(hs:HSc H2)(h:K (.int k b) H2):Out n K (.int k b) H':=Out.at he hn hs .rfl' rfl rfl h
def Back.at{n0:Nat}{Inv:List AV→or→Prop}{F:List AV}{H2 J H':or}(he:H'=H2++J)(hn:n0≤H2.length)(hsc:HSc H2)(hs:F.all (AV.sc H2.length)=true)(h:Inv F H2):Back n0 Inv F H':=by subst he;exact Back.same hn hsc hs h
def HSc.snoc{H:or}{b:AB}(h:HSc H)(hb:b.sc (H.length+1)=true):HSc (H++[b]):=h.append (by simpa using hb)
def zLM{B:Nat}{w w':World}{G G':Gh}(h:Ext B w G w' G'):G.μ.length≤G'.μ.length:=by
 by_cases h0:G.μ.length=0
 ·omega
 ·obtain⟨g,h1,_⟩:=h.ids (G.μ.length-1) _ (aw (by omega));have:=(ac.1 h1).1;omega
def ge.mono'{P:Program}{f:FuncId}{args:List AV}{H:or}{K K':AV→or→Prop}(h:ge P f args H K)(hk:∀r H',HSc H'→H.length≤H'.length→K r H'→K' r H'):ge P f args H K':=
 λB w G vs hH hv=>(h B w G vs hH hv).mono λ_ _ ⟨v,r,H',G',h1,h2,h3,h4,h5⟩=>⟨v,r,H',G',h1,h2,h3,h4,hk _ _ h3.sc (by have:=zLM h2;rw[hH.len,h3.len]at this;exact this) h5⟩
theorem aCallV.mono'{P:Program}{g:AV}{args:List AV}{H:or}{K K':AV→or→Prop}(h:aCallV P g args H K)(hk:∀r H',HSc H'→H.length≤H'.length→K r H'→K' r H'):aCallV P g args H K':=by
 unfold aCallV at *;split at h
 ·split at h
  ·exact ge.mono' h hk
  ·exact h.elim
 ·exact h.elim
section
open Go.RowKit
def tU.reCell{B:Nat}{w:World}{G:Gh}{H:or}(h:tU B w G H){id:Nat}{cs cs':List AV}(fA:H[id]?=some (.cells cs))(hc:∀vs:List Value,All2 (ARel w G) vs cs→All2 (ARel w G) vs cs'):tU B w G (H.set id (.cells cs')):=by
 refine⟨by simp[h.len],?_,h.dist,h.fresh,h.lt,h.base⟩;intro i ab gi h1 h2;by_cases hi:i=id
 ·subst hi;rw[ak (ac.1 fA).1]at h1;cases h1;have fH:=h.ok i _ _ fA h2;cases gi with
  |blk b=>obtain⟨k1,k2,vs,e,k3,k4⟩:=fH;exact⟨k1,k2,vs,e,k3,hc _ k4⟩
  |own v s n=>exact fH.elim
  |gap=>exact fH.elim
 ·rw[aj (λh=>hi h.symm)]at h1;exact h.ok i ab gi h1 h2
def tU.ownCell{B:Nat}{w:World}{G:Gh}{H:or}(h:tU B w G H){id j:Nat}{cs:List AV}(e size:Nat)(fA:H[id]?=some (.cells cs))(hj:cs[j]?=some .ZG):
  ∃G',Ext B w G w G'∧tU B w G' (H.set id (.cells (cs.set j (.sl [] (.own H.length))))++[.perm e size 0]):=by
 obtain⟨hE,f7⟩:=h.newOwn e size;refine⟨_,hE,?_⟩;have fy:=(ac.1 fA).1;have:=f7.reCell (id:=id) (cs:=cs) (cs':=cs.set j (.sl [] (.own H.length))) (by rw[ah fy];exact fA) (λvs pr=>by
  obtain⟨v,h1,h2⟩:=All2.get pr hj;have h2:v=.slice none 0 0:=h2;subst h2;have fW:vs=vs.set j (.slice none 0 0):=by
   apply aU;intro k;by_cases hk:k=j
   ·subst hk;rw[ak (ac.1 h1).1];exact h1
   ·rw[aj (λh=>hk h.symm)]
  rw[fW];refine All2.set j pr ?_;refine⟨.slE _ _,.slice none 0 0,size,0,?_,af _,λ_=>⟨rfl,by simp⟩⟩;rw[←h.len];simp)
 rwa [aY _ _ fy]at this
def tM.ownC{P:Program}{c:Code}{Q:AExit→List AV→or→Prop}{F:List AV}{H:or}{cs:List AV}(id j e size:Nat)(fA:H[id]?=some (.cells cs))(hj:cs[j]?=some .ZG)(h:tM P c Q F (H.set id (.cells (cs.set j (.sl [] (.own H.length))))++[.perm e size 0])):tM P c Q F H:=by
 intro B w G a hH hF hd;obtain⟨G',hE,f7⟩:=hH.ownCell e size fA hj;refine wp_mono (h B w G' a f7 (hF.ext hE) hd) λe a' w' hp=>?_;obtain⟨F'',H'',G'',e'',rfl,k1,k2,k3,k4,k5⟩:=hp;exact⟨F'',H'',G'',e'',rfl,hE.trans k1,k2,k3,k4,k5⟩
def tX(l:List Nat):List (List AV):=l.map λ(n:Nat)=>[AV.int .u32 (n:Int)]
@[simp] theorem yjf(l:List Nat):(tX l).length=l.length:=by simp[tX]
def Xf(l:List Nat)(n:Nat):(tX l).take n=tX (l.take n):=by simp[tX,bT]
def Bk{l:List Nat}{i:Nat}(h:i<l.length):(tX l)[i]?.getD []=[.int .u32 ((l[i]:Nat):Int)]:=by simp[tX,h]
@[simp] theorem yje{l:List Nat}{i:Nat}(h:i<(tX l).length):(tX l)[i]=[.int .u32 (((l[i]'(by simpa using h)):Nat):Int)]:=by simp[tX]
def yJ(l:List Nat):∀c∈tX l,c.length=1:=by intro c hc;simp only[tX,aF]at hc;obtain⟨n,_,rfl⟩:=hc;rfl
def Xg{L:List Nat}{n:Nat}(hn:0<n)(h:n≤L.length)(h0:L[n-1]=0):vX (L.take n)=vX (L.take (n-1)):=by
 obtain⟨m,rfl⟩:∃m,n=m+1:=⟨n-1,by omega⟩;simp only[bY]at h0 ⊢;rw[ag (by omega),h0];generalize L.take m=A;induction A with
 |nil=>simp[vX]
 |cons a A ih=>rw[List.cons_append,vX,vX,ih]
def Xh{L:List Nat}{n:Nat}(hn:0<n)(h:n≤L.length)(h0:L[n-1]≠0):vX (L.take n)=L.take n:=by
 obtain⟨m,rfl⟩:∃m,n=m+1:=⟨n-1,by omega⟩;simp only[bY]at h0;rw[ag (by omega)];generalize hx:L[m]=x at h0;generalize L.take m=A;induction A with
 |nil=>simp[vX,h0]
 |cons a A ih=>rw[List.cons_append,vX,ih,aG];rintro⟨_,h⟩;simp at h
def v8{n:Nat}(h:n<4294967296):IntKind.u32.wrap (n:Int)=n:=IntWalk.u32_in _ ⟨by omega,by omega⟩
def uE{n:Nat}(h:n<18446744073709551616):IntKind.u64.wrap (n:Int)=n:=IntWalk.u64_in _ ⟨by omega,by omega⟩
def Xi{k:AV→Prop}(b:Bool)(j:IntKind)(m n:Nat)(hn:n≠0):gt .rem b (.int j m) (.int j n) k=k (.int j ((m % n:Nat):Int)):=by simp only[xj,ne_eq,Int.natCast_eq_zero,hn,not_false_eq_true,fc];rfl
def Xj{k:AV→Prop}(b:Bool)(j:IntKind)(m n:Nat)(hn:n≠0):gt .quo b (.int j m) (.int j n) k=k (.int j (j.wrap ((m / n:Nat):Int))):=by simp only[xj,ne_eq,Int.natCast_eq_zero,hn,not_false_eq_true,fc];rfl
def PH{k:AV→Prop}(b:Bool)(j:IntKind)(m:Nat):gt .rem b (.int j m) (.int j 1000000000) k=k (.int j ((m % 1000000000:Nat):Int)):=Xi b j m 1000000000 (by decide)
def Xk{k:AV→Prop}(b:Bool)(j:IntKind)(m:Nat):gt .quo b (.int j m) (.int j 1000000000) k=k (.int j (j.wrap ((m / 1000000000:Nat):Int))):=Xj b j m 1000000000 (by decide)
def Xl{k:AV→Prop}(b:Bool){m:Nat}(h:m<18446744073709551616):gt .quo b (.int .u64 m) (.int .u64 1000000000) k=k (.int .u64 ((m / 1000000000:Nat):Int)):=by rw[Xk,uE (by have:=cy m 1000000000;omega)]
def zKm{k:AV→Prop}(b:Bool){m:Nat}(h:m<4294967296):gt .quo b (.int .u32 m) (.int .u32 1000000000) k=k (.int .u32 ((m / 1000000000:Nat):Int)):=by rw[Xk,v8 (by have:=cy m 1000000000;omega)]
def zKe{k:AV→Prop}(j:IntKind){m:Nat}(h:m<4294967296):uw .u32 (.int j m) k=k (.int .u32 m):=by rw[zKf,v8 h]
def PI(m:Nat):m % 1000000000<1000000000:=ci _ (by decide)
def zLE{m:Nat}(h:m≠0):m / 1000000000<m:=dN (by omega) (by decide)
def sN(l:List Nat)(x:Nat):tX l++[[AV.int .u32 (x:Int)]]=tX (l++[x]):=by simp[tX]
def AA(s:Nat)(h:s<18446744073709551616):∃ x c:Nat,x<1000000000∧s=x+1000000000*c∧IntKind.u32.wrap (x:Int)=x ∧
  (∀(b:Bool) (k:AV→Prop),gt .rem b (.int .u64 s) (.int .u64 1000000000) k=k (.int .u64 x))∧∀(b:Bool) (k:AV→Prop),gt .quo b (.int .u64 s) (.int .u64 1000000000) k=k (.int .u64 c):=
 ⟨s % 1000000000,s / 1000000000,PI s,by omega,v8 (by omega),λb k=>PH b .u64 s,λb k=>Xl b h⟩
def PJ(s:Nat)(h:s<4294967296):∃ x c:Nat,x<1000000000∧s=x+1000000000*c ∧
  (∀(b:Bool) (k:AV→Prop),gt .rem b (.int .u32 s) (.int .u32 1000000000) k=k (.int .u32 x))∧∀(b:Bool) (k:AV→Prop),gt .quo b (.int .u32 s) (.int .u32 1000000000) k=k (.int .u32 c):=
 ⟨s % 1000000000,s / 1000000000,PI s,by omega,λb k=>PH b .u32 s,λb k=>zKm b h⟩
def CV(s d:Nat)(hd:0<d)(h:s<18446744073709551616):∃ x c:Nat,x<d∧s=x+d*c ∧
  (∀(b:Bool) (k:AV→Prop),gt .rem b (.int .u64 s) (.int .u64 d) k=k (.int .u64 x))∧∀(b:Bool) (k:AV→Prop),gt .quo b (.int .u64 s) (.int .u64 d) k=k (.int .u64 c):=
 ⟨s % d,s / d,ci _ hd,(Nat.mod_add_div s d).symm,λb k=>Xi b .u64 s d (by omega),λb k=>by rw[Xj b .u64 s d (by omega),uE (by have:=cy s d;omega)]⟩
def wi(i:Nat)(h:i<1000000000):IntKind.i64.wrap ((i:Int)+1)=((i+1:Nat):Int):=by rw[um (by omega) (by omega)];omega
theorem Xm:∀ l:List Nat,(vX l).length≤l.length∧((vX l).length=l.length→vX l=l)
 |[]=>by simp[vX]
 |x::l=>by
  obtain⟨h1,h2⟩:=Xm l;rw[vX];split
  ·simp
  ·simp only[List.length_cons];exact⟨by omega,λh=>by rw[h2 (by omega)]⟩
def CW{n k:Nat}(h:1000000000 ^ k≤n):k<(lim n).length:=by have h1:=wr (lim n) (uZ n);rw[uN]at h1;refine cE λh2=>?_;have:=bi (show 0<1000000000 by omega) h2;omega
def PK{R:List Nat}(hR:∀x∈R,x<1000000000)(h:R.length≤(lim (tQ R)).length):R=lim (tQ R):=by have h1:=zQ R hR;obtain⟨h2,h3⟩:=Xm R;rw[←h1,h3 (by rw[h1]at h2 ⊢;omega)]
end
def CX(L:List Nat)(hL:L.length≤1000000)(H:or)(K:Kt)(hK:K (.sl (tX (vX L)) .none) H):
  ge tP 110 [.sl (tX L) .none] H K:=by
 refine ge.out (zQ3 λhs=>?_);simp[W1];refine zQ1 (Inv:=λq t3 H'=>∃n:Nat,n≤L.length∧n=q∧t3=I6 n∧H'=H∧vX L=vX (L.take n)) L.length ?_ ?_
 ·intro _;exact⟨L.length,by omega,rfl,by simp,rfl,by simp⟩
 ·rintro q t3 H' ⟨n,hn,rfl,rfl,rfl,fN⟩ fG fz fM Kb fB;have ii:∀ (l:List Nat) (J:or),l=vX L→Out (List.length H') K (AV.sl (tX l) (Tok.own (List.length H'))) (H'++J):=λl J hl=>Out.one hs (.atom (.sl _ _)) rfl rfl (by rw[hl];exact hK);by_cases h0:n=0
  ·subst h0;simp[IB,uj,uD,uy];exact⟨yJ L,ii [] _ (by simpa[vX]using fN.symm)⟩
  ·have hw:IntKind.i64.wrap ((n:Int)-1)=((n-1:Nat):Int):=by rw[um (by omega) (by omega)];omega
   have fy:n-1<L.length:=by omega
   by_cases hz:L[n-1]=0
   ·simp[IB,show 0<n by omega,hw,fy,hz];exact fB _ _ ⟨n-1,by omega,Back.here (by simp) hs (by simp[IA,AV.sc,AV.ZH,AV.ZI,AV.ZJ]) ⟨_,rfl,n-1,by omega,rfl,rfl,rfl,by rw[fN,Xg (by omega) hn hz]⟩⟩
   ·have qS:(((L[n-1]:Nat):Int) == 0)=false:=by simp;omega
    simp[IB,show 0<n by omega,hw,fy,qS,uj,uD,uy];refine⟨⟨hn,yJ L⟩,λc hc=>yJ L c (bq hc),⟨by omega,by omega⟩,?_⟩;rw[Xf];exact ii _ _ (by rw[fN,Xh (by omega) hn hz])
end Go.Proofs.YtdmamdnkcefmmaaGreatDoor
