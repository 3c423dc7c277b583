import Derived.Shelf.Spec.SlicesGrow
import Derived.Test.YtdmamdnkcefmmaaGreatDoorProg
import Derived.Test.YtdmamdnkcefmmaaGreatDoorKNum
import Derived.KernelRfl
set_option linter.unusedSimpArgs false
set_option linter.unusedVariables false
set_option maxRecDepth 100000
namespace Go.Proofs.YtdmamdnkcefmmaaGreatDoor
section
open Go.Shelf
def zMa:Go.Shelf.Ren:=⟨λ| 4=>176|n=>n,λ| 22=>26|25=>28|n=>n,λ| n=>n⟩
theorem zL9:Go.Proofs.Lays8.n4 tP zMa:={
 mixed:=by kernel_rfl
 f4:=⟨Tryz.f176.name,by decide,Tryz.func176.trans (congrArg some (by kernel_rfl))⟩
 t0:=Tryz.underlying0
 a0:=Tryz.isAgg0
 z0:=Tryz.sizeOf0
 v0:=Tryz.zeroValue0
 t3:=Tryz.underlying3
 a3:=Tryz.isAgg3
 z3:=Tryz.sizeOf3
 v3:=Tryz.zeroValue3
 t4:=Tryz.underlying4
 a4:=Tryz.isAgg4
 z4:=Tryz.sizeOf4
 v4:=Tryz.zeroValue4
 t9:=Tryz.underlying9
 a9:=Tryz.isAgg9
 z9:=Tryz.sizeOf9
 v9:=Tryz.zeroValue9
 t20:=Tryz.underlying20
 a20:=Tryz.isAgg20
 z20:=Tryz.sizeOf20
 v20:=Tryz.zeroValue20
 t22:=Tryz.underlying26
 a22:=Tryz.isAgg26
 z22:=Tryz.sizeOf26
 v22:=Tryz.zeroValue26 }
def zMe:Go.Shelf.Ren:=⟨λ| 4=>141|n=>n,λ| 22=>31|25=>55|n=>n,λ| n=>n⟩
theorem zMd:Go.Proofs.Lays8.n4 tP zMe:={
 mixed:=by kernel_rfl
 f4:=⟨Tryz.f141.name,by decide,Tryz.func141.trans (congrArg some (by kernel_rfl))⟩
 t0:=Tryz.underlying0
 a0:=Tryz.isAgg0
 z0:=Tryz.sizeOf0
 v0:=Tryz.zeroValue0
 t3:=Tryz.underlying3
 a3:=Tryz.isAgg3
 z3:=Tryz.sizeOf3
 v3:=Tryz.zeroValue3
 t4:=Tryz.underlying4
 a4:=Tryz.isAgg4
 z4:=Tryz.sizeOf4
 v4:=Tryz.zeroValue4
 t9:=Tryz.underlying9
 a9:=Tryz.isAgg9
 z9:=Tryz.sizeOf9
 v9:=Tryz.zeroValue9
 t20:=Tryz.underlying20
 a20:=Tryz.isAgg20
 z20:=Tryz.sizeOf20
 v20:=Tryz.zeroValue20
 t22:=Tryz.underlying31
 a22:=Tryz.isAgg31
 z22:=Tryz.sizeOf31
 v22:=Tryz.zeroValue31 }
end
section
variable (t0 t3 t6 t9 t10 t11 t25 t26 t27:AV) (H:zaa) (K:Kt) (Kb3 Kb11:Lt)
def zga:Nat→List Bool|3=>rl false [0,1,2,1,5,3,24]|11=>rl false [6,1,18,3,8]|_=>[]
noncomputable def ziZ:=Tryz.f134.body.getD .skip
noncomputable def zCJ:=Tryz.f134.results.toList
def zmn:=t0::ux 2 (t3::ux 5 (t9::t10::t11::ux 24 []))
def zOI:=zga 3
noncomputable def zOE:=zar [1,1,0,1,0,0] ziZ
def zOC:=zas tP zga [1,1,0,1,0] ziZ (zaB tP zCJ K)
def zCI:=ALoop tP zOE (zOC K) (zmn t0 t3 t9 t10 t11) H
def zCG(t0 t3 t9 t10 t11:AV)(H:zaa)(K:Kt)(Kb3:Lt):Prop:=zac .add false t11 (.int .i64 1) λt22=>Kb3 (zmn t0 t3 t9 t10 t22) H
def zCF:=zCG t0 t3 t9 t10 t11 H K Kb3
def zmm:=ux 6 (t6::ux 18 (t25::t26::t27::ux 8 []))
def zOH:=zga 11
noncomputable def zOD:=zar [1,1,1,1,0,1,0,0] ziZ
def zOB:=zas tP zga [1,1,1,1,0,1,0] ziZ (zaB tP zCJ K)
def zCH:=ALoop tP zOD (zOB K) (zmm t6 t25 t26 t27) H
def ztG:=zac .lss false t27 t26 λt28=>zag t28 (zak 1 t25 t27 λt29=>zae false 1 t29 H λt30=>zax zaY 2 32 t6 t30 H λt33 H=>zac .add false t27 (.int .i64 1) λt34=>Kb11 (zmm t33 t25 t26 t34) H) (K t6 H)
def ztH:=zac .lss false t11 t10 λt12=>zag t12 (zak 1 t9 t11 λt13=>zae false 1 t13 H λt14=>zah 1 t14 λt17=>zac .add false t3 t17 λt18=>zac .lss false t18 (.int .i64 0) λt20=>zag t20 (False) (zCF t0 t18 t9 t10 t11 H K Kb3)) (ACalls tP zzz [.snil,t3] H λt24 H=>zah 1 t0 λt26=>zCH t24 t0 t26 (.int .i64 0) H K)
def zCE:=zah 1 t0 λt10=>zCI t0 (.int .i64 0) t0 t10 (.int .i64 0) H K
def zgt:Nat→List Bool|3=>rl false [0,1,2,1,5,3,24]|11=>rl false [6,1,18,3,8]|_=>[]
noncomputable def zjn:=Tryz.f87.body.getD .skip
noncomputable def zGu:=Tryz.f87.results.toList
def zpp:=t0::ux 2 (t3::ux 5 (t9::t10::t11::ux 24 []))
def zZw:=zgt 3
noncomputable def zZs:=zar [1,1,0,1,0,0] zjn
def zZq:=zas tP zgt [1,1,0,1,0] zjn (zaB tP zGu K)
def zGt:=ALoop tP zZs (zZq K) (zpp t0 t3 t9 t10 t11) H
def zGr(t0 t3 t9 t10 t11:AV)(H:zaa)(K:Kt)(Kb3:Lt):Prop:=zac .add false t11 (.int .i64 1) λt22=>Kb3 (zpp t0 t3 t9 t10 t22) H
def zGq:=zGr t0 t3 t9 t10 t11 H K Kb3
def zpo:=ux 6 (t6::ux 18 (t25::t26::t27::ux 8 []))
def zZv:=zgt 11
noncomputable def zZr:=zar [1,1,1,1,0,1,0,0] zjn
def zZp:=zas tP zgt [1,1,1,1,0,1,0] zjn (zaB tP zGu K)
def zGs:=ALoop tP zZr (zZp K) (zpo t6 t25 t26 t27) H
def zwM:=zac .lss false t27 t26 λt28=>zag t28 (zak 1 t25 t27 λt29=>zae false 1 t29 H λt30=>zax zau 5 88 t6 t30 H λt33 H=>zac .add false t27 (.int .i64 1) λt34=>Kb11 (zpo t33 t25 t26 t34) H) (K t6 H)
def zwN:=zac .lss false t11 t10 λt12=>zag t12 (zak 1 t9 t11 λt13=>zae false 1 t13 H λt14=>zah 1 t14 λt17=>zac .add false t3 t17 λt18=>zac .lss false t18 (.int .i64 0) λt20=>zag t20 (False) (zGq t0 t18 t9 t10 t11 H K Kb3)) (ACalls tP zzw [.snil,t3] H λt24 H=>zah 1 t0 λt26=>zGs t24 t0 t26 (.int .i64 0) H K)
def zGp:=zah 1 t0 λt10=>zGt t0 (.int .i64 0) t0 t10 (.int .i64 0) H K
variable {t0 t3 t6 t9 t10 t11 t25 t26 t27} {H} {K} {Kb3 Kb11}
theorem zOF:Lo2 (λt6 t27=>zmm t6 t25 t26 t27) (λt6 t27 H Kb11=>ztG t6 t25 t26 t27 H K Kb11) t6 t27 H (zCH t6 t25 t26 t27 H K):=lq2 zga zOH
theorem zOG:Lo2 (λt3 t11=>zmn t0 t3 t9 t10 t11) (λt3 t11 H Kb3=>ztH t0 t3 t9 t10 t11 H K Kb3) t3 t11 H (zCI t0 t3 t9 t10 t11 H K):=lq2 zga zOI
theorem zOJ(h:HSc H→zCE t0 H K):ACalls tP zrh [t0] H K:=
 acb zga Tryz.func134 ziZ h
theorem zZt:Lo2 (λt6 t27=>zpo t6 t25 t26 t27) (λt6 t27 H Kb11=>zwM t6 t25 t26 t27 H K Kb11) t6 t27 H (zGs t6 t25 t26 t27 H K):=lq2 zgt zZv
theorem zZu:Lo2 (λt3 t11=>zpp t0 t3 t9 t10 t11) (λt3 t11 H Kb3=>zwN t0 t3 t9 t10 t11 H K Kb3) t3 t11 H (zGt t0 t3 t9 t10 t11 H K):=lq2 zgt zZw
theorem zZx(h:HSc H→zGp t0 H K):ACalls tP zr2 [t0] H K:=
 acb zgt Tryz.func87 zjn h
end
section
variable (t0 t1 t2 t3 t4 t5 t6 t7 t8 t9 t10 t11 t12 t15 t16 t17 t18 t19 t20 t23 t24 t25 t57 t58 t59:AV) (H:zaa) (K:Kt) (Kb1 Kb3 Kb4 Kb5 Kb14:Lt)
def zV2(_:Nat):List Bool:=[]
noncomputable def zV3:=Tryz.f41.body.getD .skip
def zFj:=zav t1 H λt3 H=>zae true 3 t3 H λt6=>zec H λt7 H=>zaq [.snil,(.int .i64 0),(.int .i64 0),.snil,.unk,.snil] [(0,1),(1,3),(4,1),(5,1)] [(0,t0),(1,t6),(2,t7)] λt8=>zav t8 H λt9 H=>K t9 H
def zom:Nat→List Bool|1=>rl false [0,1,8,3,55]|400007=>rl false [0,1]|_=>[]
noncomputable def zvP:=Tryz.f42.body.getD .skip
noncomputable def zWa:=Tryz.f42.results.toList
def zjc:=t0::ux 8 (t9::t10::t11::ux 55 [])
def zV8:=zom 1
noncomputable def zV6:=zar [1,0,0] zvP
def zV5:=zas tP zom [1,0] zvP (zaB tP zWa K)
def zFl:=ALoop tP zV6 (zV5 K) (zjc t0 t9 t10 t11) H
def zvQ(t0 t9 t10 t11:AV)(H:zaa)(K:Kt)(Kb1:Lt):Prop:=zac .add false t11 (.int .i64 1) λt66=>Kb1 (zjc t0 t9 t10 t66) H
def zon:=zvQ t0 t9 t10 t11 H K Kb1
def zvO:=zac .lss false t11 t10 λt12=>zag t12 (zak 5 t9 t11 λt13=>zae true 5 t13 H λt14=>zaz [(.int .i64 0),.snil,(.bool false),.snil,.snil] H λt5 H=>zan 5 t5 t14 H λH=>zp3 112 [.nilp,.snil] H λt6 H=>zaf 0 t5 λt15=>zae true 2 t15 H λt16=>ACalls tP zkJ [t6,t16] H λt17 H=>apm H t0 λt19=>apu H (zbf t19) λt20=>apu H (zaf 4 t20) λt21=>apu H (zaj false 1 t21 H) λt22=>zaC H (λH K'=>ACalls tP zis [t6] H K') λt23=>apu H (zdU (.int .i64 0) true t22 t23 H) λt24=>apm H t24 λt18=>apu H (zaE t18 0) λt25=>apu H (zaE t18 1) λt26=>apm H t25 λt7=>apm H t26 λt8=>zag t8 (apm H t0 λt28=>apu H (zbf t28) λt29=>apu H (zaf 5 t29) λt30=>apu H (zae false 1 t30 H) λt31=>apm H t7 λt32=>apm H t0 λt33=>apu H (zbf t33) λt34=>apu H (zaf 5 t34) λt35=>apu H (zae false 1 t35 H) λt36=>apm H t7 λt37=>apu H (zak 5 t36 t37) λt38=>apu H (zaf 2 t38) λt39=>apu H (zae true 3 t39 H) λt40=>apu H (zaf 2 t5) λt41=>apu H (zae true 3 t41 H) λt42=>zaC H (λH K'=>ACalls tP zrY [t40,t42] H K') λt43=>apu H (zak 5 t31 t32) λt44=>apu H (zaf 2 t44) λt45=>zan 3 t45 t43 H λH=>zon t0 t9 t10 t11 H K Kb1) (apm H t0 λt46=>apu H (zbf t46) λt47=>apu H (zaf 4 t47) λt48=>apu H (zaj false 1 t48 H) λt49=>zaC H (λH K'=>ACalls tP zis [t6] H K') λt50=>apm H t0 λt51=>apu H (zbf t51) λt52=>apu H (zaf 5 t52) λt53=>apu H (zaj false 1 t53 H) λt54=>apu H (zah 1 t54) λt55=>zc9 t49 t50 t55 H λH=>apm H t0 λt56=>apm H t0 λt57=>apu H (zbf t57) λt58=>apu H (zaf 5 t58) λt59=>apu H (zaj false 1 t59 H) λt60=>apu H (zaj true 5 t5 H) λt61=>apu H (zaw 5 [(.int .i64 0),.snil,(.bool false),.snil,.snil] 1 [(0,t61)]) λt62=>zax zau 5 88 t60 t62 H λt63 H=>apu H (zbf t56) λt64=>apu H (zaf 5 t64) λt65=>zan 1 t65 t63 H λH=>zon t0 t9 t10 t11 H K Kb1)) (zaF [] (K · H))
def zFk:=zah 1 t1 λt10=>zFl t0 t1 t10 (.int .i64 0) H K
def zgn:Nat→List Bool|4=>rl false [0,1,3,2,9,3,50]|14=>rl false [4,1,52,3,8]|_=>[]
noncomputable def zjf:=Tryz.f44.body.getD .skip
noncomputable def zFp:=Tryz.f44.results.toList
def zox:=t0::ux 3 (t4::t5::ux 9 (t15::t16::t17::ux 50 []))
def zWv:=zgn 4
noncomputable def zWr:=zar [1,1,1,0,1,0,0] zjf
def zWp:=zas tP zgn [1,1,1,0,1,0] zjf (zaB tP zFp K)
def zoy:=ALoop tP zWr (zWp K) (zox t0 t4 t5 t15 t16 t17) H
def zFn(t0 t4 t5 t15 t16 t17:AV)(H:zaa)(K:Kt)(Kb4:Lt):Prop:=zac .add false t17 (.int .i64 1) λt54=>Kb4 (zox t0 t4 t5 t15 t16 t54) H
def zvX:=zFn t0 t4 t5 t15 t16 t17 H K Kb4
def zow:=ux 4 (t4::ux 52 (t57::t58::t59::ux 8 []))
def zWu:=zgn 14
noncomputable def zWq:=zar [1,1,1,1,1,0,1,0,0] zjf
def zWo:=zas tP zgn [1,1,1,1,1,0,1,0] zjf (zaB tP zFp K)
def zFo:=ALoop tP zWq (zWo K) (zow t4 t57 t58 t59) H
def zvW:=zac .lss false t59 t58 λt60=>zag t60 (zak 1 t57 t59 λt61=>zae false 1 t61 H λt62=>ACalls tP zzC [t62,(.fn zkN [])] H λt64 H=>zac .add false t59 (.int .i64 1) λt65=>Kb14 (zow t4 t57 t58 t65) H) (ACalls tP zr2 [t4] H λt67 H=>zaF [t67,(.int .i64 0)] (K · H))
def zov:=zac .lss false t17 t16 λt18=>zag t18 (zak 5 t15 t17 λt19=>zae true 5 t19 H λt20=>zaz [(.int .i64 0),.snil,(.bool false),.snil,.snil] H λt7 H=>zan 5 t7 t20 H λH=>zaf 2 t7 λt21=>zae true 3 t21 H λt22=>ACalls tP zkL [t22] H λt23 H=>zac .neq false t23 (.int .i64 0) λt24=>zag t24 (apm H t0 λt25=>apu H (zbf t25) λt26=>apu H (zaf 0 t26) λt27=>apu H (zaj false 1 t27 H) λt28=>apm H t0 λt29=>apu H (zbf t29) λt30=>apu H (zaf 1 t30) λt31=>apu H (zaj true 3 t31 H) λt32=>apu H (zaf 0 t7) λt33=>apu H (zaj true 2 t33 H) λt34=>zaC H (λH K'=>ACalls tP zgS [t28,t32,t34] H K') λt35=>apm H t35 λt8=>apm H t4 λt36=>apm H t8 λt37=>apm H t4 λt38=>apm H t8 λt39=>apu H (zak 1 t38 t39) λt40=>apu H (zaj false 1 t40 H) λt41=>apu H (zaf 0 t7) λt42=>apu H (zaj true 2 t42 H) λt43=>zaC H (λH K'=>ACalls tP zkM [t43] H K') λt44=>apu H (zaf 2 t7) λt45=>apu H (zaj true 3 t45 H) λt46=>zaC H (λH K'=>ACalls tP zr1 [t46] H K') λt47=>apu H (zaq [(.int .i64 0),.snil,(.bool false),.snil,.snil] [(0,2),(2,3)] [(0,t44),(1,t47)]) λt48=>apu H (zaw 5 [(.int .i64 0),.snil,(.bool false),.snil,.snil] 1 [(0,t48)]) λt49=>zax zau 5 88 t41 t49 H λt50 H=>apu H (zak 1 t36 t37) λt51=>zan 1 t51 t50 H λH=>zac .add false t5 (.int .i64 1) λt53=>zvX t0 t4 t53 t15 t16 t17 H K Kb4) (zvX t0 t4 t5 t15 t16 t17 H K Kb4)) (zac .gtr false t5 (.int .i64 1000) λt56=>zag t56 (zaF [.snil,(.int .i64 9)] (K · H)) (zah 1 t4 λt58=>zFo t4 t4 t58 (.int .i64 0) H K))
def zFm:=zbp 24 [.snil] (.int .i64 7) (.int .i64 7) H λt11 H=>zbf t0 λt13=>zaf 5 t13 λt14=>zae false 1 t14 H λt15=>zah 1 t15 λt16=>zoy t0 t11 (.int .i64 0) t15 t16 (.int .i64 0) H K
def zpd:Nat→List Bool|5=>rl false [0,1,17,3,11]|_=>[]
noncomputable def zwB:=Tryz.f75.body.getD .skip
noncomputable def zYH:=Tryz.f75.results.toList
def zpe:=t0::ux 17 (t18::t19::t20::ux 11 [])
def zYF:=zpd 5
noncomputable def zYD:=zar [1,1,1,0,1,0,1,0,0] zwB
def zYC:=zas tP zpd [1,1,1,0,1,0,1,0] zwB (zaB tP zYH K)
def zF8:=ALoop tP zYD (zYC K) (zpe t0 t18 t19 t20) H
def zwA:=zac .lss false t20 t19 λt21=>zag t21 (zak 2 t18 t20 λt22=>zae true 2 t22 H λt23=>zaz [(.int .i64 0),.snil] H λt5 H=>zan 2 t5 t23 H λH=>zae true 2 t5 H λt25=>ACalls tP zkJ [t0,t25] H λt26 H=>ACalls tP zgM [t0,(.int .u8 44)] H λt28 H=>zac .add false t20 (.int .i64 1) λt29=>Kb5 (zpe t0 t18 t19 t29) H) (ACalls tP zgM [t0,(.int .u8 41)] H λt31 H=>zaF [] (K · H))
def zF7:=zav t1 H λt3 H=>zaf 0 t3 λt7=>zae false 1 t7 H λt8=>ACalls tP zrb [t8] H λt9 H=>ACalls tP zj8 [t0,t9] H λt10 H=>zaf 1 t3 λt11=>zae false 1 t11 H λt12=>zah 1 t12 λt13=>zac .gtr false t13 (.int .i64 0) λt14=>zag t14 (ACalls tP zgM [t0,(.int .u8 40)] H λt16 H=>zaf 1 t3 λt17=>zae false 1 t17 H λt18=>zah 1 t18 λt19=>zF8 t0 t18 t19 (.int .i64 0) H K) (zaF [] (K · H))
def zpl:Nat→List Bool|3=>rl false [2,2,6,3,12]|_=>[]
noncomputable def zwL:=Tryz.f82.body.getD .skip
noncomputable def zZd:=Tryz.f82.results.toList
def zpm:=ux 2 (t2::t3::ux 6 (t10::t11::t12::ux 12 []))
def zZb:=zpl 3
noncomputable def zY9:=zar [1,1,0,1,0,0] zwL
def zY8:=zas tP zpl [1,1,0,1,0] zwL (zaB tP zZd K)
def zpn:=ALoop tP zY9 (zY8 K) (zpm t2 t3 t10 t11 t12) H
def zwK:=zac .lss false t12 t11 λt13=>zag t13 (zak 2 t10 t12 λt14=>zae true 2 t14 H λt15=>zaz [(.int .i64 0),.snil] H λt5 H=>zan 2 t5 t15 H λH=>apu H (zaf 1 t3) λt16=>apu H (zaj false 1 t16 H) λt17=>apu H (zaj true 2 t5 H) λt18=>zaC H (λH K'=>ACalls tP zkM [t18] H K') λt19=>apu H (zaw 2 [(.int .i64 0),.snil] 1 [(0,t19)]) λt20=>zax zaY 2 32 t17 t20 H λt21 H=>apu H (zaf 1 t3) λt22=>zan 1 t22 t21 H λH=>zac .add false t12 (.int .i64 1) λt23=>Kb3 (zpm t2 t3 t10 t11 t23) H) (zae true 2 t3 H λt24=>zan 2 t2 t24 H λH=>zae true 2 t2 H λr0=>K r0 H)
def zGl:=zav t0 H λt1 H=>zaz [(.int .i64 0),.snil] H λt2 H=>zaf 0 t1 λt6=>zae false 1 t6 H λt7=>zaq [(.int .i64 0),.snil] [(0,1),(1,1)] [(0,t7)] λt8=>zaz [(.int .i64 0),.snil] H λt3 H=>zan 2 t3 t8 H λH=>zaf 1 t1 λt9=>zae false 1 t9 H λt10=>zah 1 t10 λt11=>zpn t2 t3 t10 t11 (.int .i64 0) H K
def zZf(_:Nat):List Bool:=[]
noncomputable def zZg:=Tryz.f83.body.getD .skip
def zGm:=zav t0 H λt1 H=>zaz [(.bool false),.snil,.snil] H λt2 H=>zae true 3 t1 H λt3=>ACalls tP zeK [t3] H λt4 H=>ACalls tP zfh [t4] H λt5 H=>zan 3 t2 t5 H λH=>zae true 3 t2 H λr0=>K r0 H
def zZj(_:Nat):List Bool:=[]
noncomputable def zZk:=Tryz.f85.body.getD .skip
def zGn:=zav t0 H λt2 H=>zav t1 H λt3 H=>zaf 0 t2 λt5=>zae true 2 t5 H λt6=>zaf 0 t3 λt7=>zae true 2 t7 H λt8=>ACalls tP zgU [t6,t8] H λt9 H=>K t9 H
def zYV(_:Nat):List Bool:=[]
noncomputable def zYW:=Tryz.f79.body.getD .skip
def zGh:=zac .lss false t0 (.int .i64 0) λt7=>zad t7 false H (λK'=>K' t0 H) λt9 H=>zad t7 false H (λK'=>zac .gtr false t9 (.int .i64 16) (K' · H)) λt10 H=>zam t7 (.bool true) t10 λt11=>zad t11 false H (λK'=>K' t1 H) λt13 H=>zad t11 false H (λK'=>zac .lss false t13 (.int .i64 0) (K' · H)) λt14 H=>zam t11 (.bool true) t14 λt15=>zad t15 false H (λK'=>K' t1 H) λt17 H=>zad t15 false H (λK'=>zac .gtr false t17 (.int .i64 16) (K' · H)) λt18 H=>zam t15 (.bool true) t18 λt19=>zag t19 (zaF [.snil,(.bool false)] (K · H)) (ACalls tP zre [t0,t1] H λt22 H=>zaF [t22,(.bool true)] (K · H))
def zmg:Nat→List Bool|3=>rl false [0,2,3,2,28]|_=>[]
noncomputable def ztA:=Tryz.f131.body.getD .skip
noncomputable def zOj:=Tryz.f131.results.toList
def zmh:=t0::t1::ux 3 (t5::t6::ux 28 [])
def zOh:=zmg 3
noncomputable def zOe:=zar [1,1,0,1,0,0] ztA
def zOd:=zas tP zmg [1,1,0,1,0] ztA (zaB tP zOj K)
def zCz:=ALoop tP zOe (zOd K) (zmh t0 t1 t5 t6) H
def ztz:=zac .add false t0 t1 λt18=>zac .leq false t6 t18 λt19=>zag t19 (ACalls tP zki [t6,t0] H λt26 H=>zac .sub false t6 t1 λt30=>ACalls tP zki [t0,t30] H λt31 H=>ACalls tP zfj [t26,t31] H λt32 H=>zak 3 t5 t6 λt33=>zan 3 t33 t32 H λH=>zac .add false t6 (.int .i64 1) λt21=>Kb3 (zmh t0 t1 t5 t21) H) (K t5 H)
def zCy:=zac .add false t0 t1 λt9=>zac .add false t9 (.int .i64 1) λt10=>ACalls tP zry [t10] H λt11 H=>zfB t0 t1 λt14=>zCz t0 t1 t11 t14 H K
def znp:Nat→List Bool|3=>rl false [3,1,4,2,8]|_=>[]
noncomputable def zuG:=Tryz.f174.body.getD .skip
noncomputable def zR6:=Tryz.f174.results.toList
def znq:=ux 3 (t3::ux 4 (t8::t9::ux 8 []))
def zR4:=znp 3
noncomputable def zR2:=zar [1,1,0,1,0,0] zuG
def zR1:=zas tP znp [1,1,0,1,0] zuG (zaB tP zR6 K)
def zDW:=ALoop tP zR2 (zR1 K) (znq t3 t8 t9) H
def zuF:=zac .lss false t9 t8 λt10=>zag t10 (ACalls tP zdv [(.int .i64 0)] H λt14 H=>zak 3 t3 t9 λt15=>zan 3 t15 t14 H λH=>zac .add false t9 (.int .i64 1) λt16=>Kb3 (znq t3 t8 t16) H) (K t3 H)
def zDV:=zbp 56 [(.bool false),.snil,.snil] t0 t0 H λt6 H=>zah 1 t6 λt8=>zDW t6 t8 (.int .i64 0) H K
def zmo:Nat→List Bool|4=>rl false [7,1,1,1,13,3,15]|_=>[]
noncomputable def ztI:=Tryz.f135.body.getD .skip
noncomputable def zOP:=Tryz.f135.results.toList
def zmq:=ux 7 (t7::ux 1 (t9::ux 13 (t23::t24::t25::ux 15 [])))
def zON:=zmo 4
noncomputable def zOL:=zar [1,1,1,0,1,0,0] ztI
def zOK:=zas tP zmo [1,1,1,0,1,0] ztI (zaB tP zOP K)
def zms:=ALoop tP zOL (zOK K) (zmq t7 t9 t23 t24 t25) H
def zCL(t7 t9 t23 t24 t25:AV)(H:zaa)(K:Kt)(Kb4:Lt):Prop:=zac .add false t25 (.int .i64 1) λt39=>Kb4 (zmq t7 t9 t23 t24 t39) H
def zmr:=zCL t7 t9 t23 t24 t25 H K Kb4
def zmp:=zac .lss false t25 t24 λt26=>zag t26 (zak 1 t23 t25 λt28=>zae false 1 t28 H λt29=>aUn .not t29 λt31=>zag t31 (zak 3 t7 t25 λt35=>zae true 3 t35 H λt36=>zaw 3 [(.int .i64 0),(.int .i64 0),.snil] 1 [(0,t36)] λt37=>zax za9 3 40 t9 t37 H λt38 H=>zmr t7 t38 t23 t24 t25 H K Kb4) (zmr t7 t9 t23 t24 t25 H K Kb4)) (K t9 H)
def zCK:=zav t1 H λt4 H=>zae true 3 t4 H λt14=>ACalls tP zkg [t0,t14,t2] H λt16 H=>zaE t16 0 λt17=>zaE t16 1 λt18=>zaf 1 t4 λt20=>zae false 1 t20 H λt21=>ACalls tP zfQ [t0,t21,t2] H λt23 H=>zah 1 t23 λt24=>zms t17 .snil t23 t24 (.int .i64 0) H K
variable {t0 t1 t2 t3 t4 t5 t6 t7 t8 t9 t10 t11 t12 t15 t16 t17 t18 t19 t20 t23 t24 t25 t57 t58 t59} {H} {K} {Kb1 Kb3 Kb4 Kb5 Kb14}
theorem zV4(h:HSc H→zFj t0 t1 H K):ACalls tP zim [t0,t1] H K:=
 acb zV2 Tryz.func41 zV3 h
theorem zV7:Lo1 (λt11=>zjc t0 t9 t10 t11) (λt11 H Kb1=>zvO t0 t9 t10 t11 H K Kb1) t11 H (zFl t0 t9 t10 t11 H K):=lq1 zom zV8
theorem zV9(h:HSc H→zFk t0 t1 H K):ACalls tP zin [t0,t1] H K:=
 acb zom Tryz.func42 zvP h
theorem zWs:Lo1 (λt59=>zow t4 t57 t58 t59) (λt59 H Kb14=>zvW t4 t57 t58 t59 H K Kb14) t59 H (zFo t4 t57 t58 t59 H K):=lq1 zgn zWu
theorem zWt:Lo2 (λt5 t17=>zox t0 t4 t5 t15 t16 t17) (λt5 t17 H Kb4=>zov t0 t4 t5 t15 t16 t17 H K Kb4) t5 t17 H (zoy t0 t4 t5 t15 t16 t17 H K):=lq2 zgn zWv
theorem zWw(h:HSc H→zFm t0 H K):ACalls tP zkC [t0] H K:=
 acb zgn Tryz.func44 zjf h
theorem zYE:Lo1 (λt20=>zpe t0 t18 t19 t20) (λt20 H Kb5=>zwA t0 t18 t19 t20 H K Kb5) t20 H (zF8 t0 t18 t19 t20 H K):=lq1 zpd zYF
theorem zYG(h:HSc H→zF7 t0 t1 H K):ACalls tP zkJ [t0,t1] H K:=
 acb zpd Tryz.func75 zwB h
theorem zZa:Lo1 (λt12=>zpm t2 t3 t10 t11 t12) (λt12 H Kb3=>zwK t2 t3 t10 t11 t12 H K Kb3) t12 H (zpn t2 t3 t10 t11 t12 H K):=lq1 zpl zZb
theorem zZc(h:HSc H→zGl t0 H K):ACalls tP zkM [t0] H K:=
 acb zpl Tryz.func82 zwL h
theorem zZh(h:HSc H→zGm t0 H K):ACalls tP zr1 [t0] H K:=
 acb zZf Tryz.func83 zZg h
theorem zZl(h:HSc H→zGn t0 t1 H K):ACalls tP zkN [t0,t1] H K:=
 acb zZj Tryz.func85 zZk h
theorem zYX(h:HSc H→zGh t0 t1 H K):ACalls tP zrZ [t0,t1] H K:=
 acb zYV Tryz.func79 zYW h
theorem zOg:Lo1 (λt6=>zmh t0 t1 t5 t6) (λt6 H Kb3=>ztz t0 t1 t5 t6 H K Kb3) t6 H (zCz t0 t1 t5 t6 H K):=lq1 zmg zOh
theorem zOi(h:HSc H→zCy t0 t1 H K):ACalls tP zre [t0,t1] H K:=
 acb zmg Tryz.func131 ztA h
theorem zR3:Lo1 (λt9=>znq t3 t8 t9) (λt9 H Kb3=>zuF t3 t8 t9 H K Kb3) t9 H (zDW t3 t8 t9 H K):=lq1 znp zR4
theorem zR5(h:HSc H→zDV t0 H K):ACalls tP zry [t0] H K:=
 acb znp Tryz.func174 zuG h
theorem zOM:Lo2 (λt9 t25=>zmq t7 t9 t23 t24 t25) (λt9 t25 H Kb4=>zmp t7 t9 t23 t24 t25 H K Kb4) t9 t25 H (zms t7 t9 t23 t24 t25 H K):=lq2 zmo zON
theorem zOO(h:HSc H→zCK t0 t1 t2 H K):ACalls tP zri [t0,t1,t2] H K:=
 acb zmo Tryz.func135 ztI h
end
section
variable (t0 t1 t3 t4 t5 t6 t7 t8 t9 t10 t11 t12 t13 t21 t22 t25 t26 t30 t31:AV) (H:zaa) (K:Kt) (Kb1 Kb2 Kb3 Kb4 Kb5 Kb6:Lt)
def zXQ(_:Nat):List Bool:=[]
noncomputable def zXR:=Tryz.f61.body.getD .skip
def zFS:=zaz [(.bool false),.snil,.snil] H λt2 H=>zac .lss false t0 (.int .i64 0) λt4=>ACalls tP zh9 [t0] H λt6 H=>zaw 1 [(.int .u32 0)] 1 [(0,(.int .u32 1))] λt7=>zaq [(.bool false),.snil,.snil] [(0,1),(1,1),(2,1)] [(0,t4),(1,t6),(2,t7)] λt8=>ACalls tP zfh [t8] H λt9 H=>zan 3 t2 t9 H λH=>zae true 3 t2 H λr0=>K r0 H
def zYe(_:Nat):List Bool:=[]
noncomputable def zYf:=Tryz.f70.body.getD .skip
def zwt:=zav t0 H λt2 H=>zav t1 H λt3 H=>zaz [(.bool false),.snil,.snil] H λt4 H=>apu H (zaj true 3 t2 H) λt7=>zaC H (λH K'=>ACalls tP zeK [t7] H K') λt8=>apu H (zaj true 3 t3 H) λt9=>zaC H (λH K'=>ACalls tP zeK [t9] H K') λt10=>zaz [(.bool false),.snil,.snil] H λt5 H=>zaz [(.bool false),.snil,.snil] H λt6 H=>zan 3 t5 t8 H λH=>zan 3 t6 t10 H λH=>apu H (zaf 0 t5) λt11=>apu H (zaj false 1 t11 H) λt12=>apu H (zaf 0 t6) λt13=>apu H (zaj false 1 t13 H) λt14=>apu H (zac .neq true t12 t14) λt15=>apu H (zaf 1 t5) λt16=>apu H (zaj false 1 t16 H) λt17=>apu H (zaf 1 t6) λt18=>apu H (zaj false 1 t18 H) λt19=>zaC H (λH K'=>ACalls tP zdZ [t17,t19] H K') λt20=>apu H (zaf 2 t5) λt21=>apu H (zaj false 1 t21 H) λt22=>apu H (zaf 2 t6) λt23=>apu H (zaj false 1 t23 H) λt24=>zaC H (λH K'=>ACalls tP zdZ [t22,t24] H K') λt25=>apu H (zaq [(.bool false),.snil,.snil] [(0,1),(1,1),(2,1)] [(0,t15),(1,t20),(2,t25)]) λt26=>zaC H (λH K'=>ACalls tP zfh [t26] H K') λt27=>zan 3 t4 t27 H λH=>zae true 3 t4 H λr0=>K r0 H
def zYJ(_:Nat):List Bool:=[]
noncomputable def zYK:=Tryz.f77.body.getD .skip
def zF9:=zav t0 H λt2 H=>zav t1 H λt3 H=>zaz [(.bool false),.snil,.snil] H λt4 H=>apu H (zaj true 3 t2 H) λt5=>zaC H (λH K'=>ACalls tP zeK [t5] H K') λt6=>apu H (zaj true 3 t3 H) λt7=>zaC H (λH K'=>ACalls tP zeK [t7] H K') λt8=>zaC H (λH K'=>ACalls tP zrc [t6,t8] H K') λt9=>zaC H (λH K'=>ACalls tP zfh [t9] H K') λt10=>zan 3 t4 t10 H λH=>zae true 3 t4 H λr0=>K r0 H
def zNl(_:Nat):List Bool:=[]
noncomputable def zNm:=Tryz.f113.body.getD .skip
def zCh:=zac .lss false t0 (.int .i64 0) λt4=>zag t4 (za8 .u64 t0 λt6=>aUn .neg t6 λt7=>ACalls tP zgO [t7] H λt8 H=>K t8 H) (za8 .u64 t0 λt10=>ACalls tP zgO [t10] H λt11 H=>K t11 H)
def zNo(_:Nat):List Bool:=[]
noncomputable def zNp:=Tryz.f114.body.getD .skip
def ztk:=zav t0 H λt1 H=>zaz [(.bool false),.snil,.snil] H λt2 H=>zae true 3 t1 H λt4=>ACalls tP zkc [t4] H λt5 H=>zaz [(.bool false),.snil,.snil] H λt3 H=>zan 3 t3 t5 H λH=>zaf 0 t3 λt6=>zae false 1 t6 H λt7=>zaf 1 t3 λt8=>zae false 1 t8 H λt9=>zaf 2 t3 λt10=>zae false 1 t10 H λt11=>zaq [(.bool false),.snil,.snil] [(0,1),(1,1),(2,1)] [(0,t7),(1,t9),(2,t11)] λt12=>zan 3 t2 t12 H λH=>zae true 3 t2 H λr0=>K r0 H
def zNA(_:Nat):List Bool:=[]
noncomputable def zNB:=Tryz.f120.body.getD .skip
def zto:=zav t0 H λt1 H=>zaz [(.bool false),.snil,.snil] H λt2 H=>apu H (zaf 1 t1) λt5=>apu H (zaj false 1 t5 H) λt6=>zaC H (λH K'=>ACalls tP zke [t6] H K') λt7=>apu H (zaf 2 t1) λt8=>apu H (zaj false 1 t8 H) λt9=>zaC H (λH K'=>ACalls tP zke [t9] H K') λt10=>apm H t7 λt3=>apm H t10 λt4=>zah 1 t3 λt12=>zac .eql false t12 (.int .i64 0) λt13=>zad t13 false H (λK'=>K' t4 H) λt15 H=>zad t13 false H (λK'=>zah 1 t15 (K' · H)) λt16 H=>zad t13 false H (λK'=>zac .eql false t16 (.int .i64 0) (K' · H)) λt17 H=>zam t13 (.bool true) t17 λt18=>zag t18 (zaw 1 [(.int .u32 0)] 1 [(0,(.int .u32 1))] λt19=>zaq [(.bool false),.snil,.snil] [(0,1),(1,1),(2,1)] [(2,t19)] λt20=>zan 3 t2 t20 H λH=>zae true 3 t2 H λr0=>K r0 H) (zaf 0 t1 λt21=>zae false 1 t21 H λt22=>zaq [(.bool false),.snil,.snil] [(0,1),(1,1),(2,1)] [(0,t22),(1,t3),(2,t4)] λt25=>zan 3 t2 t25 H λH=>zae true 3 t2 H λr0=>K r0 H)
def zf9:Nat→List Bool|5=>rl false [0,2,3,1,19,2,50]|9=>rl false [0,2,3,3,17,2,3,2,45]|_=>[]
noncomputable def ztr:=Tryz.f121.body.getD .skip
noncomputable def zNI:=Tryz.f121.results.toList
def zl9:=t0::t1::ux 3 (t5::ux 19 (t25::t26::ux 50 []))
def zCo:=zf9 5
noncomputable def zts:=zar [1,1,1,0,1,0,0] ztr
def zCl:=zas tP zf9 [1,1,1,0,1,0] ztr (zaB tP zNI K)
def zCm:=ALoop tP zts (zCl K) (zl9 t0 t1 t5 t25 t26) H
def ziY:=t0::t1::ux 3 (t5::t6::t7::ux 17 (t25::t26::ux 3 (t30::t31::ux 45 [])))
def zNG:=zf9 9
noncomputable def zND:=zar [1,1,0,0,1,1,0,1,0,0] zts
def zNC:=zas tP zf9 [1,1,0,0,1,1,0,1,0] zts (zbC zCo Kb5 (zCl K))
def zCn:=ALoop tP zND (zNC K Kb5) (ziY t0 t1 t5 t6 t7 t25 t26 t30 t31) H
def ztq(t0 t1 t5 t6 t7 t25 t26 t30 t31:AV)(H:zaa)(K:Kt)(Kb5:Lt)(Kb9:Lt):Prop:=zac .lss false t31 t30 λt32=>zag t32 (apm H t0 λt34=>apm H t6 λt35=>apu H (zak 1 t34 t35) λt36=>apu H (zaj false 1 t36 H) λt37=>apu H (za8 .u64 t37) λt38=>apm H t1 λt39=>apm H t31 λt40=>apu H (zak 1 t39 t40) λt41=>apu H (zaj false 1 t41 H) λt42=>apu H (za8 .u64 t42) λt43=>apu H (zac .mul false t38 t43) λt44=>apm H t5 λt45=>apm H t6 λt46=>apm H t31 λt47=>apu H (zac .add false t46 t47) λt48=>apu H (zak 1 t45 t48) λt49=>apu H (zaj false 1 t49 H) λt50=>apu H (za8 .u64 t50) λt51=>apu H (zac .add false t44 t51) λt52=>apm H t7 λt53=>apu H (zac .add false t52 t53) λt54=>apm H t54 λt9=>zac .add false t6 t31 λt58=>zac .rem false t9 (.int .u64 1000000000) λt60=>za8 .u32 t60 λt61=>zak 1 t5 t58 λt62=>zan 1 t62 t61 H λH=>zac .quo false t9 (.int .u64 1000000000) λt64=>zac .add false t31 (.int .i64 1) λt65=>Kb9 (ziY t0 t1 t5 t6 t64 t25 t26 t30 t65) H) (zah 1 t1 λt69=>zac .add false t6 t69 λt70=>za8 .u32 t7 λt72=>zak 1 t5 t70 λt73=>zan 1 t73 t72 H λH=>zac .add false t26 (.int .i64 1) λt74=>Kb5 (zl9 t0 t1 t5 t25 t74) H)
def ztp:=zac .lss false t26 t25 λt27=>zag t27 (zah 1 t1 λt30=>zCn t0 t1 t5 t26 (.int .u64 0) t25 t26 t30 (.int .i64 0) H K Kb5) (ACalls tP zfP [t5] H λt76 H=>K t76 H)
def zl8:=zah 1 t0 λt11=>zac .eql false t11 (.int .i64 0) λt12=>zad t12 false H (λK'=>K' t1 H) λt14 H=>zad t12 false H (λK'=>zah 1 t14 (K' · H)) λt15 H=>zad t12 false H (λK'=>zac .eql false t15 (.int .i64 0) (K' · H)) λt16 H=>zam t12 (.bool true) t16 λt17=>zag t17 (K .snil H) (zah 1 t0 λt19=>zah 1 t1 λt21=>zac .add false t19 t21 λt22=>zbp 4 [(.int .u32 0)] t22 t22 H λt23 H=>zah 1 t0 λt25=>zCm t0 t1 t23 t25 (.int .i64 0) H K)
def zN7(_:Nat):List Bool:=[]
noncomputable def zN8:=Tryz.f129.body.getD .skip
def zCx:=zav t0 H λt2 H=>zav t1 H λt3 H=>zaz [(.bool false),.snil,.snil] H λt4 H=>apu H (zaf 1 t2) λt8=>apu H (zaj false 1 t8 H) λt9=>apu H (zaf 2 t3) λt10=>apu H (zaj false 1 t10 H) λt11=>zaC H (λH K'=>ACalls tP zdZ [t9,t11] H K') λt12=>apu H (zaf 1 t3) λt13=>apu H (zaj false 1 t13 H) λt14=>apu H (zaf 2 t2) λt15=>apu H (zaj false 1 t15 H) λt16=>zaC H (λH K'=>ACalls tP zdZ [t14,t16] H K') λt17=>apm H t12 λt5=>apm H t17 λt6=>zaf 2 t2 λt18=>zae false 1 t18 H λt19=>zaf 2 t3 λt20=>zae false 1 t20 H λt21=>ACalls tP zdZ [t19,t21] H λt22 H=>zaf 0 t2 λt23=>zae false 1 t23 H λt24=>zaf 0 t3 λt25=>zae false 1 t25 H λt26=>zac .eql true t24 t26 λt27=>zag t27 (apu H (zaf 0 t2) λt28=>apu H (zaj false 1 t28 H) λt29=>apm H t5 λt30=>apm H t6 λt31=>zaC H (λH K'=>ACalls tP zrx [t30,t31] H K') λt32=>apm H t22 λt33=>apu H (zaq [(.bool false),.snil,.snil] [(0,1),(1,1),(2,1)] [(0,t29),(1,t32),(2,t33)]) λt34=>zan 3 t4 t34 H λH=>zae true 3 t4 H λr0=>K r0 H) (ACalls tP zkh [t5,t6] H λt37 H=>zac .geq false t37 (.int .i64 0) λt38=>zag t38 (apu H (zaf 0 t2) λt39=>apu H (zaj false 1 t39 H) λt40=>apm H t5 λt41=>apm H t6 λt42=>zaC H (λH K'=>ACalls tP zzy [t41,t42] H K') λt43=>apm H t22 λt44=>apu H (zaq [(.bool false),.snil,.snil] [(0,1),(1,1),(2,1)] [(0,t40),(1,t43),(2,t44)]) λt45=>zan 3 t4 t45 H λH=>zae true 3 t4 H λr0=>K r0 H) (apu H (zaf 0 t3) λt46=>apu H (zaj false 1 t46 H) λt47=>apm H t6 λt48=>apm H t5 λt49=>zaC H (λH K'=>ACalls tP zzy [t48,t49] H K') λt50=>apm H t22 λt51=>apu H (zaq [(.bool false),.snil,.snil] [(0,1),(1,1),(2,1)] [(0,t47),(1,t50),(2,t51)]) λt52=>zan 3 t4 t52 H λH=>zae true 3 t4 H λr0=>K r0 H))
def zOs(_:Nat):List Bool:=[]
noncomputable def zOt:=Tryz.f132.body.getD .skip
def ztD:=zav t0 H λt1 H=>zaf 1 t1 λt4=>zae false 1 t4 H λt5=>zah 1 t5 λt6=>zac .eql false t6 (.int .i64 0) λt7=>zag t7 (K (.int .i64 0) H) (zaf 0 t1 λt9=>zae false 1 t9 H λt10=>zag t10 (K (.int .i64 (-1)) H) (K (.int .i64 1) H))
def znn:Nat→List Bool|6=>rl false [0,2,3,1,37]|_=>[]
noncomputable def zuE:=Tryz.f172.body.getD .skip
noncomputable def zR0:=Tryz.f172.results.toList
def zno:=t0::t1::ux 3 (t5::ux 37 [])
def zRY:=znn 6
noncomputable def zRW:=zar [1,1,0,1,0,0] zuE
def zRV:=zas tP znn [1,1,0,1,0] zuE (zaB tP zR0 K)
def zDU:=ALoop tP zRW (zRV K) (zno t0 t1 t5) H
def zi7:=zac .geq false t5 (.int .i64 0) λt20=>zag t20 (apm H t0 λt24=>apm H t5 λt25=>apu H (zak 1 t24 t25) λt26=>apu H (zaj false 1 t26 H) λt27=>apm H t1 λt28=>apm H t5 λt29=>apu H (zak 1 t28 t29) λt30=>apu H (zaj false 1 t30 H) λt31=>apu H (zac .lss false t27 t31) λt32=>apm H t32 λt23=>zag t23 (K (.int .i64 (-1)) H) (apm H t0 λt34=>apm H t5 λt35=>apu H (zak 1 t34 t35) λt36=>apu H (zaj false 1 t36 H) λt37=>apm H t1 λt38=>apm H t5 λt39=>apu H (zak 1 t38 t39) λt40=>apu H (zaj false 1 t40 H) λt41=>apu H (zac .gtr false t37 t41) λt42=>apm H t42 λt33=>zag t33 (K (.int .i64 1) H) (zac .sub false t5 (.int .i64 1) λt22=>Kb6 (zno t0 t1 t22) H))) (K (.int .i64 0) H)
def znm:=zah 1 t0 λt7=>zah 1 t1 λt9=>zac .neq false t7 t9 λt10=>zag t10 (zah 1 t0 λt12=>zah 1 t1 λt14=>zac .lss false t12 t14 λt15=>zag t15 (K (.int .i64 (-1)) H) (K (.int .i64 1) H)) (zah 1 t0 λt17=>zac .sub false t17 (.int .i64 1) λt18=>zDU t0 t1 t18 H K)
def zmR:Nat→List Bool|2=>rl false [0,1,2,1,11]|_=>[]
noncomputable def zt4:=Tryz.f152.body.getD .skip
noncomputable def zP1:=Tryz.f152.results.toList
def zmS:=t0::ux 2 (t3::ux 11 [])
def zPZ:=zmR 2
noncomputable def zPX:=zar [1,1,0,0,0] zt4
def zPW:=zas tP zmR [1,1,0,0] zt4 (zaB tP zP1 K)
def zmT:=ALoop tP zPX (zPW K) (zmS t0 t3) H
def zt3:=zac .gtr false t0 (.int .u64 0) λt5=>zag t5 (zac .rem false t0 (.int .u64 1000000000) λt10=>za8 .u32 t10 λt11=>zaw 1 [(.int .u32 0)] 1 [(0,t11)] λt12=>zax zbh 1 4 t3 t12 H λt13 H=>zac .quo false t0 (.int .u64 1000000000) λt7=>Kb2 (zmS t7 t13) H) (K t3 H)
def zCZ:=zmT t0 .snil H K
def zP2(_:Nat):List Bool:=[]
noncomputable def zP3:=Tryz.f153.body.getD .skip
def zmU:=zav t0 H λt1 H=>zaz [(.bool false),.snil,.snil] H λt2 H=>zaf 1 t1 λt8=>zae false 1 t8 H λt9=>zah 1 t9 λt10=>zac .eql false t10 (.int .i64 0) λt11=>zag t11 (zaw 1 [(.int .u32 0)] 1 [(0,(.int .u32 1))] λt12=>zaq [(.bool false),.snil,.snil] [(0,1),(1,1),(2,1)] [(2,t12)] λt13=>zan 3 t2 t13 H λH=>zae true 3 t2 H λr0=>K r0 H) (zaf 2 t1 λt14=>zae false 1 t14 H λt15=>ACalls tP zko [t15] H λt16 H=>zag t16 (zae true 3 t1 H λt17=>zan 3 t2 t17 H λH=>zae true 3 t2 H λr0=>K r0 H) (zaf 1 t1 λt18=>zae false 1 t18 H λt19=>zaf 2 t1 λt20=>zae false 1 t20 H λt21=>ACalls tP zrA [t19,t21] H λt22 H=>ACalls tP zko [t22] H λt24 H=>zag t24 (zae true 3 t1 H λt25=>zan 3 t2 t25 H λH=>zae true 3 t2 H λr0=>K r0 H) (zaf 1 t1 λt27=>zae false 1 t27 H λt28=>ACalls tP zif [t28,t22] H λt30 H=>zaE t30 0 λt31=>zaE t30 1 λt32=>zaf 2 t1 λt34=>zae false 1 t34 H λt35=>ACalls tP zif [t35,t22] H λt37 H=>zaE t37 0 λt38=>zaE t37 1 λt39=>zaf 0 t1 λt40=>zae false 1 t40 H λt41=>zaq [(.bool false),.snil,.snil] [(0,1),(1,1),(2,1)] [(0,t41),(1,t31),(2,t38)] λt44=>zan 3 t2 t44 H λH=>zae true 3 t2 H λr0=>K r0 H)))
def zmX:Nat→List Bool|300000=>rl false [0,1]|300001=>rl false [0,1]|300002=>rl false [0,1]|300003=>rl false [0,1]|4=>rl false [0,1,2,2,7,2,27]|_=>[]
noncomputable def zt8:=Tryz.f157.body.getD .skip
noncomputable def zQi:=Tryz.f157.results.toList
def zmZ:=t0::ux 2 (t3::t4::ux 7 (t12::t13::ux 27 []))
def zQg:=zmX 4
noncomputable def zQe:=zar [1,1,1,0,1,0,0] zt8
def zQd:=zas tP zmX [1,1,1,0,1,0] zt8 (zaB tP zQi K)
def zC4:=ALoop tP zQe (zQd K) (zmZ t0 t3 t4 t12 t13) H
def zm0:=ACalls tP zfP [t3] H λt40 H=>K t40 H
def zmY:=zac .lss false t13 t12 λt14=>zag t14 (zak 1 t0 t13 λt18=>zae false 1 t18 H λt19=>za8 .u64 t19 λt20=>zac .add false t20 t4 λt22=>zac .rem false t22 (.int .u64 1000000000) λt25=>za8 .u32 t25 λt26=>zaw 1 [(.int .u32 0)] 1 [(0,t26)] λt27=>zax zbh 1 4 t3 t27 H λt28 H=>zac .quo false t22 (.int .u64 1000000000) λt30=>zac .add false t13 (.int .i64 1) λt31=>Kb4 (zmZ t0 t28 t30 t12 t31) H) (zac .gtr false t4 (.int .u64 0) λt33=>zag t33 (za8 .u32 t4 λt36=>zaw 1 [(.int .u32 0)] 1 [(0,t36)] λt37=>zax zbh 1 4 t3 t37 H λt38 H=>zm0 t38 H K) (zm0 t3 H K))
def zC3:=zah 1 t0 λt8=>zac .add false t8 (.int .i64 1) λt9=>ze3 zbh 1 4 t9 H λt10 H=>zah 1 t0 λt12=>zC4 t0 t10 (.int .u64 0) t12 (.int .i64 0) H K
def zm1:Nat→List Bool|2=>rl false [0,1,2,1,17]|_=>[]
noncomputable def zt9:=Tryz.f158.body.getD .skip
noncomputable def zQo:=Tryz.f158.results.toList
def zm3:=t0::ux 2 (t3::ux 17 [])
def zQm:=zm1 2
noncomputable def zQk:=zar [1,1,0,0,0] zt9
def zQj:=zas tP zm1 [1,1,0,0] zt9 (zaB tP zQo K)
def zC6:=ALoop tP zQk (zQj K) (zm3 t0 t3) H
def zm2:=zac .gtr false t3 (.int .i64 0) λt7=>zad t7 true H (λK'=>K' t0 H) λt9 H=>zad t7 true H (λK'=>K' t3 H) λt10 H=>zad t7 true H (λK'=>zac .sub false t10 (.int .i64 1) (K' · H)) λt11 H=>zad t7 true H (λK'=>zak 1 t9 t11 (K' · H)) λt12 H=>zad t7 true H (λK'=>zae false 1 t12 H (K' · H)) λt13 H=>zad t7 true H (λK'=>zac .eql false t13 (.int .u32 0) (K' · H)) λt14 H=>zam t7 t14 (.bool false) λt15=>zag t15 (zac .sub false t3 (.int .i64 1) λt17=>Kb2 (zm3 t0 t17) H) (zaN 1 1 t0 none (some t3) λt20=>K t20 H)
def zC5:=zah 1 t0 λt5=>zC6 t0 t5 H K
def znh:Nat→List Bool|300000=>rl false [0,1]|300001=>rl false [0,1]|300002=>rl false [0,1]|300003=>rl false [0,1]|300004=>rl false [0,1]|6=>rl false [0,2,3,2,14,2,33]|_=>[]
noncomputable def zuD:=Tryz.f171.body.getD .skip
noncomputable def zRT:=Tryz.f171.results.toList
def zni:=t0::t1::ux 3 (t5::t6::ux 14 (t21::t22::ux 33 []))
def zRR:=znh 6
noncomputable def zRP:=zar [1,1,1,1,0,1,0,0] zuD
def zRO:=zas tP znh [1,1,1,1,0,1,0] zuD (zaB tP zRT K)
def zDT:=ALoop tP zRP (zRO K) (zni t0 t1 t5 t6 t21 t22) H
def znk(t0 t1 t5 t8 t21 t22:AV)(H:zaa)(K:Kt)(Kb6:Lt):Prop:=zac .quo false t8 (.int .u32 1000000000) λt42=>zac .rem false t8 (.int .u32 1000000000) λt45=>zaw 1 [(.int .u32 0)] 1 [(0,t45)] λt46=>zax zbh 1 4 t5 t46 H λt47 H=>zac .add false t22 (.int .i64 1) λt48=>Kb6 (zni t0 t1 t47 t42 t21 t48) H
def znl:=K t5 H
def zi6:=zac .lss false t22 t21 λt23=>zag t23 (zak 1 t0 t22 λt27=>zae false 1 t27 H λt28=>zac .add false t28 t6 λt30=>zah 1 t1 λt33=>zac .lss false t22 t33 λt34=>zag t34 (zak 1 t1 t22 λt38=>zae false 1 t38 H λt39=>zac .add false t30 t39 λt40=>znk t0 t1 t5 t40 t21 t22 H K Kb6) (znk t0 t1 t5 t30 t21 t22 H K Kb6)) (zac .gtr false t6 (.int .u32 0) λt50=>zag t50 (zaw 1 [(.int .u32 0)] 1 [(0,t6)] λt53=>zax zbh 1 4 t5 t53 H λt54 H=>znl t54 H K) (znl t5 H K))
def znj:=zah 1 t0 λt17=>zac .add false t17 (.int .i64 1) λt18=>ze3 zbh 1 4 t18 H λt19 H=>zah 1 t0 λt21=>zDT t0 t1 t19 (.int .u32 0) t21 (.int .i64 0) H K
def zuC:=zah 1 t0 λt10=>zah 1 t1 λt12=>zac .lss false t10 t12 λt13=>zag t13 (znj t1 t0 H K) (znj t0 t1 H K)
def zST(_:Nat):List Bool:=[]
noncomputable def zSU:=Tryz.f197.body.getD .skip
def znH:=zah 1 t0 λt4=>zac .eql false t4 (.int .i64 1) λt5=>zad t5 true H (λK'=>K' t0 H) λt7 H=>zad t5 true H (λK'=>zak 1 t7 (.int .i64 0) (K' · H)) λt8 H=>zad t5 true H (λK'=>zae false 1 t8 H (K' · H)) λt9 H=>zad t5 true H (λK'=>zac .eql false t9 (.int .u32 1) (K' · H)) λt10 H=>zam t5 t10 (.bool false) λt11=>K t11 H
def zgh:Nat→List Bool|1=>rl false [0,2,47]|5=>rl false [5,1,1,1,41]|_=>[]
noncomputable def zuU:=Tryz.f198.body.getD .skip
noncomputable def zS2:=Tryz.f198.results.toList
def zuW:=t0::t1::ux 47 []
def zEf:=zgh 1
noncomputable def zuV:=zar [1,0,0,0] zuU
def zEc:=zas tP zgh [1,0,0] zuU (zaB tP zS2 K)
def zEd:=ALoop tP zuV (zEc K) (zuW t0 t1) H
def znI:=ux 5 (t5::ux 1 (t7::ux 41 []))
def zS0:=zgh 5
noncomputable def zSX:=zar [1,0,0,1,0,1,1,0,0,0] zuV
def zSW:=zas tP zgh [1,0,0,1,0,1,1,0,0] zuV (zbC zEf Kb1 (zEc K))
def zEe:=ALoop tP zSX (zSW K Kb1) (znI t5 t7) H
def zuT(t5 t7:AV)(H:zaa)(K:Kt)(Kb1:Lt)(Kb5:Lt):Prop:=zac .gtr false t7 (.int .u64 0) λt33=>zag t33 (apm H t7 λt34=>apm H t5 λt35=>apm H t7 λt36=>apu H (zac .rem false t35 t36) λt37=>apm H t34 λt5=>apm H t37 λt7=>Kb5 (znI t5 t7) H) (ACalls tP zgO [t5] H λt39 H=>K t39 H)
def zuS:=zah 1 t1 λt12=>zac .gtr false t12 (.int .i64 0) λt13=>zag t13 (zah 1 t0 λt15=>zac .leq false t15 (.int .i64 2) λt16=>zad t16 true H (λK'=>K' t1 H) λt18 H=>zad t16 true H (λK'=>zah 1 t18 (K' · H)) λt19 H=>zad t16 true H (λK'=>zac .leq false t19 (.int .i64 2) (K' · H)) λt20 H=>zam t16 t20 (.bool false) λt21=>zag t21 (ACalls tP zkt [t0] H λt24 H=>zaE t24 0 λt25=>zaE t24 1 λt26=>ACalls tP zkt [t1] H λt29 H=>zaE t29 0 λt30=>zaE t29 1 λt31=>zEe t25 t30 H K Kb1) (ACalls tP zif [t0,t1] H λt43 H=>zaE t43 0 λt44=>zaE t43 1 λt45=>Kb1 (zuW t1 t45) H)) (K t0 H)
def zEb:=zEd t0 t1 H K
def zEh:Nat→List Bool|12=>rl false [8,6,77]|_=>[]
noncomputable def zuX:=Tryz.f199.body.getD .skip
noncomputable def zS8:=Tryz.f199.results.toList
def zS5:=ux 8 (t8::t9::t10::t11::t12::t13::ux 77 [])
noncomputable def zS4:=zar [1,1,1,1,1,1,1,1,0,1,0,0] zuX
def zS3:=zas tP zEh [1,1,1,1,1,1,1,1,0,1,0] zuX (zaB tP zS8 K)
def zS6:=ALoop tP zS4 (zS3 K) (zS5 t8 t9 t10 t11 t12 t13) H
def zEg:=ACalls tP zkh [t0,t1] H λt18 H=>zac .lss false t18 (.int .i64 0) λt19=>zag t19 (zax zbh 1 4 .snil t0 H λt21 H=>zaF [.snil,t21] (K · H)) (zah 1 t1 λt23=>zac .eql false t23 (.int .i64 1) λt24=>zag t24 (zak 1 t1 (.int .i64 0) λt28=>zae false 1 t28 H λt29=>za8 .u64 t29 λt30=>ACalls tP zrG [t0,t30] H λt31 H=>zaE t31 0 λt32=>zaE t31 1 λt33=>ACalls tP zgO [t33] H λt36 H=>zaF [t32,t36] (K · H)) (zah 1 t1 λt38=>zac .sub false t38 (.int .i64 1) λt41=>zak 1 t1 t41 λt42=>zae false 1 t42 H λt43=>za8 .u64 t43 λt44=>zac .add false t44 (.int .u64 1) λt45=>zac .quo false (.int .u64 1000000000) t45 λt46=>ACalls tP zzB [t0,t46] H λt49 H=>ACalls tP zzB [t1,t46] H λt52 H=>zaN 1 1 t52 none (some t38) λt54=>zah 1 t0 λt56=>zac .sub false t56 t38 λt58=>zac .add false t58 (.int .i64 1) λt59=>zbp 4 [(.int .u32 0)] t59 t59 H λt60 H=>zah 1 t0 λt62=>zac .sub false t62 t38 λt64=>zS6 t38 t46 t49 t54 t60 t64 H K))
def zTR(_:Nat):List Bool:=[]
noncomputable def zTS:=Tryz.f216.body.getD .skip
def zEt:=zaz [(.bool false),.snil,.snil] H λt4 H=>zac .eql false t1 (.int .i64 0) λt6=>zag t6 (ACalls tP zdv [(.int .i64 0)] H λt7 H=>zan 3 t4 t7 H λH=>zae true 3 t4 H λr0=>K r0 H) (zac .lss false t0 (.int .i64 0) λt9=>zac .lss false t1 (.int .i64 0) λt11=>zac .neq true t9 t11 λt12=>ACalls tP zh9 [t0] H λt14 H=>ACalls tP zh9 [t1] H λt16 H=>zaq [(.bool false),.snil,.snil] [(0,1),(1,1),(2,1)] [(0,t12),(1,t14),(2,t16)] λt17=>ACalls tP zfh [t17] H λt18 H=>zan 3 t4 t18 H λH=>zae true 3 t4 H λr0=>K r0 H)
def znR:Nat→List Bool|3=>rl false [0,1,3,1,3,2,22]|_=>[]
noncomputable def zvb:=Tryz.f223.body.getD .skip
noncomputable def zT3:=Tryz.f223.results.toList
def znS:=t0::ux 3 (t4::ux 3 (t8::t9::ux 22 []))
def zT1:=znR 3
noncomputable def zTZ:=zar [1,1,0,1,0,0] zvb
def zTY:=zas tP znR [1,1,0,1,0] zvb (zaB tP zT3 K)
def zEx:=ALoop tP zTZ (zTY K) (znS t0 t4 t8 t9) H
def zva:=zac .lss false t9 t8 λt10=>zag t10 (zah 1 t0 λt14=>zac .sub false t14 (.int .i64 1) λt15=>zac .sub false t15 t9 λt17=>zak 1 t0 t17 λt18=>zae false 1 t18 H λt19=>za8 .u64 t19 λt20=>zac .sub false (.int .u64 18446744073709551615) t20 λt23=>zac .quo false t23 (.int .u64 1000000000) λt24=>zac .gtr false t4 t24 λt25=>zag t25 (zaF [(.int .u64 0),(.bool false)] (K · H)) (zac .mul false t4 (.int .u64 1000000000) λt27=>zac .add false t27 t20 λt29=>zac .add false t9 (.int .i64 1) λt30=>Kb3 (znS t0 t29 t8 t30) H)) (zaF [t4,(.bool true)] (K · H))
def zEw:=zah 1 t0 λt8=>zEx t0 (.int .u64 0) t8 (.int .i64 0) H K
def znT:Nat→List Bool|4=>rl false [0,2,4,3,32]|_=>[]
noncomputable def zvd:=Tryz.f224.body.getD .skip
noncomputable def zT9:=Tryz.f224.results.toList
def znU:=t0::t1::ux 4 (t6::t7::t8::ux 32 [])
def zT7:=znT 4
noncomputable def zT5:=zar [1,1,1,0,1,0,0] zvd
def zT4:=zas tP znT [1,1,1,0,1,0] zvd (zaB tP zT9 K)
def zEz:=ALoop tP zT5 (zT4 K) (znU t0 t1 t6 t7 t8) H
def zvc:=zac .geq false t8 (.int .i64 0) λt17=>zag t17 (zac .mul false t7 (.int .u64 1000000000) λt21=>zak 1 t0 t8 λt24=>zae false 1 t24 H λt25=>za8 .u64 t25 λt26=>zac .add false t21 t26 λt27=>zac .quo false t27 t1 λt32=>za8 .u32 t32 λt33=>zak 1 t6 t8 λt34=>zan 1 t34 t33 H λH=>zac .rem false t27 t1 λt37=>zac .sub false t8 (.int .i64 1) λt19=>Kb4 (znU t0 t1 t6 t37 t19) H) (ACalls tP zfP [t6] H λt39 H=>zaF [t39,t7] (K · H))
def zEy:=zah 1 t0 λt11=>zbp 4 [(.int .u32 0)] t11 t11 H λt12 H=>zah 1 t0 λt14=>zac .sub false t14 (.int .i64 1) λt15=>zEz t0 t1 t12 (.int .u64 0) t15 H K
def zYZ(_:Nat):List Bool:=[]
noncomputable def zY0:=Tryz.f80.body.getD .skip
def zGi:=zav t0 H λt1 H=>zae true 3 t1 H λt3=>ACalls tP zeK [t3] H λt4 H=>ACalls tP zrg [t4] H λt5 H=>K t5 H
def znr:Nat→List Bool|3=>rl false [0,1,3,2,2,2,16]|_=>[]
noncomputable def zuH:=Tryz.f175.body.getD .skip
noncomputable def zSc:=Tryz.f175.results.toList
def znt:=t0::ux 3 (t4::t5::ux 2 (t8::t9::ux 16 []))
def zSa:=znr 3
noncomputable def zR8:=zar [1,1,0,1,0,0] zuH
def zR7:=zas tP znr [1,1,0,1,0] zuH (zaB tP zSc K)
def zDY:=ALoop tP zR8 (zR7 K) (znt t0 t4 t5 t8 t9) H
def zns:=zac .lss false t9 t8 λt10=>zag t10 (zac .eql false t0 t9 λt14=>zag t14 (ACalls tP zdv [(.int .i64 0)] H λt15 H=>zan 3 t4 t15 H λH=>zae true 3 t4 H λr0=>K r0 H) (apu H (zaj true 3 t5 H) λt16=>apm H t0 λt17=>apm H t9 λt18=>apu H (zac .sub false t17 t18) λt19=>apm H t9 λt20=>apu H (zac .add false t20 (.int .i64 1)) λt21=>zaC H (λH K'=>ACalls tP zrF [t19,t21] H K') λt22=>zaC H (λH K'=>ACalls tP zfj [t16,t22] H K') λt23=>zan 3 t5 t23 H λH=>zac .add false t9 (.int .i64 1) λt24=>Kb3 (znt t0 t4 t5 t8 t24) H)) (zae true 3 t5 H λt25=>zan 3 t4 t25 H λH=>zae true 3 t4 H λr0=>K r0 H)
def zDX:=zaz [(.bool false),.snil,.snil] H λt4 H=>ACalls tP zdv [(.int .i64 1)] H λt7 H=>zaz [(.bool false),.snil,.snil] H λt5 H=>zan 3 t5 t7 H λH=>zDY t0 t4 t5 t1 (.int .i64 0) H K
variable {t0 t1 t3 t4 t5 t6 t7 t8 t9 t10 t11 t12 t13 t21 t22 t25 t26 t30 t31} {H} {K} {Kb1 Kb2 Kb3 Kb4 Kb5 Kb6}
theorem zXS(h:HSc H→zFS t0 H K):ACalls tP zdv [t0] H K:=
 acb zXQ Tryz.func61 zXR h
theorem zFY(h:HSc H→zwt t0 t1 H K):ACalls tP zfj [t0,t1] H K:=
 acb zYe Tryz.func70 zYf h
theorem zYL(h:HSc H→zF9 t0 t1 H K):ACalls tP zrY [t0,t1] H K:=
 acb zYJ Tryz.func77 zYK h
theorem zNn(h:HSc H→zCh t0 H K):ACalls tP zh9 [t0] H K:=
 acb zNl Tryz.func113 zNm h
theorem zCi(h:HSc H→ztk t0 H K):ACalls tP zfh [t0] H K:=
 acb zNo Tryz.func114 zNp h
theorem zCk(h:HSc H→zto t0 H K):ACalls tP zeK [t0] H K:=
 acb zNA Tryz.func120 zNB h
theorem zNF:Lo2 (λt7 t31=>ziY t0 t1 t5 t6 t7 t25 t26 t30 t31) (λt7 t31 H Kb9=>ztq t0 t1 t5 t6 t7 t25 t26 t30 t31 H K Kb5 Kb9) t7 t31 H (zCn t0 t1 t5 t6 t7 t25 t26 t30 t31 H K Kb5):=lq2 zf9 zNG
theorem zNE:Lo1 (λt26=>zl9 t0 t1 t5 t25 t26) (λt26 H Kb5=>ztp t0 t1 t5 t25 t26 H K Kb5) t26 H (zCm t0 t1 t5 t25 t26 H K):=lq1 zf9 zCo
theorem zNH(h:HSc H→zl8 t0 t1 H K):ACalls tP zdZ [t0,t1] H K:=
 acb zf9 Tryz.func121 ztr h
theorem zN9(h:HSc H→zCx t0 t1 H K):ACalls tP zrc [t0,t1] H K:=
 acb zN7 Tryz.func129 zN8 h
theorem zOu(h:HSc H→ztD t0 H K):ACalls tP zrg [t0] H K:=
 acb zOs Tryz.func132 zOt h
theorem zRX:Lo1 (λt5=>zno t0 t1 t5) (λt5 H Kb6=>zi7 t0 t1 t5 H K Kb6) t5 H (zDU t0 t1 t5 H K):=lq1 znn zRY
theorem zRZ(h:HSc H→znm t0 t1 H K):ACalls tP zkh [t0,t1] H K:=
 acb znn Tryz.func172 zuE h
theorem zPY:Lo2 (λt0 t3=>zmS t0 t3) (λt0 t3 H Kb2=>zt3 t0 t3 H K Kb2) t0 t3 H (zmT t0 t3 H K):=lq2 zmR zPZ
theorem zP0(h:HSc H→zCZ t0 H K):ACalls tP zgO [t0] H K:=
 acb zmR Tryz.func152 zt4 h
theorem zC0(h:HSc H→zmU t0 H K):ACalls tP zkc [t0] H K:=
 acb zP2 Tryz.func153 zP3 h
theorem zQf:Lo3 (λt3 t4 t13=>zmZ t0 t3 t4 t12 t13) (λt3 t4 t13 H Kb4=>zmY t0 t3 t4 t12 t13 H K Kb4) t3 t4 t13 H (zC4 t0 t3 t4 t12 t13 H K):=lq3 zmX zQg
theorem zQh(h:HSc H→zC3 t0 H K):ACalls tP zke [t0] H K:=
 acb zmX Tryz.func157 zt8 h
theorem zQl:Lo1 (λt3=>zm3 t0 t3) (λt3 H Kb2=>zm2 t0 t3 H K Kb2) t3 H (zC6 t0 t3 H K):=lq1 zm1 zQm
theorem zQn(h:HSc H→zC5 t0 H K):ACalls tP zfP [t0] H K:=
 acb zm1 Tryz.func158 zt9 h
theorem zRQ:Lo3 (λt5 t6 t22=>zni t0 t1 t5 t6 t21 t22) (λt5 t6 t22 H Kb6=>zi6 t0 t1 t5 t6 t21 t22 H K Kb6) t5 t6 t22 H (zDT t0 t1 t5 t6 t21 t22 H K):=lq3 znh zRR
theorem zRS(h:HSc H→zuC t0 t1 H K):ACalls tP zrx [t0,t1] H K:=
 acb znh Tryz.func171 zuD h
theorem zSV(h:HSc H→znH t0 H K):ACalls tP zko [t0] H K:=
 acb zST Tryz.func197 zSU h
theorem zSZ:Lo2 (λt5 t7=>znI t5 t7) (λt5 t7 H Kb5=>zuT t5 t7 H K Kb1 Kb5) t5 t7 H (zEe t5 t7 H K Kb1):=lq2 zgh zS0
theorem zSY:Lo2 (λt0 t1=>zuW t0 t1) (λt0 t1 H Kb1=>zuS t0 t1 H K Kb1) t0 t1 H (zEd t0 t1 H K):=lq2 zgh zEf
theorem zS1(h:HSc H→zEb t0 t1 H K):ACalls tP zrA [t0,t1] H K:=
 acb zgh Tryz.func198 zuU h
theorem zS7(h:HSc H→zEg t0 t1 H K):ACalls tP zif [t0,t1] H K:=
 acb zEh Tryz.func199 zuX h
theorem zTT(h:HSc H→zEt t0 t1 H K):ACalls tP zrF [t0,t1] H K:=
 acb zTR Tryz.func216 zTS h
theorem zT0:Lo2 (λt4 t9=>znS t0 t4 t8 t9) (λt4 t9 H Kb3=>zva t0 t4 t8 t9 H K Kb3) t4 t9 H (zEx t0 t4 t8 t9 H K):=lq2 znR zT1
theorem zT2(h:HSc H→zEw t0 H K):ACalls tP zkt [t0] H K:=
 acb znR Tryz.func223 zvb h
theorem zT6:Lo2 (λt7 t8=>znU t0 t1 t6 t7 t8) (λt7 t8 H Kb4=>zvc t0 t1 t6 t7 t8 H K Kb4) t7 t8 H (zEz t0 t1 t6 t7 t8 H K):=lq2 znT zT7
theorem zT8(h:HSc H→zEy t0 t1 H K):ACalls tP zrG [t0,t1] H K:=
 acb znT Tryz.func224 zvd h
theorem zY1(h:HSc H→zGi t0 H K):ACalls tP zkL [t0] H K:=
 acb zYZ Tryz.func80 zY0 h
theorem zR9:Lo1 (λt9=>znt t0 t4 t5 t8 t9) (λt9 H Kb3=>zns t0 t4 t5 t8 t9 H K Kb3) t9 H (zDY t0 t4 t5 t8 t9 H K):=lq1 znr zSa
theorem zSb(h:HSc H→zDX t0 t1 H K):ACalls tP zki [t0,t1] H K:=
 acb znr Tryz.func175 zuH h
end
end Go.Proofs.YtdmamdnkcefmmaaGreatDoor
