import Derived.Shelf.Spec.SlicesGrow
import Derived.Test.YtdmamdnkcefmmaaGreatDoorProg
import Derived.Test.YtdmamdnkcefmmaaGreatDoorKNum
import Derived.KernelRfl
import Derived.Test.YtdmamdnkcefmmaaGreatDoorAbsQ1
import Derived.IntWalk
import Derived.Lib.AppendStr
import Derived.Lib.UnsafeStr
import Derived.Sort.Grow
import Derived.Deep.Draws
set_option linter.unusedSimpArgs false
set_option linter.unusedVariables false
set_option maxRecDepth 8000
namespace Go.Proofs.YtdmamdnkcefmmaaGreatDoor
open Go Go.Shelf Go.Abs
def zH3:Go.Shelf.Ren:=⟨λ| 4=>176 | n=>n,λ| 22=>26 | 25=>28 | n=>n,λ| n=>n⟩
theorem zH2:Go.Proofs.Lays8.n4 tP zH3:={
 mixed:=by kernel_rfl
 f4:=⟨Tryz.f176.name,by decide,Tryz.func176.trans (congrArg some (by kernel_rfl))⟩
 t0:=Tryz.underlying0
 a0:=Tryz.isAgg0
 z0:=Tryz.sizeOf0
 v0:=Tryz.zeroValue0
 t3:=Tryz.underlying3
 a3:=Tryz.isAgg3
 z3:=Tryz.sizeOf3
 v3:=Tryz.zeroValue3
 t4:=Tryz.underlying4
 a4:=Tryz.isAgg4
 z4:=Tryz.sizeOf4
 v4:=Tryz.zeroValue4
 t9:=Tryz.underlying9
 a9:=Tryz.isAgg9
 z9:=Tryz.sizeOf9
 v9:=Tryz.zeroValue9
 t20:=Tryz.underlying20
 a20:=Tryz.isAgg20
 z20:=Tryz.sizeOf20
 v20:=Tryz.zeroValue20
 t22:=Tryz.underlying26
 a22:=Tryz.isAgg26
 z22:=Tryz.sizeOf26
 v22:=Tryz.zeroValue26 }
def zH7:Go.Shelf.Ren:=⟨λ| 4=>141 | n=>n,λ| 22=>31 | 25=>55 | n=>n,λ| n=>n⟩
theorem zH6:Go.Proofs.Lays8.n4 tP zH7:={
 mixed:=by kernel_rfl
 f4:=⟨Tryz.f141.name,by decide,Tryz.func141.trans (congrArg some (by kernel_rfl))⟩
 t0:=Tryz.underlying0
 a0:=Tryz.isAgg0
 z0:=Tryz.sizeOf0
 v0:=Tryz.zeroValue0
 t3:=Tryz.underlying3
 a3:=Tryz.isAgg3
 z3:=Tryz.sizeOf3
 v3:=Tryz.zeroValue3
 t4:=Tryz.underlying4
 a4:=Tryz.isAgg4
 z4:=Tryz.sizeOf4
 v4:=Tryz.zeroValue4
 t9:=Tryz.underlying9
 a9:=Tryz.isAgg9
 z9:=Tryz.sizeOf9
 v9:=Tryz.zeroValue9
 t20:=Tryz.underlying20
 a20:=Tryz.isAgg20
 z20:=Tryz.sizeOf20
 v20:=Tryz.zeroValue20
 t22:=Tryz.underlying31
 a22:=Tryz.isAgg31
 z22:=Tryz.sizeOf31
 v22:=Tryz.zeroValue31 }
end Go.Proofs.YtdmamdnkcefmmaaGreatDoor
namespace Go.Proofs.YtdmamdnkcefmmaaGreatDoor
open Go Go.Abs
set_option maxRecDepth 100000
section
variable (t0 t3 t6 t9 t10 t11 t25 t26 t27:AV) (H:zaa) (K:Kt) (Kb3 Kb11:Lt)
def zfu:Nat→List Bool | 3=>rl false [0,1,2,1,5,3,24] | 11=>rl false [6,1,18,3,8] | _=>[]
noncomputable def zhW:Code:=Tryz.f134.body.getD .skip
noncomputable def zzj:List ResultVar:=Tryz.f134.results.toList
def zkO:List AV:=t0::ux 2 (t3::ux 5 (t9::t10::t11::ux 24 []))
def zKc:List Bool:=zfu 3
noncomputable def zJ8:Code:=zaq [1,1,0,1,0,0] zhW
def zJ6:AExit→List AV→zaa→Prop:=zas tP zfu [1,1,0,1,0] zhW (zay tP zzj K)
def zzi:Prop:=ALoop tP zJ8 (zJ6 K) (zkO t0 t3 t9 t10 t11) H
def zzg (t0 t3 t9 t10 t11:AV) (H:zaa) (K:Kt) (Kb3:Lt):Prop:=zac .add false t11 (.int .i64 1) λt22=>Kb3 (zkO t0 t3 t9 t10 t22) H
def zzf:Prop:=zzg t0 t3 t9 t10 t11 H K Kb3
def zkN:List AV:=ux 6 (t6::ux 18 (t25::t26::t27::ux 8 []))
def zKb:List Bool:=zfu 11
noncomputable def zJ7:Code:=zaq [1,1,1,1,0,1,0,0] zhW
def zJ5:AExit→List AV→zaa→Prop:=zas tP zfu [1,1,1,1,0,1,0] zhW (zay tP zzj K)
def zzh:Prop:=ALoop tP zJ7 (zJ5 K) (zkN t6 t25 t26 t27) H
def zrd:Prop:=zac .lss false t27 t26 λt28=>zag t28 (zai 1 t25 t27 λt29=>zae false 1 t29 H λt30=>zaw za7 2 32 t6 t30 H λt33 H=>zac .add false t27 (.int .i64 1) λt34=>Kb11 (zkN t33 t25 t26 t34) H) (K t6 H)
def zre:Prop:=zac .lss false t11 t10 λt12=>zag t12 (zai 1 t9 t11 λt13=>zae false 1 t13 H λt14=>zah 1 t14 λt17=>zac .add false t3 t17 λt18=>zac .lss false t18 (.int .i64 0) λt20=>zag t20 (False) (zzf t0 t18 t9 t10 t11 H K Kb3)) (ACalls tP zwj [.snil,t3] H λt24 H=>zah 1 t0 λt26=>zzh t24 t0 t26 (.int .i64 0) H K)
def zze:Prop:=zah 1 t0 λt10=>zzi t0 (.int .i64 0) t0 t10 (.int .i64 0) H K
def zfJ:Nat→List Bool | 3=>rl false [0,1,2,1,5,3,24] | 11=>rl false [6,1,18,3,8] | _=>[]
noncomputable def zij:Code:=Tryz.f87.body.getD .skip
noncomputable def zCC:List ResultVar:=Tryz.f87.results.toList
def znq:List AV:=t0::ux 2 (t3::ux 5 (t9::t10::t11::ux 24 []))
def zTO:List Bool:=zfJ 3
noncomputable def zTK:Code:=zaq [1,1,0,1,0,0] zij
def zTI:AExit→List AV→zaa→Prop:=zas tP zfJ [1,1,0,1,0] zij (zay tP zCC K)
def zCB:Prop:=ALoop tP zTK (zTI K) (znq t0 t3 t9 t10 t11) H
def zCz (t0 t3 t9 t10 t11:AV) (H:zaa) (K:Kt) (Kb3:Lt):Prop:=zac .add false t11 (.int .i64 1) λt22=>Kb3 (znq t0 t3 t9 t10 t22) H
def zCy:Prop:=zCz t0 t3 t9 t10 t11 H K Kb3
def znp:List AV:=ux 6 (t6::ux 18 (t25::t26::t27::ux 8 []))
def zTN:List Bool:=zfJ 11
noncomputable def zTJ:Code:=zaq [1,1,1,1,0,1,0,0] zij
def zTH:AExit→List AV→zaa→Prop:=zas tP zfJ [1,1,1,1,0,1,0] zij (zay tP zCC K)
def zCA:Prop:=ALoop tP zTJ (zTH K) (znp t6 t25 t26 t27) H
def ztV:Prop:=zac .lss false t27 t26 λt28=>zag t28 (zai 1 t25 t27 λt29=>zae false 1 t29 H λt30=>zaw zaB 5 88 t6 t30 H λt33 H=>zac .add false t27 (.int .i64 1) λt34=>Kb11 (znp t33 t25 t26 t34) H) (K t6 H)
def ztW:Prop:=zac .lss false t11 t10 λt12=>zag t12 (zai 1 t9 t11 λt13=>zae false 1 t13 H λt14=>zah 1 t14 λt17=>zac .add false t3 t17 λt18=>zac .lss false t18 (.int .i64 0) λt20=>zag t20 (False) (zCy t0 t18 t9 t10 t11 H K Kb3)) (ACalls tP zwg [.snil,t3] H λt24 H=>zah 1 t0 λt26=>zCA t24 t0 t26 (.int .i64 0) H K)
def zCx:Prop:=zah 1 t0 λt10=>zCB t0 (.int .i64 0) t0 t10 (.int .i64 0) H K
variable {t0 t3 t6 t9 t10 t11 t25 t26 t27} {H} {K} {Kb3 Kb11}
theorem zJ9 (Inv:Nat→AV→AV→zaa→Prop) (n:Nat) (h0:HSc H→Inv n t6 t27 H)
  (ac:Rd2 (λt6=>λt27=>zkN t6 t25 t26 t27) (λt6=>λt27=>λH Kb11=>zrd t6 t25 t26 t27 H K Kb11) H Inv):zzh t6 t25 t26 t27 H K:=
 lp2 (M:=zfu) zKb t6 t27 (by kernel_rfl) Inv n h0 ac
theorem zKa (Inv:Nat→AV→AV→zaa→Prop) (n:Nat) (h0:HSc H→Inv n t3 t11 H)
  (ac:Rd2 (λt3=>λt11=>zkO t0 t3 t9 t10 t11) (λt3=>λt11=>λH Kb3=>zre t0 t3 t9 t10 t11 H K Kb3) H Inv):zzi t0 t3 t9 t10 t11 H K:=
 lp2 (M:=zfu) zKc t3 t11 (by kernel_rfl) Inv n h0 ac
theorem zKd (h:HSc H→zze t0 H K):ACalls tP zoS [t0] H K:=
 acb zfu Tryz.func134 zhW (by kernel_rfl) (by kernel_rfl) h
theorem zTL (Inv:Nat→AV→AV→zaa→Prop) (n:Nat) (h0:HSc H→Inv n t6 t27 H)
  (ac:Rd2 (λt6=>λt27=>znp t6 t25 t26 t27) (λt6=>λt27=>λH Kb11=>ztV t6 t25 t26 t27 H K Kb11) H Inv):zCA t6 t25 t26 t27 H K:=
 lp2 (M:=zfJ) zTN t6 t27 (by kernel_rfl) Inv n h0 ac
theorem zTM (Inv:Nat→AV→AV→zaa→Prop) (n:Nat) (h0:HSc H→Inv n t3 t11 H)
  (ac:Rd2 (λt3=>λt11=>znq t0 t3 t9 t10 t11) (λt3=>λt11=>λH Kb3=>ztW t0 t3 t9 t10 t11 H K Kb3) H Inv):zCB t0 t3 t9 t10 t11 H K:=
 lp2 (M:=zfJ) zTO t3 t11 (by kernel_rfl) Inv n h0 ac
theorem zTP (h:HSc H→zCx t0 H K):ACalls tP zpA [t0] H K:=
 acb zfJ Tryz.func87 zij (by kernel_rfl) (by kernel_rfl) h
end
section
variable (t0 t1 t2 t3 t4 t5 t6 t7 t8 t9 t10 t11 t12 t15 t16 t17 t18 t19 t20 t23 t24 t25 t57 t58 t59:AV) (H:zaa) (K:Kt) (Kb1 Kb3 Kb4 Kb5 Kb14:Lt)
def zQ0 (_:Nat):List Bool:=[]
noncomputable def zQ1:Code:=Tryz.f41.body.getD .skip
def zBF:Prop:=zav t1 H λt3 H=>zae true 3 t3 H λt6=>zdM H λt7 H=>zar [.snil,(.int .i64 0),(.int .i64 0),.snil,.unk,.snil] [(0,1),(1,3),(4,1),(5,1)] [(0,t0),(1,t6),(2,t7)] λt8=>zav t8 H λt9 H=>K t9 H
def zmD:Nat→List Bool | 1=>rl false [0,1,8,3,55] | 400007=>rl false [0,1] | _=>[]
noncomputable def ztd:Code:=Tryz.f42.body.getD .skip
noncomputable def zQ8:List ResultVar:=Tryz.f42.results.toList
def zia:List AV:=t0::ux 8 (t9::t10::t11::ux 55 [])
def zQ6:List Bool:=zmD 1
noncomputable def zQ4:Code:=zaq [1,0,0] ztd
def zQ3:AExit→List AV→zaa→Prop:=zas tP zmD [1,0] ztd (zay tP zQ8 K)
def zBH:Prop:=ALoop tP zQ4 (zQ3 K) (zia t0 t9 t10 t11) H
def zte (t0 t9 t10 t11:AV) (H:zaa) (K:Kt) (Kb1:Lt):Prop:=zac .add false t11 (.int .i64 1) λt66=>Kb1 (zia t0 t9 t10 t66) H
def zmE:Prop:=zte t0 t9 t10 t11 H K Kb1
def ztc:Prop:=zac .lss false t11 t10 λt12=>zag t12 (zai 5 t9 t11 λt13=>zae true 5 t13 H λt14=>zax [(.int .i64 0),.snil,(.bool false),.snil,.snil] H λt5 H=>zan 5 t5 t14 H λH=>znN 112 [.nilp,.snil] H λt6 H=>zaf 0 t5 λt15=>zae true 2 t15 H λt16=>ACalls tP zjn [t6,t16] H λt17 H=>zab H (λK'=>K' t0 H) λt19=>zab H (λK'=>za5 t19 (K' · H)) λt20=>zab H (λK'=>zaf 4 t20 (K' · H)) λt21=>zab H (λK'=>zak false 1 t21 H (K' · H)) λt22=>zaE H (λH K'=>ACalls tP zhq [t6] H K') λt23=>zab H (λK'=>zdw (.int .i64 0) true t22 t23 H (K' · H)) λt24=>zab H (λK'=>K' t24 H) λt18=>zab H (λK'=>zaz t18 0 (K' · H)) λt25=>zab H (λK'=>zaz t18 1 (K' · H)) λt26=>zab H (λK'=>K' t25 H) λt7=>zab H (λK'=>K' t26 H) λt8=>zag t8 (zab H (λK'=>K' t0 H) λt28=>zab H (λK'=>za5 t28 (K' · H)) λt29=>zab H (λK'=>zaf 5 t29 (K' · H)) λt30=>zab H (λK'=>zae false 1 t30 H (K' · H)) λt31=>zab H (λK'=>K' t7 H) λt32=>zab H (λK'=>K' t0 H) λt33=>zab H (λK'=>za5 t33 (K' · H)) λt34=>zab H (λK'=>zaf 5 t34 (K' · H)) λt35=>zab H (λK'=>zae false 1 t35 H (K' · H)) λt36=>zab H (λK'=>K' t7 H) λt37=>zab H (λK'=>zai 5 t36 t37 (K' · H)) λt38=>zab H (λK'=>zaf 2 t38 (K' · H)) λt39=>zab H (λK'=>zae true 3 t39 H (K' · H)) λt40=>zab H (λK'=>zaf 2 t5 (K' · H)) λt41=>zab H (λK'=>zae true 3 t41 H (K' · H)) λt42=>zaE H (λH K'=>ACalls tP zpw [t40,t42] H K') λt43=>zab H (λK'=>zai 5 t31 t32 (K' · H)) λt44=>zab H (λK'=>zaf 2 t44 (K' · H)) λt45=>zan 3 t45 t43 H λH=>zmE t0 t9 t10 t11 H K Kb1) (zab H (λK'=>K' t0 H) λt46=>zab H (λK'=>za5 t46 (K' · H)) λt47=>zab H (λK'=>zaf 4 t47 (K' · H)) λt48=>zab H (λK'=>zak false 1 t48 H (K' · H)) λt49=>zaE H (λH K'=>ACalls tP zhq [t6] H K') λt50=>zab H (λK'=>K' t0 H) λt51=>zab H (λK'=>za5 t51 (K' · H)) λt52=>zab H (λK'=>zaf 5 t52 (K' · H)) λt53=>zab H (λK'=>zak false 1 t53 H (K' · H)) λt54=>zab H (λK'=>zah 1 t54 (K' · H)) λt55=>zcM t49 t50 t55 H λH=>zab H (λK'=>K' t0 H) λt56=>zab H (λK'=>K' t0 H) λt57=>zab H (λK'=>za5 t57 (K' · H)) λt58=>zab H (λK'=>zaf 5 t58 (K' · H)) λt59=>zab H (λK'=>zak false 1 t59 H (K' · H)) λt60=>zab H (λK'=>zak true 5 t5 H (K' · H)) λt61=>zab H (λK'=>zau 5 [(.int .i64 0),.snil,(.bool false),.snil,.snil] 1 [(0,t61)] (K' · H)) λt62=>zaw zaB 5 88 t60 t62 H λt63 H=>zab H (λK'=>za5 t56 (K' · H)) λt64=>zab H (λK'=>zaf 5 t64 (K' · H)) λt65=>zan 1 t65 t63 H λH=>zmE t0 t9 t10 t11 H K Kb1)) (zaD [] (K · H))
def zBG:Prop:=zah 1 t1 λt10=>zBH t0 t1 t10 (.int .i64 0) H K
def zfH:Nat→List Bool | 4=>rl false [0,1,3,2,9,3,50] | 14=>rl false [4,1,52,3,8] | _=>[]
noncomputable def zid:Code:=Tryz.f44.body.getD .skip
noncomputable def zBL:List ResultVar:=Tryz.f44.results.toList
def zmO:List AV:=t0::ux 3 (t4::t5::ux 9 (t15::t16::t17::ux 50 []))
def zRt:List Bool:=zfH 4
noncomputable def zRp:Code:=zaq [1,1,1,0,1,0,0] zid
def zRn:AExit→List AV→zaa→Prop:=zas tP zfH [1,1,1,0,1,0] zid (zay tP zBL K)
def zmP:Prop:=ALoop tP zRp (zRn K) (zmO t0 t4 t5 t15 t16 t17) H
def zBJ (t0 t4 t5 t15 t16 t17:AV) (H:zaa) (K:Kt) (Kb4:Lt):Prop:=zac .add false t17 (.int .i64 1) λt54=>Kb4 (zmO t0 t4 t5 t15 t16 t54) H
def ztl:Prop:=zBJ t0 t4 t5 t15 t16 t17 H K Kb4
def zmN:List AV:=ux 4 (t4::ux 52 (t57::t58::t59::ux 8 []))
def zRs:List Bool:=zfH 14
noncomputable def zRo:Code:=zaq [1,1,1,1,1,0,1,0,0] zid
def zRm:AExit→List AV→zaa→Prop:=zas tP zfH [1,1,1,1,1,0,1,0] zid (zay tP zBL K)
def zBK:Prop:=ALoop tP zRo (zRm K) (zmN t4 t57 t58 t59) H
def ztk:Prop:=zac .lss false t59 t58 λt60=>zag t60 (zai 1 t57 t59 λt61=>zae false 1 t61 H λt62=>ACalls tP zwm [t62,(.fn zjr [])] H λt64 H=>zac .add false t59 (.int .i64 1) λt65=>Kb14 (zmN t4 t57 t58 t65) H) (ACalls tP zpA [t4] H λt67 H=>zaD [t67,(.int .i64 0)] (K · H))
def zmM:Prop:=zac .lss false t17 t16 λt18=>zag t18 (zai 5 t15 t17 λt19=>zae true 5 t19 H λt20=>zax [(.int .i64 0),.snil,(.bool false),.snil,.snil] H λt7 H=>zan 5 t7 t20 H λH=>zaf 2 t7 λt21=>zae true 3 t21 H λt22=>ACalls tP zjp [t22] H λt23 H=>zac .neq false t23 (.int .i64 0) λt24=>zag t24 (zab H (λK'=>K' t0 H) λt25=>zab H (λK'=>za5 t25 (K' · H)) λt26=>zab H (λK'=>zaf 0 t26 (K' · H)) λt27=>zab H (λK'=>zak false 1 t27 H (K' · H)) λt28=>zab H (λK'=>K' t0 H) λt29=>zab H (λK'=>za5 t29 (K' · H)) λt30=>zab H (λK'=>zaf 1 t30 (K' · H)) λt31=>zab H (λK'=>zak true 3 t31 H (K' · H)) λt32=>zab H (λK'=>zaf 0 t7 (K' · H)) λt33=>zab H (λK'=>zak true 2 t33 H (K' · H)) λt34=>zaE H (λH K'=>ACalls tP zf4 [t28,t32,t34] H K') λt35=>zab H (λK'=>K' t35 H) λt8=>zab H (λK'=>K' t4 H) λt36=>zab H (λK'=>K' t8 H) λt37=>zab H (λK'=>K' t4 H) λt38=>zab H (λK'=>K' t8 H) λt39=>zab H (λK'=>zai 1 t38 t39 (K' · H)) λt40=>zab H (λK'=>zak false 1 t40 H (K' · H)) λt41=>zab H (λK'=>zaf 0 t7 (K' · H)) λt42=>zab H (λK'=>zak true 2 t42 H (K' · H)) λt43=>zaE H (λH K'=>ACalls tP zjq [t43] H K') λt44=>zab H (λK'=>zaf 2 t7 (K' · H)) λt45=>zab H (λK'=>zak true 3 t45 H (K' · H)) λt46=>zaE H (λH K'=>ACalls tP zpz [t46] H K') λt47=>zab H (λK'=>zar [(.int .i64 0),.snil,(.bool false),.snil,.snil] [(0,2),(2,3)] [(0,t44),(1,t47)] (K' · H)) λt48=>zab H (λK'=>zau 5 [(.int .i64 0),.snil,(.bool false),.snil,.snil] 1 [(0,t48)] (K' · H)) λt49=>zaw zaB 5 88 t41 t49 H λt50 H=>zab H (λK'=>zai 1 t36 t37 (K' · H)) λt51=>zan 1 t51 t50 H λH=>zac .add false t5 (.int .i64 1) λt53=>ztl t0 t4 t53 t15 t16 t17 H K Kb4) (ztl t0 t4 t5 t15 t16 t17 H K Kb4)) (zac .gtr false t5 (.int .i64 1000) λt56=>zag t56 (zaD [.snil,(.int .i64 9)] (K · H)) (zah 1 t4 λt58=>zBK t4 t4 t58 (.int .i64 0) H K))
def zBI:Prop:=zbp 24 [.snil] (.int .i64 7) (.int .i64 7) H λt11 H=>za5 t0 λt13=>zaf 5 t13 λt14=>zae false 1 t14 H λt15=>zah 1 t15 λt16=>zmP t0 t11 (.int .i64 0) t15 t16 (.int .i64 0) H K
def zne:Nat→List Bool | 5=>rl false [0,1,17,3,11] | _=>[]
noncomputable def ztK:Code:=Tryz.f75.body.getD .skip
noncomputable def zSZ:List ResultVar:=Tryz.f75.results.toList
def znf:List AV:=t0::ux 17 (t18::t19::t20::ux 11 [])
def zSX:List Bool:=zne 5
noncomputable def zSV:Code:=zaq [1,1,1,0,1,0,1,0,0] ztK
def zSU:AExit→List AV→zaa→Prop:=zas tP zne [1,1,1,0,1,0,1,0] ztK (zay tP zSZ K)
def zCg:Prop:=ALoop tP zSV (zSU K) (znf t0 t18 t19 t20) H
def ztJ:Prop:=zac .lss false t20 t19 λt21=>zag t21 (zai 2 t18 t20 λt22=>zae true 2 t22 H λt23=>zax [(.int .i64 0),.snil] H λt5 H=>zan 2 t5 t23 H λH=>zae true 2 t5 H λt25=>ACalls tP zjn [t0,t25] H λt26 H=>ACalls tP zfZ [t0,(.int .u8 44)] H λt28 H=>zac .add false t20 (.int .i64 1) λt29=>Kb5 (znf t0 t18 t19 t29) H) (ACalls tP zfZ [t0,(.int .u8 41)] H λt31 H=>zaD [] (K · H))
def zCf:Prop:=zav t1 H λt3 H=>zaf 0 t3 λt7=>zae false 1 t7 H λt8=>ACalls tP zoM [t8] H λt9 H=>ACalls tP ziP [t0,t9] H λt10 H=>zaf 1 t3 λt11=>zae false 1 t11 H λt12=>zah 1 t12 λt13=>zac .gtr false t13 (.int .i64 0) λt14=>zag t14 (ACalls tP zfZ [t0,(.int .u8 40)] H λt16 H=>zaf 1 t3 λt17=>zae false 1 t17 H λt18=>zah 1 t18 λt19=>zCg t0 t18 t19 (.int .i64 0) H K) (zaD [] (K · H))
def znm:Nat→List Bool | 3=>rl false [2,2,6,3,12] | _=>[]
noncomputable def ztU:Code:=Tryz.f82.body.getD .skip
noncomputable def zTv:List ResultVar:=Tryz.f82.results.toList
def znn:List AV:=ux 2 (t2::t3::ux 6 (t10::t11::t12::ux 12 []))
def zTt:List Bool:=znm 3
noncomputable def zTr:Code:=zaq [1,1,0,1,0,0] ztU
def zTq:AExit→List AV→zaa→Prop:=zas tP znm [1,1,0,1,0] ztU (zay tP zTv K)
def zno:Prop:=ALoop tP zTr (zTq K) (znn t2 t3 t10 t11 t12) H
def ztT:Prop:=zac .lss false t12 t11 λt13=>zag t13 (zai 2 t10 t12 λt14=>zae true 2 t14 H λt15=>zax [(.int .i64 0),.snil] H λt5 H=>zan 2 t5 t15 H λH=>zab H (λK'=>zaf 1 t3 (K' · H)) λt16=>zab H (λK'=>zak false 1 t16 H (K' · H)) λt17=>zab H (λK'=>zak true 2 t5 H (K' · H)) λt18=>zaE H (λH K'=>ACalls tP zjq [t18] H K') λt19=>zab H (λK'=>zau 2 [(.int .i64 0),.snil] 1 [(0,t19)] (K' · H)) λt20=>zaw za7 2 32 t17 t20 H λt21 H=>zab H (λK'=>zaf 1 t3 (K' · H)) λt22=>zan 1 t22 t21 H λH=>zac .add false t12 (.int .i64 1) λt23=>Kb3 (znn t2 t3 t10 t11 t23) H) (zae true 2 t3 H λt24=>zan 2 t2 t24 H λH=>zae true 2 t2 H λr0=>K r0 H)
def zCt:Prop:=zav t0 H λt1 H=>zax [(.int .i64 0),.snil] H λt2 H=>zaf 0 t1 λt6=>zae false 1 t6 H λt7=>zar [(.int .i64 0),.snil] [(0,1),(1,1)] [(0,t7)] λt8=>zax [(.int .i64 0),.snil] H λt3 H=>zan 2 t3 t8 H λH=>zaf 1 t1 λt9=>zae false 1 t9 H λt10=>zah 1 t10 λt11=>zno t2 t3 t10 t11 (.int .i64 0) H K
def zTx (_:Nat):List Bool:=[]
noncomputable def zTy:Code:=Tryz.f83.body.getD .skip
def zCu:Prop:=zav t0 H λt1 H=>zax [(.bool false),.snil,.snil] H λt2 H=>zae true 3 t1 H λt3=>ACalls tP zed [t3] H λt4 H=>ACalls tP zeG [t4] H λt5 H=>zan 3 t2 t5 H λH=>zae true 3 t2 H λr0=>K r0 H
def zTB (_:Nat):List Bool:=[]
noncomputable def zTC:Code:=Tryz.f85.body.getD .skip
def zCv:Prop:=zav t0 H λt2 H=>zav t1 H λt3 H=>zaf 0 t2 λt5=>zae true 2 t5 H λt6=>zaf 0 t3 λt7=>zae true 2 t7 H λt8=>ACalls tP zf7 [t6,t8] H λt9 H=>K t9 H
def zTd (_:Nat):List Bool:=[]
noncomputable def zTe:Code:=Tryz.f79.body.getD .skip
def zCp:Prop:=zac .lss false t0 (.int .i64 0) λt7=>zad t7 false H (λK'=>K' t0 H) λt9 H=>zad t7 false H (λK'=>zac .gtr false t9 (.int .i64 16) (K' · H)) λt10 H=>zaj t7 (.bool true) t10 λt11=>zad t11 false H (λK'=>K' t1 H) λt13 H=>zad t11 false H (λK'=>zac .lss false t13 (.int .i64 0) (K' · H)) λt14 H=>zaj t11 (.bool true) t14 λt15=>zad t15 false H (λK'=>K' t1 H) λt17 H=>zad t15 false H (λK'=>zac .gtr false t17 (.int .i64 16) (K' · H)) λt18 H=>zaj t15 (.bool true) t18 λt19=>zag t19 (zaD [.snil,(.bool false)] (K · H)) (ACalls tP zoP [t0,t1] H λt22 H=>zaD [t22,(.bool true)] (K · H))
def zkH:Nat→List Bool | 3=>rl false [0,2,3,2,28] | _=>[]
noncomputable def zq4:Code:=Tryz.f131.body.getD .skip
noncomputable def zJO:List ResultVar:=Tryz.f131.results.toList
def zkI:List AV:=t0::t1::ux 3 (t5::t6::ux 28 [])
def zJM:List Bool:=zkH 3
noncomputable def zJK:Code:=zaq [1,1,0,1,0,0] zq4
def zJJ:AExit→List AV→zaa→Prop:=zas tP zkH [1,1,0,1,0] zq4 (zay tP zJO K)
def zy8:Prop:=ALoop tP zJK (zJJ K) (zkI t0 t1 t5 t6) H
def zq3:Prop:=zac .add false t0 t1 λt18=>zac .leq false t6 t18 λt19=>zag t19 (ACalls tP ziY [t6,t0] H λt26 H=>zac .sub false t6 t1 λt30=>ACalls tP ziY [t0,t30] H λt31 H=>ACalls tP zeI [t26,t31] H λt32 H=>zai 3 t5 t6 λt33=>zan 3 t33 t32 H λH=>zac .add false t6 (.int .i64 1) λt21=>Kb3 (zkI t0 t1 t5 t21) H) (K t5 H)
def zy7:Prop:=zac .add false t0 t1 λt9=>zac .add false t9 (.int .i64 1) λt10=>ACalls tP zo7 [t10] H λt11 H=>zfN t0 t1 λt14=>zy8 t0 t1 t11 t14 H K
def zlL:Nat→List Bool | 3=>rl false [3,1,4,2,8] | _=>[]
noncomputable def zr8:Code:=Tryz.f174.body.getD .skip
noncomputable def zNe:List ResultVar:=Tryz.f174.results.toList
def zlM:List AV:=ux 3 (t3::ux 4 (t8::t9::ux 8 []))
def zNc:List Bool:=zlL 3
noncomputable def zNa:Code:=zaq [1,1,0,1,0,0] zr8
def zM9:AExit→List AV→zaa→Prop:=zas tP zlL [1,1,0,1,0] zr8 (zay tP zNe K)
def zAr:Prop:=ALoop tP zNa (zM9 K) (zlM t3 t8 t9) H
def zr7:Prop:=zac .lss false t9 t8 λt10=>zag t10 (ACalls tP zc6 [(.int .i64 0)] H λt14 H=>zai 3 t3 t9 λt15=>zan 3 t15 t14 H λH=>zac .add false t9 (.int .i64 1) λt16=>Kb3 (zlM t3 t8 t16) H) (K t3 H)
def zAq:Prop:=zbp 56 [(.bool false),.snil,.snil] t0 t0 H λt6 H=>zah 1 t6 λt8=>zAr t6 t8 (.int .i64 0) H K
def zkP:Nat→List Bool | 4=>rl false [7,1,1,1,13,3,15] | _=>[]
noncomputable def zrf:Code:=Tryz.f135.body.getD .skip
noncomputable def zKj:List ResultVar:=Tryz.f135.results.toList
def zkR:List AV:=ux 7 (t7::ux 1 (t9::ux 13 (t23::t24::t25::ux 15 [])))
def zKh:List Bool:=zkP 4
noncomputable def zKf:Code:=zaq [1,1,1,0,1,0,0] zrf
def zKe:AExit→List AV→zaa→Prop:=zas tP zkP [1,1,1,0,1,0] zrf (zay tP zKj K)
def zkT:Prop:=ALoop tP zKf (zKe K) (zkR t7 t9 t23 t24 t25) H
def zzl (t7 t9 t23 t24 t25:AV) (H:zaa) (K:Kt) (Kb4:Lt):Prop:=zac .add false t25 (.int .i64 1) λt39=>Kb4 (zkR t7 t9 t23 t24 t39) H
def zkS:Prop:=zzl t7 t9 t23 t24 t25 H K Kb4
def zkQ:Prop:=zac .lss false t25 t24 λt26=>zag t26 (zai 1 t23 t25 λt28=>zae false 1 t28 H λt29=>aUn .not t29 λt31=>zag t31 (zai 3 t7 t25 λt35=>zae true 3 t35 H λt36=>zau 3 [(.int .i64 0),(.int .i64 0),.snil] 1 [(0,t36)] λt37=>zaw zaZ 3 40 t9 t37 H λt38 H=>zkS t7 t38 t23 t24 t25 H K Kb4) (zkS t7 t9 t23 t24 t25 H K Kb4)) (K t9 H)
def zzk:Prop:=zav t1 H λt4 H=>zae true 3 t4 H λt14=>ACalls tP ziW [t0,t14,t2] H λt16 H=>zaz t16 0 λt17=>zaz t16 1 λt18=>zaf 1 t4 λt20=>zae false 1 t20 H λt21=>ACalls tP zfd [t0,t21,t2] H λt23 H=>zah 1 t23 λt24=>zkT t17 .snil t23 t24 (.int .i64 0) H K
variable {t0 t1 t2 t3 t4 t5 t6 t7 t8 t9 t10 t11 t12 t15 t16 t17 t18 t19 t20 t23 t24 t25 t57 t58 t59} {H} {K} {Kb1 Kb3 Kb4 Kb5 Kb14}
theorem zQ2 (h:HSc H→zBF t0 t1 H K):ACalls tP zhl [t0,t1] H K:=
 acb zQ0 Tryz.func41 zQ1 (by kernel_rfl) (by kernel_rfl) h
theorem zQ5 (Inv:Nat→AV→zaa→Prop) (n:Nat) (h0:HSc H→Inv n t11 H)
  (ac:Rd1 (λt11=>zia t0 t9 t10 t11) (λt11=>λH Kb1=>ztc t0 t9 t10 t11 H K Kb1) H Inv):zBH t0 t9 t10 t11 H K:=
 lp1 (M:=zmD) zQ6 t11 (by kernel_rfl) Inv n h0 ac
theorem zQ7 (h:HSc H→zBG t0 t1 H K):ACalls tP zhm [t0,t1] H K:=
 acb zmD Tryz.func42 ztd (by kernel_rfl) (by kernel_rfl) h
theorem zRq (Inv:Nat→AV→zaa→Prop) (n:Nat) (h0:HSc H→Inv n t59 H)
  (ac:Rd1 (λt59=>zmN t4 t57 t58 t59) (λt59=>λH Kb14=>ztk t4 t57 t58 t59 H K Kb14) H Inv):zBK t4 t57 t58 t59 H K:=
 lp1 (M:=zfH) zRs t59 (by kernel_rfl) Inv n h0 ac
theorem zRr (Inv:Nat→AV→AV→zaa→Prop) (n:Nat) (h0:HSc H→Inv n t5 t17 H)
  (ac:Rd2 (λt5=>λt17=>zmO t0 t4 t5 t15 t16 t17) (λt5=>λt17=>λH Kb4=>zmM t0 t4 t5 t15 t16 t17 H K Kb4) H Inv):zmP t0 t4 t5 t15 t16 t17 H K:=
 lp2 (M:=zfH) zRt t5 t17 (by kernel_rfl) Inv n h0 ac
theorem zRu (h:HSc H→zBI t0 H K):ACalls tP zjg [t0] H K:=
 acb zfH Tryz.func44 zid (by kernel_rfl) (by kernel_rfl) h
theorem zSW (Inv:Nat→AV→zaa→Prop) (n:Nat) (h0:HSc H→Inv n t20 H)
  (ac:Rd1 (λt20=>znf t0 t18 t19 t20) (λt20=>λH Kb5=>ztJ t0 t18 t19 t20 H K Kb5) H Inv):zCg t0 t18 t19 t20 H K:=
 lp1 (M:=zne) zSX t20 (by kernel_rfl) Inv n h0 ac
theorem zSY (h:HSc H→zCf t0 t1 H K):ACalls tP zjn [t0,t1] H K:=
 acb zne Tryz.func75 ztK (by kernel_rfl) (by kernel_rfl) h
theorem zTs (Inv:Nat→AV→zaa→Prop) (n:Nat) (h0:HSc H→Inv n t12 H)
  (ac:Rd1 (λt12=>znn t2 t3 t10 t11 t12) (λt12=>λH Kb3=>ztT t2 t3 t10 t11 t12 H K Kb3) H Inv):zno t2 t3 t10 t11 t12 H K:=
 lp1 (M:=znm) zTt t12 (by kernel_rfl) Inv n h0 ac
theorem zTu (h:HSc H→zCt t0 H K):ACalls tP zjq [t0] H K:=
 acb znm Tryz.func82 ztU (by kernel_rfl) (by kernel_rfl) h
theorem zTz (h:HSc H→zCu t0 H K):ACalls tP zpz [t0] H K:=
 acb zTx Tryz.func83 zTy (by kernel_rfl) (by kernel_rfl) h
theorem zTD (h:HSc H→zCv t0 t1 H K):ACalls tP zjr [t0,t1] H K:=
 acb zTB Tryz.func85 zTC (by kernel_rfl) (by kernel_rfl) h
theorem zTf (h:HSc H→zCp t0 t1 H K):ACalls tP zpx [t0,t1] H K:=
 acb zTd Tryz.func79 zTe (by kernel_rfl) (by kernel_rfl) h
theorem zJL (Inv:Nat→AV→zaa→Prop) (n:Nat) (h0:HSc H→Inv n t6 H)
  (ac:Rd1 (λt6=>zkI t0 t1 t5 t6) (λt6=>λH Kb3=>zq3 t0 t1 t5 t6 H K Kb3) H Inv):zy8 t0 t1 t5 t6 H K:=
 lp1 (M:=zkH) zJM t6 (by kernel_rfl) Inv n h0 ac
theorem zJN (h:HSc H→zy7 t0 t1 H K):ACalls tP zoP [t0,t1] H K:=
 acb zkH Tryz.func131 zq4 (by kernel_rfl) (by kernel_rfl) h
theorem zNb (Inv:Nat→AV→zaa→Prop) (n:Nat) (h0:HSc H→Inv n t9 H)
  (ac:Rd1 (λt9=>zlM t3 t8 t9) (λt9=>λH Kb3=>zr7 t3 t8 t9 H K Kb3) H Inv):zAr t3 t8 t9 H K:=
 lp1 (M:=zlL) zNc t9 (by kernel_rfl) Inv n h0 ac
theorem zNd (h:HSc H→zAq t0 H K):ACalls tP zo7 [t0] H K:=
 acb zlL Tryz.func174 zr8 (by kernel_rfl) (by kernel_rfl) h
theorem zKg (Inv:Nat→AV→AV→zaa→Prop) (n:Nat) (h0:HSc H→Inv n t9 t25 H)
  (ac:Rd2 (λt9=>λt25=>zkR t7 t9 t23 t24 t25) (λt9=>λt25=>λH Kb4=>zkQ t7 t9 t23 t24 t25 H K Kb4) H Inv):zkT t7 t9 t23 t24 t25 H K:=
 lp2 (M:=zkP) zKh t9 t25 (by kernel_rfl) Inv n h0 ac
theorem zKi (h:HSc H→zzk t0 t1 t2 H K):ACalls tP zoT [t0,t1,t2] H K:=
 acb zkP Tryz.func135 zrf (by kernel_rfl) (by kernel_rfl) h
end
section
variable (t0 t1 t3 t4 t5 t6 t7 t8 t9 t10 t11 t12 t13 t21 t22 t25 t26 t30 t31:AV) (H:zaa) (K:Kt) (Kb1 Kb2 Kb3 Kb4 Kb5 Kb6:Lt)
def zSc (_:Nat):List Bool:=[]
noncomputable def zSd:Code:=Tryz.f61.body.getD .skip
def zB2:Prop:=zax [(.bool false),.snil,.snil] H λt2 H=>zac .lss false t0 (.int .i64 0) λt4=>ACalls tP zhc [t0] H λt6 H=>zau 1 [(.int .u32 0)] 1 [(0,(.int .u32 1))] λt7=>zar [(.bool false),.snil,.snil] [(0,1),(1,1),(2,1)] [(0,t4),(1,t6),(2,t7)] λt8=>ACalls tP zeG [t8] H λt9 H=>zan 3 t2 t9 H λH=>zae true 3 t2 H λr0=>K r0 H
def zSw (_:Nat):List Bool:=[]
noncomputable def zSx:Code:=Tryz.f70.body.getD .skip
def ztC:Prop:=zav t0 H λt2 H=>zav t1 H λt3 H=>zax [(.bool false),.snil,.snil] H λt4 H=>zab H (λK'=>zak true 3 t2 H (K' · H)) λt7=>zaE H (λH K'=>ACalls tP zed [t7] H K') λt8=>zab H (λK'=>zak true 3 t3 H (K' · H)) λt9=>zaE H (λH K'=>ACalls tP zed [t9] H K') λt10=>zax [(.bool false),.snil,.snil] H λt5 H=>zax [(.bool false),.snil,.snil] H λt6 H=>zan 3 t5 t8 H λH=>zan 3 t6 t10 H λH=>zab H (λK'=>zaf 0 t5 (K' · H)) λt11=>zab H (λK'=>zak false 1 t11 H (K' · H)) λt12=>zab H (λK'=>zaf 0 t6 (K' · H)) λt13=>zab H (λK'=>zak false 1 t13 H (K' · H)) λt14=>zab H (λK'=>zac .neq true t12 t14 (K' · H)) λt15=>zab H (λK'=>zaf 1 t5 (K' · H)) λt16=>zab H (λK'=>zak false 1 t16 H (K' · H)) λt17=>zab H (λK'=>zaf 1 t6 (K' · H)) λt18=>zab H (λK'=>zak false 1 t18 H (K' · H)) λt19=>zaE H (λH K'=>ACalls tP zdA [t17,t19] H K') λt20=>zab H (λK'=>zaf 2 t5 (K' · H)) λt21=>zab H (λK'=>zak false 1 t21 H (K' · H)) λt22=>zab H (λK'=>zaf 2 t6 (K' · H)) λt23=>zab H (λK'=>zak false 1 t23 H (K' · H)) λt24=>zaE H (λH K'=>ACalls tP zdA [t22,t24] H K') λt25=>zab H (λK'=>zar [(.bool false),.snil,.snil] [(0,1),(1,1),(2,1)] [(0,t15),(1,t20),(2,t25)] (K' · H)) λt26=>zaE H (λH K'=>ACalls tP zeG [t26] H K') λt27=>zan 3 t4 t27 H λH=>zae true 3 t4 H λr0=>K r0 H
def zS1 (_:Nat):List Bool:=[]
noncomputable def zS2:Code:=Tryz.f77.body.getD .skip
def zCh:Prop:=zav t0 H λt2 H=>zav t1 H λt3 H=>zax [(.bool false),.snil,.snil] H λt4 H=>zab H (λK'=>zak true 3 t2 H (K' · H)) λt5=>zaE H (λH K'=>ACalls tP zed [t5] H K') λt6=>zab H (λK'=>zak true 3 t3 H (K' · H)) λt7=>zaE H (λH K'=>ACalls tP zed [t7] H K') λt8=>zaE H (λH K'=>ACalls tP zoN [t6,t8] H K') λt9=>zaE H (λH K'=>ACalls tP zeG [t9] H K') λt10=>zan 3 t4 t10 H λH=>zae true 3 t4 H λr0=>K r0 H
def zI1 (_:Nat):List Bool:=[]
noncomputable def zI2:Code:=Tryz.f113.body.getD .skip
def zyR:Prop:=zac .lss false t0 (.int .i64 0) λt4=>zag t4 (za4 .u64 t0 λt6=>aUn .neg t6 λt7=>ACalls tP zf0 [t7] H λt8 H=>K t8 H) (za4 .u64 t0 λt10=>ACalls tP zf0 [t10] H λt11 H=>K t11 H)
def zI4 (_:Nat):List Bool:=[]
noncomputable def zI5:Code:=Tryz.f114.body.getD .skip
def zqR:Prop:=zav t0 H λt1 H=>zax [(.bool false),.snil,.snil] H λt2 H=>zae true 3 t1 H λt4=>ACalls tP ziT [t4] H λt5 H=>zax [(.bool false),.snil,.snil] H λt3 H=>zan 3 t3 t5 H λH=>zaf 0 t3 λt6=>zae false 1 t6 H λt7=>zaf 1 t3 λt8=>zae false 1 t8 H λt9=>zaf 2 t3 λt10=>zae false 1 t10 H λt11=>zar [(.bool false),.snil,.snil] [(0,1),(1,1),(2,1)] [(0,t7),(1,t9),(2,t11)] λt12=>zan 3 t2 t12 H λH=>zae true 3 t2 H λr0=>K r0 H
def zI6 (_:Nat):List Bool:=[]
noncomputable def zI7:Code:=Tryz.f120.body.getD .skip
def zqS:Prop:=zav t0 H λt1 H=>zax [(.bool false),.snil,.snil] H λt2 H=>zab H (λK'=>zaf 1 t1 (K' · H)) λt5=>zab H (λK'=>zak false 1 t5 H (K' · H)) λt6=>zaE H (λH K'=>ACalls tP ziU [t6] H K') λt7=>zab H (λK'=>zaf 2 t1 (K' · H)) λt8=>zab H (λK'=>zak false 1 t8 H (K' · H)) λt9=>zaE H (λH K'=>ACalls tP ziU [t9] H K') λt10=>zab H (λK'=>K' t7 H) λt3=>zab H (λK'=>K' t10 H) λt4=>zah 1 t3 λt12=>zac .eql false t12 (.int .i64 0) λt13=>zad t13 false H (λK'=>K' t4 H) λt15 H=>zad t13 false H (λK'=>zah 1 t15 (K' · H)) λt16 H=>zad t13 false H (λK'=>zac .eql false t16 (.int .i64 0) (K' · H)) λt17 H=>zaj t13 (.bool true) t17 λt18=>zag t18 (zau 1 [(.int .u32 0)] 1 [(0,(.int .u32 1))] λt19=>zar [(.bool false),.snil,.snil] [(0,1),(1,1),(2,1)] [(2,t19)] λt20=>zan 3 t2 t20 H λH=>zae true 3 t2 H λr0=>K r0 H) (zaf 0 t1 λt21=>zae false 1 t21 H λt22=>zar [(.bool false),.snil,.snil] [(0,1),(1,1),(2,1)] [(0,t22),(1,t3),(2,t4)] λt25=>zan 3 t2 t25 H λH=>zae true 3 t2 H λr0=>K r0 H)
def zft:Nat→List Bool | 5=>rl false [0,2,3,1,19,2,50] | 9=>rl false [0,2,3,3,17,2,3,2,45] | _=>[]
noncomputable def zqV:Code:=Tryz.f121.body.getD .skip
noncomputable def zJe:List ResultVar:=Tryz.f121.results.toList
def zkA:List AV:=t0::t1::ux 3 (t5::ux 19 (t25::t26::ux 50 []))
def zyX:List Bool:=zft 5
noncomputable def zqW:Code:=zaq [1,1,1,0,1,0,0] zqV
def zyU:AExit→List AV→zaa→Prop:=zas tP zft [1,1,1,0,1,0] zqV (zay tP zJe K)
def zyV:Prop:=ALoop tP zqW (zyU K) (zkA t0 t1 t5 t25 t26) H
def zhV:List AV:=t0::t1::ux 3 (t5::t6::t7::ux 17 (t25::t26::ux 3 (t30::t31::ux 45 [])))
def zJc:List Bool:=zft 9
noncomputable def zI9:Code:=zaq [1,1,0,0,1,1,0,1,0,0] zqW
def zI8:AExit→List AV→zaa→Prop:=zas tP zft [1,1,0,0,1,1,0,1,0] zqW (zb1 zyX Kb5 (zyU K))
def zyW:Prop:=ALoop tP zI9 (zI8 K Kb5) (zhV t0 t1 t5 t6 t7 t25 t26 t30 t31) H
def zqU (t0 t1 t5 t6 t7 t25 t26 t30 t31:AV) (H:zaa) (K:Kt) (Kb5:Lt) (Kb9:Lt):Prop:=zac .lss false t31 t30 λt32=>zag t32 (zab H (λK'=>K' t0 H) λt34=>zab H (λK'=>K' t6 H) λt35=>zab H (λK'=>zai 1 t34 t35 (K' · H)) λt36=>zab H (λK'=>zak false 1 t36 H (K' · H)) λt37=>zab H (λK'=>za4 .u64 t37 (K' · H)) λt38=>zab H (λK'=>K' t1 H) λt39=>zab H (λK'=>K' t31 H) λt40=>zab H (λK'=>zai 1 t39 t40 (K' · H)) λt41=>zab H (λK'=>zak false 1 t41 H (K' · H)) λt42=>zab H (λK'=>za4 .u64 t42 (K' · H)) λt43=>zab H (λK'=>zac .mul false t38 t43 (K' · H)) λt44=>zab H (λK'=>K' t5 H) λt45=>zab H (λK'=>K' t6 H) λt46=>zab H (λK'=>K' t31 H) λt47=>zab H (λK'=>zac .add false t46 t47 (K' · H)) λt48=>zab H (λK'=>zai 1 t45 t48 (K' · H)) λt49=>zab H (λK'=>zak false 1 t49 H (K' · H)) λt50=>zab H (λK'=>za4 .u64 t50 (K' · H)) λt51=>zab H (λK'=>zac .add false t44 t51 (K' · H)) λt52=>zab H (λK'=>K' t7 H) λt53=>zab H (λK'=>zac .add false t52 t53 (K' · H)) λt54=>zab H (λK'=>K' t54 H) λt9=>zac .add false t6 t31 λt58=>zac .rem false t9 (.int .u64 1000000000) λt60=>za4 .u32 t60 λt61=>zai 1 t5 t58 λt62=>zan 1 t62 t61 H λH=>zac .quo false t9 (.int .u64 1000000000) λt64=>zac .add false t31 (.int .i64 1) λt65=>Kb9 (zhV t0 t1 t5 t6 t64 t25 t26 t30 t65) H) (zah 1 t1 λt69=>zac .add false t6 t69 λt70=>za4 .u32 t7 λt72=>zai 1 t5 t70 λt73=>zan 1 t73 t72 H λH=>zac .add false t26 (.int .i64 1) λt74=>Kb5 (zkA t0 t1 t5 t25 t74) H)
def zqT:Prop:=zac .lss false t26 t25 λt27=>zag t27 (zah 1 t1 λt30=>zyW t0 t1 t5 t26 (.int .u64 0) t25 t26 t30 (.int .i64 0) H K Kb5) (ACalls tP zfc [t5] H λt76 H=>K t76 H)
def zkz:Prop:=zah 1 t0 λt11=>zac .eql false t11 (.int .i64 0) λt12=>zad t12 false H (λK'=>K' t1 H) λt14 H=>zad t12 false H (λK'=>zah 1 t14 (K' · H)) λt15 H=>zad t12 false H (λK'=>zac .eql false t15 (.int .i64 0) (K' · H)) λt16 H=>zaj t12 (.bool true) t16 λt17=>zag t17 (K .snil H) (zah 1 t0 λt19=>zah 1 t1 λt21=>zac .add false t19 t21 λt22=>zbp 4 [(.int .u32 0)] t22 t22 H λt23 H=>zah 1 t0 λt25=>zyV t0 t1 t23 t25 (.int .i64 0) H K)
def zJD (_:Nat):List Bool:=[]
noncomputable def zJE:Code:=Tryz.f129.body.getD .skip
def zy6:Prop:=zav t0 H λt2 H=>zav t1 H λt3 H=>zax [(.bool false),.snil,.snil] H λt4 H=>zab H (λK'=>zaf 1 t2 (K' · H)) λt8=>zab H (λK'=>zak false 1 t8 H (K' · H)) λt9=>zab H (λK'=>zaf 2 t3 (K' · H)) λt10=>zab H (λK'=>zak false 1 t10 H (K' · H)) λt11=>zaE H (λH K'=>ACalls tP zdA [t9,t11] H K') λt12=>zab H (λK'=>zaf 1 t3 (K' · H)) λt13=>zab H (λK'=>zak false 1 t13 H (K' · H)) λt14=>zab H (λK'=>zaf 2 t2 (K' · H)) λt15=>zab H (λK'=>zak false 1 t15 H (K' · H)) λt16=>zaE H (λH K'=>ACalls tP zdA [t14,t16] H K') λt17=>zab H (λK'=>K' t12 H) λt5=>zab H (λK'=>K' t17 H) λt6=>zaf 2 t2 λt18=>zae false 1 t18 H λt19=>zaf 2 t3 λt20=>zae false 1 t20 H λt21=>ACalls tP zdA [t19,t21] H λt22 H=>zaf 0 t2 λt23=>zae false 1 t23 H λt24=>zaf 0 t3 λt25=>zae false 1 t25 H λt26=>zac .eql true t24 t26 λt27=>zag t27 (zab H (λK'=>zaf 0 t2 (K' · H)) λt28=>zab H (λK'=>zak false 1 t28 H (K' · H)) λt29=>zab H (λK'=>K' t5 H) λt30=>zab H (λK'=>K' t6 H) λt31=>zaE H (λH K'=>ACalls tP zo6 [t30,t31] H K') λt32=>zab H (λK'=>K' t22 H) λt33=>zab H (λK'=>zar [(.bool false),.snil,.snil] [(0,1),(1,1),(2,1)] [(0,t29),(1,t32),(2,t33)] (K' · H)) λt34=>zan 3 t4 t34 H λH=>zae true 3 t4 H λr0=>K r0 H) (ACalls tP ziX [t5,t6] H λt37 H=>zac .geq false t37 (.int .i64 0) λt38=>zag t38 (zab H (λK'=>zaf 0 t2 (K' · H)) λt39=>zab H (λK'=>zak false 1 t39 H (K' · H)) λt40=>zab H (λK'=>K' t5 H) λt41=>zab H (λK'=>K' t6 H) λt42=>zaE H (λH K'=>ACalls tP zwi [t41,t42] H K') λt43=>zab H (λK'=>K' t22 H) λt44=>zab H (λK'=>zar [(.bool false),.snil,.snil] [(0,1),(1,1),(2,1)] [(0,t40),(1,t43),(2,t44)] (K' · H)) λt45=>zan 3 t4 t45 H λH=>zae true 3 t4 H λr0=>K r0 H) (zab H (λK'=>zaf 0 t3 (K' · H)) λt46=>zab H (λK'=>zak false 1 t46 H (K' · H)) λt47=>zab H (λK'=>K' t6 H) λt48=>zab H (λK'=>K' t5 H) λt49=>zaE H (λH K'=>ACalls tP zwi [t48,t49] H K') λt50=>zab H (λK'=>K' t22 H) λt51=>zab H (λK'=>zar [(.bool false),.snil,.snil] [(0,1),(1,1),(2,1)] [(0,t47),(1,t50),(2,t51)] (K' · H)) λt52=>zan 3 t4 t52 H λH=>zae true 3 t4 H λr0=>K r0 H))
def zJW (_:Nat):List Bool:=[]
noncomputable def zJX:Code:=Tryz.f132.body.getD .skip
def zra:Prop:=zav t0 H λt1 H=>zaf 1 t1 λt4=>zae false 1 t4 H λt5=>zah 1 t5 λt6=>zac .eql false t6 (.int .i64 0) λt7=>zag t7 (K (.int .i64 0) H) (zaf 0 t1 λt9=>zae false 1 t9 H λt10=>zag t10 (K (.int .i64 (-1)) H) (K (.int .i64 1) H))
def zlJ:Nat→List Bool | 6=>rl false [0,2,3,1,37] | _=>[]
noncomputable def zr6:Code:=Tryz.f172.body.getD .skip
noncomputable def zM8:List ResultVar:=Tryz.f172.results.toList
def zlK:List AV:=t0::t1::ux 3 (t5::ux 37 [])
def zM6:List Bool:=zlJ 6
noncomputable def zM4:Code:=zaq [1,1,0,1,0,0] zr6
def zM3:AExit→List AV→zaa→Prop:=zas tP zlJ [1,1,0,1,0] zr6 (zay tP zM8 K)
def zAp:Prop:=ALoop tP zM4 (zM3 K) (zlK t0 t1 t5) H
def zh4:Prop:=zac .geq false t5 (.int .i64 0) λt20=>zag t20 (zab H (λK'=>K' t0 H) λt24=>zab H (λK'=>K' t5 H) λt25=>zab H (λK'=>zai 1 t24 t25 (K' · H)) λt26=>zab H (λK'=>zak false 1 t26 H (K' · H)) λt27=>zab H (λK'=>K' t1 H) λt28=>zab H (λK'=>K' t5 H) λt29=>zab H (λK'=>zai 1 t28 t29 (K' · H)) λt30=>zab H (λK'=>zak false 1 t30 H (K' · H)) λt31=>zab H (λK'=>zac .lss false t27 t31 (K' · H)) λt32=>zab H (λK'=>K' t32 H) λt23=>zag t23 (K (.int .i64 (-1)) H) (zab H (λK'=>K' t0 H) λt34=>zab H (λK'=>K' t5 H) λt35=>zab H (λK'=>zai 1 t34 t35 (K' · H)) λt36=>zab H (λK'=>zak false 1 t36 H (K' · H)) λt37=>zab H (λK'=>K' t1 H) λt38=>zab H (λK'=>K' t5 H) λt39=>zab H (λK'=>zai 1 t38 t39 (K' · H)) λt40=>zab H (λK'=>zak false 1 t40 H (K' · H)) λt41=>zab H (λK'=>zac .gtr false t37 t41 (K' · H)) λt42=>zab H (λK'=>K' t42 H) λt33=>zag t33 (K (.int .i64 1) H) (zac .sub false t5 (.int .i64 1) λt22=>Kb6 (zlK t0 t1 t22) H))) (K (.int .i64 0) H)
def zlI:Prop:=zah 1 t0 λt7=>zah 1 t1 λt9=>zac .neq false t7 t9 λt10=>zag t10 (zah 1 t0 λt12=>zah 1 t1 λt14=>zac .lss false t12 t14 λt15=>zag t15 (K (.int .i64 (-1)) H) (K (.int .i64 1) H)) (zah 1 t0 λt17=>zac .sub false t17 (.int .i64 1) λt18=>zAp t0 t1 t18 H K)
def zlf:Nat→List Bool | 2=>rl false [0,1,2,1,11] | _=>[]
noncomputable def zry:Code:=Tryz.f152.body.getD .skip
noncomputable def zLi:List ResultVar:=Tryz.f152.results.toList
def zlg:List AV:=t0::ux 2 (t3::ux 11 [])
def zLg:List Bool:=zlf 2
noncomputable def zLe:Code:=zaq [1,1,0,0,0] zry
def zLd:AExit→List AV→zaa→Prop:=zas tP zlf [1,1,0,0] zry (zay tP zLi K)
def zlh:Prop:=ALoop tP zLe (zLd K) (zlg t0 t3) H
def zrx:Prop:=zac .gtr false t0 (.int .u64 0) λt5=>zag t5 (zac .rem false t0 (.int .u64 1000000000) λt10=>za4 .u32 t10 λt11=>zau 1 [(.int .u32 0)] 1 [(0,t11)] λt12=>zaw zbk 1 4 t3 t12 H λt13 H=>zac .quo false t0 (.int .u64 1000000000) λt7=>Kb2 (zlg t7 t13) H) (K t3 H)
def zzw:Prop:=zlh t0 .snil H K
def zLj (_:Nat):List Bool:=[]
noncomputable def zLk:Code:=Tryz.f153.body.getD .skip
def zli:Prop:=zav t0 H λt1 H=>zax [(.bool false),.snil,.snil] H λt2 H=>zaf 1 t1 λt8=>zae false 1 t8 H λt9=>zah 1 t9 λt10=>zac .eql false t10 (.int .i64 0) λt11=>zag t11 (zau 1 [(.int .u32 0)] 1 [(0,(.int .u32 1))] λt12=>zar [(.bool false),.snil,.snil] [(0,1),(1,1),(2,1)] [(2,t12)] λt13=>zan 3 t2 t13 H λH=>zae true 3 t2 H λr0=>K r0 H) (zaf 2 t1 λt14=>zae false 1 t14 H λt15=>ACalls tP zi4 [t15] H λt16 H=>zag t16 (zae true 3 t1 H λt17=>zan 3 t2 t17 H λH=>zae true 3 t2 H λr0=>K r0 H) (zaf 1 t1 λt18=>zae false 1 t18 H λt19=>zaf 2 t1 λt20=>zae false 1 t20 H λt21=>ACalls tP zo9 [t19,t21] H λt22 H=>ACalls tP zi4 [t22] H λt24 H=>zag t24 (zae true 3 t1 H λt25=>zan 3 t2 t25 H λH=>zae true 3 t2 H λr0=>K r0 H) (zaf 1 t1 λt27=>zae false 1 t27 H λt28=>ACalls tP zhg [t28,t22] H λt30 H=>zaz t30 0 λt31=>zaz t30 1 λt32=>zaf 2 t1 λt34=>zae false 1 t34 H λt35=>ACalls tP zhg [t35,t22] H λt37 H=>zaz t37 0 λt38=>zaz t37 1 λt39=>zaf 0 t1 λt40=>zae false 1 t40 H λt41=>zar [(.bool false),.snil,.snil] [(0,1),(1,1),(2,1)] [(0,t41),(1,t31),(2,t38)] λt44=>zan 3 t2 t44 H λH=>zae true 3 t2 H λr0=>K r0 H)))
def zlj:Nat→List Bool | 300000=>rl false [0,1] | 300001=>rl false [0,1] | 300002=>rl false [0,1] | 300003=>rl false [0,1] | 4=>rl false [0,1,2,2,7,2,27] | _=>[]
noncomputable def zrz:Code:=Tryz.f157.body.getD .skip
noncomputable def zLq:List ResultVar:=Tryz.f157.results.toList
def zll:List AV:=t0::ux 2 (t3::t4::ux 7 (t12::t13::ux 27 []))
def zLo:List Bool:=zlj 4
noncomputable def zLm:Code:=zaq [1,1,1,0,1,0,0] zrz
def zLl:AExit→List AV→zaa→Prop:=zas tP zlj [1,1,1,0,1,0] zrz (zay tP zLq K)
def zzz:Prop:=ALoop tP zLm (zLl K) (zll t0 t3 t4 t12 t13) H
def zlm:Prop:=ACalls tP zfc [t3] H λt40 H=>K t40 H
def zlk:Prop:=zac .lss false t13 t12 λt14=>zag t14 (zai 1 t0 t13 λt18=>zae false 1 t18 H λt19=>za4 .u64 t19 λt20=>zac .add false t20 t4 λt22=>zac .rem false t22 (.int .u64 1000000000) λt25=>za4 .u32 t25 λt26=>zau 1 [(.int .u32 0)] 1 [(0,t26)] λt27=>zaw zbk 1 4 t3 t27 H λt28 H=>zac .quo false t22 (.int .u64 1000000000) λt30=>zac .add false t13 (.int .i64 1) λt31=>Kb4 (zll t0 t28 t30 t12 t31) H) (zac .gtr false t4 (.int .u64 0) λt33=>zag t33 (za4 .u32 t4 λt36=>zau 1 [(.int .u32 0)] 1 [(0,t36)] λt37=>zaw zbk 1 4 t3 t37 H λt38 H=>zlm t38 H K) (zlm t3 H K))
def zzy:Prop:=zah 1 t0 λt8=>zac .add false t8 (.int .i64 1) λt9=>zeu zbk 1 4 t9 H λt10 H=>zah 1 t0 λt12=>zzz t0 t10 (.int .u64 0) t12 (.int .i64 0) H K
def zln:Nat→List Bool | 2=>rl false [0,1,2,1,17] | _=>[]
noncomputable def zrA:Code:=Tryz.f158.body.getD .skip
noncomputable def zLw:List ResultVar:=Tryz.f158.results.toList
def zlp:List AV:=t0::ux 2 (t3::ux 17 [])
def zLu:List Bool:=zln 2
noncomputable def zLs:Code:=zaq [1,1,0,0,0] zrA
def zLr:AExit→List AV→zaa→Prop:=zas tP zln [1,1,0,0] zrA (zay tP zLw K)
def zzB:Prop:=ALoop tP zLs (zLr K) (zlp t0 t3) H
def zlo:Prop:=zac .gtr false t3 (.int .i64 0) λt7=>zad t7 true H (λK'=>K' t0 H) λt9 H=>zad t7 true H (λK'=>K' t3 H) λt10 H=>zad t7 true H (λK'=>zac .sub false t10 (.int .i64 1) (K' · H)) λt11 H=>zad t7 true H (λK'=>zai 1 t9 t11 (K' · H)) λt12 H=>zad t7 true H (λK'=>zae false 1 t12 H (K' · H)) λt13 H=>zad t7 true H (λK'=>zac .eql false t13 (.int .u32 0) (K' · H)) λt14 H=>zaj t7 t14 (.bool false) λt15=>zag t15 (zac .sub false t3 (.int .i64 1) λt17=>Kb2 (zlp t0 t17) H) (zaR 1 1 t0 none (some t3) λt20=>K t20 H)
def zzA:Prop:=zah 1 t0 λt5=>zzB t0 t5 H K
def zlD:Nat→List Bool | 300000=>rl false [0,1] | 300001=>rl false [0,1] | 300002=>rl false [0,1] | 300003=>rl false [0,1] | 300004=>rl false [0,1] | 6=>rl false [0,2,3,2,14,2,33] | _=>[]
noncomputable def zr5:Code:=Tryz.f171.body.getD .skip
noncomputable def zM1:List ResultVar:=Tryz.f171.results.toList
def zlE:List AV:=t0::t1::ux 3 (t5::t6::ux 14 (t21::t22::ux 33 []))
def zMZ:List Bool:=zlD 6
noncomputable def zMX:Code:=zaq [1,1,1,1,0,1,0,0] zr5
def zMW:AExit→List AV→zaa→Prop:=zas tP zlD [1,1,1,1,0,1,0] zr5 (zay tP zM1 K)
def zAo:Prop:=ALoop tP zMX (zMW K) (zlE t0 t1 t5 t6 t21 t22) H
def zlG (t0 t1 t5 t8 t21 t22:AV) (H:zaa) (K:Kt) (Kb6:Lt):Prop:=zac .quo false t8 (.int .u32 1000000000) λt42=>zac .rem false t8 (.int .u32 1000000000) λt45=>zau 1 [(.int .u32 0)] 1 [(0,t45)] λt46=>zaw zbk 1 4 t5 t46 H λt47 H=>zac .add false t22 (.int .i64 1) λt48=>Kb6 (zlE t0 t1 t47 t42 t21 t48) H
def zlH:Prop:=K t5 H
def zh3:Prop:=zac .lss false t22 t21 λt23=>zag t23 (zai 1 t0 t22 λt27=>zae false 1 t27 H λt28=>zac .add false t28 t6 λt30=>zah 1 t1 λt33=>zac .lss false t22 t33 λt34=>zag t34 (zai 1 t1 t22 λt38=>zae false 1 t38 H λt39=>zac .add false t30 t39 λt40=>zlG t0 t1 t5 t40 t21 t22 H K Kb6) (zlG t0 t1 t5 t30 t21 t22 H K Kb6)) (zac .gtr false t6 (.int .u32 0) λt50=>zag t50 (zau 1 [(.int .u32 0)] 1 [(0,t6)] λt53=>zaw zbk 1 4 t5 t53 H λt54 H=>zlH t54 H K) (zlH t5 H K))
def zlF:Prop:=zah 1 t0 λt17=>zac .add false t17 (.int .i64 1) λt18=>zeu zbk 1 4 t18 H λt19 H=>zah 1 t0 λt21=>zAo t0 t1 t19 (.int .u32 0) t21 (.int .i64 0) H K
def zr4:Prop:=zah 1 t0 λt10=>zah 1 t1 λt12=>zac .lss false t10 t12 λt13=>zag t13 (zlF t1 t0 H K) (zlF t0 t1 H K)
def zN1 (_:Nat):List Bool:=[]
noncomputable def zN2:Code:=Tryz.f197.body.getD .skip
def zl3:Prop:=zah 1 t0 λt4=>zac .eql false t4 (.int .i64 1) λt5=>zad t5 true H (λK'=>K' t0 H) λt7 H=>zad t5 true H (λK'=>zai 1 t7 (.int .i64 0) (K' · H)) λt8 H=>zad t5 true H (λK'=>zae false 1 t8 H (K' · H)) λt9 H=>zad t5 true H (λK'=>zac .eql false t9 (.int .u32 1) (K' · H)) λt10 H=>zaj t5 t10 (.bool false) λt11=>K t11 H
def zfB:Nat→List Bool | 1=>rl false [0,2,47] | 5=>rl false [5,1,1,1,41] | _=>[]
noncomputable def zsm:Code:=Tryz.f198.body.getD .skip
noncomputable def zOa:List ResultVar:=Tryz.f198.results.toList
def zso:List AV:=t0::t1::ux 47 []
def zAK:List Bool:=zfB 1
noncomputable def zsn:Code:=zaq [1,0,0,0] zsm
def zAH:AExit→List AV→zaa→Prop:=zas tP zfB [1,0,0] zsm (zay tP zOa K)
def zAI:Prop:=ALoop tP zsn (zAH K) (zso t0 t1) H
def zl4:List AV:=ux 5 (t5::ux 1 (t7::ux 41 []))
def zN8:List Bool:=zfB 5
noncomputable def zN5:Code:=zaq [1,0,0,1,0,1,1,0,0,0] zsn
def zN4:AExit→List AV→zaa→Prop:=zas tP zfB [1,0,0,1,0,1,1,0,0] zsn (zb1 zAK Kb1 (zAH K))
def zAJ:Prop:=ALoop tP zN5 (zN4 K Kb1) (zl4 t5 t7) H
def zsl (t5 t7:AV) (H:zaa) (K:Kt) (Kb1:Lt) (Kb5:Lt):Prop:=zac .gtr false t7 (.int .u64 0) λt33=>zag t33 (zab H (λK'=>K' t7 H) λt34=>zab H (λK'=>K' t5 H) λt35=>zab H (λK'=>K' t7 H) λt36=>zab H (λK'=>zac .rem false t35 t36 (K' · H)) λt37=>zab H (λK'=>K' t34 H) λt5=>zab H (λK'=>K' t37 H) λt7=>Kb5 (zl4 t5 t7) H) (ACalls tP zf0 [t5] H λt39 H=>K t39 H)
def zsk:Prop:=zah 1 t1 λt12=>zac .gtr false t12 (.int .i64 0) λt13=>zag t13 (zah 1 t0 λt15=>zac .leq false t15 (.int .i64 2) λt16=>zad t16 true H (λK'=>K' t1 H) λt18 H=>zad t16 true H (λK'=>zah 1 t18 (K' · H)) λt19 H=>zad t16 true H (λK'=>zac .leq false t19 (.int .i64 2) (K' · H)) λt20 H=>zaj t16 t20 (.bool false) λt21=>zag t21 (ACalls tP zi9 [t0] H λt24 H=>zaz t24 0 λt25=>zaz t24 1 λt26=>ACalls tP zi9 [t1] H λt29 H=>zaz t29 0 λt30=>zaz t29 1 λt31=>zAJ t25 t30 H K Kb1) (ACalls tP zhg [t0,t1] H λt43 H=>zaz t43 0 λt44=>zaz t43 1 λt45=>Kb1 (zso t1 t45) H)) (K t0 H)
def zAG:Prop:=zAI t0 t1 H K
def zAM:Nat→List Bool | 12=>rl false [8,6,77] | _=>[]
noncomputable def zsp:Code:=Tryz.f199.body.getD .skip
noncomputable def zOh:List ResultVar:=Tryz.f199.results.toList
def zOd:List AV:=ux 8 (t8::t9::t10::t11::t12::t13::ux 77 [])
noncomputable def zOc:Code:=zaq [1,1,1,1,1,1,1,1,0,1,0,0] zsp
def zOb:AExit→List AV→zaa→Prop:=zas tP zAM [1,1,1,1,1,1,1,1,0,1,0] zsp (zay tP zOh K)
def zOe:Prop:=ALoop tP zOc (zOb K) (zOd t8 t9 t10 t11 t12 t13) H
def zAL:Prop:=ACalls tP ziX [t0,t1] H λt18 H=>zac .lss false t18 (.int .i64 0) λt19=>zag t19 (zaw zbk 1 4 .snil t0 H λt21 H=>zaD [.snil,t21] (K · H)) (zah 1 t1 λt23=>zac .eql false t23 (.int .i64 1) λt24=>zag t24 (zai 1 t1 (.int .i64 0) λt28=>zae false 1 t28 H λt29=>za4 .u64 t29 λt30=>ACalls tP zpe [t0,t30] H λt31 H=>zaz t31 0 λt32=>zaz t31 1 λt33=>ACalls tP zf0 [t33] H λt36 H=>zaD [t32,t36] (K · H)) (zah 1 t1 λt38=>zac .sub false t38 (.int .i64 1) λt41=>zai 1 t1 t41 λt42=>zae false 1 t42 H λt43=>za4 .u64 t43 λt44=>zac .add false t44 (.int .u64 1) λt45=>zac .quo false (.int .u64 1000000000) t45 λt46=>ACalls tP zwl [t0,t46] H λt49 H=>ACalls tP zwl [t1,t46] H λt52 H=>zaR 1 1 t52 none (some t38) λt54=>zah 1 t0 λt56=>zac .sub false t56 t38 λt58=>zac .add false t58 (.int .i64 1) λt59=>zbp 4 [(.int .u32 0)] t59 t59 H λt60 H=>zah 1 t0 λt62=>zac .sub false t62 t38 λt64=>zOe t38 t46 t49 t54 t60 t64 H K))
def zOW (_:Nat):List Bool:=[]
noncomputable def zOX:Code:=Tryz.f216.body.getD .skip
def zAX:Prop:=zax [(.bool false),.snil,.snil] H λt4 H=>zac .eql false t1 (.int .i64 0) λt6=>zag t6 (ACalls tP zc6 [(.int .i64 0)] H λt7 H=>zan 3 t4 t7 H λH=>zae true 3 t4 H λr0=>K r0 H) (zac .lss false t0 (.int .i64 0) λt9=>zac .lss false t1 (.int .i64 0) λt11=>zac .neq true t9 t11 λt12=>ACalls tP zhc [t0] H λt14 H=>ACalls tP zhc [t1] H λt16 H=>zar [(.bool false),.snil,.snil] [(0,1),(1,1),(2,1)] [(0,t12),(1,t14),(2,t16)] λt17=>ACalls tP zeG [t17] H λt18 H=>zan 3 t4 t18 H λH=>zae true 3 t4 H λr0=>K r0 H)
def zmd:Nat→List Bool | 3=>rl false [0,1,3,1,3,2,22] | _=>[]
noncomputable def zsD:Code:=Tryz.f223.body.getD .skip
noncomputable def zO9:List ResultVar:=Tryz.f223.results.toList
def zme:List AV:=t0::ux 3 (t4::ux 3 (t8::t9::ux 22 []))
def zO7:List Bool:=zmd 3
noncomputable def zO5:Code:=zaq [1,1,0,1,0,0] zsD
def zO4:AExit→List AV→zaa→Prop:=zas tP zmd [1,1,0,1,0] zsD (zay tP zO9 K)
def zAZ:Prop:=ALoop tP zO5 (zO4 K) (zme t0 t4 t8 t9) H
def zsC:Prop:=zac .lss false t9 t8 λt10=>zag t10 (zah 1 t0 λt14=>zac .sub false t14 (.int .i64 1) λt15=>zac .sub false t15 t9 λt17=>zai 1 t0 t17 λt18=>zae false 1 t18 H λt19=>za4 .u64 t19 λt20=>zac .sub false (.int .u64 18446744073709551615) t20 λt23=>zac .quo false t23 (.int .u64 1000000000) λt24=>zac .gtr false t4 t24 λt25=>zag t25 (zaD [(.int .u64 0),(.bool false)] (K · H)) (zac .mul false t4 (.int .u64 1000000000) λt27=>zac .add false t27 t20 λt29=>zac .add false t9 (.int .i64 1) λt30=>Kb3 (zme t0 t29 t8 t30) H)) (zaD [t4,(.bool true)] (K · H))
def zAY:Prop:=zah 1 t0 λt8=>zAZ t0 (.int .u64 0) t8 (.int .i64 0) H K
def zmf:Nat→List Bool | 4=>rl false [0,2,4,3,32] | _=>[]
noncomputable def zsF:Code:=Tryz.f224.body.getD .skip
noncomputable def zPf:List ResultVar:=Tryz.f224.results.toList
def zmg:List AV:=t0::t1::ux 4 (t6::t7::t8::ux 32 [])
def zPd:List Bool:=zmf 4
noncomputable def zPb:Code:=zaq [1,1,1,0,1,0,0] zsF
def zPa:AExit→List AV→zaa→Prop:=zas tP zmf [1,1,1,0,1,0] zsF (zay tP zPf K)
def zA1:Prop:=ALoop tP zPb (zPa K) (zmg t0 t1 t6 t7 t8) H
def zsE:Prop:=zac .geq false t8 (.int .i64 0) λt17=>zag t17 (zac .mul false t7 (.int .u64 1000000000) λt21=>zai 1 t0 t8 λt24=>zae false 1 t24 H λt25=>za4 .u64 t25 λt26=>zac .add false t21 t26 λt27=>zac .quo false t27 t1 λt32=>za4 .u32 t32 λt33=>zai 1 t6 t8 λt34=>zan 1 t34 t33 H λH=>zac .rem false t27 t1 λt37=>zac .sub false t8 (.int .i64 1) λt19=>Kb4 (zmg t0 t1 t6 t37 t19) H) (ACalls tP zfc [t6] H λt39 H=>zaD [t39,t7] (K · H))
def zA0:Prop:=zah 1 t0 λt11=>zbp 4 [(.int .u32 0)] t11 t11 H λt12 H=>zah 1 t0 λt14=>zac .sub false t14 (.int .i64 1) λt15=>zA1 t0 t1 t12 (.int .u64 0) t15 H K
def zTh (_:Nat):List Bool:=[]
noncomputable def zTi:Code:=Tryz.f80.body.getD .skip
def zCq:Prop:=zav t0 H λt1 H=>zae true 3 t1 H λt3=>ACalls tP zed [t3] H λt4 H=>ACalls tP zoR [t4] H λt5 H=>K t5 H
def zlN:Nat→List Bool | 3=>rl false [0,1,3,2,2,2,16] | _=>[]
noncomputable def zr9:Code:=Tryz.f175.body.getD .skip
noncomputable def zNk:List ResultVar:=Tryz.f175.results.toList
def zlP:List AV:=t0::ux 3 (t4::t5::ux 2 (t8::t9::ux 16 []))
def zNi:List Bool:=zlN 3
noncomputable def zNg:Code:=zaq [1,1,0,1,0,0] zr9
def zNf:AExit→List AV→zaa→Prop:=zas tP zlN [1,1,0,1,0] zr9 (zay tP zNk K)
def zAt:Prop:=ALoop tP zNg (zNf K) (zlP t0 t4 t5 t8 t9) H
def zlO:Prop:=zac .lss false t9 t8 λt10=>zag t10 (zac .eql false t0 t9 λt14=>zag t14 (ACalls tP zc6 [(.int .i64 0)] H λt15 H=>zan 3 t4 t15 H λH=>zae true 3 t4 H λr0=>K r0 H) (zab H (λK'=>zak true 3 t5 H (K' · H)) λt16=>zab H (λK'=>K' t0 H) λt17=>zab H (λK'=>K' t9 H) λt18=>zab H (λK'=>zac .sub false t17 t18 (K' · H)) λt19=>zab H (λK'=>K' t9 H) λt20=>zab H (λK'=>zac .add false t20 (.int .i64 1) (K' · H)) λt21=>zaE H (λH K'=>ACalls tP zpd [t19,t21] H K') λt22=>zaE H (λH K'=>ACalls tP zeI [t16,t22] H K') λt23=>zan 3 t5 t23 H λH=>zac .add false t9 (.int .i64 1) λt24=>Kb3 (zlP t0 t4 t5 t8 t24) H)) (zae true 3 t5 H λt25=>zan 3 t4 t25 H λH=>zae true 3 t4 H λr0=>K r0 H)
def zAs:Prop:=zax [(.bool false),.snil,.snil] H λt4 H=>ACalls tP zc6 [(.int .i64 1)] H λt7 H=>zax [(.bool false),.snil,.snil] H λt5 H=>zan 3 t5 t7 H λH=>zAt t0 t4 t5 t1 (.int .i64 0) H K
variable {t0 t1 t3 t4 t5 t6 t7 t8 t9 t10 t11 t12 t13 t21 t22 t25 t26 t30 t31} {H} {K} {Kb1 Kb2 Kb3 Kb4 Kb5 Kb6}
theorem zSe (h:HSc H→zB2 t0 H K):ACalls tP zc6 [t0] H K:=
 acb zSc Tryz.func61 zSd (by kernel_rfl) (by kernel_rfl) h
theorem zB6 (h:HSc H→ztC t0 t1 H K):ACalls tP zeI [t0,t1] H K:=
 acb zSw Tryz.func70 zSx (by kernel_rfl) (by kernel_rfl) h
theorem zS3 (h:HSc H→zCh t0 t1 H K):ACalls tP zpw [t0,t1] H K:=
 acb zS1 Tryz.func77 zS2 (by kernel_rfl) (by kernel_rfl) h
theorem zI3 (h:HSc H→zyR t0 H K):ACalls tP zhc [t0] H K:=
 acb zI1 Tryz.func113 zI2 (by kernel_rfl) (by kernel_rfl) h
theorem zyS (h:HSc H→zqR t0 H K):ACalls tP zeG [t0] H K:=
 acb zI4 Tryz.func114 zI5 (by kernel_rfl) (by kernel_rfl) h
theorem zyT (h:HSc H→zqS t0 H K):ACalls tP zed [t0] H K:=
 acb zI6 Tryz.func120 zI7 (by kernel_rfl) (by kernel_rfl) h
theorem zJb (Inv:Nat→AV→AV→zaa→Prop) (n:Nat) (h0:HSc H→Inv n t7 t31 H)
  (ac:Rd2 (λt7=>λt31=>zhV t0 t1 t5 t6 t7 t25 t26 t30 t31) (λt7=>λt31=>λH Kb9=>zqU t0 t1 t5 t6 t7 t25 t26 t30 t31 H K Kb5 Kb9) H Inv):zyW t0 t1 t5 t6 t7 t25 t26 t30 t31 H K Kb5:=
 lp2 (M:=zft) zJc t7 t31 (by kernel_rfl) Inv n h0 ac
theorem zJa (Inv:Nat→AV→zaa→Prop) (n:Nat) (h0:HSc H→Inv n t26 H)
  (ac:Rd1 (λt26=>zkA t0 t1 t5 t25 t26) (λt26=>λH Kb5=>zqT t0 t1 t5 t25 t26 H K Kb5) H Inv):zyV t0 t1 t5 t25 t26 H K:=
 lp1 (M:=zft) zyX t26 (by kernel_rfl) Inv n h0 ac
theorem zJd (h:HSc H→zkz t0 t1 H K):ACalls tP zdA [t0,t1] H K:=
 acb zft Tryz.func121 zqV (by kernel_rfl) (by kernel_rfl) h
theorem zJF (h:HSc H→zy6 t0 t1 H K):ACalls tP zoN [t0,t1] H K:=
 acb zJD Tryz.func129 zJE (by kernel_rfl) (by kernel_rfl) h
theorem zJY (h:HSc H→zra t0 H K):ACalls tP zoR [t0] H K:=
 acb zJW Tryz.func132 zJX (by kernel_rfl) (by kernel_rfl) h
theorem zM5 (Inv:Nat→AV→zaa→Prop) (n:Nat) (h0:HSc H→Inv n t5 H)
  (ac:Rd1 (λt5=>zlK t0 t1 t5) (λt5=>λH Kb6=>zh4 t0 t1 t5 H K Kb6) H Inv):zAp t0 t1 t5 H K:=
 lp1 (M:=zlJ) zM6 t5 (by kernel_rfl) Inv n h0 ac
theorem zM7 (h:HSc H→zlI t0 t1 H K):ACalls tP ziX [t0,t1] H K:=
 acb zlJ Tryz.func172 zr6 (by kernel_rfl) (by kernel_rfl) h
theorem zLf (Inv:Nat→AV→AV→zaa→Prop) (n:Nat) (h0:HSc H→Inv n t0 t3 H)
  (ac:Rd2 (λt0=>λt3=>zlg t0 t3) (λt0=>λt3=>λH Kb2=>zrx t0 t3 H K Kb2) H Inv):zlh t0 t3 H K:=
 lp2 (M:=zlf) zLg t0 t3 (by kernel_rfl) Inv n h0 ac
theorem zLh (h:HSc H→zzw t0 H K):ACalls tP zf0 [t0] H K:=
 acb zlf Tryz.func152 zry (by kernel_rfl) (by kernel_rfl) h
theorem zzx (h:HSc H→zli t0 H K):ACalls tP ziT [t0] H K:=
 acb zLj Tryz.func153 zLk (by kernel_rfl) (by kernel_rfl) h
theorem zLn (Inv:Nat→AV→AV→AV→zaa→Prop) (n:Nat) (h0:HSc H→Inv n t3 t4 t13 H)
  (ac:Rd3 (λt3=>λt4=>λt13=>zll t0 t3 t4 t12 t13) (λt3=>λt4=>λt13=>λH Kb4=>zlk t0 t3 t4 t12 t13 H K Kb4) H Inv):zzz t0 t3 t4 t12 t13 H K:=
 lp3 (M:=zlj) zLo t3 t4 t13 (by kernel_rfl) Inv n h0 ac
theorem zLp (h:HSc H→zzy t0 H K):ACalls tP ziU [t0] H K:=
 acb zlj Tryz.func157 zrz (by kernel_rfl) (by kernel_rfl) h
theorem zLt (Inv:Nat→AV→zaa→Prop) (n:Nat) (h0:HSc H→Inv n t3 H)
  (ac:Rd1 (λt3=>zlp t0 t3) (λt3=>λH Kb2=>zlo t0 t3 H K Kb2) H Inv):zzB t0 t3 H K:=
 lp1 (M:=zln) zLu t3 (by kernel_rfl) Inv n h0 ac
theorem zLv (h:HSc H→zzA t0 H K):ACalls tP zfc [t0] H K:=
 acb zln Tryz.func158 zrA (by kernel_rfl) (by kernel_rfl) h
theorem zMY (Inv:Nat→AV→AV→AV→zaa→Prop) (n:Nat) (h0:HSc H→Inv n t5 t6 t22 H)
  (ac:Rd3 (λt5=>λt6=>λt22=>zlE t0 t1 t5 t6 t21 t22) (λt5=>λt6=>λt22=>λH Kb6=>zh3 t0 t1 t5 t6 t21 t22 H K Kb6) H Inv):zAo t0 t1 t5 t6 t21 t22 H K:=
 lp3 (M:=zlD) zMZ t5 t6 t22 (by kernel_rfl) Inv n h0 ac
theorem zM0 (h:HSc H→zr4 t0 t1 H K):ACalls tP zo6 [t0,t1] H K:=
 acb zlD Tryz.func171 zr5 (by kernel_rfl) (by kernel_rfl) h
theorem zN3 (h:HSc H→zl3 t0 H K):ACalls tP zi4 [t0] H K:=
 acb zN1 Tryz.func197 zN2 (by kernel_rfl) (by kernel_rfl) h
theorem zN7 (Inv:Nat→AV→AV→zaa→Prop) (n:Nat) (h0:HSc H→Inv n t5 t7 H)
  (ac:Rd2 (λt5=>λt7=>zl4 t5 t7) (λt5=>λt7=>λH Kb5=>zsl t5 t7 H K Kb1 Kb5) H Inv):zAJ t5 t7 H K Kb1:=
 lp2 (M:=zfB) zN8 t5 t7 (by kernel_rfl) Inv n h0 ac
theorem zN6 (Inv:Nat→AV→AV→zaa→Prop) (n:Nat) (h0:HSc H→Inv n t0 t1 H)
  (ac:Rd2 (λt0=>λt1=>zso t0 t1) (λt0=>λt1=>λH Kb1=>zsk t0 t1 H K Kb1) H Inv):zAI t0 t1 H K:=
 lp2 (M:=zfB) zAK t0 t1 (by kernel_rfl) Inv n h0 ac
theorem zN9 (h:HSc H→zAG t0 t1 H K):ACalls tP zo9 [t0,t1] H K:=
 acb zfB Tryz.func198 zsm (by kernel_rfl) (by kernel_rfl) h
theorem zOg (h:HSc H→zAL t0 t1 H K):ACalls tP zhg [t0,t1] H K:=
 acb zAM Tryz.func199 zsp (by kernel_rfl) (by kernel_rfl) h
theorem zOY (h:HSc H→zAX t0 t1 H K):ACalls tP zpd [t0,t1] H K:=
 acb zOW Tryz.func216 zOX (by kernel_rfl) (by kernel_rfl) h
theorem zO6 (Inv:Nat→AV→AV→zaa→Prop) (n:Nat) (h0:HSc H→Inv n t4 t9 H)
  (ac:Rd2 (λt4=>λt9=>zme t0 t4 t8 t9) (λt4=>λt9=>λH Kb3=>zsC t0 t4 t8 t9 H K Kb3) H Inv):zAZ t0 t4 t8 t9 H K:=
 lp2 (M:=zmd) zO7 t4 t9 (by kernel_rfl) Inv n h0 ac
theorem zO8 (h:HSc H→zAY t0 H K):ACalls tP zi9 [t0] H K:=
 acb zmd Tryz.func223 zsD (by kernel_rfl) (by kernel_rfl) h
theorem zPc (Inv:Nat→AV→AV→zaa→Prop) (n:Nat) (h0:HSc H→Inv n t7 t8 H)
  (ac:Rd2 (λt7=>λt8=>zmg t0 t1 t6 t7 t8) (λt7=>λt8=>λH Kb4=>zsE t0 t1 t6 t7 t8 H K Kb4) H Inv):zA1 t0 t1 t6 t7 t8 H K:=
 lp2 (M:=zmf) zPd t7 t8 (by kernel_rfl) Inv n h0 ac
theorem zPe (h:HSc H→zA0 t0 t1 H K):ACalls tP zpe [t0,t1] H K:=
 acb zmf Tryz.func224 zsF (by kernel_rfl) (by kernel_rfl) h
theorem zTj (h:HSc H→zCq t0 H K):ACalls tP zjp [t0] H K:=
 acb zTh Tryz.func80 zTi (by kernel_rfl) (by kernel_rfl) h
theorem zNh (Inv:Nat→AV→zaa→Prop) (n:Nat) (h0:HSc H→Inv n t9 H)
  (ac:Rd1 (λt9=>zlP t0 t4 t5 t8 t9) (λt9=>λH Kb3=>zlO t0 t4 t5 t8 t9 H K Kb3) H Inv):zAt t0 t4 t5 t8 t9 H K:=
 lp1 (M:=zlN) zNi t9 (by kernel_rfl) Inv n h0 ac
theorem zNj (h:HSc H→zAs t0 t1 H K):ACalls tP ziY [t0,t1] H K:=
 acb zlN Tryz.func175 zr9 (by kernel_rfl) (by kernel_rfl) h
end
section
variable (t0 t1 t2 t3 t4 t5 t6 t7 t8 t9 t10:AV) (H:zaa) (K:Kt) (Kb1 Kb2 Kb4 Kb6:Lt)
def zQz (_:Nat):List Bool:=[]
noncomputable def zQA:Code:=Tryz.f36.body.getD .skip
def zBt:Prop:=zax [(.bool false),.snil,.snil] H λt2 H=>zac .lss false t0 (.int .i64 0) λt4=>zag t4 (zac .add false t0 (.int .i64 1) λt6=>aUn .neg t6 λt7=>za4 .u64 t7 λt8=>zac .add false t8 (.int .u64 1) λt9=>ACalls tP zho [t9] H λt10 H=>zau 1 [(.int .u32 0)] 1 [(0,(.int .u32 1))] λt11=>ACalls tP zf5 [(.bool true),t10,t11] H λt12 H=>zan 3 t2 t12 H λH=>zae true 3 t2 H λr0=>K r0 H) (za4 .u64 t0 λt14=>ACalls tP zho [t14] H λt15 H=>zau 1 [(.int .u32 0)] 1 [(0,(.int .u32 1))] λt16=>ACalls tP zf5 [(.bool false),t15,t16] H λt17 H=>zan 3 t2 t17 H λH=>zae true 3 t2 H λr0=>K r0 H)
def zm7:Nat→List Bool | 2=>rl false [0,1,2,1,11] | _=>[]
noncomputable def ztE:Code:=Tryz.f71.body.getD .skip
noncomputable def zSD:List ResultVar:=Tryz.f71.results.toList
def zm8:List AV:=t0::ux 2 (t3::ux 11 [])
def zSB:List Bool:=zm7 2
noncomputable def zSz:Code:=zaq [1,1,0,0,0] ztE
def zSy:AExit→List AV→zaa→Prop:=zas tP zm7 [1,1,0,0] ztE (zay tP zSD K)
def zm9:Prop:=ALoop tP zSz (zSy K) (zm8 t0 t3) H
def ztD:Prop:=zac .gtr false t0 (.int .u64 0) λt5=>zag t5 (zac .rem false t0 (.int .u64 1000000000) λt8=>za4 .u32 t8 λt9=>zau 1 [(.int .u32 0)] 1 [(0,t9)] λt10=>zaw zbk 1 4 t3 t10 H λt11 H=>zac .quo false t0 (.int .u64 1000000000) λt13=>Kb2 (zm8 t13 t11) H) (K t3 H)
def zB7:Prop:=zm9 t0 .snil H K
def zkh:Nat→List Bool | 6=>rl false [0,2,3,1,35] | _=>[]
noncomputable def zqD:Code:=Tryz.f105.body.getD .skip
noncomputable def zIk:List ResultVar:=Tryz.f105.results.toList
def zki:List AV:=t0::t1::ux 3 (t5::ux 35 [])
def zIi:List Bool:=zkh 6
noncomputable def zIg:Code:=zaq [1,1,0,1,0,0] zqD
def zIf:AExit→List AV→zaa→Prop:=zas tP zkh [1,1,0,1,0] zqD (zay tP zIk K)
def zyF:Prop:=ALoop tP zIg (zIf K) (zki t0 t1 t5) H
def zhU:Prop:=zac .geq false t5 (.int .i64 0) λt20=>zag t20 (zab H (λK'=>K' t0 H) λt23=>zab H (λK'=>K' t5 H) λt24=>zab H (λK'=>zai 1 t23 t24 (K' · H)) λt25=>zab H (λK'=>zak false 1 t25 H (K' · H)) λt26=>zab H (λK'=>K' t1 H) λt27=>zab H (λK'=>K' t5 H) λt28=>zab H (λK'=>zai 1 t27 t28 (K' · H)) λt29=>zab H (λK'=>zak false 1 t29 H (K' · H)) λt30=>zab H (λK'=>zac .lss false t26 t30 (K' · H)) λt31=>zag t31 (K (.int .i64 (-1)) H) (zab H (λK'=>K' t0 H) λt32=>zab H (λK'=>K' t5 H) λt33=>zab H (λK'=>zai 1 t32 t33 (K' · H)) λt34=>zab H (λK'=>zak false 1 t34 H (K' · H)) λt35=>zab H (λK'=>K' t1 H) λt36=>zab H (λK'=>K' t5 H) λt37=>zab H (λK'=>zai 1 t36 t37 (K' · H)) λt38=>zab H (λK'=>zak false 1 t38 H (K' · H)) λt39=>zab H (λK'=>zac .gtr false t35 t39 (K' · H)) λt40=>zag t40 (K (.int .i64 1) H) (zac .sub false t5 (.int .i64 1) λt22=>Kb6 (zki t0 t1 t22) H))) (K (.int .i64 0) H)
def zkg:Prop:=zah 1 t0 λt7=>zah 1 t1 λt9=>zac .neq false t7 t9 λt10=>zag t10 (zah 1 t0 λt12=>zah 1 t1 λt14=>zac .lss false t12 t14 λt15=>zag t15 (K (.int .i64 (-1)) H) (K (.int .i64 1) H)) (zah 1 t0 λt17=>zac .sub false t17 (.int .i64 1) λt18=>zyF t0 t1 t18 H K)
def zkj:Nat→List Bool | 4=>rl false [0,1,2,3,30] | _=>[]
noncomputable def zqE:Code:=Tryz.f107.body.getD .skip
noncomputable def zIr:List ResultVar:=Tryz.f107.results.toList
def zkl:List AV:=t0::ux 2 (t3::t4::t5::ux 30 [])
def zIp:List Bool:=zkj 4
noncomputable def zIn:Code:=zaq [1,1,1,0,1,0,0] zqE
def zIm:AExit→List AV→zaa→Prop:=zas tP zkj [1,1,1,0,1,0] zqE (zay tP zIr K)
def zkn:Prop:=ALoop tP zIn (zIm K) (zkl t0 t3 t4 t5) H
def zkm:Prop:=ACalls tP zfY [t3] H λt35 H=>K t35 H
def zkk:Prop:=zah 1 t0 λt8=>zac .lss false t5 t8 λt9=>zag t9 (zai 1 t0 t5 λt15=>zae false 1 t15 H λt16=>za4 .u64 t16 λt17=>zac .add false t4 t17 λt18=>zac .rem false t18 (.int .u64 1000000000) λt21=>za4 .u32 t21 λt22=>zau 1 [(.int .u32 0)] 1 [(0,t22)] λt23=>zaw zbk 1 4 t3 t23 H λt24 H=>zac .quo false t18 (.int .u64 1000000000) λt26=>zac .add false t5 (.int .i64 1) λt11=>Kb4 (zkl t0 t24 t26 t11) H) (zac .gtr false t4 (.int .u64 0) λt28=>zag t28 (za4 .u32 t4 λt31=>zau 1 [(.int .u32 0)] 1 [(0,t31)] λt32=>zaw zbk 1 4 t3 t32 H λt33 H=>zkm t33 H K) (zkm t3 H K))
def zyG:Prop:=zkn t0 .snil (.int .u64 0) (.int .i64 0) H K
def zko:Nat→List Bool | 1=>rl false [0,2,17] | _=>[]
noncomputable def zqG:Code:=Tryz.f108.body.getD .skip
noncomputable def zIx:List ResultVar:=Tryz.f108.results.toList
def zkp:List AV:=t0::t1::ux 17 []
def zIv:List Bool:=zko 1
noncomputable def zIt:Code:=zaq [1,0,0,0] zqG
def zIs:AExit→List AV→zaa→Prop:=zas tP zko [1,0,0] zqG (zay tP zIx K)
def zyJ:Prop:=ALoop tP zIt (zIs K) (zkp t0 t1) H
def zqF:Prop:=zah 1 t1 λt8=>zac .gtr false t8 (.int .i64 0) λt9=>zag t9 (ACalls tP zhb [t0,t1] H λt13 H=>zaz t13 0 λt14=>zaz t13 1 λt15=>Kb1 (zkp t1 t15) H) (K t0 H)
def zyI:Prop:=zyJ t0 t1 H K
def zkq:Nat→List Bool | 2=>rl false [0,1,2,1,18] | _=>[]
noncomputable def zqJ:Code:=Tryz.f110.body.getD .skip
noncomputable def zIK:List ResultVar:=Tryz.f110.results.toList
def zks:List AV:=t0::ux 2 (t3::ux 18 [])
def zII:List Bool:=zkq 2
noncomputable def zIG:Code:=zaq [1,1,0,0,0] zqJ
def zIF:AExit→List AV→zaa→Prop:=zas tP zkq [1,1,0,0] zqJ (zay tP zIK K)
def zyN:Prop:=ALoop tP zIG (zIF K) (zks t0 t3) H
def zkr:Prop:=zac .gtr false t3 (.int .i64 0) λt7=>zad t7 true H (λK'=>K' t0 H) λt9 H=>zad t7 true H (λK'=>K' t3 H) λt10 H=>zad t7 true H (λK'=>zac .sub false t10 (.int .i64 1) (K' · H)) λt11 H=>zad t7 true H (λK'=>zai 1 t9 t11 (K' · H)) λt12 H=>zad t7 true H (λK'=>zae false 1 t12 H (K' · H)) λt13 H=>zad t7 true H (λK'=>zac .eql false t13 (.int .u32 0) (K' · H)) λt14 H=>zaj t7 t14 (.bool false) λt15=>zag t15 (zac .sub false t3 (.int .i64 1) λt17=>Kb2 (zks t0 t17) H) (zaR 1 1 t0 none (some t3) λt20=>zaw zbk 1 4 .snil t20 H λt21 H=>K t21 H)
def zyM:Prop:=zah 1 t0 λt5=>zyN t0 t5 H K
def zld:Nat→List Bool | 4=>rl false [0,2,4,3,31] | _=>[]
noncomputable def zrw:Code:=Tryz.f150.body.getD .skip
noncomputable def zLb:List ResultVar:=Tryz.f150.results.toList
def zle:List AV:=t0::t1::ux 4 (t6::t7::t8::ux 31 [])
def zK9:List Bool:=zld 4
noncomputable def zK7:Code:=zaq [1,1,1,0,1,0,0] zrw
def zK6:AExit→List AV→zaa→Prop:=zas tP zld [1,1,1,0,1,0] zrw (zay tP zLb K)
def zzv:Prop:=ALoop tP zK7 (zK6 K) (zle t0 t1 t6 t7 t8) H
def zrv:Prop:=zac .geq false t8 (.int .i64 0) λt16=>zag t16 (zac .mul false t7 (.int .u64 1000000000) λt20=>zai 1 t0 t8 λt23=>zae false 1 t23 H λt24=>za4 .u64 t24 λt25=>zac .add false t20 t25 λt26=>zac .quo false t26 t1 λt31=>za4 .u32 t31 λt32=>zai 1 t6 t8 λt33=>zan 1 t33 t32 H λH=>zac .rem false t26 t1 λt36=>zac .sub false t8 (.int .i64 1) λt18=>Kb4 (zle t0 t1 t6 t36 t18) H) (ACalls tP zfY [t6] H λt38 H=>zaD [t38,t7] (K · H))
def zzu:Prop:=zah 1 t0 λt10=>zbp 4 [(.int .u32 0)] t10 t10 H λt11 H=>zah 1 t0 λt13=>zac .sub false t13 (.int .i64 1) λt14=>zzv t0 t1 t11 (.int .u64 0) t14 H K
def zRX (_:Nat):List Bool:=[]
noncomputable def zRY:Code:=Tryz.f57.body.getD .skip
def zmZ:Prop:=zar [(.bool false),.snil,.snil] [(0,1),(1,1),(2,1)] [(0,t0),(1,t1),(2,t2)] λt49=>zan 3 t6 t49 H λH=>zae true 3 t6 H λr0=>K r0 H
def zBZ:Prop:=zax [(.bool false),.snil,.snil] H λt6 H=>ACalls tP ziL [t1] H λt9 H=>ACalls tP ziL [t2] H λt11 H=>zah 1 t9 λt13=>zac .eql false t13 (.int .i64 0) λt14=>zad t14 false H (λK'=>K' t11 H) λt16 H=>zad t14 false H (λK'=>zah 1 t16 (K' · H)) λt17 H=>zad t14 false H (λK'=>zac .eql false t17 (.int .i64 0) (K' · H)) λt18 H=>zaj t14 (.bool true) t18 λt19=>zag t19 (zau 1 [(.int .u32 0)] 1 [(0,(.int .u32 1))] λt20=>zar [(.bool false),.snil,.snil] [(0,1),(1,1),(2,1)] [(2,t20)] λt21=>zan 3 t6 t21 H λH=>zae true 3 t6 H λr0=>K r0 H) (ACalls tP zoI [t9,t11] H λt24 H=>zah 1 t24 λt26=>zac .neq false t26 (.int .i64 1) λt27=>zad t27 false H (λK'=>K' t24 H) λt29 H=>zad t27 false H (λK'=>zai 1 t29 (.int .i64 0) (K' · H)) λt30 H=>zad t27 false H (λK'=>zae false 1 t30 H (K' · H)) λt31 H=>zad t27 false H (λK'=>zac .neq false t31 (.int .u32 1) (K' · H)) λt32 H=>zaj t27 (.bool true) t32 λt33=>zag t33 (ACalls tP zhb [t9,t24] H λt37 H=>zaz t37 0 λt38=>zaz t37 1 λt39=>ACalls tP zhb [t11,t24] H λt43 H=>zaz t43 0 λt44=>zaz t43 1 λt45=>zmZ t0 t38 t44 t6 H K) (zmZ t0 t9 t11 t6 H K))
def zyL:Nat→List Bool | 9=>rl false [0,2,6,3,79] | 13=>rl false [0,2,6,4,78] | 16=>rl false [0,2,6,4,78] | _=>[]
noncomputable def zqH:Code:=Tryz.f109.body.getD .skip
noncomputable def zIE:List ResultVar:=Tryz.f109.results.toList
def zIB:List AV:=t0::t1::ux 6 (t8::t9::t10::ux 79 [])
noncomputable def zIA:Code:=zaq [1,1,1,1,1,0,1,0,0] zqH
def zIz:AExit→List AV→zaa→Prop:=zas tP zyL [1,1,1,1,1,0,1,0] zqH (zay tP zIE K)
def zIC:Prop:=ALoop tP zIA (zIz K) (zIB t0 t1 t8 t9 t10) H
def zyK:Prop:=ACalls tP zoH [t0,t1] H λt14 H=>zac .lss false t14 (.int .i64 0) λt15=>zag t15 (ACalls tP zfY [t0] H λt17 H=>zaD [.snil,t17] (K · H)) (zah 1 t1 λt19=>zac .eql false t19 (.int .i64 1) λt20=>zag t20 (zai 1 t1 (.int .i64 0) λt24=>zae false 1 t24 H λt25=>za4 .u64 t25 λt26=>ACalls tP zoY [t0,t26] H λt27 H=>zaz t27 0 λt28=>zaz t27 1 λt29=>ACalls tP zho [t29] H λt32 H=>zaD [t28,t32] (K · H)) (zah 1 t0 λt34=>zbp 4 [(.int .u32 0)] t34 t34 H λt35 H=>zah 1 t0 λt37=>zac .sub false t37 (.int .i64 1) λt38=>zIC t0 t1 t35 .snil t38 H K))
variable {t0 t1 t2 t3 t4 t5 t6 t7 t8 t9 t10} {H} {K} {Kb1 Kb2 Kb4 Kb6}
theorem zQB (h:HSc H→zBt t0 H K):ACalls tP zpn [t0] H K:=
 acb zQz Tryz.func36 zQA (by kernel_rfl) (by kernel_rfl) h
theorem zSA (Inv:Nat→AV→AV→zaa→Prop) (n:Nat) (h0:HSc H→Inv n t0 t3 H)
  (ac:Rd2 (λt0=>λt3=>zm8 t0 t3) (λt0=>λt3=>λH Kb2=>ztD t0 t3 H K Kb2) H Inv):zm9 t0 t3 H K:=
 lp2 (M:=zm7) zSB t0 t3 (by kernel_rfl) Inv n h0 ac
theorem zSC (h:HSc H→zB7 t0 H K):ACalls tP zho [t0] H K:=
 acb zm7 Tryz.func71 ztE (by kernel_rfl) (by kernel_rfl) h
theorem zIh (Inv:Nat→AV→zaa→Prop) (n:Nat) (h0:HSc H→Inv n t5 H)
  (ac:Rd1 (λt5=>zki t0 t1 t5) (λt5=>λH Kb6=>zhU t0 t1 t5 H K Kb6) H Inv):zyF t0 t1 t5 H K:=
 lp1 (M:=zkh) zIi t5 (by kernel_rfl) Inv n h0 ac
theorem zIj (h:HSc H→zkg t0 t1 H K):ACalls tP zoH [t0,t1] H K:=
 acb zkh Tryz.func105 zqD (by kernel_rfl) (by kernel_rfl) h
theorem zIo (Inv:Nat→AV→AV→AV→zaa→Prop) (n:Nat) (h0:HSc H→Inv n t3 t4 t5 H)
  (ac:Rd3 (λt3=>λt4=>λt5=>zkl t0 t3 t4 t5) (λt3=>λt4=>λt5=>λH Kb4=>zkk t0 t3 t4 t5 H K Kb4) H Inv):zkn t0 t3 t4 t5 H K:=
 lp3 (M:=zkj) zIp t3 t4 t5 (by kernel_rfl) Inv n h0 ac
theorem zIq (h:HSc H→zyG t0 H K):ACalls tP ziL [t0] H K:=
 acb zkj Tryz.func107 zqE (by kernel_rfl) (by kernel_rfl) h
theorem zIu (Inv:Nat→AV→AV→zaa→Prop) (n:Nat) (h0:HSc H→Inv n t0 t1 H)
  (ac:Rd2 (λt0=>λt1=>zkp t0 t1) (λt0=>λt1=>λH Kb1=>zqF t0 t1 H K Kb1) H Inv):zyJ t0 t1 H K:=
 lp2 (M:=zko) zIv t0 t1 (by kernel_rfl) Inv n h0 ac
theorem zIw (h:HSc H→zyI t0 t1 H K):ACalls tP zoI [t0,t1] H K:=
 acb zko Tryz.func108 zqG (by kernel_rfl) (by kernel_rfl) h
theorem zIH (Inv:Nat→AV→zaa→Prop) (n:Nat) (h0:HSc H→Inv n t3 H)
  (ac:Rd1 (λt3=>zks t0 t3) (λt3=>λH Kb2=>zkr t0 t3 H K Kb2) H Inv):zyN t0 t3 H K:=
 lp1 (M:=zkq) zII t3 (by kernel_rfl) Inv n h0 ac
theorem zIJ (h:HSc H→zyM t0 H K):ACalls tP zfY [t0] H K:=
 acb zkq Tryz.func110 zqJ (by kernel_rfl) (by kernel_rfl) h
theorem zK8 (Inv:Nat→AV→AV→zaa→Prop) (n:Nat) (h0:HSc H→Inv n t7 t8 H)
  (ac:Rd2 (λt7=>λt8=>zle t0 t1 t6 t7 t8) (λt7=>λt8=>λH Kb4=>zrv t0 t1 t6 t7 t8 H K Kb4) H Inv):zzv t0 t1 t6 t7 t8 H K:=
 lp2 (M:=zld) zK9 t7 t8 (by kernel_rfl) Inv n h0 ac
theorem zLa (h:HSc H→zzu t0 t1 H K):ACalls tP zoY [t0,t1] H K:=
 acb zld Tryz.func150 zrw (by kernel_rfl) (by kernel_rfl) h
theorem zRZ (h:HSc H→zBZ t0 t1 t2 H K):ACalls tP zf5 [t0,t1,t2] H K:=
 acb zRX Tryz.func57 zRY (by kernel_rfl) (by kernel_rfl) h
theorem zID (h:HSc H→zyK t0 t1 H K):ACalls tP zhb [t0,t1] H K:=
 acb zyL Tryz.func109 zqH (by kernel_rfl) (by kernel_rfl) h
end
end Go.Proofs.YtdmamdnkcefmmaaGreatDoor
namespace Go.Abs
def zap:List Nat→Nat
 | []=>0
 | x::l=>x+1000000000*zap l
def lim (n:Nat):List Nat:=if _h:n=0 then [] else n % 1000000000::lim (n / 1000000000)
termination_by n
decreasing_by exact Nat.div_lt_self (by omega) (by decide)
@[simp] theorem zvZ:lim 0=[]:=by rw[lim];rfl
theorem zb9 {n:Nat} (h:n≠0):lim n=n % 1000000000::lim (n / 1000000000):=by rw[lim,dif_neg h]
theorem zbK (n:Nat):zap (lim n)=n:=by
 induction n using Nat.strongRecOn with
 | _ n ih=>
  by_cases h:n=0
  ·subst h;simp[zap]
  ·rw[zb9 h,zap,ih _ (Nat.div_lt_self (by omega) (by decide))];exact Nat.mod_add_div n 1000000000
theorem zch (n:Nat):∀ x∈lim n,x<1000000000:=by
 induction n using Nat.strongRecOn with
 | _ n ih=>
  by_cases h:n=0
  ·subst h;simp
  ·rw[zb9 h];intro x hx;rcases List.mem_cons.1 hx with rfl | hx
   ·exact Nat.mod_lt _ (by decide)
   ·exact ih _ (Nat.div_lt_self (by omega) (by decide)) x hx
theorem lim_nil {n:Nat}:lim n=[]↔n=0:=by
 by_cases h:n=0
 ·simp[h]
 ·rw[zb9 h];simp[h]
def zbA:List Nat→List Nat
 | []=>[]
 | x::l=>if x=0∧zbA l=[] then [] else x::zbA l
theorem zg6:∀ (a b:List Nat),zap (a++b)=zap a+1000000000 ^ a.length*zap b
 | [],b=>by simp[zap]
 | x::a,b=>by simp only[List.cons_append,zap,zg6 a b,List.length_cons,Nat.pow_succ];grind
theorem zfo:∀ (l:List Nat),(∀ x∈l,x<1000000000)→zbA l=lim (zap l)
 | [],_=>by simp[zbA,zap]
 | x::l,h=>by
  have hx:=h x (by simp);have ih:=zfo l (λy hy=>h y (by simp[hy]));rw[zbA,zap,ih];have e1:(x+1000000000*zap l) % 1000000000=x:=by rw[Nat.add_mul_mod_self_left,Nat.mod_eq_of_lt hx]
  have e2:(x+1000000000*zap l) / 1000000000=zap l:=by rw[Nat.add_mul_div_left _ _ (by decide),Nat.div_eq_of_lt hx];omega
  by_cases h0:x=0∧lim (zap l)=[]
  ·rw[if_pos h0];have:=lim_nil.1 h0.2;rw[this,h0.1];simp
  ·rw[if_neg h0];have:x+1000000000*zap l≠0:=by
    intro h1;refine h0 ⟨by omega,lim_nil.2 ?_⟩;have:1000000000*zap l=0:=by omega
    rcases Nat.mul_eq_zero.1 this with h2 | h2
    ·cases h2
    ·exact h2
   rw[zb9 this,e1,e2]
theorem zeD:∀ (l:List Nat),(∀ x∈l,x<1000000000)→zap l<1000000000 ^ l.length
 | [],_=>by simp[zap]
 | x::l,h=>by have hx:=h x (by simp);have ih:=zeD l (λy hy=>h y (by simp[hy]));simp only[zap,List.length_cons,Nat.pow_succ];have:1000000000*(zap l+1)≤1000000000*1000000000 ^ l.length:=Nat.mul_le_mul_left _ ih;rw[Nat.mul_comm (1000000000 ^ l.length)];rw[Nat.mul_succ]at this;omega
theorem zbQ {n k:Nat} (h:n<1000000000 ^ k):(lim n).length≤k:=by
 induction k generalizing n with
 | zero => have : n = 0 := by simp at h; omega
           subst this;simp
 | succ k ih=>
  by_cases h0:n=0
  ·subst h0;simp
  ·rw[zb9 h0,List.length_cons];have:=ih (n:=n / 1000000000) (Nat.div_lt_of_lt_mul (by rw[Nat.pow_succ,Nat.mul_comm]at h;exact h));omega
theorem zvY {n:Nat} (h:n≠0):1000000000 ^ ((lim n).length-1)≤n:=by
 induction n using Nat.strongRecOn with
 | _ n ih=>
  rw[zb9 h,List.length_cons,Nat.add_sub_cancel];by_cases h1:n / 1000000000=0
  ·rw[h1];simp;omega
  ·have:=ih (n / 1000000000) (Nat.div_lt_self (by omega) (by decide)) h1;have hl:0<(lim (n / 1000000000)).length:=by rw[zb9 h1];simp
   have e:(lim (n / 1000000000)).length=(lim (n / 1000000000)).length-1+1:=by omega
   rw[e,Nat.pow_succ];calc _≤(n / 1000000000)*1000000000:=Nat.mul_le_mul_right _ this
    _≤n:=Nat.div_mul_le_self _ _
theorem ze9 {n:Nat} (h0:n≠0) (h:n<1000000000):lim n=[n]:=by rw[zb9 h0,Nat.mod_eq_of_lt h,Nat.div_eq_of_lt h];simp
theorem zow:∀ (l:List Nat) (j:Nat) (x:Nat) (h:j<l.length),zap (l.set j x)+l[j]*1000000000 ^ j=zap l+x*1000000000 ^ j
 | [],j,x,h=>by simp at h
 | y::l,0,x,h=>by simp[zap];omega
 | y::l,j+1,x,h=>by have:=zow l j x (by simpa using h);simp only[List.set_cons_succ,zap,List.getElem_cons_succ,Nat.pow_succ];grind
theorem zfX (l:List Nat) (i:Nat) (h:i<l.length):zap (l.take (i+1))=zap (l.take i)+l[i]*1000000000 ^ i:=by rw[List.take_succ_eq_append_getElem h,zg6];simp[zap,Nat.min_eq_left (Nat.le_of_lt h)];exact Nat.mul_comm _ _
theorem zEZ (n:Nat):zap (List.replicate n 0)=0:=by
 induction n with
 | zero=>rfl
 | succ n ih=>rw[List.replicate_succ,zap,ih]
theorem zg7 (l:List Nat) (i:Nat) (h:i<l.length):zap (l.drop i)=l[i]+1000000000*zap (l.drop (i+1)):=by rw[List.drop_eq_getElem_cons h,zap]
theorem ziH {a b:Nat} (h:(lim a).length<(lim b).length):a<b:=by
 by_cases hb:b=0
 ·subst hb;simp at h
 ·have h1:=zvY hb;have h2:=zeD (lim a) (zch a);rw[zbK]at h2;exact Nat.lt_of_lt_of_le h2 (Nat.le_trans (Nat.pow_le_pow_right (by decide) (by omega)) h1)
end Go.Abs
namespace Go.Abs
open Go Go.RowKit

section
variable {H:zaa} {K:AV→zaa→Prop} {k:AV→Prop}
@[simp] theorem zVO (p q:Prop):aIf true p q=p:=propext Iff.rfl
@[simp] theorem zVN (p q:Prop):aIf false p q=q:=propext Iff.rfl
theorem zuB (b:Bool) (p q:Prop):zag (.bool b) p q=(if b=true then p else q):=rfl
@[simp] theorem zXi (p q:Prop):zag (.bool true) p q=p:=propext Iff.rfl
@[simp] theorem zXh (p q:Prop):zag (.bool false) p q=q:=propext Iff.rfl
@[simp] theorem zWG (x y:AV):zaj (.bool true) x y k=k x:=propext Iff.rfl
@[simp] theorem zWF (x y:AV):zaj (.bool false) x y k=k y:=propext Iff.rfl
@[simp] theorem zVE (p q:Prop):zdf (.bool true) true p q=p:=propext Iff.rfl
@[simp] theorem zVB (p q:Prop):zdf (.bool false) false p q=p:=propext Iff.rfl
@[simp] theorem zVD (p q:Prop):zdf (.bool true) false p q=q:=propext Iff.rfl
@[simp] theorem zVC (p q:Prop):zdf (.bool false) true p q=q:=propext Iff.rfl
@[simp] theorem zVF (want:Bool) (p q:Prop):zdf (.tup []) want p q=q:=propext Iff.rfl
@[simp] theorem zVy (p:(AV→zaa→Prop)→Prop) (J:AV→zaa→Prop):zad (.bool true) true H p J=p J:=propext Iff.rfl
@[simp] theorem zVv (p:(AV→zaa→Prop)→Prop) (J:AV→zaa→Prop):zad (.bool false) false H p J=p J:=propext Iff.rfl
@[simp] theorem zVx (p:(AV→zaa→Prop)→Prop) (J:AV→zaa→Prop):zad (.bool true) false H p J=J (.tup []) H:=propext Iff.rfl
@[simp] theorem zVw (p:(AV→zaa→Prop)→Prop) (J:AV→zaa→Prop):zad (.bool false) true H p J=J (.tup []) H:=propext Iff.rfl
@[simp] theorem zVz (want:Bool) (p:(AV→zaa→Prop)→Prop) (J:AV→zaa→Prop):zad (.tup []) want H p J=J (.tup []) H:=propext Iff.rfl
@[simp] theorem zXo (cs:List AV):(AV.agg cs).cs?=some cs:=rfl
@[simp] theorem zXr (j:IntKind) (n:Int):(AV.int j n).cs?=some [.int j n]:=rfl
@[simp] theorem zXp (b:Bool):(AV.bool b).cs?=some [.bool b]:=rfl
@[simp] theorem zXC (s:List UInt8):(AV.str s).cs?=some [.str s]:=rfl
@[simp] theorem zXA (es:List (List AV)) (t:Tok):(AV.sl es t).cs?=some [.sl es t]:=rfl
@[simp] theorem zXB:(AV.snil).cs?=some [.snil]:=rfl
@[simp] theorem zXz (i o:Nat):(AV.ptr i o).cs?=some [.ptr i o]:=rfl
@[simp] theorem zXt (i o l c:Nat):(AV.ms i o l c).cs?=some [.ms i o l c]:=rfl
@[simp] theorem zXq (f:Nat) (c:List AV):(AV.fn f c).cs?=some [.fn f c]:=rfl
@[simp] theorem zXw:(AV.nilp).cs?=some [.nilp]:=rfl
@[simp] theorem zXv:(AV.nili).cs?=some [.nili]:=rfl
@[simp] theorem zXy (i n:Nat):(AV.ov i n).cs?=some [.ov i n]:=rfl
@[simp] theorem zXD (i n o:Nat):(AV.vp i n o).cs?=some [.vp i n o]:=rfl
@[simp] theorem zXu:(AV.nilfn).cs?=some [.nilfn]:=rfl
@[simp] theorem zWt (cs:List AV):zax cs H K=K (.ptr H.length 0) (H++[.cells cs]):=propext Iff.rfl
@[simp] theorem zUP (cs:List AV):zav (.agg cs) H K=K (.ptr H.length 0) (H++[.cells cs]):=propext Iff.rfl
@[simp] theorem zUT (j:IntKind) (n:Int):zav (.int j n) H K=K (.ptr H.length 0) (H++[.cells [.int j n]]):=propext Iff.rfl
@[simp] theorem zU0 (s:List UInt8):zav (.str s) H K=K (.ptr H.length 0) (H++[.cells [.str s]]):=propext Iff.rfl
@[simp] theorem zUQ (b:Bool):zav (.bool b) H K=K (.ptr H.length 0) (H++[.cells [.bool b]]):=propext Iff.rfl
@[simp] theorem zUY (es:List (List AV)) (t:Tok):zav (.sl es t) H K=K (.ptr H.length 0) (H++[.cells [.sl es t]]):=propext Iff.rfl
@[simp] theorem zU4 (n off:Nat) (cs:List AV):zbo true n off cs k=(off+n≤cs.length∧k (.agg ((cs.drop off).take n))):=propext Iff.rfl
theorem zc0 {cs:List AV} {off:Nat} {c:AV} (n:Nat) (h:cs[off]?=some c):zbo false n off cs k=k c:=by simp[zbo,h]
@[simp] theorem zU7 (n:Nat) (c:AV) (cs:List AV):zbo false n 0 (c::cs) k=k c:=propext Iff.rfl
@[simp] theorem zU6 (n i:Nat) (c:AV) (cs:List AV):zbo false n (i+1) (c::cs) k=zbo false n i cs k:=by simp[zbo]
@[simp] theorem zV8 (g:Bool) (n:Nat) (cs:List AV):zae g n (.view cs) H k=zbo g n 0 cs k:=propext Iff.rfl
def zit (g:Bool) (n off:Nat) (b:Option AB) (k:AV→Prop):Prop:=
 match b with
 | some (.cells cs)=>zbo g n off cs k
 | _=>False
@[simp] theorem zV2 (g:Bool) (n off:Nat) (cs:List AV):zit g n off (some (.cells cs)) k=zbo g n off cs k:=propext Iff.rfl
@[simp] theorem zV7 (g:Bool) (n id off:Nat):zae g n (.ptr id off) H k=zit g n off H[id]? k:=by rw[zgB];rfl
def zeW (n off id:Nat) (xs:Option (List AV)) (b:Option AB) (H:zaa) (K:zaa→Prop):Prop:=
 match xs,b with
 | some xs,some (.cells cs)=>(xs.length=n∧off+n≤cs.length∧xs.all AV.known=true)∧K (H.set id (.cells (cs.take off++xs++cs.drop (off+n))))
 | _,_=>False
@[simp] theorem zDj {K':zaa→Prop} (n off id:Nat) (xs cs:List AV):zeW n off id (some xs) (some (.cells cs)) H K'=((xs.length=n∧off+n≤cs.length∧xs.all AV.known=true)∧K' (H.set id (.cells (cs.take off++xs++cs.drop (off+n))))):=propext Iff.rfl
@[simp] theorem zXd {K':zaa→Prop} (n id off:Nat) (x:AV):zan n (.ptr id off) x H K'=zeW n off id x.cs? H[id]? H K':=by
 cases hx:x.cs? with
 | none=>simp[zev,zeW,hx]
 | some xs=>cases hb:H[id]? with
  | none=>simp[zev,zeW,hx,hb]
  | some b=>cases b <;> simp[zev,zeW,hx,hb]
def zuw (g:Bool) (n m off:Nat) (b:Option AB) (k:AV→Prop):Prop:=
 match b with
 | some (.vec _ _ m' cs)=>m'=m∧zbo g n off cs k
 | _=>False
@[simp] theorem zV5 (g:Bool) (n m off e s m':Nat) (cs:List AV):zuw g n m off (some (.vec e s m' cs)) k=(m'=m∧zbo g n off cs k):=propext Iff.rfl
@[simp] theorem zV9 (g:Bool) (n id m off:Nat):zae g n (.vp id m off) H k=zuw g n m off H[id]? k:=by rw[zgB];rfl
def zgD (n m off id:Nat) (xs:Option (List AV)) (b:Option AB) (H:zaa) (K':zaa→Prop):Prop:=
 match xs,b with
 | some xs,some (.vec e s m' cs)=>(m'=m∧xs.length=n∧off+n≤cs.length∧xs.all AV.known=true)∧K' (H.set id (.vec e s m' (cs.take off++xs++cs.drop (off+n))))
 | _,_=>False
@[simp] theorem zXb {K':zaa→Prop} (n m off id e s m':Nat) (xs cs:List AV):zgD n m off id (some xs) (some (.vec e s m' cs)) H K'=((m'=m∧xs.length=n∧off+n≤cs.length∧xs.all AV.known=true)∧K' (H.set id (.vec e s m' (cs.take off++xs++cs.drop (off+n))))):=propext Iff.rfl
@[simp] theorem zXe {K':zaa→Prop} (n id m off:Nat) (x:AV):zan n (.vp id m off) x H K'=zgD n m off id x.cs? H[id]? H K':=by
 cases hx:x.cs? with
 | none=>simp[zev,zgD,hx]
 | some xs=>cases hb:H[id]? with
  | none=>simp[zev,zgD,hx,hb]
  | some b=>cases b <;> simp[zev,zgD,hx,hb]
def znJ (e size bytes n id:Nat) (ys:List (List AV)) (b:Option AB) (H:zaa) (K:AV→zaa→Prop):Prop:=
 match b with
 | some (.vec e' s' n' cs)=>((e'=e∧s'=size∧n'=n)∧(n+ys.length)*bytes≤140737488355328∧n+ys.length≤9223372036854775807)∧K (.ov id (n+ys.length)) (H.set id (.vec e size (n+ys.length) (cs++ys.flatten)))
 | _=>False
@[simp] theorem zUL (e size bytes n id e' s' n':Nat) (ys:List (List AV)) (cs:List AV):znJ e size bytes n id ys (some (.vec e' s' n' cs)) H K=(((e'=e∧s'=size∧n'=n)∧(n+ys.length)*bytes≤140737488355328∧n+ys.length≤9223372036854775807)∧K (.ov id (n+ys.length)) (H.set id (.vec e size (n+ys.length) (cs++ys.flatten)))):=propext Iff.rfl
@[simp] theorem zUK (e size bytes id n:Nat) (ys:List (List AV)):zaI e size bytes (.ov id n) ys H K=znJ e size bytes n id ys H[id]? H K:=by unfold zaI znJ;rfl
@[simp] theorem zVI (ag id m:Nat) (j:IntKind) (n:Int):zai ag (.ov id m) (.int j n) k=((0≤n∧n<m)∧k (.vp id m (n.toNat*ag))):=zis ..
@[simp] theorem zVR (id n:Nat):zah 1 (.ov id n) k=k (.int .i64 n):=propext Iff.rfl
@[simp] theorem zVr (off i m o:Nat):zaf off (.vp i m o) k=k (.vp i m (o+off)):=propext Iff.rfl
@[simp] theorem zWC (i m o:Nat):za5 (.vp i m o) k=k (.vp i m o):=propext Iff.rfl
@[simp] theorem zUW (i n:Nat):zav (.ov i n) H K=K (.ptr H.length 0) (H++[.cells [.ov i n]]):=propext Iff.rfl
@[simp] theorem zXW (i n:Nat):(AV.ov i n).known=true:=rfl
@[simp] theorem zYg (m i n:Nat):(AV.ov i n).scA m=decide (i<m):=rfl
@[simp] theorem zWA (i o:Nat):za5 (.ptr i o) k=k (.ptr i o):=propext Iff.rfl
@[simp] theorem zWB (cs:List AV):za5 (.view cs) k=k (.view cs):=propext Iff.rfl
@[simp] theorem zWz (f:Nat) (c:List AV):za5 (.fn f c) k=k (.fn f c):=propext Iff.rfl
@[simp] theorem zVp (off i o:Nat):zaf off (.ptr i o) k=k (.ptr i (o+off)):=propext Iff.rfl
@[simp] theorem zVq (off:Nat) (cs:List AV):zaf off (.view cs) k=(off≤cs.length∧k (.view (cs.drop off))):=zuv ..
@[simp] theorem zVm (g:Bool) (n off:Nat) (cs:List AV):zdL g n off (.agg cs) k=zbo g n off cs k:=propext Iff.rfl
@[simp] theorem zVJ (ag:Nat) (es:List (List AV)) (t:Tok) (j:IntKind) (n:Int):zai ag (.sl es t) (.int j n) k=((0≤n∧n<es.length)∧((es.getD n.toNat []).length=ag∧k (.view (es.getD n.toNat [])))):=zis ..
@[simp] theorem zVH (ag id off len cap:Nat) (j:IntKind) (n:Int):zai ag (.ms id off len cap) (.int j n) k=((0≤n∧n<len)∧k (.ptr id (off+n.toNat*ag))):=zis ..
@[simp] theorem zVL (s:List UInt8) (j:IntKind) (n:Int):zbE (.str s) (.int j n) k=((0≤n∧n<s.length)∧k (.int .u8 (s.getD n.toNat 0).toNat)):=propext Iff.rfl
@[simp] theorem zVU (s:List UInt8):zah 0 (.str s) k=k (.int .i64 s.length):=propext Iff.rfl
@[simp] theorem zVS (es:List (List AV)) (t:Tok):zah 1 (.sl es t) k=k (.int .i64 es.length):=propext Iff.rfl
@[simp] theorem zVT:zah 1 .snil k=k (.int .i64 0):=propext Iff.rfl
@[simp] theorem zVQ (i o l c:Nat):zah 1 (.ms i o l c) k=k (.int .i64 l):=propext Iff.rfl
@[simp] theorem zDb (d:Nat) (q:Nat→Prop):zbJ none d q=q d:=propext Iff.rfl
@[simp] theorem zDa (j:IntKind) (n:Int) (d:Nat) (q:Nat→Prop):zbJ (some (.int j n)) d q=(0≤n∧q n.toNat):=propext Iff.rfl
@[simp] theorem zWh {K:AV→zaa→Prop} {H:zaa} (e s b:Nat) (c:Int):zeu e s b (.int .i64 c) H K=((0≤c∧c*b≤140737488355328∧c≤9223372036854775807)∧K (.ov H.length 0) (H++[.vec e s 0 []])):=propext Iff.rfl
@[congr] theorem zWg {K:AV→zaa→Prop} {H H':zaa} {e s b:Nat} {c c':AV} (hc:c=c') (hH:H=H'):zeu e s b c H K=zeu e s b c' H' K:=by rw[hc,hH]
@[simp] theorem zWk {K:AV→Prop} (k k':IntKind) (m n:Int):zfN (.int k m) (.int k' n) K=K (.int k (if n>m then n else m)):=propext Iff.rfl
@[congr] theorem zWj {K:AV→Prop} {x x' y y':AV} (h:x=x') (hy:y=y'):zfN x y K=zfN x' y' K:=by rw[h,hy]
@[simp] theorem zW7 (ag id n:Nat) (lo hi:Option AV):zaR 1 ag (.ov id n) lo hi k=zbJ hi n λh=>zbJ lo 0 λl=>(l≤h∧h=n)∧k (.os id n l ag):=propext Iff.rfl
@[simp] theorem zXx (i n l z:Nat):(AV.os i n l z).cs?=some [.os i n l z]:=rfl
def zuu (size id n lo z id' n' lo' z':Nat) (b:Option AB) (H:zaa) (K:AV→zaa→Prop):Prop:=
 match b with
 | some (.vec e s m cs) => (((id' = id ∧ n' = n ∧ m = n) ∧ z = size ∧ z' = size ∧ s = size) ∧ cs.all AV.known = true) ∧
    K (.int .i64 ((min (n-lo') (n-lo):Nat):Int)) (H.set id (.vec e s m (ze7 cs (lo*size) ((cs.drop (lo'*size)).take (min (n-lo') (n-lo)*size)))))
 | _=>False
@[simp] theorem zVe {K:AV→zaa→Prop} (size id n lo z id' n' lo' z':Nat):zgz size (.os id n lo z) (.os id' n' lo' z') H K=zuu size id n lo z id' n' lo' z' H[id]? H K:=propext Iff.rfl
@[simp] theorem zVd {K : AV → zaa → Prop} (size id n lo z id' n' lo' z' e s m : Nat) (cs : List AV) : zuu size id n lo z id' n' lo' z' (some (.vec e s m cs)) H K = ((((id' = id ∧ n' = n ∧ m = n) ∧ z = size ∧ z' = size ∧ s = size) ∧ cs.all AV.known = true) ∧
        K (.int .i64 ((min (n-lo') (n-lo):Nat):Int)) (H.set id (.vec e s m (ze7 cs (lo*size) ((cs.drop (lo'*size)).take (min (n-lo') (n-lo)*size)))))):=propext Iff.rfl
@[simp] theorem zDi (s:List UInt8) (lo hi:Option AV):zaR 0 0 (.str s) lo hi k=zbJ hi s.length λh=>zbJ lo 0 λl=>(l≤h∧h≤s.length)∧k (.str ((s.take h).drop l)):=propext Iff.rfl
@[simp] theorem zW8 (ag:Nat) (es:List (List AV)) (t:Tok) (lo hi:Option AV):zaR 1 ag (.sl es t) lo hi k=zbJ hi es.length λh=>zbJ lo 0 λl=>(l≤h∧h≤es.length∧∀ c∈es,c.length=ag)∧k (.sl ((es.take h).drop l) .none):=propext Iff.rfl
@[simp] theorem zUH (b:Bool) (j:IntKind) (m n:Int):zac .add b (.int j m) (.int j n) k=k (.int j (j.wrap (m+n))):=by simp[zce]
@[simp] theorem zXf (b:Bool) (j:IntKind) (m n:Int):zac .sub b (.int j m) (.int j n) k=k (.int j (j.wrap (m-n))):=by simp[zce]
@[simp] theorem zWn (b:Bool) (j:IntKind) (m n:Int):zac .mul b (.int j m) (.int j n) k=k (.int j (j.wrap (m*n))):=by simp[zce]
@[simp] theorem zVh (b:Bool) (j:IntKind) (m n:Int):zac .eql b (.int j m) (.int j n) k=k (.bool (m == n)):=by simp[zce]
@[simp] theorem zWq (b:Bool) (j:IntKind) (m n:Int):zac .neq b (.int j m) (.int j n) k=k (.bool (m != n)):=by simp[zce]
@[simp] theorem zWa (b:Bool) (j:IntKind) (m n:Int):zac .lss b (.int j m) (.int j n) k=k (.bool (decide (m<n))):=by simp[zce]
@[simp] theorem zVV (b:Bool) (j:IntKind) (m n:Int):zac .leq b (.int j m) (.int j n) k=k (.bool (decide (m≤n))):=by simp[zce]
@[simp] theorem zVt (b:Bool) (j:IntKind) (m n:Int):zac .gtr b (.int j m) (.int j n) k=k (.bool (decide (m>n))):=by simp[zce]
@[simp] theorem zVs (b:Bool) (j:IntKind) (m n:Int):zac .geq b (.int j m) (.int j n) k=k (.bool (decide (m≥n))):=by simp[zce]
@[simp] theorem zVi (b:Bool) (s t:List UInt8):zac .eql b (.str s) (.str t) k=k (.bool (s == t)):=propext Iff.rfl
@[simp] theorem zWr (b:Bool) (s t:List UInt8):zac .neq b (.str s) (.str t) k=k (.bool (!(s == t))):=rfl
@[simp] theorem zUI (b:Bool) (s t:List UInt8):zac .add b (.str s) (.str t) k=(s.length+t.length≤9223372036854775807∧k (.str (s++t))):=zce ..
@[simp] theorem zVg (m n:Bool):zac .eql true (.bool m) (.bool n) k=k (.bool (m == n)):=by simp[zce]
@[simp] theorem zWp (m n:Bool):zac .neq true (.bool m) (.bool n) k=k (.bool (!(m == n))):=by simp[zce]
@[simp] theorem zWD (b:Bool):aUn .not (.bool b) k=k (.bool (!b)):=rfl
@[simp] theorem zWo (j:IntKind) (n:Int):aUn .neg (.int j n) k=k (.int j (j.wrap (0-n))):=rfl
@[simp] theorem zDe (j i:IntKind) (n:Int):za4 j (.int i n) k=k (.int j (j.wrap n)):=propext Iff.rfl
@[simp] theorem zVb (s:List UInt8):zdK (.str s) k=k (.str s):=propext Iff.rfl
@[simp] theorem zVj (v:AV) (vs:List AV):zaz (.tup (v::vs)) 0 k=k v:=propext Iff.rfl
@[simp] theorem zVl (v:AV) (vs:List AV) (i:Nat):zaz (.tup (v::vs)) (i+1) k=zaz (.tup vs) i k:=by simp[zaz]
@[simp] theorem zU9 (f:Nat) (caps:List AV):zcw f caps k=(caps.all AV.isB=true∧k (.fn f caps)):=propext Iff.rfl
@[simp] theorem zW4 (v:AV):zaD [v] k=k v:=propext Iff.rfl
@[simp] theorem zW5 (v u:AV) (vs:List AV):zaD (v::u::vs) k=((v::u::vs).all AV.isV=true∧k (.tup (v::u::vs))):=propext Iff.rfl
end


section
variable {H:zaa} {K:AV→zaa→Prop} {k:AV→Prop} {kh:zaa→Prop}
@[simp] theorem zXs (i:Nat):(AV.map i).cs?=some [.map i]:=rfl
@[simp] theorem zWm:zdM H K=K (.map H.length) (H++[.map []]):=propext Iff.rfl
def zfL (zero:AV) (ok:Bool) (s:List UInt8) (b:Option AB) (k:AV→Prop):Prop:=
 match b with
 | some (.map kvs)=>k (match ok with
   | true=>.tup [(zbL kvs s).getD zero,.bool (zbL kvs s).isSome]
   | false=>(zbL kvs s).getD zero)
 | _=>False
@[simp] theorem zV0 (z:AV) (ok:Bool) (id:Nat) (s:List UInt8):zdw z ok (.map id) (.str s) H k=zfL z ok s H[id]? k:=by unfold zdw zfL;rfl
@[simp] theorem zVX (z:AV) (s:List UInt8) (kvs:List (List UInt8 × AV)):zfL z false s (some (.map kvs)) k=k ((zbL kvs s).getD z):=propext Iff.rfl
@[simp] theorem zVY (z:AV) (s:List UInt8) (kvs:List (List UInt8 × AV)):zfL z true s (some (.map kvs)) k=k (.tup [(zbL kvs s).getD z,.bool (zbL kvs s).isSome]):=propext Iff.rfl
def zfM (id:Nat) (s:List UInt8) (x:AV) (b:Option AB) (H:zaa) (kh:zaa→Prop):Prop:=
 match b with
 | some (.map kvs)=>(match x with
   | .tup _=>False
   | x=>kh (H.set id (.map (zcz kvs s x))))
 | _=>False
@[simp] theorem zWf (id:Nat) (s:List UInt8) (x:AV):zcM (.map id) (.str s) x H kh=zfM id s x H[id]? H kh:=by unfold zcM zfM;rfl
@[simp] theorem zWb (id:Nat) (s:List UInt8) (b:Bool) (kvs:List (List UInt8 × AV)):zfM id s (.bool b) (some (.map kvs)) H kh=kh (H.set id (.map (zcz kvs s (.bool b)))):=propext Iff.rfl
@[simp] theorem zWd (id:Nat) (s:List UInt8) (j:IntKind) (n:Int) (kvs:List (List UInt8 × AV)):zfM id s (.int j n) (some (.map kvs)) H kh=kh (H.set id (.map (zcz kvs s (.int j n)))):=propext Iff.rfl
@[congr] theorem zWl {H':zaa} (hH:H=H'):zdM H K=zdM H' K:=by rw[hH]
@[congr] theorem zVZ {H':zaa} {z:AV} {ok:Bool} {m m' x x':AV} (hm:m=m') (hx:x=x') (hH:H=H'):zdw z ok m x H k=zdw z ok m' x' H' k:=by rw[hm,hx,hH]
@[congr] theorem zVW {z:AV} {ok:Bool} {s s':List UInt8} {b b':Option AB} (hs:s=s') (hb:b=b'):zfL z ok s b k=zfL z ok s' b' k:=by rw[hs,hb]
@[congr] theorem zWe {H':zaa} {m m' y y' x x':AV} (hm:m=m') (hy:y=y') (hx:x=x') (hH:H=H'):zcM m y x H kh=zcM m' y' x' H' kh:=by rw[hm,hy,hx,hH]
@[congr] theorem zWc {H':zaa} {id id':Nat} {s s':List UInt8} {x x':AV} {b b':Option AB} (hi:id=id') (hs:s=s') (hx:x=x') (hb:b=b') (hH:H=H'):zfM id s x b H kh=zfM id' s' x' b' H' kh:=by rw[hi,hs,hx,hb,hH]
end

section
variable {H H':zaa} {K:AV→zaa→Prop} {k:AV→Prop} {kh:zaa→Prop}
@[congr] theorem zVM {b b':Bool} {p q:Prop} (h:b=b'):aIf b p q=aIf b' p q:=by rw[h]
@[congr] theorem zXg {c c':AV} {p q:Prop} (h:c=c'):zag c p q=zag c' p q:=by rw[h]
@[congr] theorem zVA {c c':AV} {w:Bool} {p q:Prop} (h:c=c'):zdf c w p q=zdf c' w p q:=by rw[h]
@[congr] theorem zVu {c c':AV} {w:Bool} {p:(AV→zaa→Prop)→Prop} {J:AV→zaa→Prop} (h:c=c') (hH:H=H'):zad c w H p J=zad c' w H' p J:=by rw[h,hH]
@[congr] theorem zWE {c c' a a' b b':AV} (h:c=c') (ha:a=a') (hb:b=b'):zaj c a b k=zaj c' a' b' k:=by rw[h,ha,hb]
@[congr] theorem zUR {x x':AV} (h:x=x') (hH:H=H'):zav x H K=zav x' H' K:=by rw[h,hH]
@[congr] theorem zWs {x x':List AV} (h:x=x') (hH:H=H'):zax x H K=zax x' H' K:=by rw[h,hH]
@[congr] theorem zU5 {g:Bool} {n n' o o':Nat} {c c':List AV} (hn:n=n') (ho:o=o') (hc:c=c'):zbo g n o c k=zbo g n' o' c' k:=by rw[hn,ho,hc]
@[congr] theorem zV6 {g:Bool} {n:Nat} {x x':AV} (h:x=x') (hH:H=H'):zae g n x H k=zae g n x' H' k:=by rw[h,hH]
@[congr] theorem zV1 {g:Bool} {n o o':Nat} {b b':Option AB} (ho:o=o') (h:b=b'):zit g n o b k=zit g n o' b' k:=by rw[h,ho]
@[congr] theorem zXc {n:Nat} {a a' x x':AV} (ha:a=a') (h:x=x') (hH:H=H'):zan n a x H kh=zan n a' x' H' kh:=by rw[ha,h,hH]
@[congr] theorem zXa {n o o' i i':Nat} {x x':Option (List AV)} {b b':Option AB} (ho:o=o') (hi:i=i') (h:x=x') (hb:b=b') (hH:H=H'):zeW n o i x b H kh=zeW n o' i' x' b' H' kh:=by rw[ho,hi,h,hb,hH]
@[congr] theorem zVo {n:Nat} {x x':AV} (h:x=x'):zaf n x k=zaf n x' k:=by rw[h]
@[congr] theorem zVn {g:Bool} {n o:Nat} {x x':AV} (h:x=x'):zdL g n o x k=zdL g n o x' k:=by rw[h]
@[congr] theorem zVG {n:Nat} {x x' i i':AV} (h:x=x') (hi:i=i'):zai n x i k=zai n x' i' k:=by rw[h,hi]
@[congr] theorem zVK {x x' i i':AV} (h:x=x') (hi:i=i'):zbE x i k=zbE x' i' k:=by rw[h,hi]
@[congr] theorem zVP {u:Nat} {x x':AV} (h:x=x'):zah u x k=zah u x' k:=by rw[h]
@[congr] theorem zUO {x x':Option AV} {d d':Nat} {q:Nat→Prop} (h:x=x') (hd:d=d'):zbJ x d q=zbJ x' d' q:=by rw[h,hd]
@[congr] theorem zW6 {u e:Nat} {x x':AV} {l l' h h':Option AV} (hx:x=x') (hl:l=l') (hh:h=h'):zaR u e x l h k=zaR u e x' l' h' k:=by rw[hx,hl,hh]
@[congr] theorem zUN {o:BinOp} {b:Bool} {x x' y y':AV} (h:x=x') (hy:y=y'):zac o b x y k=zac o b x' y' k:=by rw[h,hy]
@[congr] theorem zXj {o:UnOp} {x x':AV} (h:x=x'):aUn o x k=aUn o x' k:=by rw[h]
@[congr] theorem zVc {o:IntKind} {x x':AV} (h:x=x'):za4 o x k=za4 o x' k:=by rw[h]
@[congr] theorem zVa {x x':AV} (h:x=x'):zdK x k=zdK x' k:=by rw[h]
@[congr] theorem zVk {x x':AV} {i:Nat} (h:x=x'):zaz x i k=zaz x' i k:=by rw[h]
@[congr] theorem zU8 {f:Nat} {x x':List AV} (h:x=x'):zcw f x k=zcw f x' k:=by rw[h]
@[congr] theorem zWy {x x':AV} (h:x=x'):za5 x k=za5 x' k:=by rw[h]
@[congr] theorem zU2 {z:List AV} {p:List (Nat × Nat)} {x x':List (Nat × AV)} (h:x=x'):zar z p x k=zar z p x' k:=by rw[h]
@[congr] theorem zU1 {e:Nat} {z:List AV} {l:Nat} {x x':List (Nat × AV)} (h:x=x'):zau e z l x k=zau e z l x' k:=by rw[h]
@[congr] theorem zWi {b:Nat} {z:List AV} {l l' c c':AV} (h:l=l') (hc:c=c') (hH:H=H'):zbp b z l c H K=zbp b z l' c' H' K:=by rw[h,hc,hH]
@[congr] theorem zUM {e s b:Nat} {x x' y y':AV} (h:x=x') (hy:y=y') (hH:H=H'):zaw e s b x y H K=zaw e s b x' y' H' K:=by rw[h,hy,hH]
@[congr] theorem zUJ {e s b:Nat} {x x':AV} {y y':List (List AV)} (h:x=x') (hy:y=y') (hH:H=H'):zaI e s b x y H K=zaI e s b x' y' H' K:=by rw[h,hy,hH]
@[congr] theorem zW9 {x x':AV} {q:List (List AV)→Prop} (h:x=x'):zaL x q=zaL x' q:=by rw[h]
@[congr] theorem zUF {P:Program} {f:FuncId} {x x':List AV} (h:x=x') (hH:H=H'):ACalls P f x H K=ACalls P f x' H' K:=by rw[h,hH]
@[congr] theorem zU3 {P:Program} {g g':AV} {x x':List AV} (hg:g=g') (h:x=x') (hH:H=H'):aCallV P g x H K=aCallV P g' x' H' K:=by rw[hg,h,hH]
@[congr] theorem zWK {p:(AV→zaa→Prop)→Prop}:zab H p k=zab H p k:=rfl
@[congr] theorem zUG {n:Nat} {r r':AV} (hr:r=r') (hH:H=H'):Out n K r H=Out n K r' H':=by rw[hr,hH]
end
section
variable {H:zaa} {k:AV→Prop}
theorem zb7 {p:(AV→Prop)→Prop} (h:∀ q:AV→Prop,p q↔∃ v,p (λu=>u=v)∧q v):zab H (λK'=>p λv=>K' v H) k=p k:=by unfold zab;rw[eq_iff_iff,h k];simp only[and_true]
@[simp] theorem zWS (x:AV):zab H (λK'=>K' x H) k=k x:=by simp[zab]
theorem zn2 (g:Bool) (n o:Nat) (cs:List AV) (q:AV→Prop):zbo g n o cs q↔∃ v,zbo g n o cs (λu=>u=v)∧q v:=by
 unfold zbo;split
 ·constructor
  ·rintro⟨h1,h2⟩;exact⟨_,⟨h1,rfl⟩,h2⟩
  ·rintro⟨v,⟨h1,rfl⟩,h2⟩;exact⟨h1,h2⟩
 ·split <;> simp
theorem zDr {a:Prop} {p:Prop} {p':AV→Prop} {q:AV→Prop} (h:p↔∃ v,p' v∧q v):(a∧p)↔∃ v,(a∧p' v)∧q v:=by
 constructor
 ·rintro⟨h1,h2⟩;obtain⟨v,h3,h4⟩:=h.1 h2;exact⟨v,⟨h1,h3⟩,h4⟩
 ·rintro⟨v,⟨h1,h3⟩,h4⟩;exact⟨h1,h.2 ⟨v,h3,h4⟩⟩
@[simp] theorem zWW (g:Bool) (n:Nat) (a:AV):zab H (λK'=>zae g n a H λv=>K' v H) k=zae g n a H k:=zb7 (p:=λq=>zae g n a H q) λq=>by
 unfold zae;split
 ·exact zn2 _ _ _ _ q
 ·simp
@[simp] theorem zV3 (g:Bool) (n id off:Nat):zak g n (.ptr id off) H k=zae g n (.ptr id off) H k:=propext Iff.rfl
@[simp] theorem zV4 (g:Bool) (n:Nat) (cs:List AV):zak g n (.view cs) H k=zae g n (.view cs) H k:=propext Iff.rfl
@[simp] theorem zWX (g:Bool) (n:Nat) (a:AV):zab H (λK'=>zak g n a H λv=>K' v H) k=zak g n a H k:=zb7 (p:=λq=>zak g n a H q) λq=>by
 unfold zak;split
 ·simp
 unfold zae;split
 ·exact zn2 _ _ _ _ q
 ·simp
@[simp] theorem zWZ (b:Bool) (o:BinOp) (x:AV):zab H (λK'=>zcN b o x λv=>K' v H) k=zcN b o x k:=zb7 (p:=λq=>zcN b o x q) λq=>by
 unfold zcN;refine zDr ?_;split
 ·split <;> simp
 ·split <;> simp
 ·simp
@[simp] theorem zWx:zcN true .neq .nili k=k (.bool false):=by simp[zcN]
@[simp] theorem zWv:zcN true .neq .ifc k=k (.bool true):=by simp[zcN]
@[simp] theorem zWw:zcN true .eql .nili k=k (.bool true):=by simp[zcN]
@[simp] theorem zWu:zcN true .eql .ifc k=k (.bool false):=by simp[zcN]
@[simp] theorem zW0 (c a b:AV):zab H (λK'=>zaj c a b λv=>K' v H) k=zaj c a b k:=zb7 (p:=λq=>zaj c a b q) λq=>by unfold zaj;split <;> simp
@[simp] theorem zWQ (o:Nat) (a:AV):zab H (λK'=>zaf o a λv=>K' v H) k=zaf o a k:=zb7 (p:=λq=>zaf o a q) λq=>by unfold zaf;split <;> simp
@[simp] theorem zWR (g:Bool) (n o:Nat) (a:AV):zab H (λK'=>zdL g n o a λv=>K' v H) k=zdL g n o a k:=zb7 (p:=λq=>zdL g n o a q) λq=>by
 unfold zdL;split
 ·exact zn2 _ _ _ _ q
 ·simp
@[simp] theorem zWT (n:Nat) (x i:AV):zab H (λK'=>zai n x i λv=>K' v H) k=zai n x i k:=zb7 (p:=λq=>zai n x i q) λq=>by unfold zai;split <;> simp
@[simp] theorem zWU (x i:AV):zab H (λK'=>zbE x i λv=>K' v H) k=zbE x i k:=zb7 (p:=λq=>zbE x i q) λq=>by
 unfold zbE;split
 ·constructor
  ·rintro⟨h1,h2⟩;exact⟨_,⟨h1,rfl⟩,h2⟩
  ·rintro⟨v,⟨h1,rfl⟩,h2⟩;exact⟨h1,h2⟩
 ·simp
@[simp] theorem zWV (u:Nat) (x:AV):zab H (λK'=>zah u x λv=>K' v H) k=zah u x k:=zb7 (p:=λq=>zah u x q) λq=>by unfold zah;split <;> simp
@[simp] theorem zW2 (o:UnOp) (x:AV):zab H (λK'=>aUn o x λv=>K' v H) k=aUn o x k:=zb7 (p:=λq=>aUn o x q) λq=>by unfold aUn;split <;> simp
@[simp] theorem zWM (o:IntKind) (x:AV):zab H (λK'=>za4 o x λv=>K' v H) k=za4 o x k:=zb7 (p:=λq=>za4 o x q) λq=>by unfold za4;split <;> simp
@[simp] theorem zWO (x:AV):zab H (λK'=>zdK x λv=>K' v H) k=zdK x k:=zb7 (p:=λq=>zdK x q) λq=>by unfold zdK;split <;> simp
@[simp] theorem zWN (x:AV):zab H (λK'=>zeU x λv=>K' v H) k=zeU x k:=zb7 (p:=λq=>zeU x q) λq=>by
 unfold zeU;split
 ·split <;> simp
 ·simp
 ·simp
@[simp] theorem zWY (x:AV):zab H (λK'=>za5 x λv=>K' v H) k=za5 x k:=zb7 (p:=λq=>za5 x q) λq=>by unfold za5;split <;> simp
@[simp] theorem zWP (x:AV) (i:Nat):zab H (λK'=>zaz x i λv=>K' v H) k=zaz x i k:=zb7 (p:=λq=>zaz x i q) λq=>by
 unfold zaz;split
 ·split <;> simp
 ·simp
@[simp] theorem zWI (z:List AV) (ps:List (Nat × Nat)) (x:List (Nat × AV)):zab H (λK'=>zar z ps x λv=>K' v H) k=zar z ps x k:=zb7 (p:=λq=>zar z ps x q) λq=>by unfold zar;split <;> simp
@[simp] theorem zWJ (e:Nat) (z:List AV) (l:Nat) (x:List (Nat × AV)):zab H (λK'=>zau e z l x λv=>K' v H) k=zau e z l x k:=zb7 (p:=λq=>zau e z l x q) λq=>by
 unfold zau;split
 ·split <;> simp
 ·simp
@[simp] theorem zWH (o:BinOp) (b:Bool) (x y:AV):zab H (λK'=>zac o b x y λv=>K' v H) k=zac o b x y k:=zb7 (p:=λq=>zac o b x y q) λq=>by unfold zac;split <;> simp
@[simp] theorem zWL (f:Nat) (x:List AV):zab H (λK'=>zcw f x λv=>K' v H) k=zcw f x k:=zb7 (p:=λq=>zcw f x q) λq=>by
 unfold zcw;constructor
 ·rintro⟨h1,h2⟩;exact⟨_,⟨h1,rfl⟩,h2⟩
 ·rintro⟨v,⟨h1,rfl⟩,h2⟩;exact⟨h1,h2⟩
end
@[simp] theorem zEu (A l:zaa):(A++l)[A.length]?=l[0]?:=by rw[List.getElem?_append_right (Nat.le_refl _)];simp
@[simp] theorem zEv (A l:zaa) (k:Nat):(A++l)[A.length+k]?=l[k]?:=by rw[List.getElem?_append_right (by omega)];congr 1;omega
@[simp] theorem zGp (A l:zaa) (x:AB):(A++l).set A.length x=A++l.set 0 x:=by rw[List.set_append_right _ _ (Nat.le_refl _)];simp
@[simp] theorem zxr (A l:zaa) (k:Nat) (x:AB):(A++l).set (A.length+k) x=A++l.set k x:=by rw[List.set_append_right _ _ (by omega)];congr 2;omega
@[simp] theorem zXF (A l:zaa) (i:Nat) (y:AB):(A.set i y++l)[A.length]?=l[0]?:=by have:=zEu (A.set i y) l;rwa [List.length_set]at this
@[simp] theorem zXG (A l:zaa) (i:Nat) (y:AB) (k:Nat):(A.set i y++l)[A.length+k]?=l[k]?:=by have:=zEv (A.set i y) l k;rwa [List.length_set]at this
@[simp] theorem zYn (A l:zaa) (i:Nat) (x y:AB):(A.set i y++l).set A.length x=A.set i y++l.set 0 x:=by have:=zGp (A.set i y) l x;rwa [List.length_set]at this
@[simp] theorem zYo (A l:zaa) (i:Nat) (y:AB) (k:Nat) (x:AB):(A.set i y++l).set (A.length+k) x=A.set i y++l.set k x:=by have:=zxr (A.set i y) l k x;rwa [List.length_set]at this
theorem zbF {H J:zaa} {id:Nat} {b:AB} (h:H[id]?=some b):(H++J)[id]?=some b:=by rw[List.getElem?_append_left (List.getElem?_eq_some_iff.1 h).1];exact h
theorem zbc {H:zaa} {id:Nat} {b:AB} (h:H[id]?=some b):id<H.length:=(List.getElem?_eq_some_iff.1 h).1
theorem zd5 {H J:zaa} {id:Nat} {b:AB} (x:AB) (h:H[id]?=some b):(H++J).set id x=H.set id x++J:=List.set_append_left _ _ (zbc h)
theorem zdo {H:zaa} {id:Nat} {b:AB} (x:AB) (h:H[id]?=some b):(H.set id x)[id]?=some x:=List.getElem?_set_self (zbc h)

theorem zat {n:Int} (h1:-9223372036854775808≤n) (h2:n≤9223372036854775807):IntKind.i64.wrap n=n:=IntWalk.i64_in n ⟨h1,h2⟩

theorem HSc.set {H:zaa} {id:Nat} {b:AB} (h:HSc H) (hb:b.sc H.length=true):HSc (H.set id b):=by
 intro x hx;rw[List.length_set];rcases List.mem_or_eq_of_mem_set hx with h1 | h1
 ·exact h x h1
 ·rw[h1];exact hb
theorem zcc {n m:Nat} (h:n≤m):∀ {a:AV},a.sc n=true→a.sc m=true:=by
 have hB:∀ {a:AV},a.scB n=true→a.scB m=true:=by
  intro a ha;cases a with
  | sl es t=>cases t <;> simp_all [AV.scB];omega
  | _=>simp_all [AV.scB] <;> omega
 have hA:∀ {a:AV},a.scA n=true→a.scA m=true:=by
  intro a ha;cases a with
  | fn f caps=>simp only[AV.scA,List.all_eq_true]at ha ⊢;exact λx hx=>hB (ha x hx)
  | _=>simp only[AV.scA]at ha ⊢;exact hB ha
 have hV:∀ {a:AV},a.scV n=true→a.scV m=true:=by
  intro a ha;cases a with
  | agg caps=>simp only[AV.scV,List.all_eq_true]at ha ⊢;exact λx hx=>hA (ha x hx)
  | _=>simp only[AV.scV]at ha ⊢;exact hA ha
 intro a ha;cases a with
 | tup caps=>simp only[AV.sc,List.all_eq_true]at ha ⊢;exact λx hx=>hV (ha x hx)
 | _=>simp only[AV.sc]at ha ⊢;exact hV ha
theorem Back.here {n0:Nat} {Inv:List AV→zaa→Prop} {F:List AV} {H:zaa} (hn:n0≤H.length) (hsc:HSc H) (hs:F.all (AV.sc H.length)=true) (h:Inv F H):Back n0 Inv F H:=by have:=Back.same (J:=[]) hn hsc hs h;simpa using this
theorem zp2 {n m:Nat} (h:n≤m) {a:AV} (ha:a.scA n=true):a.scA m=true:=by
 cases a with
 | agg cs=>rfl
 | tup vs=>rfl
 | fn f caps=>exact zcc h (a:=.fn f caps) ha
 | sl es t=>exact zcc h (a:=.sl es t) ha
 | ptr i o=>exact zcc h (a:=.ptr i o) ha
 | ms i o l c=>exact zcc h (a:=.ms i o l c) ha
 | ov i n=>exact zcc h (a:=.ov i n) ha
 | vp i n o=>exact zcc h (a:=.vp i n o) ha
 | os i n l e=>exact zcc h (a:=.os i n l e) ha
 | map i=>exact zcc h (a:=.map i) ha
 | _=>rfl
theorem zGi {n m:Nat} (h:n≤m) {a:AV} (ha:a.scV n=true):a.scV m=true:=by
 cases a with
 | tup vs=>rfl
 | agg cs=>exact zcc h (a:=.agg cs) ha
 | fn f caps=>exact zcc h (a:=.fn f caps) ha
 | sl es t=>exact zcc h (a:=.sl es t) ha
 | ptr i o=>exact zcc h (a:=.ptr i o) ha
 | ms i o l c=>exact zcc h (a:=.ms i o l c) ha
 | ov i n=>exact zcc h (a:=.ov i n) ha
 | vp i n o=>exact zcc h (a:=.vp i n o) ha
 | os i n l e=>exact zcc h (a:=.os i n l e) ha
 | map i=>exact zcc h (a:=.map i) ha
 | _=>rfl
theorem zCT {n m:Nat} (h:n≤m) {b:AB} (hb:b.sc n=true):b.sc m=true:=by
 cases b with
 | cells cs=>simp only[AB.sc,List.all_eq_true]at hb ⊢;exact λx hx=>zp2 h (hb x hx)
 | perm e s n=>rfl
 | gap=>rfl
 | dead=>rfl
 | fact φ=>rfl
 | frz e s n=>rfl
 | map kvs=>simp only[AB.sc,List.all_eq_true]at hb ⊢;exact λx hx=>zGi h (hb x hx)
 | bld t cs=>simp only[AB.sc,List.all_eq_true]at hb ⊢;exact λx hx=>zp2 h (hb x hx)
 | vec e s n cs=>simp only[AB.sc,List.all_eq_true]at hb ⊢;exact λx hx=>zp2 h (hb x hx)
theorem HSc.append {A J:zaa} (hA:HSc A) (hJ:J.all (AB.sc (A.length+J.length))=true):HSc (A++J):=by
 intro x hx;rw[List.length_append];rcases List.mem_append.1 hx with h1 | h1
 ·exact zCT (by omega) (hA x h1)
 ·exact List.all_eq_true.1 hJ x h1
end Go.Abs
namespace Go.Abs
open Go
theorem Out.tup {H J:zaa} {K:AV→zaa→Prop} {asx bs:List AV} (hs:HSc H) (h:K (.tup bs) H) (hw:All2 (λa b=>WkV a b∧b.isV=true∧b.scV H.length=true) asx bs):Out H.length K (.tup asx) (H++J):=
 ⟨_,H,J,rfl,Nat.le_refl _,hs,.tup (hw.mono λ_ _ h=>.wk h.1 h.2.1 h.2.2),h⟩
theorem Out.tup0 {H:zaa} {K:AV→zaa→Prop} {asx bs:List AV} (hs:HSc H) (h:K (.tup bs) H) (hw:All2 (λa b=>WkV a b∧b.isV=true∧b.scV H.length=true) asx bs):Out H.length K (.tup asx) H:=by have:=Out.tup (J:=[]) hs h hw;simpa using this
theorem Out.one {H J:zaa} {K:AV→zaa→Prop} {a b:AV} (hs:HSc H) (hw:WkV a b) (hv:b.isV=true) (hc:b.scV H.length=true) (h:K b H):Out H.length K a (H++J):=
 ⟨_,H,J,rfl,Nat.le_refl _,hs,.one (.wk hw hv hc),h⟩
theorem Out.one0 {H:zaa} {K:AV→zaa→Prop} {a b:AV} (hs:HSc H) (hw:WkV a b) (hv:b.isV=true) (hc:b.scV H.length=true) (h:K b H):Out H.length K a H:=by have:=Out.one (J:=[]) hs hw hv hc h;simpa using this
@[simp] theorem zXS (k:IntKind) (n:Int):(AV.int k n).known=true:=rfl
@[simp] theorem zXZ (s:List UInt8):(AV.str s).known=true:=rfl
@[simp] theorem zXQ (b:Bool):(AV.bool b).known=true:=rfl
@[simp] theorem zXY (es:List (List AV)) (t:Tok):(AV.sl es t).known=true:=rfl
@[simp] theorem zcQ:AV.snil.known=true:=rfl
@[simp] theorem zXV:AV.nilp.known=true:=rfl
@[simp] theorem zXX (i o:Nat):(AV.ptr i o).known=true:=rfl
@[simp] theorem zXU (i o l c:Nat):(AV.ms i o l c).known=true:=rfl
@[simp] theorem zXR (f:Nat) (c:List AV):(AV.fn f c).known=true:=rfl
@[simp] theorem zXT (i:Nat):(AV.map i).known=true:=rfl
@[simp] theorem zX0 (cs:List AV):(AV.view cs).known=true:=rfl
section
variable {H:zaa} {K:AV→zaa→Prop}
@[simp] theorem zUX (i o:Nat):zav (.ptr i o) H K=K (.ptr H.length 0) (H++[.cells [.ptr i o]]):=propext Iff.rfl
@[simp] theorem zUV (i o l c:Nat):zav (.ms i o l c) H K=K (.ptr H.length 0) (H++[.cells [.ms i o l c]]):=propext Iff.rfl
@[simp] theorem zUU (i:Nat):zav (.map i) H K=K (.ptr H.length 0) (H++[.cells [.map i]]):=propext Iff.rfl
@[simp] theorem zUS (f:Nat) (c:List AV):zav (.fn f c) H K=K (.ptr H.length 0) (H++[.cells [.fn f c]]):=propext Iff.rfl
@[simp] theorem zUZ:zav .snil H K=K (.ptr H.length 0) (H++[.cells [.snil]]):=propext Iff.rfl
end
theorem zaC {H:zaa} {p:zaa→(AV→zaa→Prop)→Prop} {k:AV→Prop} (r:AV) (h:∀ J:zaa,p (H++J) λv H'=>v=r∧H'=H++J) (hk:k r):zaE H p k:=⟨r,h,hk⟩
@[simp] theorem zYd (m:Nat) (k:IntKind) (n:Int):(AV.int k n).scA m=true:=rfl
@[simp] theorem zYl (m:Nat) (s:List UInt8):(AV.str s).scA m=true:=rfl
@[simp] theorem zYc (m:Nat) (b:Bool):(AV.bool b).scA m=true:=rfl
@[simp] theorem zYj (m:Nat) (es:List (List AV)):(AV.sl es .none).scA m=true:=rfl
@[simp] theorem zYk (m:Nat):AV.snil.scA m=true:=rfl
@[simp] theorem zYi (m i o:Nat):(AV.ptr i o).scA m=decide (i<m):=rfl
@[simp] theorem zYf (m i o l c:Nat):(AV.ms i o l c).scA m=decide (i<m):=rfl
@[simp] theorem zYe (m i:Nat):(AV.map i).scA m=decide (i<m):=rfl
@[simp] theorem zYh (m:Nat) (es:List (List AV)) (i:Nat):(AV.sl es (.own i)).scA m=decide (i<m):=rfl
theorem WkV.rfl' {a:AV}:WkV a a:=.atom (.refl a)
theorem zaW {n:Nat} {a:AV} (h1:a.isV=true) (h2:a.scV n=true):WkV a a∧a.isV=true∧a.scV n=true:=⟨.rfl',h1,h2⟩
theorem slV {n:Nat} {es:List (List AV)} {t:Tok}:WkV (.sl es t) (.sl es .none)∧(AV.sl es .none).isV=true∧(AV.sl es .none).scV n=true:=⟨.atom (.sl es t),rfl,rfl⟩
theorem zdr {n:Nat}:WkV .snil (.sl [] .none)∧(AV.sl [] .none).isV=true∧(AV.sl [] .none).scV n=true:=⟨.atom .snil,rfl,rfl⟩
theorem zdO {x:Option AV} {d:Nat} {p:Nat→Prop} {p':AV→Nat→Prop} {q:AV→Prop} (hp:∀ n,p n↔∃ v,p' v n∧q v):zbJ x d p↔∃ v,zbJ x d (p' v)∧q v:=by
 unfold zbJ;split
 ·exact hp d
 ·rename_i n;constructor
  ·rintro⟨h1,h2⟩;obtain⟨v,h3,h4⟩:=(hp _).1 h2;exact⟨v,⟨h1,h3⟩,h4⟩
  ·rintro⟨v,⟨h1,h3⟩,h4⟩;exact⟨h1,(hp _).2 ⟨v,h3,h4⟩⟩
 ·simp
theorem zg4 {a:Prop} {q:AV→Prop} {x:AV}:(a∧q x)↔∃ v,(a∧x=v)∧q v:=by
 constructor
 ·rintro⟨h1,h2⟩;exact⟨_,⟨h1,rfl⟩,h2⟩
 ·rintro⟨v,⟨h1,rfl⟩,h2⟩;exact⟨h1,h2⟩
@[simp] theorem zW1 {H:zaa} {k:AV→Prop} (u e:Nat) (x:AV) (lo hi:Option AV):zab H (λK'=>zaR u e x lo hi λv=>K' v H) k=zaR u e x lo hi k:=zb7 (p:=λq=>zaR u e x lo hi q) λq=>by
 unfold zaR;split
 ·exact zdO λh=>zdO λl=>zg4
 ·exact zdO λh=>zdO λl=>zg4
 ·exact zdO λh=>zdO λl=>zg4
 ·exact zdO λh=>zdO λl=>zg4
 ·exact zdO λh=>zdO λl=>zg4
 ·simp
end Go.Abs
namespace Go.Abs
open Go
theorem Out.at {n:Nat} {H2 J H':zaa} {K:AV→zaa→Prop} {a b:AV} (he:H'=H2++J) (hn:n≤H2.length) (hs:HSc H2) (hw:WkV a b) (hv:b.isV=true) (hc:b.scV H2.length=true) (h:K b H2):Out n K a H':=by subst he;exact⟨_,H2,J,rfl,hn,hs,.one (.wk hw hv hc),h⟩
theorem Out.bool {n:Nat} {H2 J H':zaa} {K:AV→zaa→Prop} {b:Bool} (he:H'=H2++J) (hn:n≤H2.length) (hs:HSc H2) (h:K (.bool b) H2):Out n K (.bool b) H':=Out.at he hn hs .rfl' rfl rfl h
theorem Out.int {n:Nat} {H2 J H':zaa} {K:AV→zaa→Prop} {k:IntKind} {b:Int} (he:H'=H2++J) (hn:n≤H2.length) (hs:HSc H2) (h:K (.int k b) H2):Out n K (.int k b) H':=Out.at he hn hs .rfl' rfl rfl h
theorem Back.at {n0:Nat} {Inv:List AV→zaa→Prop} {F:List AV} {H2 J H':zaa} (he:H'=H2++J) (hn:n0≤H2.length) (hsc:HSc H2) (hs:F.all (AV.sc H2.length)=true) (h:Inv F H2):Back n0 Inv F H':=by subst he;exact Back.same hn hsc hs h
theorem HSc.snoc {H:zaa} {b:AB} (h:HSc H) (hb:b.sc (H.length+1)=true):HSc (H++[b]):=h.append (by simpa using hb)
end Go.Abs
namespace Go.Abs
open Go
theorem zEl {B:Nat} {w w':World} {G G':Gh} (h:Ext B w G w' G'):G.μ.length≤G'.μ.length:=by
 by_cases h0:G.μ.length=0
 ·omega
 ·obtain⟨g,h1,_⟩:=h.ids (G.μ.length-1) _ (List.getElem?_eq_getElem (by omega));have:=(List.getElem?_eq_some_iff.1 h1).1;omega
theorem ACalls.mono' {P:Program} {f:FuncId} {args:List AV} {H:zaa} {K K':AV→zaa→Prop} (h:ACalls P f args H K) (hk:∀ r H',HSc H'→H.length≤H'.length→K r H'→K' r H'):ACalls P f args H K':=
 λB w G vs hH hv=>(h B w G vs hH hv).mono λ_ _ ⟨v,r,H',G',h1,h2,h3,h4,h5⟩=>⟨v,r,H',G',h1,h2,h3,h4,hk _ _ h3.sc (by have:=zEl h2;rw[hH.len,h3.len]at this;exact this) h5⟩
theorem aCallV.mono' {P:Program} {g:AV} {args:List AV} {H:zaa} {K K':AV→zaa→Prop} (h:aCallV P g args H K) (hk:∀ r H',HSc H'→H.length≤H'.length→K r H'→K' r H'):aCallV P g args H K':=by
 unfold aCallV at *;split at h
 ·split at h
  ·exact ACalls.mono' h hk
  ·exact h.elim
 ·exact h.elim
end Go.Abs
namespace Go.Abs
open Go Go.RowKit
theorem HRel.reCell {B:Nat} {w:World} {G:Gh} {H:zaa} (h:HRel B w G H) {id:Nat} {cs cs':List AV} (ap:H[id]?=some (.cells cs)) (hc:∀ vs:List Value,All2 (ARel w G) vs cs→All2 (ARel w G) vs cs'):HRel B w G (H.set id (.cells cs')):=by
 refine⟨by simp[h.len],?_,h.dist,h.fresh,h.lt,h.base⟩;intro i ab gi h1 h2;by_cases hi:i=id
 ·subst hi;rw[List.getElem?_set_self (List.getElem?_eq_some_iff.1 ap).1]at h1;cases h1;have aw:=h.ok i _ _ ap h2;cases gi with
  | blk b=>obtain⟨k1,k2,vs,e,k3,k4⟩:=aw;exact⟨k1,k2,vs,e,k3,hc _ k4⟩
  | own v s n=>exact aw.elim
  | gap=>exact aw.elim
 ·rw[List.getElem?_set_ne (λh=>hi h.symm)]at h1;exact h.ok i ab gi h1 h2
theorem HRel.ownCell {B:Nat} {w:World} {G:Gh} {H:zaa} (h:HRel B w G H) {id j:Nat} {cs:List AV} (e size:Nat) (ap:H[id]?=some (.cells cs)) (hj:cs[j]?=some .snil) :
  ∃ G',Ext B w G w G'∧HRel B w G' (H.set id (.cells (cs.set j (.sl [] (.own H.length))))++[.perm e size 0]):=by
 obtain⟨hE,aT⟩:=h.newOwn e size;refine⟨_,hE,?_⟩;have ak:=(List.getElem?_eq_some_iff.1 ap).1;have:=aT.reCell (id:=id) (cs:=cs) (cs':=cs.set j (.sl [] (.own H.length))) (by rw[List.getElem?_append_left ak];exact ap) (λvs iA=>by
  obtain⟨v,h1,h2⟩:=All2.get iA hj;have h2:v=.slice none 0 0:=h2;subst h2;have aU:vs=vs.set j (.slice none 0 0):=by
   apply List.ext_getElem?;intro k;by_cases hk:k=j
   ·subst hk;rw[List.getElem?_set_self (List.getElem?_eq_some_iff.1 h1).1];exact h1
   ·rw[List.getElem?_set_ne (λh=>hk h.symm)]
  rw[aU];refine All2.set j iA ?_;refine⟨.slE _ _,.slice none 0 0,size,0,?_,Nat.le_refl _,λ_=>⟨rfl,by simp⟩⟩;rw[←h.len];simp)
 rwa [List.set_append_left _ _ ak]at this
theorem ALoop.ownC {P:Program} {c:Code} {Q:AExit→List AV→zaa→Prop} {F:List AV} {H:zaa} {cs:List AV} (id j e size:Nat) (ap:H[id]?=some (.cells cs)) (hj:cs[j]?=some .snil)
  (h:ALoop P c Q F (H.set id (.cells (cs.set j (.sl [] (.own H.length))))++[.perm e size 0])):ALoop P c Q F H:=by
 intro B w G a hH hF hd;obtain⟨G',hE,aT⟩:=hH.ownCell e size ap hj;refine wp_mono (h B w G' a aT (hF.ext hE) hd) λe a' w' hp=>?_;obtain⟨F'',H'',G'',e'',rfl,k1,k2,k3,k4,k5⟩:=hp;exact⟨F'',H'',G'',e'',rfl,hE.trans k1,k2,k3,k4,k5⟩
end Go.Abs
namespace Go.Abs
open Go Go.RowKit
def zam (l:List Nat):List (List AV):=l.map λ(n:Nat)=>[AV.int .u32 (n:Int)]
@[simp] theorem zYx (l:List Nat):(zam l).length=l.length:=by simp[zam]
theorem zyi (l:List Nat) (n:Nat):(zam l).take n=zam (l.take n):=by simp[zam,List.map_take]
theorem zYw {l:List Nat} {i:Nat} (h:i<l.length):(zam l)[i]?.getD []=[.int .u32 ((l[i]:Nat):Int)]:=by simp[zam,h]
@[simp] theorem zYv {l:List Nat} {i:Nat} (h:i<(zam l).length):(zam l)[i]=[.int .u32 (((l[i]'(by simpa using h)):Nat):Int)]:=by simp[zam]
theorem zdV (l:List Nat):∀ c∈zam l,c.length=1:=by intro c hc;simp only[zam,List.mem_map]at hc;obtain⟨n,_,rfl⟩:=hc;rfl
theorem zxG {L:List Nat} {n:Nat} (hn:0<n) (h:n≤L.length) (h0:L[n-1]=0):zbA (L.take n)=zbA (L.take (n-1)):=by
 obtain⟨m,rfl⟩:∃ m,n=m+1:=⟨n-1,by omega⟩;simp only[Nat.add_sub_cancel]at h0 ⊢;rw[List.take_succ_eq_append_getElem (by omega),h0];generalize L.take m=A;induction A with
 | nil=>simp[zbA]
 | cons a A ih=>rw[List.cons_append,zbA,zbA,ih]
theorem zxE {L:List Nat} {n:Nat} (hn:0<n) (h:n≤L.length) (h0:L[n-1]≠0):zbA (L.take n)=L.take n:=by
 obtain⟨m,rfl⟩:∃ m,n=m+1:=⟨n-1,by omega⟩;simp only[Nat.add_sub_cancel]at h0;rw[List.take_succ_eq_append_getElem (by omega)];generalize hx:L[m]=x at h0;generalize L.take m=A;induction A with
 | nil=>simp[zbA,h0]
 | cons a A ih=>rw[List.cons_append,zbA,ih,if_neg];rintro⟨_,h⟩;simp at h
theorem zdW {n:Nat} (h:n<4294967296):IntKind.u32.wrap (n:Int)=n:=IntWalk.u32_in _ ⟨by omega,by omega⟩
theorem zbH {n:Nat} (h:n<18446744073709551616):IntKind.u64.wrap (n:Int)=n:=IntWalk.u64_in _ ⟨by omega,by omega⟩
theorem zuA {k:AV→Prop} (b:Bool) (j:IntKind) (m n:Nat) (hn:n≠0):zac .rem b (.int j m) (.int j n) k=k (.int j ((m % n:Nat):Int)):=by simp only[zce,ne_eq,Int.natCast_eq_zero,hn,not_false_eq_true,true_and];rfl
theorem zuz {k:AV→Prop} (b:Bool) (j:IntKind) (m n:Nat) (hn:n≠0):zac .quo b (.int j m) (.int j n) k=k (.int j (j.wrap ((m / n:Nat):Int))):=by simp only[zce,ne_eq,Int.natCast_eq_zero,hn,not_false_eq_true,true_and];rfl
theorem znO {k:AV→Prop} (b:Bool) (j:IntKind) (m:Nat):zac .rem b (.int j m) (.int j 1000000000) k=k (.int j ((m % 1000000000:Nat):Int)):=zuA b j m 1000000000 (by decide)
theorem zux {k:AV→Prop} (b:Bool) (j:IntKind) (m:Nat):zac .quo b (.int j m) (.int j 1000000000) k=k (.int j (j.wrap ((m / 1000000000:Nat):Int))):=zuz b j m 1000000000 (by decide)
theorem zuy {k:AV→Prop} (b:Bool) {m:Nat} (h:m<18446744073709551616):zac .quo b (.int .u64 m) (.int .u64 1000000000) k=k (.int .u64 ((m / 1000000000:Nat):Int)):=by rw[zux,zbH (by have:=Nat.div_le_self m 1000000000;omega)]
theorem zDh {k:AV→Prop} (b:Bool) {m:Nat} (h:m<4294967296):zac .quo b (.int .u32 m) (.int .u32 1000000000) k=k (.int .u32 ((m / 1000000000:Nat):Int)):=by rw[zux,zdW (by have:=Nat.div_le_self m 1000000000;omega)]
theorem zDd {k:AV→Prop} (j:IntKind) {m:Nat} (h:m<4294967296):za4 .u32 (.int j m) k=k (.int .u32 m):=by rw[zDe,zdW h]
theorem zoA (m:Nat):m % 1000000000<1000000000:=Nat.mod_lt _ (by decide)
theorem zEe {m:Nat} (h:m≠0):m / 1000000000<m:=Nat.div_lt_self (by omega) (by decide)
theorem sN (l:List Nat) (x:Nat):zam l++[[AV.int .u32 (x:Int)]]=zam (l++[x]):=by simp[zam]
theorem zgU (s:Nat) (h:s<18446744073709551616):∃ x c:Nat,x<1000000000∧s=x+1000000000*c∧IntKind.u32.wrap (x:Int)=x ∧
  (∀ (b:Bool) (k:AV→Prop),zac .rem b (.int .u64 s) (.int .u64 1000000000) k=k (.int .u64 x))∧∀ (b:Bool) (k:AV→Prop),zac .quo b (.int .u64 s) (.int .u64 1000000000) k=k (.int .u64 c):=
 ⟨s % 1000000000,s / 1000000000,zoA s,by omega,zdW (by omega),λb k=>znO b .u64 s,λb k=>zuy b h⟩
theorem zEg (s:Nat) (h:s<4294967296):∃ x c:Nat,x<1000000000∧s=x+1000000000*c ∧
  (∀ (b:Bool) (k:AV→Prop),zac .rem b (.int .u32 s) (.int .u32 1000000000) k=k (.int .u32 x))∧∀ (b:Bool) (k:AV→Prop),zac .quo b (.int .u32 s) (.int .u32 1000000000) k=k (.int .u32 c):=
 ⟨s % 1000000000,s / 1000000000,zoA s,by omega,λb k=>znO b .u32 s,λb k=>zDh b h⟩
theorem zoc (s d:Nat) (hd:0<d) (h:s<18446744073709551616):∃ x c:Nat,x<d∧s=x+d*c ∧
  (∀ (b:Bool) (k:AV→Prop),zac .rem b (.int .u64 s) (.int .u64 d) k=k (.int .u64 x))∧∀ (b:Bool) (k:AV→Prop),zac .quo b (.int .u64 s) (.int .u64 d) k=k (.int .u64 c):=
 ⟨s % d,s / d,Nat.mod_lt _ hd,(Nat.mod_add_div s d).symm,λb k=>zuA b .u64 s d (by omega),λb k=>by rw[zuz b .u64 s d (by omega),zbH (by have:=Nat.div_le_self s d;omega)]⟩
theorem wi (i:Nat) (h:i<1000000000):IntKind.i64.wrap ((i:Int)+1)=((i+1:Nat):Int):=by rw[zat (by omega) (by omega)];omega
theorem zxF:∀ l:List Nat,(zbA l).length≤l.length∧((zbA l).length=l.length→zbA l=l)
 | []=>by simp[zbA]
 | x::l=>by
  obtain⟨h1,h2⟩:=zxF l;rw[zbA];split
  ·simp
  ·simp only[List.length_cons];exact⟨by omega,λh=>by rw[h2 (by omega)]⟩
theorem zvX {n k:Nat} (h:1000000000 ^ k≤n):k<(lim n).length:=by have h1:=zeD (lim n) (zch n);rw[zbK]at h1;refine Nat.lt_of_not_le λh2=>?_;have:=Nat.pow_le_pow_right (show 0<1000000000 by omega) h2;omega
theorem zu7 {R:List Nat} (hR:∀ x∈R,x<1000000000) (h:R.length≤(lim (zap R)).length):R=lim (zap R):=by have h1:=zfo R hR;obtain⟨h2,h3⟩:=zxF R;rw[←h1,h3 (by rw[h1]at h2 ⊢;omega)]
end Go.Abs
namespace Go.Proofs.YtdmamdnkcefmmaaGreatDoor
open Go Go.Abs
theorem zqK (L:List Nat) (hL:L.length≤1000000) (H:zaa) (K:Kt) (hK:K (.sl (zam (zbA L)) .none) H) :
  ACalls tP zfY [.sl (zam L) .none] H K:=by
 refine ACalls.out (zIJ λhs=>?_);simp[zyM];refine zIH (Inv:=λq t3 H'=>∃ n:Nat,n≤L.length∧n=q∧t3=.int .i64 n∧H'=H∧zbA L=zbA (L.take n)) L.length ?_ ?_
 ·intro _;exact⟨L.length,by omega,rfl,by simp,rfl,by simp⟩
 ·rintro q t3 H' ⟨n,hn,rfl,rfl,rfl,aN⟩ aM am aP Kb ar;have br:∀ (l:List Nat) (J:zaa),l=zbA L→Out (List.length H') K (AV.sl (zam l) (Tok.own (List.length H'))) (H'++J):=λl J hl=>Out.one hs (.atom (.sl _ _)) rfl rfl (by rw[hl];exact hK);by_cases h0:n=0
  ·subst h0;simp[zkr,zaw,zaL,zaI];exact⟨zdV L,br [] _ (by simpa[zbA]using aN.symm)⟩
  ·have hw:IntKind.i64.wrap ((n:Int)-1)=((n-1:Nat):Int):=by rw[zat (by omega) (by omega)];omega
   have ak:n-1<L.length:=by omega
   by_cases hz:L[n-1]=0
   ·simp[zkr,show 0<n by omega,hw,ak,hz];exact ar _ _ ⟨n-1,by omega,Back.here (by simp) hs (by simp[zks,AV.sc,AV.scA,AV.scB,AV.scV]) ⟨_,rfl,n-1,by omega,rfl,rfl,rfl,by rw[aN,zxG (by omega) hn hz]⟩⟩
   ·have jF:(((L[n-1]:Nat):Int) == 0)=false:=by simp;omega
    simp[zkr,show 0<n by omega,hw,ak,jF,zaw,zaL,zaI];refine⟨⟨hn,zdV L⟩,λc hc=>zdV L c (List.mem_of_mem_take hc),⟨by omega,by omega⟩,?_⟩;rw[zyi];exact br _ _ (by rw[aN,zxE (by omega) hn hz])
end Go.Proofs.YtdmamdnkcefmmaaGreatDoor
namespace Go.Abs
open Go Go.RowKit
variable {P:Program} {B:Nat} {w:World} {G:Gh} {H:zaa}
theorem HRel.frz (h:HRel B w G H) {id:Nat} {cs:List AV} (hH:H[id]?=some (.cells cs)) :
  ∃ G',Ext B w G w G'∧HRel B w G' (H.set id .dead)∧∃ b,G.μ[id]?=some (.blk b)∧G'.L b=cs.length∧∃ (vs:Array Value) (e:TypeId),w.heap[b]?=some (.cells vs e (0,0))∧All2 (ARel w G) vs.toList cs:=by
 have ak:id<G.μ.length:=by rw[h.len];exact (List.getElem?_eq_some_iff.1 hH).1
 obtain⟨gi,cK⟩:∃ gi,G.μ[id]?=some gi:=⟨_,List.getElem?_eq_getElem ak⟩;have aw:=h.ok id _ _ hH cK;cases gi with
 | gap=>exact aw.elim
 | own v s n=>exact aw.elim
 | blk b=>
  obtain⟨hB,hL,vs,e,hw,aK⟩:=aw;have hl:vs.size=cs.length:=by simpa using aK.length
  have he:Ext B w G w ⟨λx=>if x=b then cs.length else G.L x,G.μ⟩:=
   ⟨Nat.le_refl _,Below.refl _ _,λx=>by by_cases hx:x=b <;> simp[hx,hL],λ_ _ _=>rfl,λ_ gi h=>⟨gi,h,gi.le_refl⟩⟩
  refine⟨_,he,⟨by simp[h.len],?_,h.dist,λx hx=>?_,h.lt,h.base⟩,b,cK,by simp,vs,e,hw,aK⟩
  ·intro id' ab gi h1 h2;by_cases ap:id'=id
   ·subst ap;rw[List.getElem?_set_self (List.getElem?_eq_some_iff.1 hH).1]at h1;cases h1;have h2:G.μ[id']?=some gi:=h2;rw[cK]at h2;cases h2;exact⟨vs,e,(0,0),hw,by simp[hl]⟩
   ·rw[List.getElem?_set_ne (λh=>ap h.symm)]at h1;refine (h.ok id' ab gi h1 h2).keep he (λx hx=>⟨rfl,?_⟩);have:¬ x=b:=λdO=>ap (h.dist id' id gi _ b h2 cK (by rw[hx,dO]) rfl);simp[this]
  ·have:=h.lt id _ b cK rfl;have h3:¬ x=b:=by omega
   simp[h3,h.fresh x hx]
inductive FzA (id off len cap:Nat) (es:List (List AV)):AV→AV→Prop
 | refl (a:AV):FzA id off len cap es a a
 | ms:FzA id off len cap es (.ms id off len cap) (.sl es .none)
inductive FzT (id off len cap:Nat) (es:List (List AV)):AV→AV→Prop
 | one {a b:AV} (h:FzA id off len cap es a b):FzT id off len cap es a b
 | agg {asx bs:List AV} (h:All2 (FzA id off len cap es) asx bs):FzT id off len cap es (.agg asx) (.agg bs)
theorem FzA.rel {id off len cap size:Nat} {cs:List AV} {es:List (List AV)} (a8:off+len*size≤cs.length)
  (hp:plain ((cs.drop off).take (len*size))=some es.flatten) (am:es.length=len) (aC:∀ c∈es,c.length=size) (aJ:len≤cap) {G':Gh} (hE:Ext B w G w G') {b:Nat} (hμ:G.μ[id]?=some (.blk b)) (f8:G'.L b=cs.length)
  {vs0:Array Value} {e:TypeId} (hw:w.heap[b]?=some (.cells vs0 e (0,0))) (aK:All2 (ARel w G) vs0.toList cs) {v:Value} {a b':AV} (bb:FzA id off len cap es a b') (hr:ARel w G v a):ARel w G' v b':=by
 cases bb with
 | refl a=>exact hE.arel hr
 | ms=>
  obtain⟨b2,bD,rfl⟩:=hr;rw[hμ]at bD;cases bD;show DRel w G'.L _ _;subst am;by_cases aB:es=[]
  ·subst aB;exact .slE _ _
  ·have hl:=aK.length;have hd:=zdm ((aK.drop off).take (es.length*size)) hp;refine DRel.of_flat_at (zs:=(vs0.toList.drop off).take (es.length*size)) aC aB aJ (by rw[f8];exact a8) (hd.mono λ_ _=>hE.drel) ?_;intro j u hj;rw[List.getElem?_take]at hj;split at hj
   ·simp only[World.cell?,hw];simpa using hj
   ·cases hj
theorem znS {R R':Value→AV→Prop} {S:AV→AV→Prop} (h:∀ v a b,S a b→R v a→R' v b) {vs:List Value} {asx bs:List AV} (hr:All2 R vs asx) (hs:All2 S asx bs):All2 R' vs bs:=
 All2.of_get (hr.length.trans hs.length) λi x y hx hy=>by obtain⟨a,ha,fy⟩:=All2.get' hr hx;obtain⟨y',dq,gu⟩:=All2.get' hs ha;rw[hy]at dq;cases dq;exact h _ _ _ gu fy
theorem ACalls.frz {f:FuncId} {args args':List AV} {K:Kt} (id off len cap size:Nat) (cs:List AV) (es:List (List AV)) (hH:H[id]?=some (.cells cs)) (a8:off+len*size≤cs.length)
  (hp:plain ((cs.drop off).take (len*size))=some es.flatten) (am:es.length=len) (aC:∀ c∈es,c.length=size) (aJ:len≤cap) (ha:All2 (FzT id off len cap es) args args')
  (h:ACalls P f args' (H.set id .dead) K):ACalls P f args H K:=by
 intro B w G vs hR hv;obtain⟨G',hE,eO,b,hμ,f8,vs0,e,hw,aK⟩:=hR.frz hH;have h1:∀ v a b,FzA id off len cap es a b→ARel w G v a→ARel w G' v b:=λv a b' bb hr=>FzA.rel a8 hp am aC aJ hE hμ f8 hw aK bb hr;have h2:∀ v a b,FzT id off len cap es a b→TRel w G v a→TRel w G' v b:=by
  intro v a b' bb hr;cases bb with
  | one bb=>
   cases bb with
   | refl a=>exact hE.trel hr
   | ms=>exact TRel.of_v (VRel.of_a (h1 _ _ _ .ms hr))
  | agg bb=>obtain⟨us,hu,hr⟩:=hr;exact⟨us,hu,znS h1 hr bb⟩
 refine (h B w G' vs eO (znS h2 hv ha)).mono λe w' ⟨v,r,H',G'',k1,k2,k3,k4,k5⟩=>⟨v,r,H',G'',k1,hE.trans k2,k3,k4,k5⟩
theorem AWp.frz {c:Code} {Q:AExit→List AV→zaa→Prop} {F:List AV} (id off len cap size:Nat) (cs:List AV) (es:List (List AV)) (id2:Nat) (cs2 cs2':List AV) (hH:H[id]?=some (.cells cs)) (a8:off+len*size≤cs.length)
  (hp:plain ((cs.drop off).take (len*size))=some es.flatten) (am:es.length=len) (aC:∀ c∈es,c.length=size) (aJ:len≤cap) (aB:id≠id2) (cn:H[id2]?=some (.cells cs2)) (ha:All2 (FzA id off len cap es) cs2 cs2')
  (h:AWp P c Q F ((H.set id .dead).set id2 (.cells cs2'))):AWp P c Q F H:=by
 intro B w G a hR hF hd;obtain⟨G',hE,eO,b,hμ,f8,vs0,e,hw,aK⟩:=hR.frz hH;have h1:∀ v a b,FzA id off len cap es a b→ARel w G v a→ARel w G' v b:=λv a b' bb hr=>FzA.rel a8 hp am aC aJ hE hμ f8 hw aK bb hr;have aZ:id2<G.μ.length:=by rw[hR.len];exact (List.getElem?_eq_some_iff.1 cn).1
 have hH2':(H.set id .dead)[id2]?=some (.cells cs2):=by rw[List.getElem?_set_ne aB];exact cn
 have d5:HRel B w G' ((H.set id .dead).set id2 (.cells cs2')):=by
  refine⟨by simp[eO.len],?_,eO.dist,eO.fresh,eO.lt,eO.base⟩;intro i ab gi k1 k2;by_cases hi:i=id2
  ·subst hi;rw[List.getElem?_set_self (List.getElem?_eq_some_iff.1 hH2').1]at k1;cases k1;have aw:=eO.ok i _ _ hH2' k2;have cK:G.μ[i]?=some gi:=by
    obtain⟨gi0,iB⟩:∃ gi0,G.μ[i]?=some gi0:=⟨_,List.getElem?_eq_getElem aZ⟩;have gv:=hR.ok i _ _ cn iB;obtain⟨gi1,eq,aS⟩:=hE.ids i gi0 iB;rw[k2]at eq;cases eq;cases gi0 with
    | blk x=>cases gi with
     | blk y=>obtain rfl:x=y:=aS;exact iB
     | own v s n=>exact aS.elim
     | gap=>exact aS.elim
    | own v s n=>exact gv.elim
    | gap=>exact gv.elim
   have gv:=hR.ok i _ _ cn cK;cases gi with
   | blk x=>obtain⟨k3,k4,vs,e',k5,k6⟩:=aw;obtain⟨_,_,vs1,e1,k7,k8⟩:=gv;rw[k5]at k7;cases k7;exact⟨k3,k4,vs,e',k5,znS h1 k8 ha⟩
   | own v s n=>exact aw.elim
   | gap=>exact aw.elim
  ·rw[List.getElem?_set_ne (λh=>hi h.symm)]at k1;exact eO.ok i ab gi k1 k2
 refine wp_mono (h B w G' a d5 (hF.ext hE) hd) λe a' w' hp=>?_;obtain⟨F',H',G'',e',rfl,k1,k2,k3,k4,k5⟩:=hp;exact⟨F',H',G'',e',rfl,hE.trans k1,k2,k3,k4,k5⟩
end Go.Abs
namespace Go.Abs
open Go Go.RowKit
variable {P:Program} {B:Nat} {w:World} {G:Gh} {H:zaa}
inductive OutW (H:zaa) (n:Nat):AV→AV→Prop
 | one {a b:AV} (h:OutV H n a b):OutW H n a b
 | rows (id e m:Nat) (cs:List AV) (rs:List (List (List AV))) (ap:n≤id) (hH:H[id]?=some (.vec e 1 m cs)) (hm:rs.length=m)
   (aL:All2 (OutV H n) cs (rs.map λr=>.sl r .none)):OutW H n (.ov id m) (.sl (rs.map λr=>[.sl r .none]) .none)
theorem OutW.vrel (hH:HRel B w G H) {n:Nat} {v:Value} {a b:AV} (h:OutW H n a b) (hr:TRel w G v a):VRel w (G.cut w n) v b:=by
 cases h with
 | one h=>exact h.vrel hH hr
 | rows id e m cs rs ap cr hm aL=>
  obtain⟨⟨a,cap0,rfl,_⟩,v',s0,n',hμ,_,heq⟩:=hr;obtain⟨rfl,rfl,⟨xs,aq,aK⟩,_⟩:=hH.ok id _ _ cr hμ;obtain rfl:=heq rfl;subst hm;show DRel w (G.cut w n).L _ _;by_cases aB:rs=[]
  ·subst aB;exact .slE _ _
  ·have bP:=aq;obtain⟨hl,be⟩:=bP;have hd:All2 (DRel w (G.cut w n).L) xs (rs.map λr=>AV.sl r .none):=All2.of_get (aK.length.trans aL.length) λi x y hx hy=>by
    obtain⟨a,ha,fy⟩:=All2.get' aK hx;obtain⟨y',dq,gu⟩:=All2.get' aL ha;rw[hy]at dq;cases dq;obtain⟨r,hr,rfl⟩:∃ r,rs[i]?=some r∧AV.sl r .none=y:=by simpa using hy
    exact gu.vrel hH (TRel.of_v (VRel.of_a fy))
   rcases be with ⟨h1,h2⟩ | ⟨g,cap,cur,h1,h2,h3,h4,h5,h6,h7⟩
   ·cases rs <;> simp_all
   ·simp at h1;obtain⟨rfl,rfl⟩:=h1;obtain⟨_,_,_,aG⟩:=zdl aq;have bi:∀ l:List (List (List AV)),(l.map λr=>[AV.sl r .none]).flatten=l.map λr=>AV.sl r .none:=by
     intro l;induction l with
     | nil=>rfl
     | cons r l ih=>simp[ih]
    have:=DRel.of_flat_at (w:=w) (L:=(G.cut w n).L) (g:=g) (off:=0) (size:=1) (cap:=cap0) (es:=rs.map λr=>[AV.sl r .none]) (zs:=xs) (by simp) (by simpa using aB) (by simpa using h4) ?_ (by rw[bi rs];exact hd) ?_
    ·simpa using this
    ·have:(G.cut w n).L g=cur.size:=by simp only[Gh.cut];rw[if_pos (cut_dropped.2 ⟨id,_,ap,hμ,rfl⟩),h3]
     rw[this,h6];simpa using h4
    ·intro j u hj;rw[Nat.zero_add,aG j (by rw[←hl];exact (List.getElem?_eq_some_iff.1 hj).1)];exact hj
inductive OutT2 (H:zaa) (n:Nat):AV→AV→Prop
 | one {a b:AV} (h:OutW H n a b):OutT2 H n a b
 | tup {asx bs:List AV} (h:All2 (OutW H n) asx bs):OutT2 H n (.tup asx) (.tup bs)
def zC0 (n:Nat) (K:AV→zaa→Prop) (r:AV) (H':zaa):Prop:=∃ r2 H2 J,H'=H2++J∧n≤H2.length∧HSc H2∧OutT2 H' H2.length r r2∧K r2 H2
theorem Out.two {n:Nat} {K:AV→zaa→Prop} {r:AV} (h:Out n K r H):zC0 n K r H:=by
 obtain⟨r2,H2,J,hJ,hn,hsc,ho,hk⟩:=h;refine⟨r2,H2,J,hJ,hn,hsc,?_,hk⟩;cases ho with
 | one h=>exact .one (.one h)
 | tup h=>exact .tup (All2.of_get h.length λi x y hx hy=>by
   obtain⟨y',dq,gu⟩:=All2.get' h hx;rw[hy]at dq;cases dq;exact .one gu)
end Go.Abs
namespace Go.Abs
open Go Go.RowKit Go.Lib
variable {P:Program} {B:Nat} {w:World}
theorem zFD {t u ty e:TypeId} {i:TypeInfo} (ht:P.underlying t=some (.slice e)) (hu:P.underlying u=some .string) (hi:P.info? e=some i) (hz:i.zero=some (.int .u8 0)) (bN:i.size=1) (bp:i.bytes=1) {v:Value} {n:Nat} {xs:List Value}
  (aq:w.ownsRow B e 1 v n xs) (s:ByteArray) (hm:0<s.size) (ic:n+s.size≤maxLen) (bW:n+s.size≤140737488355328) (du:B≤w.heap.size) :
  ∃ v' w',(Builtin.append_ #[t,u] ty #[v,.string s]).run P w=.ok v' w'∧w'.ownsRow B e 1 v' (n+s.size) (xs++strCells s) ∧
   ((∃ g,v.ownBlock=some g∧v'.ownBlock=some g∧GrB w w' (some g))∨(v'.ownBlock=some w.heap.size∧GrB w w' none)):=by
 have bS:xs.length=n:=by simpa using aq.1
 have am:(xs++strCells s).length=(n+s.size)*1:=by rw[List.length_append,bS,strCells_length,Nat.mul_one]
 have grown:∀ (old:Nat),old<n+s.size →
   (w.drew.alloc (.cells (xs.toArray++(strCells s).toArray++Builtin.zeroCells (Value.int .u8 0).cells (grownCap w (n+s.size) old e-(n+s.size))) e)).ownsRow B e 1
    (.slice (some ⟨w.heap.size,0,none⟩) (n+s.size) (grownCap w (n+s.size) old e)) (n+s.size) (xs++strCells s) ∧
   GrB w (w.drew.alloc (.cells (xs.toArray++(strCells s).toArray++Builtin.zeroCells (Value.int .u8 0).cells (grownCap w (n+s.size) old e-(n+s.size))) e)) none:=by
  intro old ho;have dR:=grownCap_ge w (n+s.size) old e;have bB:grownCap w (n+s.size) old e≤maxLen:=grownCap_le_maxLen w (n+s.size) old e ic;refine⟨⟨am,.inr ⟨w.heap.size,_,_,rfl,du,zdh (w:=w.drew) _,dR,bB,?_,?_⟩⟩,⟨zod w _,rfl,rfl,rfl,by simp,λk hk _=>zcD (w:=w.drew) hk⟩⟩
  ·have hz1:(Value.int IntKind.u8 0).cells.size=1:=rfl;simp only[Array.size_append,List.size_toArray,size_zeroCells,hz1,bS,strCells_length];omega
  ·simp only[Array.toList_append,List.append_assoc];rw[←List.append_assoc,←am];exact List.take_left
 rcases aq.2 with ⟨rfl,rfl⟩ | ⟨g,cap,cur,rfl,cG,hg,ia,bB,aK,bl⟩
 ·have hx:xs=[]:=List.eq_nil_of_length_eq_zero bS;subst hx;have hr:=run_append_nil_string (P:=P) w t u ty e i (.int .u8 0) ht hu hi hz s hm (by omega) (by rw[bp];omega);have bq:=grown 0 (by omega);simp only[Nat.zero_add,List.nil_append,Array.empty_append]at bq ⊢;have e1:(s.data.map λb=>Value.int .u8 b.toNat)=(strCells s).toArray:=by apply Array.ext';simp[strCells]
  rw[e1]at hr;exact⟨_,_,hr,bq.1,.inr ⟨rfl,bq.2⟩⟩
 ·by_cases cU:n+s.size≤cap
  ·have hcs':cur.size=cap:=by simpa using aK
   have hr:=run_append_room_string (P:=P) w t u ty e i ht hu hi bN g n cap cur hg s cU (by omega);refine⟨_,_,hr,⟨am,.inr ⟨g,cap,_,rfl,cG,setRow_heap w g cur _ e _ hg,cU,bB,?_,?_⟩⟩,.inl ⟨g,rfl,rfl,⟨Nat.le_refl _,rfl,rfl,rfl,by simp,λk _ hk=>setRow_other w g k _ (λe=>hk (by simp[e]))⟩⟩⟩
   ·simp only[List.size_toArray,List.length_append,List.length_take,List.length_drop,Array.length_toList,strCells_length];omega
   ·have ht':cur.toList.take n=xs:=by simpa using bl
    rw[ht',←am];exact List.take_left
  ·have holds:∀ j u,xs[j]?=some u→w.cell? ((⟨g,0,none⟩:Addr).add j)=some u:=aq.cells (g:=g) rfl;have hr:=run_append_grow_string (P:=P) w t u ty e i (.int .u8 0) ht hu hi hz ⟨g,0,none⟩ n cap xs (by rw[bN];simpa using bS) holds s (by omega) (by omega) (by rw[bp];exact growslice_fits (by omega) (by omega));have bq:=grown cap (by omega);exact⟨_,_,hr,bq.1,.inr ⟨rfl,bq.2⟩⟩
theorem zFE {t u ty e:TypeId} {i:TypeInfo} (ht:P.underlying t=some (.slice e)) (hu:P.underlying u=some .string) (hi:P.info? e=some i) (bN:i.size=1) {v:Value} {n:Nat} {xs:List Value}
  (aq:w.ownsRow B e 1 v n xs) (s:ByteArray) (hm:s.size=0):(Builtin.append_ #[t,u] ty #[v,.string s]).run P w=.ok v w:=by
 have hn:strCells s=[]:=List.eq_nil_of_length_eq_zero (by rw[strCells_length];exact hm);have hf:=run_firstCells_string (P:=P) w 1 s;rw[hm,hn]at hf;have aN:∀ x,(storeCells x [] 0).run P w=.ok () w:=λx=>rfl;rcases aq.2 with ⟨rfl,rfl⟩ | ⟨g,cap,cur,rfl,cG,hg,ia,bB,aK,bl⟩
 ·simp[Builtin.append_,run_underlying ht,run_underlying hu,sizeOf,typeInfo,hi,bN,Builtin.lenOf,hm,hf]
 ·simp[Builtin.append_,run_underlying ht,run_underlying hu,sizeOf,typeInfo,hi,bN,Builtin.lenOf,hm,hf,ia,aN]
theorem wpList_append_str {aj:Array Oper} {rest:List Oper} {o:Oper} {a:Act} {Q:Exit→Act→World→Prop} (iC:o.guard=none) (sl x:Operand) (t u:TypeId)
  (ho:o.op=.call { callee:=.builtin .append,args:=#[sl,x],argTypes:=#[t,u] }) {v v':Value} {w':World} {s:ByteArray} (hs:a.eval sl=v) (hx:a.eval x=.string s)
  (hr:∀ ty,(Builtin.append_ #[t,u] ty #[v,.string s]).run P w=.ok v' w') (h:wpList P aj Q rest (a.put o.dst v') w'):wpList P aj Q (o::rest) a w:=by
 refine wpList_plain iC λK hK=>?_;unfold Oper.wp execOp;simp only[ho,resolve,invoke,builtin,Sem.run_bind,Sem.run_pure,Result.andThen_ok,List.map_toArray,List.map_cons,List.map_nil,hs,hx,hr];exact hK _ _ h
end Go.Abs
namespace Go.Abs
open Go Go.RowKit Go.Lib
variable {P:Program} {B:Nat} {w:World} {G:Gh} {H:zaa}
theorem HRel.storeB (h:HRel B w G H) {id b:Nat} {t:TypeId} {cs cs':List AV} {vs vs':Array Value} (hH:H[id]?=some (.bld t cs)) (hμ:G.μ[id]?=some (.blk b))
  (hw:w.heap[b]?=some (.cells vs t (0,0))) (hc:All2 (ARel w G) vs'.toList cs') :
  Ext B w G (w.setRow b vs') G∧HRel B (w.setRow b vs') G (H.set id (.bld t cs')):=by
 obtain⟨hB,hL,_⟩:=h.ok id _ _ hH hμ;have aC:(w.setRow b vs').heap.size=w.heap.size:=by simp[World.setRow]
 have he:Ext B w G (w.setRow b vs') G:=by
  refine⟨Nat.le_refl _,⟨rfl,rfl,rfl,by rw[aC];exact Nat.le_refl _,λk hk=>zeb _ (by omega)⟩,λ_=>Nat.le_refl _,λx off ho=>?_,λ_ gi h=>⟨gi,h,gi.le_refl⟩⟩;have:x≠b:=by intro hx;subst hx;omega
  exact ze1 (zeb _ this)
 refine⟨he,by simp[h.len],?_,h.dist,by rw[aC];exact h.fresh,by rw[aC];exact h.lt,by rw[aC];exact h.base⟩;intro id' ab gi h1 h2;by_cases ap:id'=id
 ·subst ap;rw[hμ]at h2;cases h2;have ak:id'<H.length:=(List.getElem?_eq_some_iff.1 hH).1;rw[List.getElem?_set_self ak]at h1;cases h1;exact⟨hB,hL,vs',setRow_heap w b vs vs' t _ hw,hc.mono λ_ _=>he.arel⟩
 ·rw[List.getElem?_set_ne (λh=>ap h.symm)]at h1;refine (h.ok id' ab gi h1 h2).keep he (λx hx=>⟨zeb _ ?_,rfl⟩);intro dO;subst dO;exact ap (h.dist id' id gi _ x h2 hμ hx rfl)
theorem HRel.reCellB (h:HRel B w G H) {id:Nat} {t:TypeId} {cs cs':List AV} (ap:H[id]?=some (.bld t cs)) (hc:∀ vs:List Value,All2 (ARel w G) vs cs→All2 (ARel w G) vs cs'):HRel B w G (H.set id (.bld t cs')):=by
 refine⟨by simp[h.len],?_,h.dist,h.fresh,h.lt,h.base⟩;intro i ab gi h1 h2;by_cases hi:i=id
 ·subst hi;rw[List.getElem?_set_self (List.getElem?_eq_some_iff.1 ap).1]at h1;cases h1;have aw:=h.ok i _ _ ap h2;cases gi with
  | blk b=>obtain⟨k1,k2,vs,k3,k4⟩:=aw;exact⟨k1,k2,vs,k3,hc _ k4⟩
  | own v s n=>exact aw.elim
  | gap=>exact aw.elim
 ·rw[List.getElem?_set_ne (λh=>hi h.symm)]at h1;exact h.ok i ab gi h1 h2
theorem HRel.ownCellB (h:HRel B w G H) {id:Nat} {t:TypeId} {p:AV} (e size:Nat) (ap:H[id]?=some (.bld t [p,.snil])) :
  ∃ G',Ext B w G w G'∧HRel B w G' (H.set id (.bld t [p,.sl [] (.own H.length)])++[.perm e size 0]):=by
 obtain⟨hE,aT⟩:=h.newOwn e size;refine⟨_,hE,?_⟩;have ak:=(List.getElem?_eq_some_iff.1 ap).1;have:=aT.reCellB (id:=id) (t:=t) (cs:=[p,.snil]) (cs':=[p,.sl [] (.own H.length)]) (by rw[List.getElem?_append_left ak];exact ap) (λvs iA=>by
  match vs,iA with
  | [v1,v2],⟨h1,h2,_⟩=>
   have h2:v2=.slice none 0 0:=h2;subst h2;refine⟨h1,⟨.slE _ _,.slice none 0 0,size,0,?_,Nat.le_refl _,λ_=>⟨rfl,by simp⟩⟩,trivial⟩;rw[←h.len];simp)
 rwa [List.set_append_left _ _ ak]at this
theorem ACalls.ownB {f:FuncId} {args:List AV} {K:AV→zaa→Prop} {id:Nat} {t:TypeId} {p:AV} (e size:Nat) (ap:H[id]?=some (.bld t [p,.snil]))
  (h:ACalls P f args (H.set id (.bld t [p,.sl [] (.own H.length)])++[.perm e size 0]) K):ACalls P f args H K:=by
 intro B w G vs hH hv;obtain⟨G',hE,aT⟩:=hH.ownCellB e size ap;refine (h B w G' vs aT (hv.mono λ_ _=>hE.trel)).mono λe' w' hp=>?_;obtain⟨v,r,H',G'',h1,h2,h3⟩:=hp;exact⟨v,r,H',G'',h1,hE.trans h2,h3⟩
def bcs (l:List UInt8):List (List AV):=l.map λb=>[.int .u8 b.toNat]
theorem zd6 (l:List UInt8):(bcs l).length=l.length:=by simp[bcs]
theorem zuY (l m:List UInt8):bcs l++bcs m=bcs (l++m):=by simp[bcs]
theorem zeZ (l:List UInt8):∀ c∈bcs l,c.length=1:=by intro c hc;simp only[bcs,List.mem_map]at hc;obtain⟨b,_,rfl⟩:=hc;rfl
theorem zDB (l:List UInt8):All2 (DRel w G.L) (strCells ⟨l.toArray⟩) (bcs l).flatten:=by
 have:strCells ⟨l.toArray⟩=l.map λb=>Value.int .u8 b.toNat:=by simp[strCells]
 rw[this];induction l with
 | nil=>trivial
 | cons b l ih=>exact⟨.int _ _,ih (by simp[strCells])⟩
theorem HRel.freezeG (h:HRel B w G H) {id g n cap e:Nat} (hH:H[id]?=some (.frz e 1 n)) (hμ:G.μ[id]?=some (.own (.slice (some ⟨g,0,none⟩) n cap) 1 n)) (k:Nat) :
  Ext B w G (w.freeze ⟨g,0,none⟩ k) G∧HRel B (w.freeze ⟨g,0,none⟩ k) G H:=by
 obtain⟨g',cap',cur,fr0,_,_,hv,hg,eF,eI,bH,cX,dE⟩:=h.ok id _ _ hH hμ;cases hv;have cN:∀ b,b≠g→(w.freeze ⟨g,0,none⟩ k).heap[b]?=w.heap[b]?:=by
  intro b hb;unfold World.freeze;split
  ·rfl
  ·simp only[Array.getElem?_modify];rw[if_neg (λh=>hb h.symm)]
 have hgg:∃ fr,(w.freeze ⟨g,0,none⟩ k).heap[g]?=some (.cells cur e fr):=by
  unfold World.freeze;split
  ·exact⟨fr0,hg⟩
  ·simp only[Array.getElem?_modify,hg];exact⟨_,rfl⟩
 obtain⟨fr,hgf⟩:=hgg;have aC:(w.freeze ⟨g,0,none⟩ k).heap.size=w.heap.size:=by
  unfold World.freeze;split
  ·rfl
  ·simp
 have hbelow:Below B w (w.freeze ⟨g,0,none⟩ k):=below_freeze (Below.refl B w) (p:=⟨g,0,none⟩) eF k;have he:Ext B w G (w.freeze ⟨g,0,none⟩ k) G:=by
  refine⟨by unfold World.freeze;split <;> exact Nat.le_refl _,hbelow,λ_=>Nat.le_refl _,λx off ho=>?_,λ_ gi h=>⟨gi,h,gi.le_refl⟩⟩;by_cases hx:x=g
  ·subst hx;simp[World.cell?,hgf,hg]
  ·exact ze1 (cN x hx)
 refine⟨he,h.len,?_,h.dist,by rw[aC];exact h.fresh,by rw[aC];exact h.lt,by rw[aC];exact h.base⟩;intro id' ab gi h1 h2;by_cases ap:id'=id
 ·subst ap;rw[hμ]at h2;cases h2;rw[hH]at h1;cases h1;exact⟨g,cap,cur,fr,rfl,rfl,rfl,hgf,eF,eI,bH,cX,dE⟩
 ·refine (h.ok id' ab gi h1 h2).keep he (λx hx=>⟨cN x ?_,rfl⟩);intro dO;subst dO;exact ap (h.dist id' id gi _ x h2 hμ hx rfl)
theorem HRel.dead (h:HRel B w G H) {id e s n:Nat} (hH:H[id]?=some (.perm e s n)):HRel B w G (H.set id .dead):=by
 refine⟨by simp[h.len],?_,h.dist,h.fresh,h.lt,h.base⟩;intro i ab gi h1 h2;by_cases hi:i=id
 ·subst hi;rw[List.getElem?_set_self (List.getElem?_eq_some_iff.1 hH).1]at h1;cases h1;have aw:=h.ok i _ _ hH h2;cases gi with
  | blk b=>exact aw.elim
  | gap=>exact aw.elim
  | own v s' n'=>
   obtain⟨rfl,rfl,⟨xs,hl,⟨rfl,_⟩ | ⟨g,cap,cur,rfl,k1,k2,k3,k4,k5,k6⟩⟩,hL⟩:=aw
   ·intro b hb;cases hb
   ·intro b hb;simp[Value.ownBlock]at hb;subst hb;exact⟨cur,e,_,k2,by rw[hL g rfl,k5];exact Nat.mul_le_mul_right _ k3⟩
 ·rw[List.getElem?_set_ne (λh=>hi h.symm)]at h1;exact h.ok i ab gi h1 h2
theorem HRel.other (h:HRel B w G H) (o:Obj):Ext B w G (w.alloc o) G∧HRel B (w.alloc o) G H:=by have he:=Ext.alloc h o G.L (λ_ _=>rfl) [];simp only[List.append_nil]at he;refine⟨he,h.keep he rfl (λid gi b h1 h2=>⟨zcD (h.lt id gi b h1 h2),rfl⟩) (λb hb=>?_)⟩;rw[zb4]at hb;exact h.fresh b (by omega)
end Go.Abs
namespace Go.Abs
open Go Go.RowKit Go.Sort
variable {P:Program} {B:Nat} {w:World} {G:Gh} {H:zaa}
end Go.Abs
namespace Go.Abs
open Go Go.RowKit
variable {P:Program} {B:Nat} {w:World} {G:Gh} {H:zaa}
theorem HRel.newVec (h:HRel B w G H) (e size:Nat):Ext B w G w ⟨G.L,G.μ++[.own (.slice none 0 0) size 0]⟩∧HRel B w ⟨G.L,G.μ++[.own (.slice none 0 0) size 0]⟩ (H++[.vec e size 0 []]):=by
 obtain⟨hE,hH⟩:=h.newOwn e size;refine⟨hE,by simpa using hH.len,λid ab gi h1 h2=>?_,hH.dist,hH.fresh,hH.lt,hH.base⟩;by_cases ak:id<H.length
 ·rw[List.getElem?_append_left ak]at h1;exact hH.ok id ab gi (by rw[List.getElem?_append_left ak];exact h1) h2
 ·have aZ:=(List.getElem?_eq_some_iff.1 h2).1;simp[h.len]at aZ;obtain rfl:id=H.length:=by omega
  simp at h1;have h2:(G.μ++[GI.own (.slice none 0 0) size 0])[H.length]?=some gi:=h2;rw[←h.len]at h2;simp at h2;subst h1 h2;exact⟨rfl,rfl,⟨[],World.ownsRow_nil w B e size,trivial⟩,λb hb=>by simp[Value.ownBlock]at hb⟩
theorem HRel.ovCell (h:HRel B w G H) {id j:Nat} {cs:List AV} (e size:Nat) (ap:H[id]?=some (.cells cs)) (hj:cs[j]?=some .snil) :
  ∃ G',Ext B w G w G'∧HRel B w G' (H.set id (.cells (cs.set j (.ov H.length 0)))++[.vec e size 0 []]):=by
 obtain⟨hE,aT⟩:=h.newVec e size;refine⟨_,hE,?_⟩;have ak:=(List.getElem?_eq_some_iff.1 ap).1;have:=aT.reCell (id:=id) (cs:=cs) (cs':=cs.set j (.ov H.length 0)) (by rw[List.getElem?_append_left ak];exact ap) (λvs iA=>by
  obtain⟨v,h1,h2⟩:=All2.get iA hj;have h2:v=.slice none 0 0:=h2;subst h2;have aU:vs=vs.set j (.slice none 0 0):=by
   apply List.ext_getElem?;intro k;by_cases hk:k=j
   ·subst hk;rw[List.getElem?_set_self (List.getElem?_eq_some_iff.1 h1).1];exact h1
   ·rw[List.getElem?_set_ne (λh=>hk h.symm)]
  rw[aU];refine All2.set j iA ?_;refine⟨⟨none,0,rfl,λh=>absurd h (by omega),Nat.le_refl _⟩,.slice none 0 0,size,0,?_,Nat.le_refl _,λ_=>rfl⟩;rw[←h.len];simp)
 rwa [List.set_append_left _ _ ak]at this
theorem ACalls.ovC {f:FuncId} {args:List AV} {K:AV→zaa→Prop} {id j:Nat} {cs:List AV} (e size:Nat) (ap:H[id]?=some (.cells cs)) (hj:cs[j]?=some .snil)
  (h:ACalls P f args (H.set id (.cells (cs.set j (.ov H.length 0)))++[.vec e size 0 []]) K):ACalls P f args H K:=by
 intro B w G vs hH hv;obtain⟨G',hE,aT⟩:=hH.ovCell e size ap hj;refine (h B w G' vs aT (hv.mono λ_ _=>hE.trel)).mono λe' w' hp=>?_;obtain⟨v,r,H',G'',h1,h2,h3⟩:=hp;exact⟨v,r,H',G'',h1,hE.trans h2,h3⟩
end Go.Abs
namespace Go.Abs
open Go Go.RowKit
variable {P:Program} {B:Nat} {w:World} {G:Gh} {H:zaa}
theorem zFC (h:HRel B w G H) (e size:Nat):TRel w ⟨G.L,G.μ++[.own (.slice none 0 0) size 0]⟩ (.slice none 0 0) (.ov H.length 0):=by refine⟨⟨none,0,rfl,λh=>absurd h (by omega),Nat.le_refl _⟩,.slice none 0 0,size,0,?_,Nat.le_refl _,λ_=>rfl⟩;rw[←h.len];simp
theorem ALoop.vec {c:Code} {Q:AExit→List AV→zaa→Prop} {F:List AV} (i e size:Nat) (hi:F[i]?=some .snil)
  (h:ALoop P c Q (F.set i (.ov H.length 0)) (H++[.vec e size 0 []])):ALoop P c Q F H:=by
 intro B w G a hH hF hd;obtain⟨hE,aT⟩:=hH.newVec e size;have gR:FRel w ⟨G.L,G.μ++[.own (.slice none 0 0) size 0]⟩ a.tmps (F.set i (.ov H.length 0)):=by
  unfold FRel;obtain⟨v,h1,h2⟩:=All2.get hF hi;have h2:v=.slice none 0 0:=h2;subst h2;have aU:a.tmps.toList=a.tmps.toList.set i (.slice none 0 0):=by
   apply List.ext_getElem?;intro k;by_cases hk:k=i
   ·subst hk;rw[List.getElem?_set_self (List.getElem?_eq_some_iff.1 h1).1];exact h1
   ·rw[List.getElem?_set_ne (λh=>hk h.symm)]
  rw[aU];exact All2.set i (hF.ext hE) (zFC hH e size)
 refine wp_mono (h B w _ a aT gR hd) λe a' w' hp=>?_;obtain⟨F'',H'',G'',e'',rfl,k1,k2,k3,k4,k5⟩:=hp;exact⟨F'',H'',G'',e'',rfl,hE.trans k1,k2,k3,k4,k5⟩
theorem zqw {vs:List Value}:∀ {cs cs':List AV},All2 WkA cs cs'→∀ {vs:List Value},All2 (ARel w G) vs cs→All2 (ARel w G) vs cs'
 | [],[],_,_,hv=>hv
 | x::cs,x'::cs',hw,[],hv=>hv.elim
 | x::cs,x'::cs',hw,v::vs,hv=>⟨hw.1.arel hv.1,zqw (vs:=[]) hw.2 hv.2⟩
 | [],_::_,hw,_,_=>hw.elim
 | _::_,[],hw,_,_=>hw.elim
theorem ALoop.reCell {c:Code} {Q:AExit→List AV→zaa→Prop} {F:List AV} {id:Nat} {cs:List AV} (cs':List AV) (ap:H[id]?=some (.cells cs)) (hw:All2 WkA cs cs') (h:ALoop P c Q F (H.set id (.cells cs'))):ALoop P c Q F H:=by intro B w G a hH hF hd;exact h B w G a (hH.reCell ap λvs hv=>zqw (vs:=[]) hw hv) hF hd
theorem HRel.frzV (h:HRel B w G H) {id e size n:Nat} {cs:List AV} (hH:H[id]?=some (.vec e size n cs)) {es:List (List AV)} (hp:plain cs=some es.flatten) (am:es.length=n) (aC:∀ c∈es,c.length=size) :
  ∃ G',Ext B w G w G'∧HRel B w G' (H.set id .dead)∧∀ v,ARel w G v (.ov id n)→DRel w G'.L v (.sl es .none):=by
 have ak:id<G.μ.length:=by rw[h.len];exact (List.getElem?_eq_some_iff.1 hH).1
 obtain⟨gi,cK⟩:∃ gi,G.μ[id]?=some gi:=⟨_,List.getElem?_eq_getElem ak⟩;have aw:=h.ok id _ _ hH cK;cases gi with
 | gap=>exact aw.elim
 | blk b=>exact aw.elim
 | own v0 s0 n0=>
  obtain⟨rfl,rfl,⟨xs,aq,aK⟩,dB⟩:=aw;have bP:=aq;obtain⟨hl,be⟩:=bP;rcases be with ⟨h1,h2⟩ | ⟨g,cap,cur,h1,hB,hw,aJ,bB,gO,bf⟩
  ·subst h1;refine⟨G,Ext.refl _ _ _,⟨by simp[h.len],?_,h.dist,h.fresh,h.lt,h.base⟩,?_⟩
   ·intro id' ab gi k1 k2;by_cases ap:id'=id
    ·subst ap;rw[List.getElem?_set_self (List.getElem?_eq_some_iff.1 hH).1]at k1;cases k1;rw[cK]at k2;cases k2;exact λb hb=>by simp[Value.ownBlock]at hb
    ·rw[List.getElem?_set_ne (λh=>ap h.symm)]at k1;exact h.ok id' ab gi k1 k2
   ·intro v hv;obtain⟨⟨a,cap0,rfl,_⟩,v',s',n',hμ,_,heq⟩:=hv;have aX:es=[]:=List.eq_nil_of_length_eq_zero (by omega);subst aX;subst am;exact .slE _ _
  ·subst h1;have eI:G.L g=0:=dB g rfl;have he:Ext B w G w ⟨λx=>if x=g then cur.size else G.L x,G.μ⟩:=
    ⟨Nat.le_refl _,Below.refl _ _,λx=>by by_cases hx:x=g <;> simp[hx,eI],λ_ _ _=>rfl,λ_ gi h=>⟨gi,h,gi.le_refl⟩⟩
   refine⟨_,he,⟨by simp[h.len],?_,h.dist,λx hx=>?_,h.lt,h.base⟩,?_⟩
   ·intro id' ab gi k1 k2;by_cases ap:id'=id
    ·subst ap;rw[List.getElem?_set_self (List.getElem?_eq_some_iff.1 hH).1]at k1;cases k1;have k2:G.μ[id']?=some gi:=k2;rw[cK]at k2;cases k2;intro b hb;simp[Value.ownBlock]at hb;subst hb;exact⟨cur,e,_,hw,by simp⟩
    ·rw[List.getElem?_set_ne (λh=>ap h.symm)]at k1;refine (h.ok id' ab gi k1 k2).keep he (λx hx=>⟨rfl,?_⟩);have:¬ x=g:=λdO=>ap (h.dist id' id gi _ g k2 cK (by rw[hx,dO]) rfl);simp[this]
   ·have:=h.lt id _ g cK rfl;have h3:¬ x=g:=by omega
    simp[h3,h.fresh x hx]
   ·intro v hv;obtain⟨⟨a,cap0,rfl,_⟩,v',s',n',hμ,_,heq⟩:=hv;rw[cK]at hμ;simp only[Option.some.injEq,GI.own.injEq]at hμ;obtain⟨rfl,rfl,rfl⟩:=hμ;have jX:=heq rfl;simp only[Value.slice.injEq,true_and]at jX;obtain⟨rfl,rfl⟩:=jX;subst am;by_cases aX:es=[]
    ·subst aX;exact .slE _ _
    ·obtain⟨_,_,_,aG⟩:=zdl aq;refine DRel.of_flat_at (zs:=xs) aC aX aJ ?_ ((zdm aK hp).mono λ_ _=>he.drel) ?_
     ·simp only[if_true];rw[gO,Nat.zero_add];exact Nat.mul_le_mul_right _ aJ
     ·intro j u hj;rw[Nat.zero_add,aG j (by rw[←hl];exact (List.getElem?_eq_some_iff.1 hj).1)];exact hj
theorem ACalls.frzV {f:FuncId} {x:AV} {K:Kt} (id e size n:Nat) (cs:List AV) (es:List (List AV)) (hH:H[id]?=some (.vec e size n cs)) (hp:plain cs=some es.flatten) (am:es.length=n) (aC:∀ c∈es,c.length=size)
  (h:ACalls P f [.agg [x,.sl es .none]] (H.set id .dead) K):ACalls P f [.agg [x,.ov id n]] H K:=by
 intro B w G vs hR hv;obtain⟨G',hE,eO,hd⟩:=hR.frzV hH hp am aC;refine (h B w G' vs eO ?_).mono λe w' ⟨v,r,H',G'',k1,k2,k3,k4,k5⟩=>⟨v,r,H',G'',k1,hE.trans k2,k3,k4,k5⟩;generalize vs.toList=l at *
 match l,hv with
 | [v],⟨⟨us,hu,h1⟩,_⟩=>
  refine⟨⟨us,hu,?_⟩,trivial⟩;generalize us.toList=m at *
  match m,h1 with
  | [a,b],⟨h2,h3,_⟩=>exact⟨hE.arel h2,hd b h3,trivial⟩
end Go.Abs
namespace Go.Proofs.YtdmamdnkcefmmaaGreatDoor
open Go Go.Abs
theorem zB8 (n:Nat) (hn:n<18446744073709551616) (H:zaa) (K:Kt) (hK:K (.sl (zam (lim n)) .none) H) :
  ACalls tP zho [.int .u64 n] H K:=by
 refine ACalls.out (zSC λhs=>?_);unfold zB7 zm9;refine ALoop.own 3 zbk 1 rfl ?_;show zm9 (.int .u64 n) (.sl [] (.own H.length)) (H++[.perm zbk 1 0]) (Out H.length K);refine zSA (Inv:=λq t0 t3 H'=>∃ (m:Nat) (A:List Nat),m=q∧t0=.int .u64 m∧t3=.sl (zam A) (.own H.length)∧lim n=A++lim m∧m<18446744073709551616 ∧
  H'=H++[.perm zbk 1 A.length]) n ?_ ?_
 ·intro _;exact⟨n,[],rfl,rfl,rfl,by simp,hn,rfl⟩
 ·rintro q t0 t3 H' ⟨m,A,rfl,rfl,rfl,hA,hm,rfl⟩ aM am aP Kb ar;by_cases h0:m=0
  ·subst h0;simp[ztD];exact Out.one hs (.atom (.sl _ _)) rfl rfl (by simpa[hA]using hK)
  ·have hq:=zoA m;have hd:=zEe h0;have hlA:A.length+1≤1000:=by have h1:=congrArg List.length hA;have h2:=zbQ (n:=n) (k:=3) (by omega);rw[zb9 h0]at h1;simp at h1;omega
   simp only[ztD,znO,zuy false hm,zDd .u64 (show m % 1000000000<4294967296 by omega)];simp[show 0<m by omega,zau,zaV,plain,AV.pd,zaw,zaL,zaI];refine⟨⟨by omega,by omega⟩,?_⟩;have e1:((m:Int) / 1000000000)=((m / 1000000000:Nat):Int):=rfl;have e2:((m:Int) % 1000000000)=((m % 1000000000:Nat):Int):=rfl;rw[e1,e2,sN];refine ar _ _ ⟨m / 1000000000,hd,Back.here (by simp) (hs.append (by simp[AB.sc])) (by simp[zm8,ux,AV.sc,AV.scA,AV.scB,AV.scV]) ⟨_,_,rfl,m / 1000000000,A++[m % 1000000000],rfl,rfl,rfl,?_,by omega,by simp⟩⟩;rw[hA,zb9 h0];simp
theorem zfa (A:List Nat) (x:Nat):zap (A++[x])=zap A+1000000000 ^ A.length*x:=by rw[zg6];simp[zap]
theorem zyH (L:List Nat) (gS:∀ x∈L,x<4294967296) (hL:L.length≤100000) (H:zaa) (K:Kt) (hK:K (.sl (zam (lim (zap L))) .none) H) :
  ACalls tP ziL [.sl (zam L) .none] H K:=by
 refine ACalls.out (zIq λhs=>?_);unfold zyG zkn;refine ALoop.own 3 zbk 1 rfl ?_;show zkn (.sl (zam L) .none) (.sl [] (.own H.length)) (.int .u64 0) (.int .i64 0) (H++[.perm zbk 1 0]) (Out H.length K);have fz:∀ A:List Nat,(∀ x∈A,x<1000000000)→zap A=zap L→A.length≤200000→zkm (.sl (zam A) (.own H.length)) (H++[.perm zbk 1 A.length]) (Out H.length K):=by intro A hA he hl;unfold zkm;refine ACalls.wk (args':=[.sl (zam A) .none]) (zqK A (by omega) _ _ ?_) ⟨.atom (.sl _ _),trivial⟩;rw[zfo A hA,he];exact Out.one hs (.atom (.sl _ _)) rfl rfl hK
 refine zIo (Inv:=λq t3 t4 t5 H'=>∃ (i c:Nat) (A:List Nat),i≤L.length∧L.length-i=q∧t5=.int .i64 i∧t4=.int .u64 c∧t3=.sl (zam A) (.own H.length)∧A.length=i∧(∀ x∈A,x<1000000000)∧c≤5 ∧
  zap A+1000000000 ^ i*c=zap (L.take i)∧H'=H++[.perm zbk 1 A.length]) L.length ?_ ?_
 ·intro _;exact⟨0,0,[],by omega,rfl,rfl,rfl,rfl,rfl,by simp,by omega,by simp[zap],rfl⟩
 ·rintro q t3 t4 t5 H' ⟨i,c,A,hi,rfl,rfl,rfl,rfl,eP,hA,hc,hv,rfl⟩ aM am aP Kb ar;by_cases ak:i<L.length
  ·have hx:=gS L[i] (List.getElem_mem ak);have w1:IntKind.u64.wrap ((L[i]:Nat):Int)=L[i]:=zbH (by omega);obtain⟨s,bJ⟩:∃ s,s=c+L[i]:=⟨_,rfl⟩;have w2:IntKind.u64.wrap ((c:Int)+(L[i]:Nat))=(s:Int):=by rw[bJ,←Int.natCast_add];exact zbH (by omega)
   obtain⟨x,c',bI,bh,bK,e1,e2⟩:=zgU s (by omega);simp only[zkk];simp[ak,w1,w2,e1,e2,bK,zau,zaV,plain,AV.pd,zaw,zaL,zaI,wi i (by omega)];refine⟨⟨by omega,by omega⟩,?_⟩;rw[sN];refine ar _ _ ⟨L.length-(i+1),by omega,Back.here (by simp) (hs.append (by simp[AB.sc])) (by simp[zkl,ux,AV.sc,AV.scA,AV.scB,AV.scV]) ⟨_,_,_,rfl,i+1,c',A++[x],by omega,rfl,rfl,rfl,rfl,by simp[eP],?_,by omega,?_,by simp⟩⟩
   ·intro y hy;rcases List.mem_append.1 hy with hy | hy
    ·exact hA y hy
    ·simp at hy;omega
   ·rw[zfa,zfX L i ak,←hv,eP,Nat.pow_succ];grind
  ·obtain rfl:i=L.length:=by omega
   rw[List.take_length]at hv;by_cases h0:c=0
   ·subst h0;simp[zkk];exact fz A hA (by simpa using hv) (by omega)
   ·simp only[zkk];simp[show 0<c by omega,zdW (show c<4294967296 by omega),zau,zaV,plain,AV.pd,zaw,zaL,zaI];refine⟨⟨by omega,by omega⟩,?_⟩;rw[sN];have:=fz (A++[c]) (λy hy=>by
     rcases List.mem_append.1 hy with hy | hy
     ·exact hA y hy
     ·simp at hy;omega) (by rw[zfa,eP];exact hv) (by simp;omega)
    simpa using this
theorem ziI {A B:List Nat} (hl:A.length=B.length) (hA:∀ x∈A,x<1000000000) (i:Nat) (hi:i<A.length) (hd:A.drop (i+1)=B.drop (i+1)) (ak:A[i]<B[i]'(by omega)):zap A<zap B:=by
 have e1:∀ (l:List Nat) (h:i<l.length),zap l=zap (l.take i)+1000000000 ^ i*(l[i]+1000000000*zap (l.drop (i+1))):=by
  intro l h
  conv=>lhs;rw[←List.take_append_drop i l,zg6,List.drop_eq_getElem_cons h,zap]
  rw[List.length_take,Nat.min_eq_left (by omega)]
 rw[e1 A hi,e1 B (by omega),hd];have h1:=zeD (A.take i) (λx hx=>hA x (List.mem_of_mem_take hx));rw[List.length_take,Nat.min_eq_left (by omega)]at h1;generalize hZ:zap (B.drop (i+1))=Z;generalize A[i]=a at ak ⊢;generalize B[i]=b at ak ⊢;have h2:1000000000 ^ i*(a+1000000000*Z+1)≤1000000000 ^ i*(b+1000000000*Z):=Nat.mul_le_mul_left _ (by omega);rw[Nat.mul_succ]at h2;omega
def zcg (a b:Nat):Int:=if a<b then -1 else if b<a then 1 else 0
theorem zIl (a b:Nat) (ha:(lim a).length≤1000) (hb:(lim b).length≤1000) (H:zaa) (K:Kt) (hK:K (.int .i64 (zcg a b)) H) :
  ACalls tP zoH [.sl (zam (lim a)) .none,.sl (zam (lim b)) .none] H K:=by
 refine ACalls.out (zIj λhs=>?_);have hO:∀ r,r=zcg a b→Out H.length K (.int .i64 r) H:=λr hr=>Out.int (J:=[]) (by simp) (Nat.le_refl _) hs (by rw[hr];exact hK);have lA:=zch a;have lB:=zch b;have vA:=zbK a;have vB:=zbK b;by_cases aB:(lim a).length=(lim b).length
 ·simp[zkg,aB];generalize hLA:lim a=A at *;generalize hLB:lim b=B at *;have d7:IntKind.i64.wrap ((B.length:Int)-1)=(B.length:Int)-1:=zat (by omega) (by omega);rw[d7];refine zIh (Inv:=λq t5 H'=>∃ i:Nat,i≤B.length∧i=q∧t5=.int .i64 ((i:Int)-1)∧H'=H∧A.drop i=B.drop i) B.length ?_ ?_
  ·intro _;exact⟨B.length,by omega,rfl,rfl,rfl,by rw[List.drop_of_length_le (by omega),List.drop_of_length_le (by omega)]⟩
  ·rintro q t5 H' ⟨i,hi,rfl,rfl,rfl,hd⟩ aM am aP Kb ar;by_cases h0:i=0
   ·subst h0;simp[zhU];refine hO _ ?_;simp at hd;rw[←vA,←vB,hd];simp[zcg]
   ·obtain⟨j,rfl⟩:∃ j,i=j+1:=⟨i-1,by omega⟩;have db:j<A.length:=by omega
    have fA:j<B.length:=by omega
    have ej:((j+1:Nat):Int)-1=(j:Int):=by omega
    have aW:IntKind.i64.wrap ((j:Int)-1)=(j:Int)-1:=zat (by omega) (by omega);rw[ej];rcases Nat.lt_trichotomy A[j] B[j] with h | h | h
    ·have:=ziI aB lA j db hd h;simp[zhU,db,fA,h];exact hO _ (by rw[←vA,←vB];simp[zcg,this])
    ·simp[zhU,db,fA,h,aW];refine ar _ _ ⟨j,by omega,Back.here (by simp) hs (by simp[zki,ux,AV.sc,AV.scA,AV.scB,AV.scV]) ⟨_,rfl,j,by omega,rfl,rfl,rfl,?_⟩⟩;rw[List.drop_eq_getElem_cons db,List.drop_eq_getElem_cons fA,hd,h]
    ·have:=ziI aB.symm lB j fA hd.symm h;simp[zhU,db,fA,h,Nat.le_of_lt h,Nat.not_lt.2 (Nat.le_of_lt h)];exact hO _ (by rw[←vA,←vB];simp[zcg,this,Nat.not_lt.2 (Nat.le_of_lt this)])
 ·have fB:(((lim a).length:Int) != ((lim b).length:Int))=true:=by simp;omega
  by_cases ak:(lim a).length<(lim b).length
  ·have:=ziH ak;simp[zkg,fB,ak];exact hO (-1) (by simp[zcg,this])
  ·have:=ziH (show (lim b).length<(lim a).length by omega);simp[zkg,fB,ak];exact hO 1 (by simp[zcg,this,Nat.not_lt.2 (Nat.le_of_lt this)])
def us (l:List Nat):List AV:=l.map λ(n:Nat)=>AV.int .u32 (n:Int)
@[simp] theorem zYy (l:List Nat):(us l).length=l.length:=by simp[us]
theorem zj8 (l:List Nat):(zam l).flatten=us l:=by induction l with
 | nil=>rfl
 | cons x l ih=>simp only[zam,us,List.map_cons,List.flatten_cons]at ih ⊢;rw[ih];rfl
theorem zhR:∀ (l:List Nat),plain (us l)=some (us l)
 | []=>rfl
 | x::l=>by simp only[us,List.map_cons,plain,AV.pd];rw[show plain (List.map (λn:Nat=>AV.int .u32 (n:Int)) l)=some (us l) from zhR l];rfl
theorem zHN (l:List Nat) (i:Nat) (h:i<l.length):(us l)[i]?=some (.int .u32 ((l[i]:Nat):Int)):=by simp[us,h]
theorem zym (l:List Nat) (i x:Nat) (h:i<l.length):(us l).take i++[AV.int .u32 (x:Int)]++(us l).drop (i+1)=us (l.set i x):=by simp only[us,←List.map_take,←List.map_drop];rw[List.set_eq_take_append_cons_drop,if_pos h];simp
theorem zqs (n:Nat):List.replicate n (AV.int .u32 0)=us (List.replicate n 0):=by simp[us]
theorem zDc {k:AV→Prop} (l:List Nat) (i:Nat) (h:i<l.length):zbo false 1 i (us l) k=k (.int .u32 ((l[i]:Nat):Int)):=by simp[zbo,zHN l i h]
theorem zD5 (L:List Nat) (hL:∀ x∈L,x<1000000000) (hl:L.length≤100000) {id:Nat} {H:zaa} {K:Kt} (ap:H[id]?=some (.cells (us L))) (hK:K (.sl (zam (lim (zap L))) .none) (H.set id .dead)) :
  ACalls tP zfY [.ms id 0 L.length L.length] H K:=by
 refine ACalls.frz id 0 L.length L.length 1 (us L) (zam L) ap (by simp) ?_ (by simp) (zdV L) (Nat.le_refl _) (args':=[.sl (zam L) .none]) ⟨.one .ms,trivial⟩ ?_
 ·rw[List.drop_zero,List.take_of_length_le (by simp),zj8,zhR]
 ·refine zqK L (by omega) _ _ ?_;rw[zfo L hL];exact hK
theorem zwo (L:List Nat) (hL:L.length≤1000000) (H:zaa) (K:Kt) (hK:K (.sl (zam (zbA L)) .none) H) :
  ACalls tP zfc [.sl (zam L) .none] H K:=by
 refine ACalls.out (zLv λhs=>?_);simp[zzA];refine zLt (Inv:=λq t3 H'=>∃ n:Nat,n≤L.length∧n=q∧t3=.int .i64 n∧H'=H∧zbA L=zbA (L.take n)) L.length ?_ ?_
 ·intro _;exact⟨L.length,by omega,rfl,by simp,rfl,by simp⟩
 ·rintro q t3 H' ⟨n,hn,rfl,rfl,rfl,aN⟩ aM am aP Kb ar;have br:∀ (l:List Nat),l=zbA L→Out (List.length H') K (AV.sl (zam l) .none) H':=λl hl=>Out.one0 hs (.atom (.sl _ _)) rfl rfl (by rw[hl];exact hK);by_cases h0:n=0
  ·subst h0;simp[zlo];exact⟨zdV L,br [] (by simpa[zbA]using aN.symm)⟩
  ·have hw:IntKind.i64.wrap ((n:Int)-1)=((n-1:Nat):Int):=by rw[zat (by omega) (by omega)];omega
   have ak:n-1<L.length:=by omega
   by_cases hz:L[n-1]=0
   ·simp[zlo,show 0<n by omega,hw,ak,hz];exact ar _ _ ⟨n-1,by omega,Back.here (by simp) hs (by simp[zlp,AV.sc,AV.scA,AV.scB,AV.scV]) ⟨_,rfl,n-1,by omega,rfl,rfl,rfl,by rw[aN,zxG (by omega) hn hz]⟩⟩
   ·have jF:(((L[n-1]:Nat):Int) == 0)=false:=by simp;omega
    simp[zlo,show 0<n by omega,hw,ak,jF];refine⟨⟨hn,zdV L⟩,?_⟩;rw[zyi];exact br _ (by rw[aN,zxE (by omega) hn hz])
theorem zoi (n:Nat) (hn:n<18446744073709551616) (H:zaa) (K:Kt) (hK:K (.sl (zam (lim n)) .none) H) :
  ACalls tP zf0 [.int .u64 n] H K:=by
 refine ACalls.out (zLh λhs=>?_);unfold zzw zlh;refine ALoop.own 3 zbk 1 rfl ?_;show zlh (.int .u64 n) (.sl [] (.own H.length)) (H++[.perm zbk 1 0]) (Out H.length K);refine zLf (Inv:=λq t0 t3 H'=>∃ (m:Nat) (A:List Nat),m=q∧t0=.int .u64 m∧t3=.sl (zam A) (.own H.length)∧lim n=A++lim m∧m<18446744073709551616 ∧
  H'=H++[.perm zbk 1 A.length]) n ?_ ?_
 ·intro _;exact⟨n,[],rfl,rfl,rfl,by simp,hn,rfl⟩
 ·rintro q t0 t3 H' ⟨m,A,rfl,rfl,rfl,hA,hm,rfl⟩ aM am aP Kb ar;by_cases h0:m=0
  ·subst h0;simp[zrx];exact Out.one hs (.atom (.sl _ _)) rfl rfl (by simpa[hA]using hK)
  ·have hlA:A.length+1≤1000:=by have h1:=congrArg List.length hA;have h2:=zbQ (n:=n) (k:=3) (by omega);rw[zb9 h0]at h1;simp at h1;omega
   obtain⟨x,c,bI,bh,bK,e1,e2⟩:=zgU m hm;simp only[zrx];simp[show 0<m by omega,e1,e2,bK,zau,zaV,plain,AV.pd,zaw,zaL,zaI];refine⟨⟨by omega,by omega⟩,?_⟩;rw[sN];refine ar _ _ ⟨c,by omega,Back.here (by simp) (hs.append (by simp[AB.sc])) (by simp[zlg,ux,AV.sc,AV.scA,AV.scB,AV.scV]) ⟨_,_,rfl,c,A++[x],rfl,rfl,rfl,?_,by omega,by simp⟩⟩;rw[hA,zb9 h0,show m % 1000000000=x by omega,show m / 1000000000=c by omega];simp
theorem _root_.Go.Abs.ACalls.frzV1 {P:Program} {H:zaa} {f:FuncId} {K:Kt} (id e size n:Nat) (cs:List AV) (es:List (List AV)) (hH:H[id]?=some (.vec e size n cs)) (hp:plain cs=some es.flatten) (am:es.length=n) (aC:∀ c∈es,c.length=size)
  (h:ACalls P f [.sl es .none] (H.set id .dead) K):ACalls P f [.ov id n] H K:=by
 intro B w G vs hR hv;obtain⟨G',hE,eO,hd⟩:=hR.frzV hH hp am aC;refine (h B w G' vs eO ?_).mono λe w' ⟨v,r,H',G'',k1,k2,k3,k4,k5⟩=>⟨v,r,H',G'',k1,hE.trans k2,k3,k4,k5⟩;generalize vs.toList=l at *
 match l,hv with
 | [v],⟨h1,_⟩=>exact⟨hd v h1,trivial⟩
theorem zHI (L:List Nat) (hL:∀ x∈L,x<1000000000) (hl:L.length≤100000) {id:Nat} {H:zaa} {K:Kt} (ap:H[id]?=some (.vec zbk 1 L.length (us L))) (hK:K (.sl (zam (lim (zap L))) .none) (H.set id .dead)) :
  ACalls tP zfc [.ov id L.length] H K:=by
 refine ACalls.frzV1 id zbk 1 L.length (us L) (zam L) ap (by rw[zj8,zhR]) (by simp) (zdV L) ?_;refine zwo L (by omega) _ _ ?_;rw[zfo L hL];exact hK
theorem zx5 (L:List Nat) (hL:∀ x∈L,x<1000000000) (hl:L.length≤100000) {id:Nat} {H:zaa} {K:Kt} (ap:H[id]?=some (.cells (us L))) (hK:K (.sl (zam (lim (zap L))) .none) (H.set id .dead)) :
  ACalls tP zfc [.ms id 0 L.length L.length] H K:=by
 refine ACalls.frz id 0 L.length L.length 1 (us L) (zam L) ap (by simp) ?_ (by simp) (zdV L) (Nat.le_refl _) (args':=[.sl (zam L) .none]) ⟨.one .ms,trivial⟩ ?_
 ·rw[List.drop_zero,List.take_of_length_le (by simp),zj8,zhR]
 ·refine zwo L (by omega) _ _ ?_;rw[zfo L hL];exact hK
theorem zjw (L:List Nat) (gS:∀ x∈L,x<4294967296) (hL:L.length≤50000) (H:zaa) (K:Kt) (hK:K (.sl (zam (lim (zap L))) .none) H) :
  ACalls tP ziU [.sl (zam L) .none] H K:=by
 refine ACalls.out (zLp λhs=>?_);have hsc:∀ A:List Nat,HSc (H++[.vec zbk 1 A.length (us A)]):=λA=>hs.append (by simp[AB.sc,us,AV.scA,AV.scB]);simp[zzy,wi L.length (by omega)];refine⟨⟨by omega,by omega,by omega⟩,?_⟩;have fz:∀ A:List Nat,(∀ x∈A,x<1000000000)→zap A=zap L→A.length≤100000→zlm (.ov H.length A.length) (H++[.vec zbk 1 A.length (us A)]) (Out H.length K):=by intro A hA he hl;unfold zlm;refine zHI A hA hl (by simp) ?_;rw[he];simp;exact Out.one hs (.atom (.sl _ _)) rfl rfl hK
 refine zLn (Inv:=λq t3 t4 t13 H'=>∃ (i c:Nat) (A:List Nat),i≤L.length∧L.length-i=q∧t13=.int .i64 i∧t4=.int .u64 c∧t3=.ov H.length A.length∧A.length=i∧(∀ x∈A,x<1000000000)∧c≤5 ∧
  zap A+1000000000 ^ i*c=zap (L.take i)∧H'=H++[.vec zbk 1 A.length (us A)]) L.length ?_ ?_
 ·intro _;exact⟨0,0,[],by omega,rfl,rfl,rfl,rfl,rfl,by simp,by omega,by simp[zap],rfl⟩
 ·rintro q t3 t4 t13 H' ⟨i,c,A,hi,rfl,rfl,rfl,rfl,eP,hA,hc,hv,rfl⟩ aM am aP Kb ar;by_cases ak:i<L.length
  ·have hx:=gS L[i] (List.getElem_mem ak);have w1:IntKind.u64.wrap ((L[i]:Nat):Int)=L[i]:=zbH (by omega);obtain⟨s,bJ⟩:∃ s,s=L[i]+c:=⟨_,rfl⟩;have w2:IntKind.u64.wrap (((L[i]:Nat):Int)+(c:Int))=(s:Int):=by rw[bJ,←Int.natCast_add];exact zbH (by omega)
   obtain⟨x,c',bI,bh,bK,e1,e2⟩:=zgU s (by omega);simp only[zlk];simp[ak,w1,w2,e1,e2,bK,zau,zaV,plain,AV.pd,zaw,zaL,zaI,wi i (by omega)];refine⟨⟨by omega,by omega⟩,?_⟩;have e3:us A++[AV.int .u32 (x:Int)]=us (A++[x]):=by simp[us]
   rw[e3];refine ar _ _ ⟨L.length-(i+1),by omega,Back.here (by simp) (by simpa using hsc (A++[x])) (by simp[zll,ux,AV.sc,AV.scA,AV.scB,AV.scV]) ⟨_,_,_,rfl,i+1,c',A++[x],by omega,rfl,rfl,rfl,by simp,by simp[eP],?_,by omega,?_,by simp⟩⟩
   ·intro y hy;rcases List.mem_append.1 hy with hy | hy
    ·exact hA y hy
    ·simp at hy;omega
   ·rw[zfa,zfX L i ak,←hv,eP,Nat.pow_succ];grind
  ·obtain rfl:i=L.length:=by omega
   rw[List.take_length]at hv;by_cases h0:c=0
   ·subst h0;simp[zlk];exact fz A hA (by simpa using hv) (by omega)
   ·simp only[zlk];simp[show 0<c by omega,zdW (show c<4294967296 by omega),zau,zaV,plain,AV.pd,zaw,zaL,zaI];refine⟨⟨by omega,by omega⟩,?_⟩;have e3:us A++[AV.int .u32 (c:Int)]=us (A++[c]):=by simp[us]
    rw[e3];have:=fz (A++[c]) (λy hy=>by
     rcases List.mem_append.1 hy with hy | hy
     ·exact hA y hy
     ·simp at hy;omega) (by rw[zfa,eP];exact hv) (by simp;omega)
    simpa using this
theorem zyo (O:List Nat) (i x:Nat) (h:i<O.length):List.take i (us O)++AV.int .u32 (x:Int)::List.drop (i+1) (us O)=us (O.set i x):=by rw[←zym O i x h];simp
theorem zxt {O:List Nat} (hO:∀ x∈O,x<1000000000) {i x:Nat} (hx:x<1000000000):∀ y∈O.set i x,y<1000000000:=by
 intro y hy;rcases List.mem_or_eq_of_mem_set hy with hy | rfl
 ·exact hO y hy
 ·exact hx
theorem zEY {O:List Nat} {j:Nat} (h:zap O<1000000000 ^ j):O.getD j 0=0:=by
 by_cases hj:j<O.length
 ·have e:zap O=zap (O.take j)+1000000000 ^ j*(O[j]+1000000000*zap (O.drop (j+1))):=by
   conv=>lhs;rw[←List.take_append_drop j O,zg6,List.drop_eq_getElem_cons hj,zap]
   rw[List.length_take,Nat.min_eq_left (by omega)]
  rw[List.getD_eq_getElem?_getD,List.getElem?_eq_getElem hj,Option.getD_some];refine Nat.eq_zero_of_not_pos λhp=>?_;have h2:1000000000 ^ j*1≤1000000000 ^ j*(O[j]+1000000000*zap (O.drop (j+1))):=Nat.mul_le_mul_left _ (by omega);omega
 ·simp[List.getD_eq_getElem?_getD,show O.length≤j by omega]
theorem zE8 (A B:List Nat) (lA:∀ x∈A,x<1000000000) (lB:∀ x∈B,x<1000000000) (ha:A.length≤1000) (hb:B.length≤1000) (H:zaa) (K:Kt)
  (hK:K (.sl (zam (lim (zap A*zap B))) .none) H) :
  ACalls tP zdA [.sl (zam A) .none,.sl (zam B) .none] H K:=by
 refine ACalls.out (zJd λhs=>?_);by_cases gT:A=[]
 ·subst gT;simp[zkz,zap]at hK ⊢;exact Out.one0 hs (.atom .snil) rfl rfl (by simpa[zam]using hK)
 by_cases jg:B=[]
 ·subst jg;have lk:((A.length:Int) == 0)=false:=by have:A.length≠0:=λh=>gT (List.eq_nil_of_length_eq_zero h);generalize A.length=q at this;simp;omega
  simp[zkz,zap,lk,gT]at hK ⊢;exact Out.one0 hs (.atom .snil) rfl rfl (by simpa[zam]using hK)
 have hAl0:A.length≠0:=λh=>gT (List.eq_nil_of_length_eq_zero h);have hBl0:B.length≠0:=λh=>jg (List.eq_nil_of_length_eq_zero h);have lk:((A.length:Int) == 0)=false:=by generalize A.length=q at hAl0;simp;omega
 have hBb:((B.length:Int) == 0)=false:=by generalize B.length=q at hBl0;simp;omega
 have hw:IntKind.i64.wrap ((A.length:Int)+B.length)=((A.length+B.length:Nat):Int):=by rw[zat (by omega) (by omega)];omega
 simp[zkz,lk,hBb,gT,jg,hw,zbp];have hN:((A.length:Int)+B.length).toNat=A.length+B.length:=by omega
 rw[hN,zqs];refine⟨⟨by omega,by omega,by omega⟩,?_⟩;have hsc:∀ O:List Nat,HSc (H++[.cells (us O)]):=λO=>hs.append (by simp[AB.sc,us,AV.scA,AV.scB]);have iD:=zeD B lB;refine zJa (Inv:=λq t26 H'=>∃ (i:Nat) (O:List Nat),i≤A.length∧A.length-i=q∧t26=.int .i64 i∧O.length=A.length+B.length∧(∀ x∈O,x<1000000000)∧zap O=zap (A.take i)*zap B∧H'=H++[.cells (us O)]) A.length ?_ ?_
 ·intro _;exact⟨0,_,by omega,rfl,rfl,by simp,by simp,by rw[zEZ];simp[zap],rfl⟩
 ·rintro q t26 H' ⟨i,O,hi,rfl,rfl,fZ,hO,hv,rfl⟩ aM am aP Kb ar;by_cases ak:i<A.length
  ·have fy:=lA A[i] (List.getElem_mem ak);have eP:=zeD (A.take i) (λy hy=>lA y (List.mem_of_mem_take hy));rw[List.length_take,Nat.min_eq_left (by omega)]at eP;have gU:O.getD (i+B.length) 0=0:=by refine zEY ?_;rw[hv,Nat.pow_add];exact Nat.mul_lt_mul'' eP iD
   simp[zqT,ak];refine zJb (Inv:=λq t7 t31 H'=>∃ (k c:Nat) (R:List Nat),k≤B.length∧B.length-k=q∧t31=.int .i64 k∧t7=.int .u64 c∧R.length=A.length+B.length∧(∀ x∈R,x<1000000000)∧c<1000000000∧R.getD (i+B.length) 0=0 ∧
    zap R+c*1000000000 ^ (i+k)=zap O+A[i]*zap (B.take k)*1000000000 ^ i∧H'=H++[.cells (us R)]) B.length ?_ ?_
   ·intro _;exact⟨0,0,O,by omega,rfl,rfl,rfl,fZ,hO,by omega,gU,by simp[zap],rfl⟩
   ·rintro q t7 t31 H' ⟨k,c,R,hk,rfl,rfl,rfl,gw,hR,hc,ki,hr,rfl⟩ hsc'' dx hsF' Kb2 bQ;by_cases iz:k<B.length
    ·have gm:IntKind.i64.wrap ((i:Int)+k)=((i+k:Nat):Int):=by rw[zat (by omega) (by omega)];omega
     have d5:i+k<R.length:=by omega
     have dO:=lB B[k] (List.getElem_mem iz);have dD:=hR R[i+k] (List.getElem_mem d5);have eT:((i:Int)+k).toNat=i+k:=by omega
     have w1:IntKind.u64.wrap ((R[i+k]:Nat):Int)=R[i+k]:=zbH (by omega);have w2:IntKind.u64.wrap ((A[i]:Nat):Int)=A[i]:=zbH (by omega);have w3:IntKind.u64.wrap ((B[k]:Nat):Int)=B[k]:=zbH (by omega);have ib:A[i]*B[k]≤999999999*999999999:=Nat.mul_le_mul (by omega) (by omega);obtain⟨m,hm⟩:∃ m,m=A[i]*B[k]:=⟨_,rfl⟩;have w4:IntKind.u64.wrap (((A[i]:Nat):Int)*(B[k]:Nat))=(m:Int):=by rw[hm,←Int.natCast_mul];exact zbH (by omega)
     obtain⟨s1,bJ⟩:∃ s,s=m+R[i+k]:=⟨_,rfl⟩;have w5:IntKind.u64.wrap ((m:Int)+(R[i+k]:Nat))=(s1:Int):=by rw[bJ,←Int.natCast_add];exact zbH (by omega)
     obtain⟨s,er⟩:∃ s,s=s1+c:=⟨_,rfl⟩;have w6:IntKind.u64.wrap ((s1:Int)+(c:Int))=(s:Int):=by rw[er,←Int.natCast_add];exact zbH (by omega)
     obtain⟨x,c',bI,bh,bK,e1,e2⟩:=zgU s (by omega);have aY:Kb2 (zhV (.sl (zam A) .none) (.sl (zam B) .none) (.ms H.length 0 (A.length+B.length) (A.length+B.length)) (.int .i64 i) (.int .u64 c') (.int .i64 A.length) (.int .i64 i) (.int .i64 B.length) (.int .i64 ((k:Int)+1))) (H++[.cells (us (R.set (i+k) x))]):=by
      have lm:=zow R (i+k) x d5;have bC:=zfX B k iz;refine bQ _ _ ⟨B.length-(k+1),by omega,Back.here (by simp) (hsc _) (by simp[zhV,ux,AV.sc,AV.scA,AV.scB,AV.scV]) ⟨_,_,rfl,k+1,c',R.set (i+k) x,by omega,rfl,by simp,rfl,by simp[gw],zxt hR bI,?_,?_,?_,rfl⟩⟩
      ·refine Nat.lt_of_not_le λh=>?_;have:=Nat.mul_le_mul_left 1000000000 h;omega
      ·rw[List.getD_eq_getElem?_getD,List.getElem?_set_ne (by omega),←List.getD_eq_getElem?_getD];exact ki
      ·rw[bC,show i+(k+1)=i+k+1 by omega,Nat.pow_succ];rw[Nat.pow_add]at hr lm ⊢;rw[er,bJ,hm]at bh;clear e1 e2 bK ar bQ aM hsc'' aP hsF' iD hK hs ki gU w1 w2 w3 w4 w5 w6;generalize zap (R.set (i+k) x)=vS at *;generalize R[i+k]=r at *;generalize A[i]=a at *;generalize B[k]=b at *;generalize zap (List.take k B)=T at *;generalize 1000000000 ^ i=P at *;generalize 1000000000 ^ k=Q at *;generalize zap R=vR at *;generalize zap O=vO at *;grind
     simp only[zqU];simp[iz,ak,gm,eT,w1,w2,w3,w4];refine⟨⟨by omega,by omega⟩,?_⟩;rw[zDc R _ d5];simp[w1,w5,w6,e1,e2,bK,gm,eT,wi k (by omega),zyo R (i+k) x d5];exact⟨⟨by omega,by omega⟩,by omega,aY⟩
    ·obtain rfl:k=B.length:=by omega
     have lr:IntKind.i64.wrap ((i:Int)+B.length)=((i+B.length:Nat):Int):=by rw[zat (by omega) (by omega)];omega
     have eT:((i:Int)+B.length).toNat=i+B.length:=by omega
     have d5:i+B.length<R.length:=by omega
     have lm:=zow R (i+B.length) c d5;rw[List.getD_eq_getElem?_getD,List.getElem?_eq_getElem d5,Option.getD_some]at ki;rw[ki]at lm;simp only[zqU];simp[lr,eT,zdW (show c<4294967296 by omega),wi i (by omega),zyo R (i+B.length) c d5];refine⟨⟨by omega,ak⟩,by omega,?_⟩;refine ar _ _ ⟨A.length-(i+1),by omega,Back.here (by simp) (hsc _) (by simp[zkA,ux,AV.sc,AV.scA,AV.scB,AV.scV]) ⟨_,rfl,i+1,R.set (i+B.length) c,by omega,rfl,rfl,by simp[gw],zxt hR hc,?_,rfl⟩⟩;rw[List.take_of_length_le (Nat.le_refl _)]at hr;rw[zfX A i ak];rw[hv]at hr;clear ar bQ aM hsc'' aP hsF' iD hK hs gU hsc;grind
  ·obtain rfl:i=A.length:=by omega
   rw[List.take_length]at hv;simp[zqT];rw[←fZ];refine zx5 O hO (by omega) (by simp) ?_;rw[hv];simp;exact Out.one hs (.atom (.sl _ _)) rfl rfl hK
end Go.Proofs.YtdmamdnkcefmmaaGreatDoor
