import Derived.Test.YtdmamdnkcefmmaaGreatDoorKNum
import Derived.Test.YtdmamdnkcefmmaaGreatDoorProg
import Derived.KernelRfl
import Derived.Test.YtdmamdnkcefmmaaGreatDoorAbsQ1
set_option linter.unusedSimpArgs false
set_option linter.unusedVariables false
set_option maxRecDepth 100000
namespace Go.Proofs.YtdmamdnkcefmmaaGreatDoor
section
variable (t0 t1 t2 t3 t5 t6 t7 t8 t13 t14 t15 t20 t21 t30 t31 t32 t47 t48 t49 t74:AV) (H:zaa) (K:Kt) (Kb2 Kb4 Kb5 Kb9:Lt)
def znN:Nat→List Bool|5=>rl false [1,2,2,1,24]|_=>[]
noncomputable def zuv:=Tryz.f72.body.getD .skip
noncomputable def zUH:=Tryz.f72.results.toList
def znO:=ux 1 (t1::t2::ux 2 (t5::ux 24 []))
def zUF:=znN 5
noncomputable def zUD:=zas [1,1,1,0,1,0,0] zuv
def zUC:=zat tP znN [1,1,1,0,1,0] zuv (zaB tP zUH K)
def zDj:=ALoop tP zUD (zUC K) (znO t1 t2 t5) H
def zuu:=zaf 2 t2 λt16=>zae false 1 t16 H λt17=>zai 1 t17 λt18=>zad .lss false t5 t18 λt19=>zag t19 (zaf 2 t2 λt22=>zae false 1 t22 H λt23=>zaj 3 t23 t5 λt25=>zae true 3 t25 H λt26=>ACalls tP zh0 [t26,t1] H λt28 H=>aUn .not t28 λt29=>zag t29 (K (.bool false) H) (zad .add false t5 (.int .i64 1) λt21=>Kb5 (znO t1 t2 t21) H)) (K (.bool true) H)
def zDi:=zaw t0 H λt2 H=>zbe t1 λt7=>zae false 1 t7 H λt8=>zad .sub false t8 (.int .i64 1) λt9=>zbe t1 λt10=>zao 1 t10 t9 H λH=>zbe t1 λt12=>zae false 1 t12 H λt13=>zad .lss false t13 (.int .i64 0) λt14=>zag t14 (K (.bool false) H) (zDj t1 t2 (.int .i64 0) H K)
def zSH(_:Nat):List Bool:=[]
noncomputable def zSI:=Tryz.f38.body.getD .skip
def zCI:=zaw t0 H λt1 H=>zaz [(.int .i64 0)] H λt3 H=>zao 1 t3 (.int .i64 250) H λH=>zae true 3 t1 H λt4=>ACalls tP zh0 [t4,t3] H λt5 H=>K t5 H
def zee:Nat→List Bool|4=>rl false [13,3,43]|9=>rl false [13,3,14,3,26]|15=>rl false [7,1,5,3,14,3,14,3,9]|_=>[]
noncomputable def ztT:=Tryz.f37.body.getD .skip
noncomputable def zSF:=Tryz.f37.results.toList
def ziF:=ux 13 (t13::t14::t15::ux 43 [])
def zCG:=zee 4
noncomputable def ztU:=zas [1,1,0,1,0,0] ztT
def zCB:=zat tP zee [1,1,0,1,0] ztT (zaB tP zSF K)
def zCE:=ALoop tP ztU (zCB K) (ziF t13 t14 t15) H
def znd:=ux 13 (t13::t14::t15::ux 14 (t30::t31::t32::ux 26 []))
def zCH:=zee 9
noncomputable def ztV:=zas [1,1,0,0,1,1,1,0,0] ztU
def zCC:=zat tP zee [1,1,0,0,1,1,1,0] ztU (zbR zCG Kb4 (zCB K))
def zCF:=ALoop tP ztV (zCC K Kb4) (znd t13 t14 t15 t30 t31 t32) H
def znc:=ux 7 (t7::ux 5 (t13::t14::t15::ux 14 (t30::t31::t32::ux 14 (t47::t48::t49::ux 9 []))))
def zSD:=zee 15
noncomputable def zSz:=zas [1,1,0,0,1,1,1,1,0,0] ztV
def zSy:=zat tP zee [1,1,0,0,1,1,1,1,0] ztV (zbR zCH Kb9 (zCC K Kb4))
def zCD:=ALoop tP zSz (zSy K Kb4 Kb9) (znc t7 t13 t14 t15 t30 t31 t32 t47 t48 t49) H
def ztQ(t7 t13 t14 t15 t30 t31 t32 t47 t48 t49:AV)(H:zaa)(K:Kt)(Kb4:Lt)(Kb9:Lt)(Kb15:Lt):Prop:=zad .lss false t49 t48 λt50=>zag t50 (zaj 3 t47 t49 λt51=>zae true 3 t51 H λt52=>zaz [(.int .i64 0),(.int .i64 0),.snil] H λt9 H=>zao 3 t9 t52 H λH=>zae true 3 t9 H λt53=>ACalls tP zh0 [t53,t7] H λt54 H=>aUn .not t54 λt55=>zag t55 (K (.bool false) H) (zad .add false t49 (.int .i64 1) λt56=>Kb15 (znc t7 t13 t14 t15 t30 t31 t32 t47 t48 t56) H)) (zad .add false t32 (.int .i64 1) λt57=>Kb9 (znd t13 t14 t15 t30 t31 t57) H)
def ztS:=zad .lss false t32 t31 λt33=>zag t33 (zaj 2 t30 t32 λt34=>zae true 2 t34 H λt35=>zaz [(.str []),.snil] H λt6 H=>zao 2 t6 t35 H λH=>zaf 0 t6 λt36=>zae false 1 t36 H λt37=>zai 0 t37 λt38=>zad .gtr false t38 (.int .i64 40) λt39=>zac t39 false H (λK'=>zaf 1 t6 (K' · H)) λt41 H=>zac t39 false H (λK'=>zae false 1 t41 H (K' · H)) λt42 H=>zac t39 false H (λK'=>zai 1 t42 (K' · H)) λt43 H=>zac t39 false H (λK'=>zad .gtr false t43 (.int .i64 8) (K' · H)) λt44 H=>zak t39 (.bool true) t44 λt45=>zag t45 (K (.bool false) H) (zaz [(.int .i64 0)] H λt7 H=>zao 1 t7 (.int .i64 20) H λH=>zaf 1 t6 λt46=>zae false 1 t46 H λt47=>zai 1 t47 λt48=>zCD t7 t13 t14 t15 t30 t31 t32 t47 t48 (.int .i64 0) H K Kb4 Kb9)) (zad .add false t15 (.int .i64 1) λt58=>Kb4 (ziF t13 t14 t58) H)
def ztR:=zad .lss false t15 t14 λt16=>zag t16 (zaj 3 t13 t15 λt17=>zae true 3 t17 H λt18=>zaz [(.str []),(.int .i64 0),.snil] H λt4 H=>zao 3 t4 t18 H λH=>zaf 0 t4 λt19=>zae false 1 t19 H λt20=>zai 0 t20 λt21=>zad .gtr false t21 (.int .i64 40) λt22=>zac t22 false H (λK'=>zaf 2 t4 (K' · H)) λt24 H=>zac t22 false H (λK'=>zae false 1 t24 H (K' · H)) λt25 H=>zac t22 false H (λK'=>zai 1 t25 (K' · H)) λt26 H=>zac t22 false H (λK'=>zad .gtr false t26 (.int .i64 10) (K' · H)) λt27 H=>zak t22 (.bool true) t27 λt28=>zag t28 (K (.bool false) H) (zaf 2 t4 λt29=>zae false 1 t29 H λt30=>zai 1 t30 λt31=>zCF t13 t14 t15 t30 t31 (.int .i64 0) H K Kb4)) (K (.bool true) H)
def ztP:=zai 1 t0 λt11=>zad .gtr false t11 (.int .i64 14) λt12=>zag t12 (K (.bool false) H) (zai 1 t0 λt14=>zCE t0 t14 (.int .i64 0) H K)
def zLb(_:Nat):List Bool:=[]
noncomputable def zLc:=Tryz.f123.body.getD .skip
def zz6:=zaw t1 H λt4 H=>zar [.snil,(.int .i64 0),(.int .i64 0)] [(0,1),(1,1),(2,1)] [(0,t0),(1,t2),(2,(.int .i64 200))] λt10=>zaw t10 H λt11 H=>zae true 3 t4 H λt13=>ACalls tP zjw [t11,t13] H λt14 H=>K t14 H
def zeF:Nat→List Bool|171022=>rl false [2,2,16,1,53,1,34]|150010=>rl false [2,2,1,2,13,2,87]|100007=>rl false [2,2,1,2,13,1,88]|100002=>rl false [2,2,105]|_=>[]
noncomputable def zeG:=Tryz.f166.body.getD .skip
noncomputable def zl9:=Tryz.f166.results.toList
def zgL:=zaf 0 t3 λt79=>zae false 1 t79 H λt80=>zad .neq false t80 (.int .i64 4) λt81=>zac t81 true H (λK'=>zaf 0 t3 (K' · H)) λt83 H=>zac t81 true H (λK'=>zae false 1 t83 H (K' · H)) λt84 H=>zac t81 true H (λK'=>zad .neq false t84 (.int .i64 5) (K' · H)) λt85 H=>zak t81 t85 (.bool false) λt86=>zac t86 true H (λK'=>zaf 1 t3 (K' · H)) λt88 H=>zac t86 true H (λK'=>zae false 1 t88 H (K' · H)) λt89 H=>zac t86 true H (λK'=>zad .neq false t89 (.int .i64 0) (K' · H)) λt90 H=>zak t86 t90 (.bool false) λt91=>zag t91 (K (.bool false) H) (zaf 2 t3 λt92=>zae false 1 t92 H λt93=>zai 1 t93 λt94=>zad .lss false t94 t5 λt96=>zac t96 false H (λK'=>zaf 2 t3 (K' · H)) λt98 H=>zac t96 false H (λK'=>zae false 1 t98 H (K' · H)) λt99 H=>zac t96 false H (λK'=>zai 1 t99 (K' · H)) λt100 H=>zac t96 false H (λK'=>K' t6 H) λt101 H=>zac t96 false H (λK'=>zad .gtr false t100 t101 (K' · H)) λt102 H=>zak t96 (.bool true) t102 λt103=>zag t103 (K (.bool false) H) (zaf 2 t3 λt104=>zae false 1 t104 H λt105=>zcp zjG [t2] λt106=>ACalls tP zfy [t105,t106] H λt107 H=>aUn .not t107 λt108=>K t108 H))
def zdF:=zgL t2 t3 t5 t6 H K
noncomputable def zOv:=zas [1,1,1,1,0,1,0,1,1,1,1,1,1,1,1,1] zeG
def zOu:=zat tP zeF [1,1,1,1,0,1,0,1,1,1,1,1,1,1,1,1] zeG (zaB tP zl9 K)
def zsG:=AWp tP zOv (zOu K) (ux 2 (t2::t3::ux 16 (t20::ux 53 (t74::ux 34 [])))) H
def zl8:=zag t74 (zdF t2 t3 (.int .i64 1) (.int .i64 1) H K) (zad .eql false t20 (.int .i64 9) λt78=>zag t78 (zdF t2 t3 (.int .i64 1) (.int .i64 7) H K) (K (.bool false) H))
noncomputable def zOt:=zas [1,1,1,1,0,1,0,1] zeG
def zOs:=zat tP zeF [1,1,1,1,0,1,0,1] zeG (zaB tP zl9 K)
def zl7:=AWp tP zOt (zOs K) (ux 2 (t2::t3::ux 1 (t5::t6::ux 13 (t20::t21::ux 87 [])))) H
def zdU:=zag t21 (zdF t2 t3 t5 t6 H K) (zad .eql false t20 (.int .i64 4) λt26=>zag t26 (apu H (zaf 1 t3) λt27=>apu H (zal false 1 t27 H) λt28=>apu H (zad .lss false t28 (.int .i64 0)) λt29=>apm H t29 λt30=>zac t30 false H (λK'=>zab H (λK''=>zaf 1 t3 (K'' · H)) (K' · H)) λt31 H=>zac t30 false H (λK'=>zab H (λK''=>zal false 1 t31 H (K'' · H)) (K' · H)) λt32 H=>zac t30 false H (λK'=>zab H (λK''=>zal false 1 t2 H (K'' · H)) (K' · H)) λt33 H=>zac t30 false H (λK'=>zab H (λK''=>zbe t33 (K'' · H)) (K' · H)) λt34 H=>zac t30 false H (λK'=>zab H (λK''=>zaf 1 t34 (K'' · H)) (K' · H)) λt35 H=>zac t30 false H (λK'=>zab H (λK''=>zal false 1 t35 H (K'' · H)) (K' · H)) λt36 H=>zac t30 false H (λK'=>zab H (λK''=>zad .geq false t32 t36 (K'' · H)) (K' · H)) λt37 H=>apu H (zak t30 (.bool true) t37) λt38=>zag t38 (K (.bool false) H) (zdF t2 t3 t5 t6 H K)) (zad .eql false t20 (.int .i64 5) λt40=>zag t40 (apu H (zaf 1 t3) λt41=>apu H (zal false 1 t41 H) λt42=>apu H (zad .lss false t42 (.int .i64 0)) λt43=>apm H t43 λt44=>zac t44 false H (λK'=>zab H (λK''=>zaf 1 t3 (K'' · H)) (K' · H)) λt45 H=>zac t44 false H (λK'=>zab H (λK''=>zal false 1 t45 H (K'' · H)) (K' · H)) λt46 H=>zac t44 false H (λK'=>zab H (λK''=>zal false 1 t2 H (K'' · H)) (K' · H)) λt47 H=>zac t44 false H (λK'=>zab H (λK''=>zbe t47 (K'' · H)) (K' · H)) λt48 H=>zac t44 false H (λK'=>zab H (λK''=>zaf 0 t48 (K'' · H)) (K' · H)) λt49 H=>zac t44 false H (λK'=>zab H (λK''=>zal false 1 t49 H (K'' · H)) (K' · H)) λt50 H=>zac t44 false H (λK'=>zab H (λK''=>zai 1 t50 (K'' · H)) (K' · H)) λt51 H=>zac t44 false H (λK'=>zab H (λK''=>zad .geq false t46 t51 (K'' · H)) (K' · H)) λt52 H=>apu H (zak t44 (.bool true) t52) λt53=>zag t53 (K (.bool false) H) (apu H (zal false 1 t2 H) λt54=>apu H (zbe t54) λt55=>apu H (zaf 0 t55) λt56=>apu H (zal false 1 t56 H) λt57=>apu H (zaf 1 t3) λt58=>apu H (zal false 1 t58 H) λt59=>apu H (zaj 3 t57 t59) λt60=>apu H (zaf 1 t60) λt61=>apu H (zal false 1 t61 H) λt62=>apu H (zal false 1 t2 H) λt63=>apu H (zbe t63) λt64=>apu H (zaf 0 t64) λt65=>apu H (zal false 1 t65 H) λt66=>apu H (zaf 1 t3) λt67=>apu H (zal false 1 t67 H) λt68=>apu H (zaj 3 t66 t68) λt69=>apu H (zaf 1 t69) λt70=>apu H (zal false 1 t70 H) λt71=>apm H t62 λt5=>apm H t71 λt6=>zdF t2 t3 t5 t6 H K)) (zad .eql false t20 (.int .i64 6) λt73=>zag t73 (zdF t2 t3 (.int .i64 2) (.int .i64 6) H K) (zad .eql false t20 (.int .i64 7) λt75=>zag t75 (zsG t2 t3 t20 t75 H K) (zad .eql false t20 (.int .i64 8) λt76=>zsG t2 t3 t20 t76 H K)))))
noncomputable def zOq:=zas [1,1,1,1,0,1] zeG
def zOp:=zat tP zeF [1,1,1,1,0,1] zeG (zaB tP zl9 K)
def zBk:=AWp tP zOq (zOp K) (ux 2 (t2::t3::ux 1 (t5::t6::ux 13 (t20::ux 88 [])))) H
def zsF:=zad .eql false t20 (.int .i64 1) λt22=>zag t22 (zl7 t2 t3 t5 t6 t20 t22 H K) (zad .eql false t20 (.int .i64 2) λt23=>zag t23 (zl7 t2 t3 t5 t6 t20 t23 H K) (zad .eql false t20 (.int .i64 3) λt24=>zl7 t2 t3 t5 t6 t20 t24 H K))
noncomputable def zOn:=zas [1,1] zeG
def zOm:=zat tP zeF [1,1] zeG (zaB tP zl9 K)
def zsD:=AWp tP zOn (zOm K) (ux 2 (t2::t3::ux 105 [])) H
def zsE:=zae false 1 t2 H λt14=>zbe t14 λt15=>zaf 2 t15 λt16=>zae false 1 t16 H λt17=>zad .lss false t17 (.int .i64 0) λt18=>zag t18 (K (.bool false) H) (zaf 0 t3 λt19=>zae false 1 t19 H λt20=>zBk t2 t3 (.int .i64 0) (.int .i64 0) t20 H K)
def zBj:=zaw t0 H λt2 H=>zaw t1 H λt3 H=>zae false 1 t2 H λt7=>zbe t7 λt8=>zaf 2 t8 λt9=>zae false 1 t9 H λt10=>zad .sub false t10 (.int .i64 1) λt11=>zbe t7 λt12=>zaf 2 t12 λt13=>zao 1 t13 t11 H λH=>zsD t2 t3 H K
def zQw(_:Nat):List Bool:=[]
noncomputable def zQx:=Tryz.f210.body.getD .skip
def zBZ:=zaw t0 H λt2 H=>zae false 1 t1 H λt4=>zae true 3 t2 H λt5=>ACalls tP zjw [t4,t5] H λt6 H=>aUn .not t6 λt7=>K t7 H
def zQt(_:Nat):List Bool:=[]
noncomputable def zQu:=Tryz.f202.body.getD .skip
def zBY:=ACalls tP zpY [t0,t1] H λt7 H=>zad .geq false t7 (.int .i64 0) λt8=>K t8 H
def zmX:Nat→List Bool|2=>rl false [0,2,5,2,10]|_=>[]
noncomputable def ztB:=Tryz.f229.body.getD .skip
noncomputable def zRt:=Tryz.f229.results.toList
def zmY:=t0::t1::ux 5 (t7::t8::ux 10 [])
def zRr:=zmX 2
noncomputable def zRp:=zas [1,0,1,0,0] ztB
def zRo:=zat tP zmX [1,0,1,0] ztB (zaB tP zRt K)
def zCe:=ALoop tP zRp (zRo K) (zmY t0 t1 t7 t8) H
def ztA:=zad .lss false t8 t7 λt9=>zag t9 (zaj 3 t0 t8 λt14=>zae true 3 t14 H λt15=>aCallV tP t1 [t15] H λt16 H=>zag t16 (K t8 H) (zad .add false t8 (.int .i64 1) λt18=>Kb2 (zmY t0 t1 t7 t18) H)) (K (.int .i64 (-1)) H)
def zCd:=zai 1 t0 λt7=>zCe t0 t1 t7 (.int .i64 0) H K
variable {t0 t1 t2 t3 t5 t6 t7 t8 t13 t14 t15 t20 t21 t30 t31 t32 t47 t48 t49 t74} {H} {K} {Kb2 Kb4 Kb5 Kb9}
theorem zUE:Lo1 (λt5=>znO t1 t2 t5) (λt5 H Kb5=>zuu t1 t2 t5 H K Kb5) t5 H (zDj t1 t2 t5 H K):=lq1 znN zUF
theorem zUG(h:HSc H→zDi t0 t1 H K):ACalls tP zh0 [t0,t1] H K:=
 acb znN Tryz.func72 zuv h
theorem zSJ(h:HSc H→zCI t0 H K):ACalls tP zp6 [t0] H K:=
 acb zSH Tryz.func38 zSI h
theorem zSA:Lo1 (λt49=>znc t7 t13 t14 t15 t30 t31 t32 t47 t48 t49) (λt49 H Kb15=>ztQ t7 t13 t14 t15 t30 t31 t32 t47 t48 t49 H K Kb4 Kb9 Kb15) t49 H (zCD t7 t13 t14 t15 t30 t31 t32 t47 t48 t49 H K Kb4 Kb9):=lq1 zee zSD
theorem zSC:Lo1 (λt32=>znd t13 t14 t15 t30 t31 t32) (λt32 H Kb9=>ztS t13 t14 t15 t30 t31 t32 H K Kb4 Kb9) t32 H (zCF t13 t14 t15 t30 t31 t32 H K Kb4):=lq1 zee zCH
theorem zSB:Lo1 (λt15=>ziF t13 t14 t15) (λt15 H Kb4=>ztR t13 t14 t15 H K Kb4) t15 H (zCE t13 t14 t15 H K):=lq1 zee zCG
theorem zSE(h:HSc H→ztP t0 H K):ACalls tP zp5 [t0] H K:=
 acb zee Tryz.func37 ztT h
theorem zLd(h:HSc H→zz6 t0 t1 t2 H K):ACalls tP zhI [t0,t1,t2] H K:=
 acb zLb Tryz.func123 zLc h
theorem zBm(h:HSc H→zl8 t2 t3 t20 t74 H K):zsG t2 t3 t20 t74 H K:=
 λB w G a hH hF hd=>zf7 (M:=zeF) _ _ _ _ (Eq.mpr (by kernel_rfl) (h hH.sc)) B w G a hH hF hd
theorem zBl(h:HSc H→zdU t2 t3 t5 t6 t20 t21 H K):zl7 t2 t3 t5 t6 t20 t21 H K:=
 λB w G a hH hF hd=>zf7 (M:=zeF) _ _ _ _ (Eq.mpr (by kernel_rfl) (h hH.sc)) B w G a hH hF hd
theorem zOr(h:HSc H→zsF t2 t3 t5 t6 t20 H K):zBk t2 t3 t5 t6 t20 H K:=
 λB w G a hH hF hd=>zf7 (M:=zeF) _ _ _ _ (Eq.mpr (by kernel_rfl) (h hH.sc)) B w G a hH hF hd
theorem zOo(h:HSc H→zsE t2 t3 H K):zsD t2 t3 H K:=
 λB w G a hH hF hd=>zf7 (M:=zeF) _ _ _ _ (Eq.mpr (by kernel_rfl) (h hH.sc)) B w G a hH hF hd
theorem zOw(h:HSc H→zBj t0 t1 H K):ACalls tP zjw [t0,t1] H K:=
 acb zeF Tryz.func166 zeG h
theorem zQy(h:HSc H→zBZ t0 t1 H K):ACalls tP zjG [t0,t1] H K:=
 acb zQw Tryz.func210 zQx h
theorem zQv(h:HSc H→zBY t0 t1 H K):ACalls tP zfy [t0,t1] H K:=
 acb zQt Tryz.func202 zQu h
theorem zRq:Lo1 (λt8=>zmY t0 t1 t7 t8) (λt8 H Kb2=>ztA t0 t1 t7 t8 H K Kb2) t8 H (zCe t0 t1 t7 t8 H K):=lq1 zmX zRr
theorem zRs(h:HSc H→zCd t0 t1 H K):ACalls tP zpY [t0,t1] H K:=
 acb zmX Tryz.func229 ztB h
end
section
variable (t0 t1 t2 t3 t4 t5 t7 t8 t9 t14 t29 t30 t31 t35 t36 t37 t59 t60 t61 t77 t78 t79 t93 t94 t95:AV) (H:zaa) (K:Kt) (Kb3 Kb5 Kb8 Kb13 Kb20:Lt)
def zed:Nat→List Bool|8=>rl false [2,1,1,1,3,2,49,3,46]|13=>rl false [2,1,1,1,3,2,67,3,28]|20=>rl false [4,1,9,1,78,3,12]|_=>[]
noncomputable def zfR:=Tryz.f167.body.getD .skip
noncomputable def zsK:=Tryz.f167.results.toList
def zmc:=ux 2 (t2::ux 1 (t4::ux 3 (t8::t9::ux 49 (t59::t60::t61::ux 46 []))))
def zOI:=zed 8
noncomputable def zOC:=zas [1,1,1,1,1,0,1,0,0] zfR
def zOz:=zat tP zed [1,1,1,1,1,0,1,0] zfR (zaB tP zsK K)
def zBp:=ALoop tP zOC (zOz K) (zmc t2 t4 t8 t9 t59 t60 t61) H
def zma:=ux 2 (t2::ux 1 (t4::ux 3 (t8::t9::ux 67 (t77::t78::t79::ux 28 []))))
def zOG:=zed 13
noncomputable def zOA:=zas [1,1,1,1,1,1,0,1,0,0] zfR
def zOx:=zat tP zed [1,1,1,1,1,1,0,1,0] zfR (zaB tP zsK K)
def zBo:=ALoop tP zOA (zOx K) (zma t2 t4 t8 t9 t77 t78 t79) H
def zmb:=ux 4 (t4::ux 9 (t14::ux 78 (t93::t94::t95::ux 12 [])))
def zOH:=zed 20
noncomputable def zOB:=zas [1,1,1,1,1,1,1,1,0,1,0,0] zfR
def zOy:=zat tP zed [1,1,1,1,1,1,1,1,0,1,0] zfR (zaB tP zsK K)
def zmd:=ALoop tP zOB (zOy K) (zmb t4 t14 t93 t94 t95) H
def zsI:=zad .lss false t95 t94 λt96=>zag t96 (zaj 3 t93 t95 λt97=>zae true 3 t97 H λt98=>zaz [(.int .i64 0),(.int .i64 0),.snil] H λt16 H=>zao 3 t16 t98 H λH=>zae true 3 t16 H λt100=>zaf 2 t4 λt101=>zae false 1 t101 H λt102=>ACalls tP zhO [t100,t102] H λt103 H=>zau 3 [(.int .i64 0),(.int .i64 0),.snil] 1 [(0,t103)] λt104=>zax za2 3 40 t14 t104 H λt105 H=>zad .add false t95 (.int .i64 1) λt106=>Kb20 (zmb t4 t105 t93 t94 t106) H) (zaG [t14,(.bool true)] (K · H))
def zsH:=zad .lss false t79 t78 λt80=>zag t80 (zaj 3 t77 t79 λt81=>zae true 3 t81 H λt82=>zaz [(.int .i64 0),(.int .i64 0),.snil] H λt13 H=>zao 3 t13 t82 H λH=>zae true 3 t13 H λt83=>ACalls tP zjI [t83,t9] H λt85 H=>zad .gtr false t85 (.int .i64 200) λt86=>zag t86 (zaG [.snil,(.bool false)] (K · H)) (zad .add false t79 (.int .i64 1) λt87=>Kb13 (zma t2 t4 t8 t9 t77 t78 t87) H)) (zaf 2 t8 λt88=>zae false 1 t88 H λt89=>zaj 2 t89 t2 λt91=>zaf 1 t91 λt92=>zae false 1 t92 H λt93=>zai 1 t93 λt94=>zmd t4 .snil t93 t94 (.int .i64 0) H K)
def zsJ:=zad .lss false t61 t60 λt62=>zag t62 (zaj 3 t59 t61 λt64=>zae true 3 t64 H λt65=>zaz [(.int .i64 0),(.int .i64 0),.snil] H λt11 H=>zao 3 t11 t65 H λH=>zae true 3 t11 H λt68=>ACalls tP zjH [t68] H λt69 H=>zaj 1 t9 t61 λt70=>zao 1 t70 t69 H λH=>zad .add false t61 (.int .i64 1) λt71=>Kb8 (zmc t2 t4 t8 t9 t59 t60 t71) H) (zaf 2 t8 λt72=>zae false 1 t72 H λt73=>zaj 2 t73 t2 λt75=>zaf 1 t75 λt76=>zae false 1 t76 H λt77=>zai 1 t77 λt78=>zBo t2 t4 t8 t9 t77 t78 (.int .i64 0) H K)
def zBn:=zaw t1 H λt4 H=>zaf 0 t4 λt17=>zae false 1 t17 H λt18=>zad .neq false t18 (.int .i64 5) λt19=>zac t19 false H (λK'=>zaf 1 t4 (K' · H)) λt21 H=>zac t19 false H (λK'=>zae false 1 t21 H (K' · H)) λt22 H=>zac t19 false H (λK'=>zad .lss false t22 (.int .i64 0) (K' · H)) λt23 H=>zak t19 (.bool true) t23 λt24=>zac t24 false H (λK'=>zaf 1 t4 (K' · H)) λt26 H=>zac t24 false H (λK'=>zae false 1 t26 H (K' · H)) λt27 H=>zac t24 false H (λK'=>K' t0 H) λt28 H=>zac t24 false H (λK'=>zai 1 t28 (K' · H)) λt29 H=>zac t24 false H (λK'=>zad .geq false t27 t29 (K' · H)) λt30 H=>zak t24 (.bool true) t30 λt31=>zag t31 (zaG [.snil,(.bool false)] (K · H)) (zaf 1 t4 λt33=>zae false 1 t33 H λt34=>zaj 3 t0 t34 λt35=>zae true 3 t35 H λt36=>zaz [(.str []),(.int .i64 0),.snil] H λt8 H=>zao 3 t8 t36 H λH=>zaf 2 t4 λt37=>zae false 1 t37 H λt38=>zai 1 t38 λt39=>zaf 1 t8 λt40=>zae false 1 t40 H λt41=>zad .neq false t39 t41 λt42=>zac t42 false H (λK'=>K' t2 H) λt44 H=>zac t42 false H (λK'=>zad .lss false t44 (.int .i64 0) (K' · H)) λt45 H=>zak t42 (.bool true) t45 λt46=>zac t46 false H (λK'=>K' t2 H) λt48 H=>zac t46 false H (λK'=>zaf 2 t8 (K' · H)) λt49 H=>zac t46 false H (λK'=>zae false 1 t49 H (K' · H)) λt50 H=>zac t46 false H (λK'=>zai 1 t50 (K' · H)) λt51 H=>zac t46 false H (λK'=>zad .geq false t48 t51 (K' · H)) λt52 H=>zak t46 (.bool true) t52 λt53=>zag t53 (zaG [.snil,(.bool false)] (K · H)) (zaf 2 t4 λt54=>zae false 1 t54 H λt55=>zai 1 t55 λt56=>zbu 8 [(.int .i64 0)] t56 t56 H λt57 H=>zaf 2 t4 λt58=>zae false 1 t58 H λt59=>zai 1 t59 λt60=>zBp t2 t4 t8 t57 t59 t60 (.int .i64 0) H K))
def zmJ:Nat→List Bool|3=>rl false [3,1,3,3,9]|_=>[]
noncomputable def zth:=Tryz.f211.body.getD .skip
noncomputable def zQE:=Tryz.f211.results.toList
def zmK:=ux 3 (t3::ux 3 (t7::t8::t9::ux 9 []))
def zQC:=zmJ 3
noncomputable def zQA:=zas [1,1,0,1,0,0] zth
def zQz:=zat tP zmJ [1,1,0,1,0] zth (zaB tP zQE K)
def zB1:=ALoop tP zQA (zQz K) (zmK t3 t7 t8 t9) H
def ztg:=zad .lss false t9 t8 λt10=>zag t10 (zaj 3 t7 t9 λt11=>zae true 3 t11 H λt12=>zaz [(.int .i64 0),(.int .i64 0),.snil] H λt5 H=>zao 3 t5 t12 H λH=>zae true 3 t5 H λt14=>ACalls tP zjH [t14] H λt15 H=>zad .add false t3 t15 λt16=>zad .add false t9 (.int .i64 1) λt17=>Kb3 (zmK t16 t7 t8 t17) H) (K t3 H)
def zB0:=zaw t0 H λt1 H=>zaf 2 t1 λt6=>zae false 1 t6 H λt7=>zai 1 t7 λt8=>zB1 (.int .i64 1) t7 t8 (.int .i64 0) H K
def zmL:Nat→List Bool|5=>rl false [1,1,3,1,23,3,12]|_=>[]
noncomputable def ztk:=Tryz.f212.body.getD .skip
noncomputable def zQL:=Tryz.f212.results.toList
def zmM:=ux 1 (t1::ux 3 (t5::ux 23 (t29::t30::t31::ux 12 [])))
def zQJ:=zmL 5
noncomputable def zQH:=zas [1,1,1,0,1,0,0] ztk
def zQG:=zat tP zmL [1,1,1,0,1,0] ztk (zaB tP zQL K)
def ztm:=ALoop tP zQH (zQG K) (zmM t1 t5 t29 t30 t31) H
def ztl:=K t5 H
def zmN:=ztl t5 H K
def ztj:=zad .lss false t31 t30 λt32=>zag t32 (zaj 3 t29 t31 λt33=>zae true 3 t33 H λt34=>zaz [(.int .i64 0),(.int .i64 0),.snil] H λt7 H=>zao 3 t7 t34 H λH=>zae true 3 t7 H λt36=>ACalls tP zjI [t36,t1] H λt38 H=>zad .add false t5 t38 λt39=>zad .gtr false t39 (.int .i64 200) λt41=>zag t41 (zmN t39 H K) (zad .add false t31 (.int .i64 1) λt42=>Kb5 (zmM t1 t39 t29 t30 t42) H)) (zmN t5 H K)
def zti:=zaw t0 H λt2 H=>zaf 0 t2 λt8=>zae false 1 t8 H λt9=>zad .eql false t9 (.int .i64 4) λt10=>zac t10 true H (λK'=>zaf 1 t2 (K' · H)) λt12 H=>zac t10 true H (λK'=>zae false 1 t12 H (K' · H)) λt13 H=>zac t10 true H (λK'=>zad .geq false t13 (.int .i64 0) (K' · H)) λt14 H=>zak t10 t14 (.bool false) λt15=>zac t15 true H (λK'=>zaf 1 t2 (K' · H)) λt17 H=>zac t15 true H (λK'=>zae false 1 t17 H (K' · H)) λt18 H=>zac t15 true H (λK'=>K' t1 H) λt19 H=>zac t15 true H (λK'=>zai 1 t19 (K' · H)) λt20 H=>zac t15 true H (λK'=>zad .lss false t18 t20 (K' · H)) λt21 H=>zak t15 t21 (.bool false) λt22=>zag t22 (zaf 1 t2 λt24=>zae false 1 t24 H λt25=>zaj 1 t1 t25 λt26=>zae false 1 t26 H λt27=>K t27 H) (zaf 2 t2 λt28=>zae false 1 t28 H λt29=>zai 1 t29 λt30=>ztm t1 (.int .i64 1) t29 t30 (.int .i64 0) H K)
def zmO:Nat→List Bool|5=>rl false [1,1,2,2,29,3,13]|_=>[]
noncomputable def ztp:=Tryz.f213.body.getD .skip
noncomputable def zQS:=Tryz.f213.results.toList
def zmP:=ux 1 (t1::ux 2 (t4::t5::ux 29 (t35::t36::t37::ux 13 [])))
def zQQ:=zmO 5
noncomputable def zQO:=zas [1,1,1,0,1,0,0] ztp
def zQN:=zat tP zmO [1,1,1,0,1,0] ztp (zaB tP zQS K)
def ziE:=ALoop tP zQO (zQN K) (zmP t1 t4 t5 t35 t36 t37) H
def zto:=zad .lss false t37 t36 λt38=>zag t38 (zaj 3 t35 t37 λt39=>zae true 3 t39 H λt40=>zaz [(.int .i64 0),(.int .i64 0),.snil] H λt7 H=>zao 3 t7 t40 H λH=>apu H (zaf 2 t5) λt41=>apu H (zal false 1 t41 H) λt42=>apu H (zal true 3 t7 H) λt43=>apm H t1 λt44=>zaJ H (λH K'=>ACalls tP zhO [t43,t44] H K') λt45=>apu H (zau 3 [(.int .i64 0),(.int .i64 0),.snil] 1 [(0,t45)]) λt46=>zax za2 3 40 t42 t46 H λt47 H=>apu H (zaf 2 t5) λt48=>zao 1 t48 t47 H λH=>zad .add false t37 (.int .i64 1) λt49=>Kb5 (zmP t1 t4 t5 t35 t36 t49) H) (zae true 3 t5 H λt50=>zao 3 t4 t50 H λH=>zae true 3 t4 H λr0=>K r0 H)
def ztn:=zaw t0 H λt2 H=>zaz [(.int .i64 0),(.int .i64 0),.snil] H λt4 H=>zaf 0 t2 λt8=>zae false 1 t8 H λt9=>zad .eql false t9 (.int .i64 4) λt10=>zac t10 true H (λK'=>zaf 1 t2 (K' · H)) λt12 H=>zac t10 true H (λK'=>zae false 1 t12 H (K' · H)) λt13 H=>zac t10 true H (λK'=>zad .geq false t13 (.int .i64 0) (K' · H)) λt14 H=>zak t10 t14 (.bool false) λt15=>zac t15 true H (λK'=>zaf 1 t2 (K' · H)) λt17 H=>zac t15 true H (λK'=>zae false 1 t17 H (K' · H)) λt18 H=>zac t15 true H (λK'=>K' t1 H) λt19 H=>zac t15 true H (λK'=>zai 1 t19 (K' · H)) λt20 H=>zac t15 true H (λK'=>zad .lss false t18 t20 (K' · H)) λt21 H=>zak t15 t21 (.bool false) λt22=>zag t22 (zaf 1 t2 λt24=>zae false 1 t24 H λt25=>zaj 3 t1 t25 λt26=>zae true 3 t26 H λt27=>ACalls tP zhO [t27,.snil] H λt28 H=>zao 3 t4 t28 H λH=>zae true 3 t4 H λr0=>K r0 H) (zaf 0 t2 λt29=>zae false 1 t29 H λt30=>zaf 1 t2 λt31=>zae false 1 t31 H λt32=>zar [(.int .i64 0),(.int .i64 0),.snil] [(0,1),(1,1),(2,1)] [(0,t30),(1,t32)] λt33=>zaz [(.int .i64 0),(.int .i64 0),.snil] H λt5 H=>zao 3 t5 t33 H λH=>zaf 2 t2 λt34=>zae false 1 t34 H λt35=>zai 1 t35 λt36=>ziE t1 t4 t5 t35 t36 (.int .i64 0) H K)
def zTz(_:Nat):List Bool:=[]
noncomputable def zTA:=Tryz.f49.body.getD .skip
def zC0:=zaw t1 H λt4 H=>zae true 3 t4 H λt7=>ACalls tP zh4 [t7] H λt8 H=>zad .leq false t8 (.int .i64 200) λt9=>zac t9 true H (λK'=>K' t0 H) λt11 H=>zac t9 true H (λK'=>zae true 3 t4 H (K' · H)) λt12 H=>zac t9 true H (λK'=>K' t2 H) λt13 H=>zac t9 true H (λK'=>ACalls tP zj4 [t11,t12,t13] H K') λt14 H=>zak t9 t14 (.bool false) λt15=>K t15 H
def zn8:Nat→List Bool|3=>rl false [1,1,1,2,16]|_=>[]
noncomputable def zuS:=Tryz.f95.body.getD .skip
noncomputable def zWh:=Tryz.f95.results.toList
def zn9:=ux 1 (t1::ux 1 (t3::t4::ux 16 []))
def zWf:=zn8 3
noncomputable def zWd:=zas [1,1,0,1,0,0] zuS
def zWc:=zat tP zn8 [1,1,0,1,0] zuS (zaB tP zWh K)
def zDW:=ALoop tP zWd (zWc K) (zn9 t1 t3 t4) H
def zuR:=zaf 2 t1 λt6=>zae false 1 t6 H λt7=>zai 1 t7 λt8=>zad .lss false t4 t8 λt9=>zag t9 (zaf 2 t1 λt13=>zae false 1 t13 H λt14=>zaj 3 t14 t4 λt16=>zae true 3 t16 H λt17=>ACalls tP zh4 [t17] H λt18 H=>zad .add false t3 t18 λt19=>zad .add false t4 (.int .i64 1) λt11=>Kb3 (zn9 t1 t19 t11) H) (K t3 H)
def zDV:=zaw t0 H λt1 H=>zDW t1 (.int .i64 1) (.int .i64 0) H K
variable {t0 t1 t2 t3 t4 t5 t7 t8 t9 t14 t29 t30 t31 t35 t36 t37 t59 t60 t61 t77 t78 t79 t93 t94 t95} {H} {K} {Kb3 Kb5 Kb8 Kb13 Kb20}
theorem zOE:Lo2 (λt14 t95=>zmb t4 t14 t93 t94 t95) (λt14 t95 H Kb20=>zsI t4 t14 t93 t94 t95 H K Kb20) t14 t95 H (zmd t4 t14 t93 t94 t95 H K):=lq2 zed zOH
theorem zOD:Lo1 (λt79=>zma t2 t4 t8 t9 t77 t78 t79) (λt79 H Kb13=>zsH t2 t4 t8 t9 t77 t78 t79 H K Kb13) t79 H (zBo t2 t4 t8 t9 t77 t78 t79 H K):=lq1 zed zOG
theorem zOF:Lo1 (λt61=>zmc t2 t4 t8 t9 t59 t60 t61) (λt61 H Kb8=>zsJ t2 t4 t8 t9 t59 t60 t61 H K Kb8) t61 H (zBp t2 t4 t8 t9 t59 t60 t61 H K):=lq1 zed zOI
theorem zOJ(h:HSc H→zBn t0 t1 t2 H K):ACalls tP zjx [t0,t1,t2] H K:=
 acb zed Tryz.func167 zfR h
theorem zQB:Lo2 (λt3 t9=>zmK t3 t7 t8 t9) (λt3 t9 H Kb3=>ztg t3 t7 t8 t9 H K Kb3) t3 t9 H (zB1 t3 t7 t8 t9 H K):=lq2 zmJ zQC
theorem zQD(h:HSc H→zB0 t0 H K):ACalls tP zjH [t0] H K:=
 acb zmJ Tryz.func211 zth h
theorem zQI:Lo2 (λt5 t31=>zmM t1 t5 t29 t30 t31) (λt5 t31 H Kb5=>ztj t1 t5 t29 t30 t31 H K Kb5) t5 t31 H (ztm t1 t5 t29 t30 t31 H K):=lq2 zmL zQJ
theorem zQK(h:HSc H→zti t0 t1 H K):ACalls tP zjI [t0,t1] H K:=
 acb zmL Tryz.func212 ztk h
theorem zQP:Lo1 (λt37=>zmP t1 t4 t5 t35 t36 t37) (λt37 H Kb5=>zto t1 t4 t5 t35 t36 t37 H K Kb5) t37 H (ziE t1 t4 t5 t35 t36 t37 H K):=lq1 zmO zQQ
theorem zQR(h:HSc H→ztn t0 t1 H K):ACalls tP zhO [t0,t1] H K:=
 acb zmO Tryz.func213 ztp h
theorem zTB(h:HSc H→zC0 t0 t1 t2 H K):ACalls tP zjR [t0,t1,t2] H K:=
 acb zTz Tryz.func49 zTA h
theorem zWe:Lo2 (λt3 t4=>zn9 t1 t3 t4) (λt3 t4 H Kb3=>zuR t1 t3 t4 H K Kb3) t3 t4 H (zDW t1 t3 t4 H K):=lq2 zn8 zWf
theorem zWg(h:HSc H→zDV t0 H K):ACalls tP zh4 [t0] H K:=
 acb zn8 Tryz.func95 zuS h
end
section
variable (t0 t1 t2 t3 t4 t5 t6 t7 t8 t13 t14 t63 t64 t65 t75:AV) (H:zaa) (K:Kt) (Kb3 Kb5 Kb24:Lt)
def zoa:Nat→List Bool|24=>rl false [0,1,1,1,1,1,2,2,103]|_=>[]
noncomputable def zuU:=Tryz.f96.body.getD .skip
noncomputable def zWn:=Tryz.f96.results.toList
def zob:=t0::ux 1 (t2::ux 1 (t4::ux 2 (t7::t8::ux 103 [])))
def zWl:=zoa 24
noncomputable def zWj:=zas [1,1,1,0,1,0,0] zuU
def zWi:=zat tP zoa [1,1,1,0,1,0] zuU (zaB tP zWn K)
def zuV:=ALoop tP zWj (zWi K) (zob t0 t2 t4 t7 t8) H
def zuT:=zad .lss false t8 t7 λt100=>zag t100 (zaf 2 t4 λt104=>zae false 1 t104 H λt105=>zaj 3 t105 t8 λt107=>zae true 3 t107 H λt108=>ACalls tP zj4 [t0,t108,t2] H λt110 H=>aUn .not t110 λt111=>zag t111 (K (.bool false) H) (zad .add false t8 (.int .i64 1) λt102=>Kb24 (zob t0 t2 t4 t7 t102) H)) (K (.bool true) H)
def ziP:=zuV t0 t2 t4 t7 (.int .i64 0) H K
def zfe:=ziP t0 t2 t4 t7 H K
def zei:=zag t75 (zaf 1 t4 λt78=>zae false 1 t78 H λt79=>zad .neq false t79 (.int .i64 0) λt80=>zac t80 false H (λK'=>K' t7 H) λt82 H=>zac t80 false H (λK'=>zad .neq false t82 (.int .i64 1) (K' · H)) λt83 H=>zak t80 (.bool true) t83 λt84=>zag t84 (K (.bool false) H) (zfe t0 t2 t4 t7 H K)) (zad .eql false t13 (.int .i64 9) λt86=>zag t86 (zaf 1 t4 λt87=>zae false 1 t87 H λt88=>zad .neq false t88 (.int .i64 0) λt89=>zac t89 false H (λK'=>K' t7 H) λt91 H=>zac t89 false H (λK'=>zad .lss false t91 (.int .i64 1) (K' · H)) λt92 H=>zak t89 (.bool true) t92 λt93=>zac t93 false H (λK'=>K' t7 H) λt95 H=>zac t93 false H (λK'=>zad .gtr false t95 (.int .i64 7) (K' · H)) λt96 H=>zak t93 (.bool true) t96 λt97=>zag t97 (K (.bool false) H) (zfe t0 t2 t4 t7 H K)) (K (.bool false) H))
def zbY:=zag t14 (zaf 1 t4 λt18=>zae false 1 t18 H λt19=>zad .eql false t19 (.int .i64 0) λt20=>zac t20 true H (λK'=>K' t7 H) λt22 H=>zac t20 true H (λK'=>zad .eql false t22 (.int .i64 0) (K' · H)) λt23 H=>zak t20 t23 (.bool false) λt24=>K t24 H) (zad .eql false t13 (.int .i64 4) λt26=>zag t26 (zaf 1 t4 λt27=>zae false 1 t27 H λt28=>zad .geq false t28 (.int .i64 0) λt29=>zac t29 true H (λK'=>zaf 1 t4 (K' · H)) λt31 H=>zac t29 true H (λK'=>zae false 1 t31 H (K' · H)) λt32 H=>zac t29 true H (λK'=>K' t2 H) λt33 H=>zac t29 true H (λK'=>zad .lss false t32 t33 (K' · H)) λt34 H=>zak t29 t34 (.bool false) λt35=>zac t35 true H (λK'=>K' t7 H) λt37 H=>zac t35 true H (λK'=>zad .eql false t37 (.int .i64 0) (K' · H)) λt38 H=>zak t35 t38 (.bool false) λt39=>K t39 H) (zad .eql false t13 (.int .i64 5) λt41=>zag t41 (zaf 1 t4 λt42=>zae false 1 t42 H λt43=>zad .lss false t43 (.int .i64 0) λt44=>zac t44 false H (λK'=>zaf 1 t4 (K' · H)) λt46 H=>zac t44 false H (λK'=>zae false 1 t46 H (K' · H)) λt47 H=>zac t44 false H (λK'=>K' t0 H) λt48 H=>zac t44 false H (λK'=>zai 1 t48 (K' · H)) λt49 H=>zac t44 false H (λK'=>zad .geq false t47 t49 (K' · H)) λt50 H=>zak t44 (.bool true) t50 λt51=>zac t51 false H (λK'=>K' t7 H) λt53 H=>zac t51 false H (λK'=>K' t0 H) λt54 H=>zac t51 false H (λK'=>zaf 1 t4 (K' · H)) λt55 H=>zac t51 false H (λK'=>zae false 1 t55 H (K' · H)) λt56 H=>zac t51 false H (λK'=>zaj 3 t54 t56 (K' · H)) λt57 H=>zac t51 false H (λK'=>zaf 1 t57 (K' · H)) λt58 H=>zac t51 false H (λK'=>zae false 1 t58 H (K' · H)) λt59 H=>zac t51 false H (λK'=>zad .neq false t53 t59 (K' · H)) λt60 H=>zak t51 (.bool true) t60 λt61=>zag t61 (K (.bool false) H) (zfe t0 t2 t4 t7 H K)) (zad .eql false t13 (.int .i64 6) λt63=>zag t63 (zaf 1 t4 λt64=>zae false 1 t64 H λt65=>zad .neq false t65 (.int .i64 0) λt66=>zac t66 false H (λK'=>K' t7 H) λt68 H=>zac t66 false H (λK'=>zad .lss false t68 (.int .i64 2) (K' · H)) λt69 H=>zak t66 (.bool true) t69 λt70=>zac t70 false H (λK'=>K' t7 H) λt72 H=>zac t70 false H (λK'=>zad .gtr false t72 (.int .i64 6) (K' · H)) λt73 H=>zak t70 (.bool true) t73 λt74=>zag t74 (K (.bool false) H) (zfe t0 t2 t4 t7 H K)) (zad .eql false t13 (.int .i64 7) λt76=>zag t76 (zei t0 t2 t4 t7 t13 t76 H K) (zad .eql false t13 (.int .i64 8) λt77=>zei t0 t2 t4 t7 t13 t77 H K)))))
def zcG:=zaw t1 H λt4 H=>zaf 2 t4 λt9=>zae false 1 t9 H λt10=>zai 1 t10 λt11=>zaf 0 t4 λt12=>zae false 1 t12 H λt13=>zad .eql false t13 (.int .i64 1) λt15=>zag t15 (zbY t0 t2 t4 t11 t13 t15 H K) (zad .eql false t13 (.int .i64 2) λt16=>zag t16 (zbY t0 t2 t4 t11 t13 t16 H K) (zad .eql false t13 (.int .i64 3) λt17=>zbY t0 t2 t4 t11 t13 t17 H K))
def zoe:Nat→List Bool|5=>rl false [4,1,3,1,54,3,16]|_=>[]
noncomputable def zu0:=Tryz.f98.body.getD .skip
noncomputable def zWA:=Tryz.f98.results.toList
def zof:=ux 4 (t4::ux 3 (t8::ux 54 (t63::t64::t65::ux 16 [])))
def zWy:=zoe 5
noncomputable def zWw:=zas [1,1,1,0,1,0,0] zu0
def zWv:=zat tP zoe [1,1,1,0,1,0] zu0 (zaB tP zWA K)
def zog:=ALoop tP zWw (zWv K) (zof t4 t8 t63 t64 t65) H
def zuZ:=zad .lss false t65 t64 λt66=>zag t66 (zaj 3 t63 t65 λt67=>zae true 3 t67 H λt68=>zaz [(.int .i64 0),(.int .i64 0),.snil] H λt10 H=>zao 3 t10 t68 H λH=>zae true 3 t10 H λt69=>zaf 2 t4 λt70=>zae false 1 t70 H λt71=>ACalls tP zjt [t69,t71] H λt72 H=>zaz [(.int .i64 0),(.int .i64 0),.snil] H λt11 H=>zao 3 t11 t72 H λH=>zae true 3 t11 H λt73=>ACalls tP zh4 [t73] H λt74 H=>zad .gtr false t74 (.int .i64 200) λt75=>zag t75 (zaG [.snil,(.bool false)] (K · H)) (zae true 3 t11 H λt77=>zau 3 [(.int .i64 0),(.int .i64 0),.snil] 1 [(0,t77)] λt78=>zax za2 3 40 t8 t78 H λt79 H=>zad .add false t65 (.int .i64 1) λt80=>Kb5 (zof t4 t79 t63 t64 t80) H)) (zaG [t8,(.bool true)] (K · H))
def zD0:=zaw t1 H λt4 H=>apu H (zaf 0 t4) λt12=>apu H (zal false 1 t12 H) λt13=>apu H (zad .neq false t13 (.int .i64 5)) λt14=>apm H t14 λt15=>zac t15 false H (λK'=>zab H (λK''=>zaf 1 t4 (K'' · H)) (K' · H)) λt16 H=>zac t15 false H (λK'=>zab H (λK''=>zal false 1 t16 H (K'' · H)) (K' · H)) λt17 H=>zac t15 false H (λK'=>zab H (λK''=>zad .lss false t17 (.int .i64 0) (K'' · H)) (K' · H)) λt18 H=>apu H (zak t15 (.bool true) t18) λt19=>apm H t19 λt20=>zac t20 false H (λK'=>zab H (λK''=>zaf 1 t4 (K'' · H)) (K' · H)) λt21 H=>zac t20 false H (λK'=>zab H (λK''=>zal false 1 t21 H (K'' · H)) (K' · H)) λt22 H=>zac t20 false H (λK'=>zab H (λK''=>K'' t0 H) (K' · H)) λt23 H=>zac t20 false H (λK'=>zab H (λK''=>zai 1 t23 (K'' · H)) (K' · H)) λt24 H=>zac t20 false H (λK'=>zab H (λK''=>zad .geq false t22 t24 (K'' · H)) (K' · H)) λt25 H=>apu H (zak t20 (.bool true) t25) λt26=>apm H t26 λt27=>zac t27 false H (λK'=>zab H (λK''=>zaf 2 t4 (K'' · H)) (K' · H)) λt28 H=>zac t27 false H (λK'=>zab H (λK''=>zal false 1 t28 H (K'' · H)) (K' · H)) λt29 H=>zac t27 false H (λK'=>zab H (λK''=>zai 1 t29 (K'' · H)) (K' · H)) λt30 H=>zac t27 false H (λK'=>zab H (λK''=>K'' t0 H) (K' · H)) λt31 H=>zac t27 false H (λK'=>zab H (λK''=>zaf 1 t4 (K'' · H)) (K' · H)) λt32 H=>zac t27 false H (λK'=>zab H (λK''=>zal false 1 t32 H (K'' · H)) (K' · H)) λt33 H=>zac t27 false H (λK'=>zab H (λK''=>zaj 3 t31 t33 (K'' · H)) (K' · H)) λt34 H=>zac t27 false H (λK'=>zab H (λK''=>zaf 1 t34 (K'' · H)) (K' · H)) λt35 H=>zac t27 false H (λK'=>zab H (λK''=>zal false 1 t35 H (K'' · H)) (K' · H)) λt36 H=>zac t27 false H (λK'=>zab H (λK''=>zad .neq false t30 t36 (K'' · H)) (K' · H)) λt37 H=>apu H (zak t27 (.bool true) t37) λt38=>apm H t38 λt39=>zac t39 false H (λK'=>zab H (λK''=>K'' t2 H) (K' · H)) λt40 H=>zac t39 false H (λK'=>zab H (λK''=>zad .lss false t40 (.int .i64 0) (K'' · H)) (K' · H)) λt41 H=>apu H (zak t39 (.bool true) t41) λt42=>apm H t42 λt43=>zac t43 false H (λK'=>zab H (λK''=>K'' t2 H) (K' · H)) λt44 H=>zac t43 false H (λK'=>zab H (λK''=>K'' t0 H) (K' · H)) λt45 H=>zac t43 false H (λK'=>zab H (λK''=>zaf 1 t4 (K'' · H)) (K' · H)) λt46 H=>zac t43 false H (λK'=>zab H (λK''=>zal false 1 t46 H (K'' · H)) (K' · H)) λt47 H=>zac t43 false H (λK'=>zab H (λK''=>zaj 3 t45 t47 (K'' · H)) (K' · H)) λt48 H=>zac t43 false H (λK'=>zab H (λK''=>zaf 2 t48 (K'' · H)) (K' · H)) λt49 H=>zac t43 false H (λK'=>zab H (λK''=>zal false 1 t49 H (K'' · H)) (K' · H)) λt50 H=>zac t43 false H (λK'=>zab H (λK''=>zai 1 t50 (K'' · H)) (K' · H)) λt51 H=>zac t43 false H (λK'=>zab H (λK''=>zad .geq false t44 t51 (K'' · H)) (K' · H)) λt52 H=>apu H (zak t43 (.bool true) t52) λt53=>zag t53 (zaG [.snil,(.bool false)] (K · H)) (zaf 1 t4 λt55=>zae false 1 t55 H λt56=>zaj 3 t0 t56 λt57=>zaf 2 t57 λt58=>zae false 1 t58 H λt59=>zaj 2 t59 t2 λt61=>zaf 1 t61 λt62=>zae false 1 t62 H λt63=>zai 1 t63 λt64=>zog t4 .snil t63 t64 (.int .i64 0) H K)
def zlH:Nat→List Bool|5=>rl false [1,2,1,3,46]|_=>[]
noncomputable def zsd:=Tryz.f146.body.getD .skip
noncomputable def zMP:=Tryz.f146.results.toList
def zlI:=ux 1 (t1::t2::ux 1 (t4::t5::t6::ux 46 []))
def zMN:=zlH 5
noncomputable def zML:=zas [1,1,1,0,1,0,0] zsd
def zMK:=zat tP zlH [1,1,1,0,1,0] zsd (zaB tP zMP K)
def zse:=ALoop tP zML (zMK K) (zlI t1 t2 t4 t5 t6) H
def zsc:=zaf 2 t2 λt34=>zae false 1 t34 H λt35=>zai 1 t35 λt36=>zad .lss false t6 t36 λt37=>zag t37 (apu H (zaf 2 t5) λt40=>apu H (zal false 1 t40 H) λt41=>apu H (zaf 2 t2) λt42=>apu H (zal false 1 t42 H) λt43=>apm H t6 λt44=>apu H (zaj 3 t43 t44) λt45=>apu H (zal true 3 t45 H) λt46=>apm H t1 λt47=>zaJ H (λH K'=>ACalls tP zjt [t46,t47] H K') λt48=>apu H (zau 3 [(.int .i64 0),(.int .i64 0),.snil] 1 [(0,t48)]) λt49=>zax za2 3 40 t41 t49 H λt50 H=>apu H (zaf 2 t5) λt51=>zao 1 t51 t50 H λH=>zad .add false t6 (.int .i64 1) λt39=>Kb5 (zlI t1 t2 t4 t5 t39) H) (zae true 3 t5 H λt52=>zao 3 t4 t52 H λH=>zae true 3 t4 H λr0=>K r0 H)
def zsb:=zaw t0 H λt2 H=>zaz [(.int .i64 0),(.int .i64 0),.snil] H λt4 H=>zaf 0 t2 λt7=>zae false 1 t7 H λt8=>zad .eql false t8 (.int .i64 4) λt9=>zac t9 true H (λK'=>zaf 1 t2 (K' · H)) λt11 H=>zac t9 true H (λK'=>zae false 1 t11 H (K' · H)) λt12 H=>zac t9 true H (λK'=>zad .geq false t12 (.int .i64 0) (K' · H)) λt13 H=>zak t9 t13 (.bool false) λt14=>zac t14 true H (λK'=>zaf 1 t2 (K' · H)) λt16 H=>zac t14 true H (λK'=>zae false 1 t16 H (K' · H)) λt17 H=>zac t14 true H (λK'=>K' t1 H) λt18 H=>zac t14 true H (λK'=>zai 1 t18 (K' · H)) λt19 H=>zac t14 true H (λK'=>zad .lss false t17 t19 (K' · H)) λt20 H=>zak t14 t20 (.bool false) λt21=>zag t21 (zaf 1 t2 λt23=>zae false 1 t23 H λt24=>zaj 3 t1 t24 λt25=>zae true 3 t25 H λt26=>ACalls tP zjD [t26] H λt27 H=>zao 3 t4 t27 H λH=>zae true 3 t4 H λr0=>K r0 H) (zaf 0 t2 λt28=>zae false 1 t28 H λt29=>zaf 1 t2 λt30=>zae false 1 t30 H λt31=>zar [(.int .i64 0),(.int .i64 0),.snil] [(0,1),(1,1),(2,1)] [(0,t29),(1,t31)] λt32=>zaz [(.int .i64 0),(.int .i64 0),.snil] H λt5 H=>zao 3 t5 t32 H λH=>zse t1 t2 t4 t5 (.int .i64 0) H K)
def zmB:Nat→List Bool|3=>rl false [1,4,24]|_=>[]
noncomputable def zs4:=Tryz.f194.body.getD .skip
noncomputable def zPT:=Tryz.f194.results.toList
def zmC:=ux 1 (t1::t2::t3::t4::ux 24 [])
def zPR:=zmB 3
noncomputable def zPP:=zas [1,1,0,1,0,0] zs4
def zPO:=zat tP zmB [1,1,0,1,0] zs4 (zaB tP zPT K)
def zBK:=ALoop tP zPP (zPO K) (zmC t1 t2 t3 t4) H
def zs3:=zaf 2 t1 λt11=>zae false 1 t11 H λt12=>zai 1 t12 λt13=>zad .lss false t4 t13 λt14=>zag t14 (apu H (zaf 2 t3) λt17=>apu H (zal false 1 t17 H) λt18=>apu H (zaf 2 t1) λt19=>apu H (zal false 1 t19 H) λt20=>apm H t4 λt21=>apu H (zaj 3 t20 t21) λt22=>apu H (zal true 3 t22 H) λt23=>zaJ H (λH K'=>ACalls tP zjD [t23] H K') λt24=>apu H (zau 3 [(.int .i64 0),(.int .i64 0),.snil] 1 [(0,t24)]) λt25=>zax za2 3 40 t18 t25 H λt26 H=>apu H (zaf 2 t3) λt27=>zao 1 t27 t26 H λH=>zad .add false t4 (.int .i64 1) λt16=>Kb3 (zmC t1 t2 t3 t16) H) (zae true 3 t3 H λt28=>zao 3 t2 t28 H λH=>zae true 3 t2 H λr0=>K r0 H)
def zBJ:=zaw t0 H λt1 H=>zaz [(.int .i64 0),(.int .i64 0),.snil] H λt2 H=>zaf 0 t1 λt5=>zae false 1 t5 H λt6=>zaf 1 t1 λt7=>zae false 1 t7 H λt8=>zar [(.int .i64 0),(.int .i64 0),.snil] [(0,1),(1,1),(2,1)] [(0,t6),(1,t8)] λt9=>zaz [(.int .i64 0),(.int .i64 0),.snil] H λt3 H=>zao 3 t3 t9 H λH=>zBK t1 t2 t3 (.int .i64 0) H K
variable {t0 t1 t2 t3 t4 t5 t6 t7 t8 t13 t14 t63 t64 t65 t75} {H} {K} {Kb3 Kb5 Kb24}
theorem zWk:Lo1 (λt8=>zob t0 t2 t4 t7 t8) (λt8 H Kb24=>zuT t0 t2 t4 t7 t8 H K Kb24) t8 H (zuV t0 t2 t4 t7 t8 H K):=lq1 zoa zWl
theorem zWm(h:HSc H→zcG t0 t1 t2 H K):ACalls tP zj4 [t0,t1,t2] H K:=
 acb zoa Tryz.func96 zuU h
theorem zWx:Lo2 (λt8 t65=>zof t4 t8 t63 t64 t65) (λt8 t65 H Kb5=>zuZ t4 t8 t63 t64 t65 H K Kb5) t8 t65 H (zog t4 t8 t63 t64 t65 H K):=lq2 zoe zWy
theorem zWz(h:HSc H→zD0 t0 t1 t2 H K):ACalls tP zh5 [t0,t1,t2] H K:=
 acb zoe Tryz.func98 zu0 h
theorem zMM:Lo1 (λt6=>zlI t1 t2 t4 t5 t6) (λt6 H Kb5=>zsc t1 t2 t4 t5 t6 H K Kb5) t6 H (zse t1 t2 t4 t5 t6 H K):=lq1 zlH zMN
theorem zMO(h:HSc H→zsb t0 t1 H K):ACalls tP zjt [t0,t1] H K:=
 acb zlH Tryz.func146 zsd h
theorem zPQ:Lo1 (λt4=>zmC t1 t2 t3 t4) (λt4 H Kb3=>zs3 t1 t2 t3 t4 H K Kb3) t4 H (zBK t1 t2 t3 t4 H K):=lq1 zmB zPR
theorem zPS(h:HSc H→zBJ t0 H K):ACalls tP zjD [t0] H K:=
 acb zmB Tryz.func194 zs4 h
end
section
variable (t0 t1 t2 t3 t7 t8 t9 t47 t48 t49 t78 t79 t80:AV) (H:zaa) (K:Kt) (Kb4 Kb6 Kb10:Lt)
def zfS:Nat→List Bool|6=>rl false [0,2,6,1,38,3,56]|10=>rl false [0,2,6,2,37,3,28,3,25]|_=>[]
noncomputable def zsM:=Tryz.f168.body.getD .skip
noncomputable def zOQ:=Tryz.f168.results.toList
def zmf:=t0::t1::ux 6 (t8::ux 38 (t47::t48::t49::ux 56 []))
def zBu:=zfS 6
noncomputable def zsN:=zas [1,1,1,1,0,1,0,0] zsM
def zBs:=zat tP zfS [1,1,1,1,0,1,0] zsM (zaB tP zOQ K)
def zBt:=ALoop tP zsN (zBs K) (zmf t0 t1 t8 t47 t48 t49) H
def zme:=t0::t1::ux 6 (t8::t9::ux 37 (t47::t48::t49::ux 28 (t78::t79::t80::ux 25 [])))
def zOO:=zfS 10
noncomputable def zOL:=zas [1,1,0,0,1,1,1,0,0] zsN
def zOK:=zat tP zfS [1,1,0,0,1,1,1,0] zsN (zbR zBu Kb6 (zBs K))
def zsP:=ALoop tP zOL (zOK K Kb6) (zme t0 t1 t8 t9 t47 t48 t49 t78 t79 t80) H
def zsO(t0 t1 t8 t9 t47 t48 t49 t78 t79 t80:AV)(H:zaa)(K:Kt)(Kb6:Lt)(Kb10:Lt):Prop:=zad .add false t80 (.int .i64 1) λt103=>Kb10 (zme t0 t1 t8 t9 t47 t48 t49 t78 t79 t103) H
def zgN:=zsO t0 t1 t8 t9 t47 t48 t49 t78 t79 t80 H K Kb6 Kb10
def zgM:=zad .lss false t80 t79 λt81=>zag t81 (zaj 3 t78 t80 λt83=>zae true 3 t83 H λt84=>zaz [(.int .i64 0),(.int .i64 0),.snil] H λt12 H=>zao 3 t12 t84 H λH=>zaf 0 t12 λt85=>zae false 1 t85 H λt86=>zad .neq false t86 (.int .i64 4) λt87=>zac t87 false H (λK'=>zaf 1 t12 (K' · H)) λt89 H=>zac t87 false H (λK'=>zae false 1 t89 H (K' · H)) λt90 H=>zac t87 false H (λK'=>K' t80 H) λt91 H=>zac t87 false H (λK'=>zad .neq false t90 t91 (K' · H)) λt92 H=>zak t87 (.bool true) t92 λt93=>zac t93 false H (λK'=>zaf 2 t12 (K' · H)) λt95 H=>zac t93 false H (λK'=>zae false 1 t95 H (K' · H)) λt96 H=>zac t93 false H (λK'=>zai 1 t96 (K' · H)) λt97 H=>zac t93 false H (λK'=>zad .gtr false t97 (.int .i64 0) (K' · H)) λt98 H=>zak t93 (.bool true) t98 λt99=>zag t99 (zaj 1 t8 t9 λt102=>zao 1 t102 (.bool false) H λH=>zgN t0 t1 t8 t9 t47 t48 t49 t78 t79 t80 H K Kb6 Kb10) (zgN t0 t1 t8 t9 t47 t48 t49 t78 t79 t80 H K Kb6 Kb10)) (zad .add false t49 (.int .i64 1) λt104=>Kb6 (zmf t0 t1 t8 t47 t48 t104) H)
def ziA:=zad .lss false t49 t48 λt50=>zag t50 (zaj 3 t47 t49 λt52=>zae true 3 t52 H λt53=>zaz [(.int .i64 0),(.int .i64 0),.snil] H λt10 H=>zao 3 t10 t53 H λH=>apm H t8 λt54=>apm H t49 λt55=>apu H (zaf 0 t10) λt56=>apu H (zal false 1 t56 H) λt57=>apu H (zad .eql false t57 (.int .i64 5)) λt58=>apm H t58 λt59=>zac t59 true H (λK'=>zab H (λK''=>zaf 1 t10 (K'' · H)) (K' · H)) λt60 H=>zac t59 true H (λK'=>zab H (λK''=>zal false 1 t60 H (K'' · H)) (K' · H)) λt61 H=>zac t59 true H (λK'=>zab H (λK''=>K'' t1 H) (K' · H)) λt62 H=>zac t59 true H (λK'=>zab H (λK''=>zad .eql false t61 t62 (K'' · H)) (K' · H)) λt63 H=>apu H (zak t59 t63 (.bool false)) λt64=>apm H t64 λt65=>zac t65 true H (λK'=>zab H (λK''=>zaf 2 t10 (K'' · H)) (K' · H)) λt66 H=>zac t65 true H (λK'=>zab H (λK''=>zal false 1 t66 H (K'' · H)) (K' · H)) λt67 H=>zac t65 true H (λK'=>zab H (λK''=>zai 1 t67 (K'' · H)) (K' · H)) λt68 H=>zac t65 true H (λK'=>zab H (λK''=>K'' t0 H) (K' · H)) λt69 H=>zac t65 true H (λK'=>zab H (λK''=>K'' t1 H) (K' · H)) λt70 H=>zac t65 true H (λK'=>zab H (λK''=>zaj 3 t69 t70 (K'' · H)) (K' · H)) λt71 H=>zac t65 true H (λK'=>zab H (λK''=>zaf 1 t71 (K'' · H)) (K' · H)) λt72 H=>zac t65 true H (λK'=>zab H (λK''=>zal false 1 t72 H (K'' · H)) (K' · H)) λt73 H=>zac t65 true H (λK'=>zab H (λK''=>zad .eql false t68 t73 (K'' · H)) (K' · H)) λt74 H=>apu H (zak t65 t74 (.bool false)) λt75=>apu H (zaj 1 t54 t55) λt76=>zao 1 t76 t75 H λH=>zaf 2 t10 λt77=>zae false 1 t77 H λt78=>zai 1 t78 λt79=>zsP t0 t1 t8 t49 t47 t48 t49 t78 t79 (.int .i64 0) H K Kb6) (K t8 H)
def zBr:=zad .lss false t1 (.int .i64 0) λt14=>zac t14 false H (λK'=>K' t1 H) λt16 H=>zac t14 false H (λK'=>K' t0 H) λt17 H=>zac t14 false H (λK'=>zai 1 t17 (K' · H)) λt18 H=>zac t14 false H (λK'=>zad .geq false t16 t18 (K' · H)) λt19 H=>zak t14 (.bool true) t19 λt20=>zac t20 false H (λK'=>K' t2 H) λt22 H=>zac t20 false H (λK'=>zad .lss false t22 (.int .i64 0) (K' · H)) λt23 H=>zak t20 (.bool true) t23 λt24=>zac t24 false H (λK'=>K' t2 H) λt26 H=>zac t24 false H (λK'=>K' t0 H) λt27 H=>zac t24 false H (λK'=>K' t1 H) λt28 H=>zac t24 false H (λK'=>zaj 3 t27 t28 (K' · H)) λt29 H=>zac t24 false H (λK'=>zaf 2 t29 (K' · H)) λt30 H=>zac t24 false H (λK'=>zae false 1 t30 H (K' · H)) λt31 H=>zac t24 false H (λK'=>zai 1 t31 (K' · H)) λt32 H=>zac t24 false H (λK'=>zad .geq false t26 t32 (K' · H)) λt33 H=>zak t24 (.bool true) t33 λt34=>zag t34 (K .snil H) (zaj 3 t0 t1 λt37=>zaf 2 t37 λt38=>zae false 1 t38 H λt39=>zaj 2 t39 t2 λt41=>zaf 1 t41 λt42=>zae false 1 t42 H λt43=>zai 1 t43 λt45=>zbu 1 [(.bool false)] t45 t45 H λt46 H=>zai 1 t43 λt48=>zBt t0 t1 t46 t43 t48 (.int .i64 0) H K)
def zRk(_:Nat):List Bool:=[]
noncomputable def zRl:=Tryz.f228.body.getD .skip
def zCc:=zaw t0 H λt2 H=>zaw t1 H λt3 H=>zaf 0 t2 λt5=>zae false 1 t5 H λt6=>zad .eql false t6 (.int .i64 5) λt7=>zac t7 true H (λK'=>zaf 1 t2 (K' · H)) λt9 H=>zac t7 true H (λK'=>zae false 1 t9 H (K' · H)) λt10 H=>zac t7 true H (λK'=>zae false 1 t3 H (K' · H)) λt11 H=>zac t7 true H (λK'=>zad .eql false t10 t11 (K' · H)) λt12 H=>zak t7 t12 (.bool false) λt13=>zac t13 false H (λK'=>zaf 2 t2 (K' · H)) λt15 H=>zac t13 false H (λK'=>zae false 1 t15 H (K' · H)) λt16 H=>zac t13 false H (λK'=>zcp zjL [t3] (K' · H)) λt17 H=>zac t13 false H (λK'=>ACalls tP zfy [t16,t17] H K') λt18 H=>zak t13 (.bool true) t18 λt19=>K t19 H
def zRD(_:Nat):List Bool:=[]
noncomputable def zRE:=Tryz.f247.body.getD .skip
def zCh:=zaw t0 H λt2 H=>zae true 3 t2 H λt4=>zae false 1 t1 H λt5=>ACalls tP zjK [t4,t5] H λt6 H=>K t6 H
def zn4:Nat→List Bool|4=>rl false [3,1,3,1,50]|_=>[]
noncomputable def zuM:=Tryz.f93.body.getD .skip
noncomputable def zV3:=Tryz.f93.results.toList
def zn5:=ux 3 (t3::ux 3 (t7::ux 50 []))
def zV1:=zn4 4
noncomputable def zVZ:=zas [1,1,0,1,0,0] zuM
def zVY:=zat tP zn4 [1,1,0,1,0] zuM (zaB tP zV3 K)
def zDP:=ALoop tP zVZ (zVY K) (zn5 t3 t7) H
def zgW:=zaf 2 t3 λt25=>zae false 1 t25 H λt26=>zai 1 t26 λt27=>zad .lss false t7 t27 λt28=>zag t28 (zaf 2 t3 λt31=>zae false 1 t31 H λt32=>zaj 3 t32 t7 λt34=>zaf 0 t34 λt35=>zae false 1 t35 H λt36=>zad .neq false t36 (.int .i64 4) λt37=>zac t37 false H (λK'=>zaf 2 t3 (K' · H)) λt39 H=>zac t37 false H (λK'=>zae false 1 t39 H (K' · H)) λt40 H=>zac t37 false H (λK'=>K' t7 H) λt41 H=>zac t37 false H (λK'=>zaj 3 t40 t41 (K' · H)) λt42 H=>zac t37 false H (λK'=>zaf 1 t42 (K' · H)) λt43 H=>zac t37 false H (λK'=>zae false 1 t43 H (K' · H)) λt44 H=>zac t37 false H (λK'=>K' t7 H) λt45 H=>zac t37 false H (λK'=>zad .neq false t44 t45 (K' · H)) λt46 H=>zak t37 (.bool true) t46 λt47=>zac t47 false H (λK'=>zaf 2 t3 (K' · H)) λt49 H=>zac t47 false H (λK'=>zae false 1 t49 H (K' · H)) λt50 H=>zac t47 false H (λK'=>K' t7 H) λt51 H=>zac t47 false H (λK'=>zaj 3 t50 t51 (K' · H)) λt52 H=>zac t47 false H (λK'=>zaf 2 t52 (K' · H)) λt53 H=>zac t47 false H (λK'=>zae false 1 t53 H (K' · H)) λt54 H=>zac t47 false H (λK'=>zai 1 t54 (K' · H)) λt55 H=>zac t47 false H (λK'=>zad .gtr false t55 (.int .i64 0) (K' · H)) λt56 H=>zak t47 (.bool true) t56 λt57=>zag t57 (K (.bool false) H) (zad .add false t7 (.int .i64 1) λt30=>Kb4 (zn5 t3 t30) H)) (K (.bool true) H)
def zDO:=zaw t0 H λt3 H=>zaf 0 t3 λt8=>zae false 1 t8 H λt9=>zad .neq false t9 (.int .i64 5) λt10=>zac t10 false H (λK'=>zaf 1 t3 (K' · H)) λt12 H=>zac t10 false H (λK'=>zae false 1 t12 H (K' · H)) λt13 H=>zac t10 false H (λK'=>K' t1 H) λt14 H=>zac t10 false H (λK'=>zad .neq false t13 t14 (K' · H)) λt15 H=>zak t10 (.bool true) t15 λt16=>zac t16 false H (λK'=>zaf 2 t3 (K' · H)) λt18 H=>zac t16 false H (λK'=>zae false 1 t18 H (K' · H)) λt19 H=>zac t16 false H (λK'=>zai 1 t19 (K' · H)) λt20 H=>zac t16 false H (λK'=>K' t2 H) λt21 H=>zac t16 false H (λK'=>zad .neq false t20 t21 (K' · H)) λt22 H=>zak t16 (.bool true) t22 λt23=>zag t23 (K (.bool false) H) (zDP t3 (.int .i64 0) H K)
variable {t0 t1 t2 t3 t7 t8 t9 t47 t48 t49 t78 t79 t80} {H} {K} {Kb4 Kb6 Kb10}
theorem zOM:Lo1 (λt80=>zme t0 t1 t8 t9 t47 t48 t49 t78 t79 t80) (λt80 H Kb10=>zgM t0 t1 t8 t9 t47 t48 t49 t78 t79 t80 H K Kb6 Kb10) t80 H (zsP t0 t1 t8 t9 t47 t48 t49 t78 t79 t80 H K Kb6):=lq1 zfS zOO
theorem zON:Lo1 (λt49=>zmf t0 t1 t8 t47 t48 t49) (λt49 H Kb6=>ziA t0 t1 t8 t47 t48 t49 H K Kb6) t49 H (zBt t0 t1 t8 t47 t48 t49 H K):=lq1 zfS zBu
theorem zOP(h:HSc H→zBr t0 t1 t2 H K):ACalls tP zfx [t0,t1,t2] H K:=
 acb zfS Tryz.func168 zsM h
theorem zRm(h:HSc H→zCc t0 t1 H K):ACalls tP zjK [t0,t1] H K:=
 acb zRk Tryz.func228 zRl h
theorem zRF(h:HSc H→zCh t0 t1 H K):ACalls tP zjL [t0,t1] H K:=
 acb zRD Tryz.func247 zRE h
theorem zV0:Lo1 (λt7=>zn5 t3 t7) (λt7 H Kb4=>zgW t3 t7 H K Kb4) t7 H (zDP t3 t7 H K):=lq1 zn4 zV1
theorem zV2(h:HSc H→zDO t0 t1 t2 H K):ACalls tP zj3 [t0,t1,t2] H K:=
 acb zn4 Tryz.func93 zuM h
end
theorem zDk:∀ (m:Nat) (v:VT),v.nodes≤m→∀ (left:Int),left≤1000000→-1≤left→∀ (H:zaa) (id:Nat),H[id]?=some (.cells [.int .i64 left])→∀ (K:AV→zaa→Prop),
  ((v.nodes:Int)≤left→K (.bool true) (H.set id (.cells [.int .i64 (left-v.nodes)])))→(¬(v.nodes:Int)≤left→∀l',K (.bool false) (H.set id (.cells [.int .i64 l']))) →
  ACalls tP zh0 [.agg v.cs,.ptr id 0] H K:=by
 intro m;induction m with
 |zero=>intro v h;have:=v.nodes_pos;omega
 |succ m ih=>
  intro v hv left i7 iS H id d9 K hK hF;obtain⟨k,n,ks⟩:=v;have d7:=zbk d9;have ip:(VT.mk k n ks).nodes=VT.nodesL ks+1:=by simp[VT.nodes]
  refine ACalls.out (zUG λhs=>?_);have ek:(H++[AB.cells [.int .i64 k,.int .i64 n,.sl (VT.css ks) .none]])[id]?=some (.cells [.int .i64 left]):=zbj d9;have bad:(¬((VT.mk k n ks).nodes:Int)≤left)→∀l' H',H'=H.set id (.cells [.int .i64 l'])++[.cells [.int .i64 k,.int .i64 n,.sl (VT.css ks) .none]]→Out H.length K (.bool false) H':=by intro h l' H' he;exact Out.bool he (by simp) (hs.set rfl) (hF h l')
  simp[zDi,VT.cs,ek,AV.known];rw[zav (by omega) (by omega),zek _ d9,zbj (zdB _ d9)];by_cases h0:left-1<0
  ·simp[h0];exact bad (by omega) _ _ rfl
  ·simp[h0];refine zUE (Inv:=λq t5 H'=>∃i:Nat,i≤ks.length∧q=ks.length-i∧t5=.int .i64 i∧((VT.nodesL (ks.take i):Int)+1≤left)∧H'=H.set id (.cells [.int .i64 (left-1-VT.nodesL (ks.take i))])++[.cells [.int .i64 k,.int .i64 n,.sl (VT.css ks) .none]]) ks.length ?_ ?_
   ·intro _;exact⟨0,by omega,by omega,rfl,by simp[VT.nodesL];omega,by simp[VT.nodesL]⟩
   ·rintro q t5 H' ⟨i,hi,rfl,rfl,hb,rfl⟩ hsc d8 eC Kb ee;by_cases fe:i<ks.length
    ·have eY:=VT.kid_lt (k:=k) (n:=n) fe;have h1:=VT.nodesL_take fe;have h2:=VT.nodesL_take_le ks (i+1);have fc:=VT.len_le (ks.take i);simp only[aW]at fc;have iT:(H.set id (.cells [.int .i64 (left-1-VT.nodesL (ks.take i))])++[AB.cells [.int .i64 k,.int .i64 n,.sl (VT.css ks) .none]])[id]?=some (.cells [.int .i64 (left-1-VT.nodesL (ks.take i))]):=zbj (zdB _ d9);simp[zuu,fe];refine ih ks[i] (by omega) (left-1-VT.nodesL (ks.take i)) (by omega) (by omega) _ id iT _ ?_ ?_
     ·intro eH;rw[zek _ (zdB _ d9),bG];simp;rw[zav (by omega) (by omega)];refine ee _ _ ⟨ks.length-(i+1),by omega,Back.here (by simp) ((hs.set rfl).snoc rfl) ?_ ⟨_,rfl,i+1,by omega,rfl,by simp,by omega,?_⟩⟩
      ·simp[znO,AV.sc,AV.scV,AV.scA,AV.scB];omega
      ·rw[h1];congr 5;omega
     ·intro eH l';rw[zek _ (zdB _ d9),bG];simp;exact bad (by omega) _ _ rfl
    ·obtain rfl:i=ks.length:=by omega
     rw[aq]at hb ⊢;simp[zuu];refine Out.bool rfl (by simp) (hs.set rfl) ?_;have:=hK (by omega);rw[ip]at this;rw[show left-1-(VT.nodesL ks:Int)=left-((VT.nodesL ks+1:Nat):Int) by omega];exact this
theorem zSK(v:VT)(H:zaa)(K:AV→zaa→Prop)(hK:∀b,(b=true→v.nodes≤250)→K (.bool b) H):ACalls tP zp6 [.agg v.cs] H K:=by
 refine ACalls.out (zSJ λhs=>?_);simp[zCI,AV.known];refine zDk _ v (aa _) 250 (by omega) (by omega) _ (H.length+1) (by simp) _ ?_ ?_
 ·intro h;exact Out.bool (J:=[_,_]) (by simp;exact⟨rfl,rfl⟩) (aa _) hs (hK true λ_=>by omega)
 ·intro h l';exact Out.bool (J:=[_,_]) (by simp;exact⟨rfl,rfl⟩) (aa _) hs (hK false λh=>by cases h)
theorem zDX:∀(m:Nat) (v:VT),v.nodes≤m→v.nodes≤1000000000→∀(H:zaa) (K:AV→zaa→Prop),K (.int .i64 v.nodes) H→ACalls tP zh4 [.agg v.cs] H K:=by
 intro m;induction m with
 |zero=>intro v h;have:=v.nodes_pos;omega
 |succ m ih=>
  intro v hv hb H K hK;obtain⟨k,n,ks⟩:=v;have fT:VT.nodesL ks+1≤1000000000:=by simpa[VT.nodes]using hb
  have fc:=VT.len_le ks;refine ACalls.out (zWg λhs=>?_);simp[VT.cs,zDV];refine zWe (Inv:=λq t3 t4 H'=>∃i:Nat,i≤ks.length∧q=ks.length-i∧t4=.int .i64 i∧t3=.int .i64 (1+VT.nodesL (ks.take i):Nat)∧H'=H++[.cells [.int .i64 k,.int .i64 n,.sl (VT.css ks) .none]]) ks.length ?_ ?_
  ·intro _;exact⟨0,by omega,by omega,rfl,by simp[VT.nodesL],rfl⟩
  ·rintro q t3 t4 H' ⟨i,hi,rfl,rfl,rfl,rfl⟩ hsc d8 eC Kb ee;by_cases d7:i<ks.length
   ·have eY:=VT.kid_lt (k:=k) (n:=n) d7;have h1:=VT.nodesL_take d7;have h2:=VT.nodesL_take_le ks (i+1);simp[zuR,d7];refine ih ks[i] (by omega) (by omega) _ _ ?_;simp;rw[zav (by omega) (by omega),zav (by omega) (by omega)];refine ee _ _ ⟨ks.length-(i+1),by omega,Back.here (by simp) hsc ?_ ⟨_,_,rfl,i+1,by omega,rfl,by simp,?_,rfl⟩⟩
    ·simp[zn9,AV.sc,AV.scV,AV.scA,AV.scB]
    ·rw[h1];congr 1;omega
   ·obtain rfl:i=ks.length:=by omega
    simp[zuR];refine Out.int rfl (aa _) hs ?_;simpa[VT.nodes,Int.add_comm]using hK
end Go.Proofs.YtdmamdnkcefmmaaGreatDoor
