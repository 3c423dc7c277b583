import Derived.Test.YtdmamdnkcefmmaaGreatDoorKNum
import Derived.Test.YtdmamdnkcefmmaaGreatDoorProg
import Derived.KernelRfl
import Derived.Test.YtdmamdnkcefmmaaGreatDoorKOJ
import Derived.Test.YtdmamdnkcefmmaaGreatDoorRL2
import Derived.Test.YtdmamdnkcefmmaaGreatDoorVO
import Derived.WalkKit
import Derived.BigCall
import Derived.Laws.Externs
import Derived.Laws.Entries
import Derived.Lib.Builder
import Derived.Lib.AppendStr
import Derived.Lib.UnsafeStr
import Derived.Test.YtdmamdnkcefmmaaGreatDoorAbsS
set_option linter.unusedSimpArgs false
set_option linter.unusedVariables false
set_option maxRecDepth 100000
namespace Go.Proofs.YtdmamdnkcefmmaaGreatDoor
section
variable (t0 t1 t2 t3 t4 t5 t9 t10 t11 t34 t35 t36 t60 t61 t62 t85 t86 t87 t88:AV) (H:zaa) (K:Kt) (Kb2 Kb6 Kb12 Kb13 Kb20:Lt)
def zef:Nat→List Bool|6=>rl false [9,1,24,3,66]|13=>rl false [9,1,50,3,40]|20=>rl false [9,1,76,3,14]|_=>[]
noncomputable def zfX:=Tryz.f43.body.getD .skip
noncomputable def zt6:=Tryz.f43.results.toList
def znj:=ux 9 (t9::ux 24 (t34::t35::t36::ux 66 []))
def zTf:=zef 6
noncomputable def zS9:=zas [1,1,0,1,0,1,0,1,0,0] zfX
def zS6:=zat tP zef [1,1,0,1,0,1,0,1,0] zfX (zaB tP zt6 K)
def zno:=ALoop tP zS9 (zS6 K) (znj t9 t34 t35 t36) H
def znk:=K t9 H
def zfY:=znk t9 H K
def zt4:=zad .lss false t36 t35 λt37=>zag t37 (zaj 4 t34 t36 λt38=>zae true 4 t38 H λt39=>zaz [.snil,(.bool false),.snil,.snil] H λt11 H=>zao 4 t11 t39 H λH=>zaf 0 t11 λt41=>zae false 1 t41 H λt42=>zar [(.int .i64 0),.snil] [(0,1),(1,1)] [(1,t42)] λt43=>zaf 1 t11 λt44=>zae true 3 t44 H λt45=>zar [(.int .i64 0),.snil,(.bool false),.snil,.snil] [(0,2),(2,3)] [(0,t43),(1,t45)] λt46=>zau 5 [(.int .i64 0),.snil,(.bool false),.snil,.snil] 1 [(0,t46)] λt47=>zax zaC 5 88 t9 t47 H λt48 H=>zad .add false t36 (.int .i64 1) λt49=>Kb6 (znj t48 t34 t35 t49) H) (zfY t9 H K)
def ziI:=ux 9 (t9::ux 50 (t60::t61::t62::ux 40 []))
def zTd:=zef 13
noncomputable def zS7:=zas [1,1,0,1,0,1,1,1,0,1,1,0,0] zfX
def zS4:=zat tP zef [1,1,0,1,0,1,1,1,0,1,1,0] zfX (zaB tP zt6 K)
def znm:=ALoop tP zS7 (zS4 K) (ziI t9 t60 t61 t62) H
def zt5(t9 t60 t61 t62:AV)(H:zaa)(K:Kt)(Kb13:Lt):Prop:=zad .add false t62 (.int .i64 1) λt77=>Kb13 (ziI t9 t60 t61 t77) H
def znl:=zt5 t9 t60 t61 t62 H K Kb13
def zt2:=zad .lss false t62 t61 λt63=>zag t63 (zaj 3 t60 t62 λt65=>zae true 3 t65 H λt66=>zaz [(.bool false),.snil,.snil] H λt15 H=>zao 3 t15 t66 H λH=>zae true 3 t15 H λt67=>ACalls tP zjZ [t67] H λt68 H=>zad .neq false t68 (.int .i64 0) λt69=>zag t69 (zar [(.int .i64 0),.snil] [(0,1),(1,1)] [(0,t62)] λt72=>zae true 3 t15 H λt73=>zar [(.int .i64 0),.snil,(.bool false),.snil,.snil] [(0,2),(2,3)] [(0,t72),(1,t73)] λt74=>zau 5 [(.int .i64 0),.snil,(.bool false),.snil,.snil] 1 [(0,t74)] λt75=>zax zaC 5 88 t9 t75 H λt76 H=>znl t76 t60 t61 t62 H K Kb13) (znl t9 t60 t61 t62 H K Kb13)) (zfY t9 H K)
def zni:=ux 9 (t9::ux 76 (t86::t87::t88::ux 14 []))
def zTe:=zef 20
noncomputable def zS8:=zas [1,1,0,1,0,1,1,1,1,1,0,1,0,0] zfX
def zS5:=zat tP zef [1,1,0,1,0,1,1,1,1,1,0,1,0] zfX (zaB tP zt6 K)
def znn:=ALoop tP zS8 (zS5 K) (zni t9 t86 t87 t88) H
def zt3:=zad .lss false t88 t87 λt89=>zag t89 (zaj 4 t86 t88 λt90=>zae true 4 t90 H λt91=>zaz [.snil,(.bool false),.snil,.snil] H λt17 H=>zao 4 t17 t91 H λH=>zaf 0 t17 λt93=>zae false 1 t93 H λt94=>zar [(.int .i64 0),.snil] [(0,1),(1,1)] [(1,t94)] λt95=>zaf 1 t17 λt96=>zae true 3 t96 H λt97=>zar [(.int .i64 0),.snil,(.bool false),.snil,.snil] [(0,2),(2,3)] [(0,t95),(1,t97)] λt98=>zau 5 [(.int .i64 0),.snil,(.bool false),.snil,.snil] 1 [(0,t98)] λt99=>zax zaC 5 88 t9 t99 H λt100 H=>zad .add false t88 (.int .i64 1) λt101=>Kb20 (zni t100 t86 t87 t101) H) (zfY t9 H K)
def ziH:=zaw t1 H λt5 H=>zaw t2 H λt6 H=>zaw t3 H λt7 H=>zaf 0 t5 λt18=>zae false 1 t18 H λt19=>zad .eql false t19 (.int .i64 6) λt26=>zag t26 (zaf 2 t5 λt28=>zae false 1 t28 H λt29=>zaf 1 t6 λt30=>zae false 1 t30 H λt31=>zaf 1 t7 λt32=>zae false 1 t32 H λt33=>ACalls tP zjY [t0,t29,t31,t33] H λt34 H=>zai 1 t34 λt35=>zno .snil t34 t35 (.int .i64 0) H K) (zad .eql false t19 (.int .i64 7) λt51=>zag t51 (zaf 0 t6 λt53=>zae false 1 t53 H λt54=>zaf 0 t7 λt55=>zae false 1 t55 H λt56=>ACalls tP zqe [t54,t56] H λt57 H=>zay t57 0 λt58=>zay t57 1 λt59=>zai 1 t58 λt61=>znm .snil t58 t61 (.int .i64 0) H K) (zad .eql false t19 (.int .i64 5) λt79=>zag t79 (zae true 3 t5 H λt81=>zaf 1 t6 λt82=>zae false 1 t82 H λt83=>zaf 1 t7 λt84=>zae false 1 t84 H λt85=>ACalls tP zgs [t0,t81,t83,t85] H λt86 H=>zai 1 t86 λt87=>znn .snil t86 t87 (.int .i64 0) H K) (ACalls tP zdv [(.int .i64 1)] H λt21 H=>zar [(.int .i64 0),.snil,(.bool false),.snil,.snil] [(0,2),(2,3)] [(1,t21)] λt22=>zau 5 [(.int .i64 0),.snil,(.bool false),.snil,.snil] 1 [(0,t22)] λt23=>zax zaC 5 88 .snil t23 H λt24 H=>zfY t24 H K)))
def znW:Nat→List Bool|200007=>rl false [0,5]|200008=>rl false [0,5]|12=>rl false [2,1,6,3,73,3,17]|200014=>rl false [0,5]|_=>[]
noncomputable def zuH:=Tryz.f81.body.getD .skip
noncomputable def zVn:=Tryz.f81.results.toList
def znX:=ux 2 (t2::ux 6 (t9::t10::t11::ux 73 (t85::t86::t87::ux 17 [])))
def zVl:=znW 12
noncomputable def zVj:=zas [1,1,1,1,1,1,1,0,1,0,1,1,0,0] zuH
def zVi:=zat tP znW [1,1,1,1,1,1,1,0,1,0,1,1,0] zuH (zaB tP zVn K)
def zDB:=ALoop tP zVj (zVi K) (znX t2 t9 t10 t11 t85 t86 t87) H
def znY:=zae false 1 t9 H λt104=>K t104 H
def zuG:=zad .lss false t87 t86 λt88=>zag t88 (zaj 4 t85 t87 λt89=>zae true 4 t89 H λt90=>zaz [.snil,(.bool false),.snil,.snil] H λt13 H=>zao 4 t13 t90 H λH=>apm H t10 λt91=>apm H t2 λt92=>apu H (zaj 2 t92 (.int .i64 0)) λt93=>apu H (zaf 0 t93) λt94=>apu H (zal false 1 t94 H) λt95=>apu H (zaf 0 t13) λt96=>apu H (zal false 1 t96 H) λt97=>apu H (zar [(.int .i64 0),.snil] [(0,1),(1,1)] [(0,t95),(1,t97)]) λt98=>apu H (zaf 1 t13) λt99=>apu H (zal true 3 t99 H) λt100=>apm H t11 λt101=>aCallV tP t91 [t98,t100,t101] H λt102 H=>zad .add false t87 (.int .i64 1) λt103=>Kb12 (znX t2 t9 t10 t11 t85 t86 t103) H) (znY t9 H K)
def znV:=zaw t1 H λt5 H=>zai 1 t2 λt15=>zad .eql false t15 (.int .i64 0) λt16=>zag t16 (ACalls tP zdv [(.int .i64 1)] H λt18 H=>zar [.snil,(.bool false),.snil,.snil] [(0,1),(1,3)] [(0,t3),(1,t18)] λt19=>zau 4 [.snil,(.bool false),.snil,.snil] 1 [(0,t19)] λt20=>K t20 H) (zai 1 t3 λt22=>zad .eql false t22 (.int .i64 0) λt23=>zag t23 (ACalls tP zdv [(.int .i64 1)] H λt25 H=>zar [.snil,(.bool false),.snil,.snil] [(0,1),(1,3)] [(0,t2),(1,t25)] λt26=>zau 4 [.snil,(.bool false),.snil,.snil] 1 [(0,t26)] λt27=>K t27 H) (zaz [.snil] H λt9 H=>zcp zjr [t9] λt28=>apm H t28 λt29=>apm H t2 λt30=>apu H (zaj 2 t30 (.int .i64 0)) λt31=>apu H (zal true 2 t31 H) λt32=>zaJ H (λH K'=>ACalls tP zdv [(.int .i64 1)] H K') λt33=>apm H t0 λt34=>apu H (zal true 3 t5 H) λt35=>apm H t2 λt36=>zab H (λK'=>zaS 1 2 t36 (some (.int .i64 1)) none (K' · H)) λt37=>apm H t3 λt38=>zaJ H (λH K'=>ACalls tP zgs [t34,t35,t37,t38] H K') λt39=>aCallV tP t29 [t32,t33,t39] H λt40 H=>apm H t28 λt41=>apm H t3 λt42=>apu H (zaj 2 t42 (.int .i64 0)) λt43=>apu H (zal true 2 t43 H) λt44=>zaJ H (λH K'=>ACalls tP zdv [(.int .i64 1)] H K') λt45=>apm H t0 λt46=>apu H (zal true 3 t5 H) λt47=>apm H t2 λt48=>apm H t3 λt49=>zab H (λK'=>zaS 1 2 t49 (some (.int .i64 1)) none (K' · H)) λt50=>zaJ H (λH K'=>ACalls tP zgs [t46,t47,t48,t50] H K') λt51=>aCallV tP t41 [t44,t45,t51] H λt52 H=>apm H t2 λt53=>apu H (zaj 2 t53 (.int .i64 0)) λt54=>apu H (zaf 0 t54) λt55=>apu H (zal false 1 t55 H) λt56=>apm H t3 λt57=>apu H (zaj 2 t57 (.int .i64 0)) λt58=>apu H (zaf 0 t58) λt59=>apu H (zal false 1 t59 H) λt60=>apu H (zad .eql false t56 t60) λt61=>zag t61 (apm H t0 λt62=>apu H (zal true 3 t5 H) λt63=>apm H t2 λt64=>zab H (λK'=>zaS 1 2 t64 (some (.int .i64 1)) none (K' · H)) λt65=>apm H t3 λt66=>zab H (λK'=>zaS 1 2 t66 (some (.int .i64 1)) none (K' · H)) λt67=>zaJ H (λH K'=>ACalls tP zgs [t62,t63,t65,t67] H K') λt68=>apm H t68 λt11=>apm H t0 λt69=>apm H t0 λt70=>apu H (zal true 3 t5 H) λt71=>apm H t2 λt72=>apu H (zaj 2 t72 (.int .i64 0)) λt73=>apu H (zaf 0 t73) λt74=>apu H (zal false 1 t74 H) λt75=>zaJ H (λH K'=>ACalls tP zpC [t70,t71,t75] H K') λt76=>apm H t2 λt77=>apu H (zaj 2 t77 (.int .i64 0)) λt78=>apu H (zaf 1 t78) λt79=>apu H (zal false 1 t79 H) λt80=>apm H t3 λt81=>apu H (zaj 2 t81 (.int .i64 0)) λt82=>apu H (zaf 1 t82) λt83=>apu H (zal false 1 t83 H) λt84=>zaJ H (λH K'=>ACalls tP zjY [t69,t76,t80,t84] H K') λt85=>apu H (zai 1 t85) λt86=>apm H (.int .i64 0) λt87=>zDB t2 t9 t28 t11 t85 t86 t87 H K) (znY t9 H K)))
def zlm:Nat→List Bool|2=>rl false [3,3,3,3,18]|_=>[]
noncomputable def zrX:=Tryz.f133.body.getD .skip
noncomputable def zLW:=Tryz.f133.results.toList
def zln:=ux 3 (t3::t4::t5::ux 3 (t9::t10::t11::ux 18 []))
def zLU:=zlm 2
noncomputable def zLS:=zas [1,1,0,0] zrX
def zLR:=zat tP zlm [1,1,0] zrX (zaB tP zLW K)
def zAi:=ALoop tP zLS (zLR K) (zln t3 t4 t5 t9 t10 t11) H
def zrW:=zad .lss false t11 t10 λt12=>zag t12 (zaj 4 t9 t11 λt13=>zae true 4 t13 H λt14=>zaz [.snil,(.bool false),.snil,.snil] H λt8 H=>zao 4 t8 t14 H λH=>apu H (zal false 1 t3 H) λt15=>apu H (zal true 2 t4 H) λt16=>apu H (zau 2 [(.int .i64 0),.snil] 1 [(0,t16)]) λt17=>apu H (zaf 0 t8) λt18=>apu H (zal false 1 t18 H) λt19=>apu H (zau 1 [.snil] 2 [(0,t17),(1,t19)]) λt20=>zaJ H (λH K'=>ACalls tP zpB [t20] H K') λt21=>apu H (zal true 3 t5 H) λt22=>apu H (zaf 1 t8) λt23=>apu H (zal true 3 t23 H) λt24=>zaJ H (λH K'=>ACalls tP zet [t22,t24] H K') λt25=>apu H (zar [.snil,(.bool false),.snil,.snil] [(0,1),(1,3)] [(0,t21),(1,t25)]) λt26=>apu H (zau 4 [.snil,(.bool false),.snil,.snil] 1 [(0,t26)]) λt27=>zax zbv 4 80 t15 t27 H λt28 H=>zao 1 t3 t28 H λH=>zad .add false t11 (.int .i64 1) λt29=>Kb2 (zln t3 t4 t5 t9 t10 t29) H) (zaG [] (K · H))
def zAh:=zaw t0 H λt4 H=>zaw t1 H λt5 H=>zai 1 t2 λt10=>zAi t3 t4 t5 t2 t10 (.int .i64 0) H K
variable {t0 t1 t2 t3 t4 t5 t9 t10 t11 t34 t35 t36 t60 t61 t62 t85 t86 t87 t88} {H} {K} {Kb2 Kb6 Kb12 Kb13 Kb20}
theorem zTc:Lo2 (λt9 t36=>znj t9 t34 t35 t36) (λt9 t36 H Kb6=>zt4 t9 t34 t35 t36 H K Kb6) t9 t36 H (zno t9 t34 t35 t36 H K):=lq2 zef zTf
theorem zTa:Lo2 (λt9 t62=>ziI t9 t60 t61 t62) (λt9 t62 H Kb13=>zt2 t9 t60 t61 t62 H K Kb13) t9 t62 H (znm t9 t60 t61 t62 H K):=lq2 zef zTd
theorem zTb:Lo2 (λt9 t88=>zni t9 t86 t87 t88) (λt9 t88 H Kb20=>zt3 t9 t86 t87 t88 H K Kb20) t9 t88 H (znn t9 t86 t87 t88 H K):=lq2 zef zTe
theorem zTg(h:HSc H→ziH t0 t1 t2 t3 H K):ACalls tP zhV [t0,t1,t2,t3] H K:=
 acb zef Tryz.func43 zfX h
theorem zVk:Lo1 (λt87=>znX t2 t9 t10 t11 t85 t86 t87) (λt87 H Kb12=>zuG t2 t9 t10 t11 t85 t86 t87 H K Kb12) t87 H (zDB t2 t9 t10 t11 t85 t86 t87 H K):=lq1 znW zVl
theorem zVm(h:HSc H→znV t0 t1 t2 t3 H K):ACalls tP zgs [t0,t1,t2,t3] H K:=
 acb znW Tryz.func81 zuH h
theorem zLT:Lo1 (λt11=>zln t3 t4 t5 t9 t10 t11) (λt11 H Kb2=>zrW t3 t4 t5 t9 t10 t11 H K Kb2) t11 H (zAi t3 t4 t5 t9 t10 t11 H K):=lq1 zlm zLU
theorem zLV(h:HSc H→zAh t0 t1 t2 t3 H K):ACalls tP zjr [t0,t1,t2,t3] H K:=
 acb zlm Tryz.func133 zrX h
end
def bw(H:zaa)(io iv:Nat)(l:List (List IT×Nat)):zaa:=(H.set iv (.vec zbv 4 l.length (zaR l).flatten)).set io (.cells [.ov iv l.length])
structure Bw (H:zaa) (io iv:Nat) (l:List (List IT × Nat)):Prop where
 ne:io≠iv
 h1:H[io]?=some (.cells [.ov iv l.length])
 h2:H[iv]?=some (.vec zbv 4 l.length (zaR l).flatten)
section
variable {H J:zaa} {io iv:Nat} {l l':List (List IT×Nat)}
@[simp] theorem zoH:(bw H io iv l).length=H.length:=by simp[bw]
theorem Bw.app(h:Bw H io iv l):Bw (H++J) io iv l:=⟨h.ne,zbj h.h1,zbj h.h2⟩
theorem Bw.bw_app(h:Bw H io iv l):bw (H++J) io iv l'=bw H io iv l'++J:=by unfold bw;rw[aN _ _ (zbk h.h2),aN _ _ (by simpa using zbk h.h1)]
theorem zE5(en:io≠iv):bw (bw H io iv l) io iv l'=bw H io iv l':=by unfold bw;rw[dE _ _ en,bG,bG]
theorem Bw.next(h:Bw H io iv l):Bw (bw H io iv l') io iv l':=by
 have l1:=zbk h.h1;have l2:=zbk h.h2;refine⟨h.ne,?_,?_⟩
 ·unfold bw;rw[List.getElem?_set_self (by simpa using l1)]
 ·unfold bw;rw[List.getElem?_set_ne h.ne,List.getElem?_set_self l2]
theorem zyc(l:List (List IT×Nat))(n:Nat):(zaR l).flatten.all (AV.scA n)=true:=by
 rw[ak];intro x hx;obtain⟨c,hc,hx⟩:=dH.1 hx;obtain⟨r,_,rfl⟩:=aC.1 hc;rcases aS.1 hx with rfl|hx
 ·rfl
 ·exact ak.1 (zgz _ _) x hx
theorem Bw.hsc(h:Bw H io iv l)(hs:HSc H):HSc (bw H io iv l'):=by have l2:=zbk h.h2;unfold bw;refine HSc.set (HSc.set hs (by simp only[AB.sc];exact zyc _ _)) ?_;simp[AB.sc,AV.scA,AV.scB];omega
theorem Bw.self(h:Bw H io iv l):bw H io iv l=H:=by
 unfold bw;have e1:H.set iv (.vec zbv 4 l.length (zaR l).flatten)=H:=by
  refine aJ λi=>?_;by_cases hi:iv=i
  ·subst hi;rw[List.getElem?_set_self (zbk h.h2),h.h2]
  ·rw[List.getElem?_set_ne hi]
 rw[e1];refine aJ λi=>?_;by_cases hi:io=i
 ·subst hi;rw[List.getElem?_set_self (zbk h.h1),h.h1]
 ·rw[List.getElem?_set_ne hi]
end
theorem zvX:zd1 tP zjr=true:=by kernel_rfl
theorem zoE(e:IT)(he:e.nodes≤1000)(c:Nat)(hc:c≤729)(rest:List (List IT×Nat))(hr:∀r∈rest,r.2≤729∧r.1.length≤1000)(hl:rest.length≤729)(H:zaa)(io iv:Nat)(l:List (List IT×Nat))(hP:Bw H io iv l)(fc:l.length≤100000)(K:Kt)(hK:K (.tup []) (bw H io iv (l++rest.map λr=>(e::r.1,c*r.2)))):ACalls tP zjr [.agg e.cs,.agg (zam (c:Int)),.sl (zaR rest) .none,.ptr io 0] H K:=by
 refine ACalls.out (zLV λhs=>?_);obtain⟨x,y,ei,hx,hy⟩:=zde e;obtain⟨g,hg⟩:∃g:List IT×Nat→List IT×Nat,g=λr=>(e::r.1,c*r.2):=⟨_,rfl⟩;rw[←hg]at hK;simp[zAh,ae];have hsc:∀l',HSc (bw H io iv l'++[.cells e.cs,.cells (zam (c:Int))]):=λl'=>(hP.hsc hs).append (by
  obtain⟨a,b⟩:=e;simp[AB.sc,IT.cs,zam,AV.scA,AV.scB])
 refine zLT (Inv:=λq t11 H'=>∃i:Nat,i≤rest.length∧rest.length-i=q∧t11=.int .i64 i∧H'=bw H io iv (l++(rest.take i).map g)++[.cells e.cs,.cells (zam (c:Int))]) rest.length ?_ ?_
 ·intro _;exact⟨0,by omega,rfl,rfl,by simp[hP.self]⟩
 ·rintro q t11 H' ⟨i,hi,rfl,rfl,rfl⟩ fU d8 eC Kb ee;by_cases fe:i<rest.length
  ·obtain⟨r1,r2⟩:=hr _ (ah fe);have oG:Bw (bw H io iv (l++(rest.take i).map g)) io iv (l++(rest.take i).map g):=hP.next;obtain⟨dZ,iB⟩:∃ dZ,dZ=l++(rest.take i).map g:=⟨_,rfl⟩;have gE:l++(rest.take (i+1)).map g=dZ++[g rest[i]]:=by rw[iB,af fe];simp only[aP,aD,bJ,aw]
   have i8:dZ.length=l.length+i:=by rw[iB];simp;omega
   rw[←iB]at oG ⊢;have g1:∀J,(bw H io iv dZ++J)[io]?=some (.cells [.ov iv dZ.length]):=λJ=>zbj oG.h1;have g2:∀J,(bw H io iv dZ++J)[iv]?=some (.vec zbv 4 dZ.length (zaR dZ).flatten):=λJ=>zbj oG.h2;have g3:∀b J,(bw H io iv dZ++AB.cells b::J)[H.length]?=some (.cells b):=λb J=>by rw[←zoH (H:=H) (io:=io) (iv:=iv) (l:=dZ)];simp
   have g4:∀b b' J,(bw H io iv dZ++AB.cells b::AB.cells b'::J)[H.length+1]?=some (.cells b'):=λb b' J=>by rw[←zoH (H:=H) (io:=io) (iv:=iv) (l:=dZ)];simp
   have g5:∀b b' b'' J,(bw H io iv dZ++AB.cells b::AB.cells b'::AB.cells b''::J)[H.length+2]?=some (.cells b''):=λb b' b'' J=>by rw[←zoH (H:=H) (io:=io) (iv:=iv) (l:=dZ)];simp
   have oF:plain ([.int .i64 0,.snil]:List AV)=some [.int .i64 0,.sl [] .none]:=rfl;simp[zrW,fe,g1,g3,g4,g5,zau,zaU,oF,zkh,plain,AV.pd];refine zaH (.sl (IT.css (e::rest[i].1)) .none) (λJ=>by
    have:=zIb [e] rest[i].1 (by simp) (by simp;omega) (bw H io iv dZ++[.cells e.cs,.cells (zam (c:Int)),.cells (.sl (IT.css rest[i].1) .none::zam (rest[i].2:Int))]++J) (λv H'=>v=.sl (IT.css (e::rest[i].1)) .none∧H'=bw H io iv dZ++[.cells e.cs,.cells (zam (c:Int)),.cells (.sl (IT.css rest[i].1) .none::zam (rest[i].2:Int))]++J) ⟨rfl,rfl⟩;exact this) ?_
   refine zaH (.agg (zam ((c*rest[i].2:Nat):Int))) (λJ=>zgV _ _ (zcP (aQ hc (by decide))) (zcP (aQ r1 (by decide))) _ _ ⟨by rw[Int.natCast_mul],rfl⟩) ?_;have er:([.sl (IT.css (e::rest[i].1)) .none::zam ((c*rest[i].2:Nat):Int)]:List (List AV))=zaR [g rest[i]]:=by rw[hg];rfl
   have gd:plain (AV.sl (IT.css (e::rest[i].1)) .none::zam ((c*rest[i].2:Nat):Int))=some (.sl (IT.css (e::rest[i].1)) .none::zam ((c*rest[i].2:Nat):Int)):=by simp[plain,AV.pd,zdh]
   rw[Int.natCast_mul]at gd er;have eI:∀J:zaa,(((bw H io iv dZ++J).set iv (.vec zbv 4 (dZ.length+1) ((zaR dZ).flatten++(.sl (IT.css (e::rest[i].1)) .none::zam ((c:Int)*(rest[i].2:Int)))))).set io (.cells [.ov iv (dZ.length+1)]))=bw H io iv (dZ++[g rest[i]])++J:=by intro J;have h1:=oG.bw_app (J:=J) (l':=dZ++[g rest[i]]);rw[zE5 hP.ne]at h1;rw[←h1];unfold bw;rw[zqG,←er];simp
   have g6:∀X J,((bw H io iv dZ++J).set iv X)[io]?=some (.cells [.ov iv dZ.length]):=λX J=>by rw[List.getElem?_set_ne (λh=>hP.ne h.symm)];exact g1 J
   simp[zar,zaL,gd,zax,zaO,zaK,g2,g6,wi i (by omega)];refine⟨⟨by omega,by omega⟩,?_⟩;rw[eI,←gE];exact ee _ _ ⟨rest.length-(i+1),by omega,Back.at (J:=[.cells (.sl (IT.css rest[i].1) .none::zam (rest[i].2:Int))]) (H2:=bw H io iv (l++(rest.take (i+1)).map g)++[.cells e.cs,.cells (zam (c:Int))]) (by simp) (by simp) (hsc _) (by
    have l1:=zbk hP.h1;simp[zln,ux,AV.sc,AV.scA,AV.scB,AV.scV];try omega) ⟨_,rfl,i+1,by omega,rfl,rfl,rfl⟩⟩
  ·obtain rfl:i=rest.length:=by omega
   rw[aq]at *;simp[zrW];exact zJr (J:=[_,_]) rfl (by simp) (hP.hsc hs) hK
def hpB(H:zaa)(T:VT)(l:List (List IT×Nat)):zaa:=H++[.cells T.cs,.cells [.ov (H.length+2) l.length],.vec zbv 4 l.length (zaR l).flatten]
theorem hpB_B{H:zaa}{T:VT}{l:List (List IT×Nat)}:Bw (hpB H T l) (H.length+1) (H.length+2) l:=⟨by omega,by simp[hpB],by simp[hpB]⟩
theorem zo2{H:zaa}{T:VT}{l l':List (List IT×Nat)}:bw (hpB H T l) (H.length+1) (H.length+2) l'=hpB H T l':=by simp[bw,hpB,aj]
@[simp] theorem zZN{H:zaa}{T:VT}{l:List (List IT×Nat)}:(hpB H T l).length=H.length+3:=by simp[hpB]
@[simp] theorem zZL{H:zaa}{T:VT}{l:List (List IT×Nat)}(h:H.length<(hpB H T l).length):(hpB H T l)[H.length]=.cells T.cs:=by simp[hpB]
@[simp] theorem zwG{H:zaa}{T:VT}{l:List (List IT×Nat)}:(hpB H T l)[H.length]?=some (.cells T.cs):=by simp[hpB]
@[simp] theorem zZM{H:zaa}{T:VT}{l:List (List IT×Nat)}(h:H.length+1<(hpB H T l).length):(hpB H T l)[H.length+1]=.cells [.ov (H.length+2) l.length]:=by simp[hpB,List.getElem_append]
theorem zxS:∀ l:List (List IT × Nat),plain (zaR l).flatten=some (zaR l).flatten
 |[]=>rfl
 |r::l=>by show plain ((.sl (IT.css r.1) .none::zam (r.2:Int))++(zaR l).flatten)=_;exact zid (by simp[plain,AV.pd,zdh]) (zxS l)
theorem zG5{H:zaa}{T:VT}{K:Kt}(l:List (List IT×Nat))(hs:HSc H)(hK:K (.sl (zaR l) .none) H):Out H.length K (.ov (H.length+2) l.length) (hpB H T l):=
 ⟨.sl (zaR l) .none,H,_,rfl,aa _,hs,.one (.vfz (H.length+2) zbv 4 l.length (zaR l).flatten (zaR l) (by omega) (by simp[hpB]) (zxS l) (by simp) (λc hc=>by
  obtain⟨p,_,rfl⟩:=aC.1 hc;simp)),hK⟩
theorem zGq{dU:List Dat}(hk:zbw dU)(h8:∀D∈dU,D.cons.length≤8)(hD:zbB dU=true){f:Nat}(hQ:ziY dU f)(hM:ziX dU f):ziX dU (f+1):=by
 intro t l m hf lN jL oH hl hm h6 hn H K hK;obtain⟨k,tn,tks⟩:=t;simp only[VT.kind]at oH;subst oH;refine ACalls.out (zVm λhs=>?_);have iP:(VT.mk 5 tn tks).cs=[.int .i64 5,.int .i64 tn,.sl (VT.css tks) .none]:=rfl;have nC:plain ([.snil,.bool false,.snil,.snil]:List AV)=some [.sl [] .none,.bool false,.sl [] .none,.sl [] .none]:=rfl;cases l with
 |nil=>
  have e:zaE dU (f+1) (.mk 5 tn tks) [] m=[(m,1)]:=by rw[zaE]
  rw[e]at hK;simp[znV,IT.css,iP,ae];refine zeI 1 (by omega) _ _ ?_;simp[zar,zaL,zau,zaU,plain,AV.pd,AV.known,zdh,nC];exact Out.at (b:=.sl (zaR [(m,1)]) .none) rfl (aa _) hs (.atom (.sl _ _)) rfl rfl hK
 |cons a l=>
  cases m with
  |nil=>
   have e:zaE dU (f+1) (.mk 5 tn tks) (a::l) []=[(a::l,1)]:=by rw[zaE]
   rw[e]at hK;have hb:(((l.length:Int)+1) == 0)=false:=by simp;omega
   simp[znV,iP,hb,ae];refine zeI 1 (by omega) _ _ ?_;simp[zar,zaL,zau,zaU,plain,AV.pd,AV.known,zdh,nC];exact Out.at (b:=.sl (zaR [(a::l,1)]) .none) rfl (aa _) hs (.atom (.sl _ _)) rfl rfl hK
  |cons b m=>
   obtain⟨ca,pa⟩:=a;obtain⟨cb,pb⟩:=b;obtain⟨la,ll,el⟩:=zdP h8 _ _ l hl;obtain⟨mb,mm,em⟩:=zdP h8 _ _ m hm;obtain⟨ca0,ca8,psa,ix,k0,mV,ea⟩:=zdy la;obtain⟨cb0,cb8,psb,kP,fV,mW,eb⟩:=zdy mb;have na:=(IT.mk ca pa).nodes_pos;have nb:=(IT.mk cb pb).nodes_pos;simp only[IT.nodesL]at hf hn;have fR:(((l.length:Int)+1) == 0)=false:=by simp;omega
   have fq:(((m.length:Int)+1) == 0)=false:=by simp;omega
   have tl1:(List.take (l.length+1) (IT.css (.mk ca pa::l))).tail=IT.css l:=by simp[IT.css,am]
   have tl2:(List.take (m.length+1) (IT.css (.mk cb pb::m))).tail=IT.css m:=by simp[IT.css,am]
   have oI:∀(x:List IT),∀c∈IT.css x,c.length=2:=λx c hc=>by rw[IT.css_map]at hc;obtain⟨v,_,rfl⟩:=aC.1 hc;simp
   simp[znV,iP,fR,fq,ae];refine⟨rfl,?_⟩;refine zaH (.agg (zam ((1:Nat):Int))) (λJ=>zeI 1 (by omega) _ _ ⟨rfl,rfl⟩) ?_;refine⟨oI _,?_⟩;rw[tl1,←iP];obtain⟨A,hA⟩:∃A,A=zaE dU f (.mk 5 tn tks) l (.mk cb pb::m):=⟨_,rfl⟩;obtain⟨B,hB⟩:∃B,B=zaE dU f (.mk 5 tn tks) (.mk ca pa::l) m:=⟨_,rfl⟩;obtain⟨C,hC⟩:∃C,C=zaE dU f (.mk 5 tn tks) l m:=⟨_,rfl⟩;obtain⟨A1,A2,A3,A4⟩:=zi4 h8 (f:=f) (t:=.mk 5 tn tks) (l:=l) (m:=.mk cb pb::m) (by simp only[IT.nodesL];omega) ll hm (by omega);obtain⟨B1,B2,B3,B4⟩:=zi4 h8 (f:=f) (t:=.mk 5 tn tks) (l:=.mk ca pa::l) (m:=m) (by simp only[IT.nodesL];omega) hl mm (by omega);obtain⟨C1,C2,C3,C4⟩:=zi4 h8 (f:=f) (t:=.mk 5 tn tks) (l:=l) (m:=m) (by omega) ll mm (by omega);rw[←hA]at A1 A2 A3 A4;rw[←hB]at B1 B2 B3 B4;rw[←hC]at C1 C2 C3 C4;simp only[IT.nodesL]at A1 B1;refine zaH (.sl (zaR A) .none) (λJ=>by rw[hA];exact hM _ l (.mk cb pb::m) (by simp only[IT.nodesL];omega) lN jL rfl ll hm (by omega) (by simp only[IT.nodesL];omega) _ _ ⟨rfl,rfl⟩) ?_;simp only[aCallV,zvX];refine ACalls.ovC (id:=H.length+1) (j:=0) (cs:=[.snil]) zbv 4 (by simp) rfl ?_;have eI:(H++[AB.cells (VT.mk 5 tn tks).cs,.cells [.snil]]).set (H.length+1) (.cells ([AV.snil].set 0 (.ov (H++[AB.cells (VT.mk 5 tn tks).cs,.cells [.snil]]).length 0)))++[.vec zbv 4 0 []]=hpB H (.mk 5 tn tks) []:=by simp[hpB,aj,zaR]
   rw[eI];have pH:∀r:List IT×Nat,IT.nodesL r.1≤700→r.1.length≤1000:=λr h=>by have:=IT.len_le r.1;omega
   refine zoE (.mk ca pa) (by simp only[IT.nodes]at hn ⊢;omega) 1 (by omega) A (λr hr=>⟨(A1 r hr).2.1,pH r (by have:=(A1 r hr).2.2.2.2;omega)⟩) A4 _ (H.length+1) (H.length+2) [] hpB_B (by simp) _ ?_;rw[zo2];simp only[List.nil_append,cB];obtain⟨s1,fx⟩:∃s1:List (List IT×Nat),s1=A.map λr=>(IT.mk ca pa::r.1,r.2):=⟨_,rfl⟩;rw[←fx];have hs1l:s1.length≤729:=by rw[fx];simpa using A4
   have h0:=zwG (H:=H) (T:=.mk 5 tn tks) (l:=s1);refine zaH (.agg (zam ((1:Nat):Int))) (λJ=>zeI 1 (by omega) _ _ ⟨rfl,rfl⟩) ?_;simp[h0,iP];refine⟨oI _,?_⟩;rw[tl2,←iP];refine zaH (.sl (zaR B) .none) (λJ=>by rw[hB];exact hM _ (.mk ca pa::l) m (by simp only[IT.nodesL];omega) lN jL rfl hl mm (by omega) (by simp only[IT.nodesL];omega) _ _ ⟨rfl,rfl⟩) ?_;refine zoE (.mk cb pb) (by simp only[IT.nodes]at hn ⊢;omega) 1 (by omega) B (λr hr=>⟨(B1 r hr).2.1,pH r (by have:=(B1 r hr).2.2.2.2;omega)⟩) B4 _ (H.length+1) (H.length+2) s1 hpB_B (by omega) _ ?_;rw[zo2];simp only[cB];obtain⟨s2,jv⟩:∃s2:List (List IT×Nat),s2=s1++B.map λr=>(IT.mk cb pb::r.1,r.2):=⟨_,rfl⟩;rw[←jv];have hs2l:s2.length≤1458:=by rw[jv];simp;omega
   have h02:=λl'=>zwG (H:=H) (T:=.mk 5 tn tks) (l:=l');have jM:∀l',l'=zaE dU (f+1) (.mk 5 tn tks) (.mk ca pa::l) (.mk cb pb::m)→znY (.ptr (H.length+1) 0) (hpB H (.mk 5 tn tks) l') (Out H.length K):=by rintro l' rfl;have h1:=(hpB_B (H:=H) (T:=.mk 5 tn tks) (l:=zaE dU (f+1) (.mk 5 tn tks) (.mk ca pa::l) (.mk cb pb::m))).h1;have h2:=(hpB_B (H:=H) (T:=.mk 5 tn tks) (l:=zaE dU (f+1) (.mk 5 tn tks) (.mk ca pa::l) (.mk cb pb::m))).h2;simp[znY,h1];exact zG5 _ hs hK
   by_cases eS:ca=cb
   ·subst eS;simp[h02,iP,IT.cs];refine⟨oI _,oI _,?_⟩;rw[←iP];rw[ix]at kP;cases kP;obtain⟨R,hR⟩:∃R,R=zbp dU f psa pa pb:=⟨_,rfl⟩;obtain⟨R1,R2,R3,R4⟩:=zvR h8 (f:=f) (ts:=psa) (l:=pa) (m:=pb) (by simp only[IT.nodes]at hf;omega) k0.symm fV.symm mV mW (by omega);rw[←hR]at R1 R2 R3 R4;obtain⟨lf,nB⟩:∃lf,zbr dU (.mk 5 tn tks) ca=some lf:=by
     cases nB:zbr dU (.mk 5 tn tks) ca with
     |none=>simp[zbb,nB]at ix
     |some lf=>exact⟨lf,rfl⟩
    obtain⟨bs,ou,hlb2,nS,gY,gq,_⟩:=zxI hk nB;rw[ix]at gY;have iI:psa=pick lf bs:=dc gY;have hpsl:psa.length≤8:=by rw[iI];have:=zkf lf bs;omega
    have hpsv:∀x∈psa,x.nodes≤1000∧za3 dU 0 x=true:=λx hx=>by rw[iI]at hx;have hm:=zib hx;have:=gq x hm;exact⟨by omega,zwt hD (zJt jL) nB _ hm⟩
    refine zaH (.sl (zaR C) .none) (λJ=>by rw[hC];exact hM _ l m (by omega) lN jL rfl ll mm (by omega) (by omega) _ _ ⟨rfl,rfl⟩) ?_;refine zaH (.sl (VT.css psa) .none) (λJ=>zMc hk tn tks lN ca ix _ _ ⟨rfl,rfl⟩) ?_;refine zaH (.sl (zaR R) .none) (λJ=>by rw[hR];exact hQ psa pa pb (by simp only[IT.nodes]at hf;omega) k0.symm fV.symm (by omega) hpsv mV mW (by omega) (by simp only[IT.nodes]at hn;omega) _ _ ⟨rfl,rfl⟩) ?_;simp;obtain⟨F,hF⟩:∃F:List IT×Nat→List (List IT×Nat),F=λr=>C.map λx=>(IT.mk ca r.1::x.1,r.2*x.2):=⟨_,rfl⟩;have lR:s2++R.flatMap F=zaE dU (f+1) (.mk 5 tn tks) (.mk ca pa::l) (.mk ca pb::m):=by rw[zaE,aA (show zaI (.mk ca pa)=zaI (.mk ca pb) from rfl),jv,fx,hA,hB,hF,hR,hC];simp only[zaI,zaF,ix,Option.getD_some]
    have k9:R.length*C.length≤729:=by refine ar (bx (zdu λp hp=>(R1 p hp).1) (zdu λp hp=>(C1 p hp).1)) (ar (bx R2 C2) ?_);rw[←zqo (by omega) (by omega)];exact ze2 (by omega)
    have lD:∀i,((R.take i).flatMap F).length≤729:=λi=>by
     have:∀L:List (List IT×Nat),(L.flatMap F).length=L.length*C.length:=λL=>by
      induction L with
      |nil=>simp
      |cons r L ih=>rw[bf,az,ih,hF,cc,List.length_cons,cp];omega
     rw[this];exact ar (au _ (by simp;omega)) k9
    have hscB:∀l',HSc (hpB H (.mk 5 tn tks) l'):=λl'=>hs.append (by simp only[AB.sc,List.all_cons,List.all_nil,zyc];simp[VT.cs,AV.scA,AV.scB]);refine zVk (Inv:=λq t87 H'=>∃i:Nat,i≤R.length∧R.length-i=q∧t87=.int .i64 i∧H'=hpB H (.mk 5 tn tks) (s2++(R.take i).flatMap F)) R.length ?_ ?_
    ·intro _;exact⟨0,by omega,rfl,rfl,by simp⟩
    ·rintro q t87 H' ⟨i,hi,rfl,rfl,rfl⟩ hsc12 d8 eC Kb ee;by_cases fe:i<R.length
     ·obtain⟨r1,r2,r3,_,_,r6⟩:=R1 _ (ah fe);have gE:s2++(R.take (i+1)).flatMap F=(s2++(R.take i).flatMap F)++F R[i]:=by rw[af fe];simp only[bB,bf,cV,aK,aw]
      have eZ:=lD i;obtain⟨dZ,iB⟩:∃dZ,dZ=s2++(R.take i).flatMap F:=⟨_,rfl⟩;have i8:dZ.length≤3000:=by rw[iB,az];omega
      rw[←iB]at gE ⊢;simp[zuG,fe,IT.cs,IT.css,zar,zaL,AV.known];simp only[aCallV,zvX];have hBa:Bw (hpB H (.mk 5 tn tks) dZ++[.cells (.sl (IT.css R[i].1) .none::zam (R[i].2:Int))]) (H.length+1) (H.length+2) dZ:=hpB_B.app;refine zoE (.mk ca R[i].1) (by simp only[IT.nodes]at hn ⊢;omega) R[i].2 (by omega) C (λr hr=>⟨(C1 r hr).2.1,pH r (by have:=(C1 r hr).2.2.2.2;omega)⟩) C4 _ (H.length+1) (H.length+2) dZ hBa (by omega) _ ?_;rw[hpB_B.bw_app,zo2];have hFi:F R[i]=C.map λr=>(IT.mk ca R[i].1::r.1,R[i].2*r.2):=by rw[hF]
      rw[←hFi,←gE,wi i (by omega)];exact ee _ _ ⟨R.length-(i+1),by omega,Back.at (J:=[.cells (.sl (IT.css R[i].1) .none::zam (R[i].2:Int))]) (H2:=hpB H (.mk 5 tn tks) (s2++(R.take (i+1)).flatMap F)) rfl (by simp) (hscB _) (by simp[znX,ux,AV.sc,AV.scA,AV.scB,AV.scV]) ⟨_,rfl,i+1,by omega,rfl,rfl,rfl⟩⟩
     ·obtain rfl:i=R.length:=by omega
      rw[aq,lR];simp[zuG];exact jM _ rfl
   ·have pE:(ca == cb)=false:=by simpa using eS
    simp[h02,IT.cs,pE];refine jM s2 ?_;rw[zaE,ap (by simpa[zaI]using eS),aK,jv,fx,hA,hB]
theorem zq3(a:List (IT×Nat))(i:IT)(c:Nat):zaD a++[i.cs++zam (c:Int)]=zaD (a++[(i,c)]):=by simp[zaD,tmC]
theorem zGA{dU:List Dat}(h8:∀D∈dU,D.cons.length≤8){f:Nat}(hQ:ziY dU f)(hM:ziX dU f):zon dU (f+1):=by
 intro t i j hf lN jL hi hj h6 hn H K hK;obtain⟨k,tn,tks⟩:=t;obtain⟨n,l⟩:=i;obtain⟨n',m⟩:=j;simp only[IT.nodes]at hf hn;refine ACalls.out (zTg λhs=>?_);have iP:(VT.mk k tn tks).cs=[.int .i64 k,.int .i64 tn,.sl (VT.css tks) .none]:=rfl;have lS:(IT.mk n l).cs=[.int .i64 n,.sl (IT.css l) .none]:=rfl;have mZ:(IT.mk n' m).cs=[.int .i64 n',.sl (IT.css m) .none]:=rfl;have gZ:plain ([.int .i64 0,.snil,.bool false,.snil,.snil]:List AV)=some [.int .i64 0,.sl [] .none,.bool false,.sl [] .none,.sl [] .none]:=rfl;have lT:(H++[AB.cells (VT.mk k tn tks).cs,.cells (IT.mk n l).cs,.cells (IT.mk n' m).cs]).length=H.length+3:=by simp
 have jJ:∀c,HSc (H++[AB.cells (VT.mk k tn tks).cs,.cells (IT.mk n l).cs,.cells (IT.mk n' m).cs,.perm zaC 5 c]):=λc=>hs.append (by simp[AB.sc,VT.cs,IT.cs,AV.scA,AV.scB]);by_cases k6:k=6
 ·subst k6;have ev:∀(n:Int) (l:List IT),0≤rdV dU (.mk n l) (.mk 6 tn tks)→n=0∧l.length=tks.length∧rdV dU (.mk n l) (.mk 6 tn tks)=rdA dU l tks 0:=λn l h=>by
   rw[rdV]at h ⊢;simp only[VT.kind,VT.kids,aV]at h ⊢;by_cases hn:n=0
   ·by_cases hl:tks.length=l.length
    ·simp[hn,hl]
    ·simp[hn,hl]at h
   ·simp[hn]at h
  obtain⟨i1,i2,i3⟩:=ev n l hi;obtain⟨j1,j2,j3⟩:=ev n' m hj;rw[i3]at hi h6;rw[j3]at hj h6;have iM:=VT.len_le tks;have e7:∀(ts:List VT) (x:VT),x∈ts→x.nodes≤VT.nodesL ts:=by
   intro ts;induction ts with
   |nil=>intro x hx;simp at hx
   |cons t ts ih=>
    intro x hx;simp only[VT.nodesL];rcases aS.1 hx with rfl|hx
    ·omega
    ·have:=ih x hx;omega
  have htks:∀x∈tks,x.nodes≤1000∧za3 dU 0 x=true:=λx hx=>by have:=e7 tks x hx;simp only[VT.nodes]at lN;exact⟨by omega,zze jL x hx⟩
  simp only[VT.nodes]at lN;obtain⟨R,hR⟩:∃R,R=zbp dU f tks l m:=⟨_,rfl⟩;obtain⟨R1,R2,R3,R4⟩:=zvR h8 (f:=f) (ts:=tks) (l:=l) (m:=m) (by omega) i2 j2 hi hj h6;rw[←hR]at R1 R2 R3 R4;have lR:zaA dU (f+1) (.mk 6 tn tks) (.mk n l) (.mk n' m)=R.map λr=>(.mk 0 r.1,r.2):=by rw[zaA,hR];simp[VT.kind,VT.kids,zaF]
  rw[lR]at hK;simp[ziH,iP,lS,mZ,ae];refine hQ tks l m (by omega) i2 j2 (by omega) htks hi hj h6 (by omega) _ _ ?_;rw[←hR];simp;rw[←iP,←lS,←mZ];unfold zno;refine ALoop.own 9 zaC 5 rfl ?_;rw[lT,aw];show zno (.sl (zaD ((R.take 0).map λr=>(IT.mk 0 r.1,r.2))) (.own (H.length+3))) _ _ _ (H++[AB.cells (VT.mk 6 tn tks).cs,.cells (IT.mk n l).cs,.cells (IT.mk n' m).cs,.perm zaC 5 0]) _;refine zTc (Inv:=λq t9 t36 H'=>∃q':Nat,q'≤R.length∧R.length-q'=q∧t36=.int .i64 q'∧t9=.sl (zaD ((R.take q').map λr=>(IT.mk 0 r.1,r.2))) (.own (H.length+3))∧H'=H++[AB.cells (VT.mk 6 tn tks).cs,.cells (IT.mk n l).cs,.cells (IT.mk n' m).cs,.perm zaC 5 q']) R.length ?_ ?_
  ·intro _;exact⟨0,by omega,rfl,rfl,rfl,rfl⟩
  ·rintro q t9 t36 H' ⟨q',hq,rfl,rfl,rfl,rfl⟩ hsc6 hlen6 hsF6 Kb6 m0;have gX:min q' R.length=q':=by omega
   by_cases lP:q'<R.length
   ·have eD:(R.take (q'+1)).map (λr=>(IT.mk 0 r.1,r.2))=(R.take q').map (λr=>(IT.mk 0 r.1,r.2))++[(IT.mk 0 R[q'].1,R[q'].2)]:=by rw[af lP];simp only[aP,aD,bJ]
    simp[zt4,lP,zar,zaL,wi q' (by omega),AV.known,zau,zaU,plain,AV.pd,zdh,gZ];simp only[zax,zaO,zaK];simp[gX,aj];refine⟨⟨by omega,by omega⟩,?_⟩;have m5:zaD (List.take q' (List.map (λr=>(IT.mk 0 r.1,r.2)) R))++[.int .i64 0::.sl (IT.css R[q'].1) .none::zam (R[q'].2:Int)]=zaD ((R.take (q'+1)).map λr=>(IT.mk 0 r.1,r.2)):=by rw[eD,←zq3,bM];rfl
    rw[m5];exact m0 _ _ ⟨R.length-(q'+1),by omega,Back.at (J:=[.cells (.sl (IT.css R[q'].1) .none::zam (R[q'].2:Int))]) (H2:=H++[AB.cells (VT.mk 6 tn tks).cs,.cells (IT.mk n l).cs,.cells (IT.mk n' m).cs,.perm zaC 5 (q'+1)]) (by simp) (by simp) (jJ _) (by simp[znj,ux,AV.sc,AV.scA,AV.scB,AV.scV]) ⟨_,_,rfl,q'+1,by omega,rfl,rfl,rfl,rfl⟩⟩
   ·obtain rfl:q'=R.length:=by omega
    rw[aq];simp[zt4,zfY,znk];exact Out.at (b:=.sl (zaD (R.map λr=>(IT.mk 0 r.1,r.2))) .none) rfl (aa _) hs (.atom (.sl _ _)) rfl rfl hK
 ·by_cases k7:k=7
  ·subst k7;have ev:∀(n:Int) (l:List IT),0≤rdV dU (.mk n l) (.mk 7 tn tks)→0≤n∧n≤6∧rdV dU (.mk n l) (.mk 7 tn tks)=n:=λn l h=>by
    rw[rdV]at h ⊢;simp only[VT.kind,k6,aH,aV]at h ⊢;by_cases hc:0≤n∧n≤6∧l.length=0
    ·rw[aA hc];exact⟨hc.1,hc.2.1,rfl⟩
    ·rw[ap hc]at h;omega
   obtain⟨i1,i2,i3⟩:=ev n l hi;obtain⟨j1,j2,j3⟩:=ev n' m hj;rw[i3]at hi h6;rw[j3]at hj h6;obtain⟨a,rfl⟩:∃a:Nat,n=a:=⟨n.toNat,by omega⟩;obtain⟨b,rfl⟩:∃b:Nat,n'=b:=⟨n'.toNat,by omega⟩;have lR:zaA dU (f+1) (.mk 7 tn tks) (.mk a l) (.mk b m)=(za4 a b).filter λp=>p.2 != 0:=by rw[zaA];simp[VT.kind,zaI]
   rw[lR]at hK;simp[ziH,iP,lS,mZ,ae];refine zVe a b (by omega) (by omega) _ _ ?_;simp;rw[←iP,←lS,←mZ];unfold znm;refine ALoop.own 9 zaC 5 rfl ?_;rw[lT,aw];have gd:(zc0 a b (a+b+1)).length=a+b+1:=by simp[zc0]
   have i8:(za4 a b).length=a+b+1:=by simp[za4]
   show znm (.sl (zaD (((za4 a b).take 0).filter λp=>p.2 != 0)) (.own (H.length+3))) _ _ _ (H++[AB.cells (VT.mk 7 tn tks).cs,.cells (IT.mk a l).cs,.cells (IT.mk b m).cs,.perm zaC 5 0]) _;refine zTa (Inv:=λq t9 t62 H'=>∃q':Nat,q'≤a+b+1∧a+b+1-q'=q∧t62=.int .i64 q'∧t9=.sl (zaD (((za4 a b).take q').filter λp=>p.2 != 0)) (.own (H.length+3))∧H'=H++[AB.cells (VT.mk 7 tn tks).cs,.cells (IT.mk a l).cs,.cells (IT.mk b m).cs,.perm zaC 5 (((za4 a b).take q').filter λp=>p.2 != 0).length]) (a+b+1) ?_ ?_
   ·intro _;exact⟨0,by omega,rfl,rfl,rfl,rfl⟩
   ·rintro q t9 t62 H' ⟨q',hq,rfl,rfl,rfl,rfl⟩ hsc13 hlen13 hsF13 Kb13 jo;by_cases lP:q'<a+b+1
    ·have hq':q'<(za4 a b).length:=by omega
     have hql':(q':Int)<(a:Int)+(b:Int)+1:=by omega
     have he:(za4 a b)[q']=(.mk (q':Int) [],pcf a b q'):=by simp[za4]
     have eD:((za4 a b).take (q'+1)).filter (λp=>p.2 != 0)=((za4 a b).take q').filter (λp=>p.2 != 0)++(if pcf a b q'=0 then [] else [(.mk (q':Int) [],pcf a b q')]):=by rw[af hq',he,cN];by_cases h0:pcf a b q'=0 <;> simp[h0]
     have eZ:(((za4 a b).take q').filter λp=>p.2 != 0).length≤20:=ar (cU _ _) (by simp;omega);have pi:(zcl (zc0 a b (a+b+1)))[q']?=some (zam (pcf a b q':Int)):=by simp[zcl,zc0,lP]
     obtain⟨s,kg⟩:∃s,s=((za4 a b).take q').filter λp=>p.2 != 0:=⟨_,rfl⟩;rw[←kg]at eD eZ ⊢;have hNa:zaM (λ_=>1) (za4 a b)≤729:=by rw[za4,zku];have:=zvH a (by omega) b (by omega) (by omega);unfold zqT at this;refine ar (by simpa using this) (ar (a8 (by omega) (show a+b≤6 by omega)) (by decide))
     have hpc:pcf a b q'≤729:=by have hc:=zpi (ah hq');rw[he]at hc;exact ar hc hNa
     have hsmp:pcf a b q'<1000000000 ^ 30:=aQ hpc (by decide);simp[zt2,gd,hql',pi,zgy];refine zDA (pcf a b q') (zcP hsmp) _ _ ?_;by_cases h0:pcf a b q'=0
     ·rw[aA h0,aK]at eD;simp[h0,znl,zt5,wi q' (by omega)];have gn:s=List.filter (λp=>p.2 != 0) ((za4 a b).take (q'+1)):=eD.symm;exact jo _ _ ⟨a+b+1-(q'+1),by omega,Back.at (J:=[.cells (zam 0)]) (H2:=H++[AB.cells (VT.mk 7 tn tks).cs,.cells (IT.mk a l).cs,.cells (IT.mk b m).cs,.perm zaC 5 s.length]) (by simp) (by simp) (jJ _) (by simp[ziI,ux,AV.sc,AV.scA,AV.scB,AV.scV]) ⟨_,_,by simp only[gd];rfl,q'+1,by omega,rfl,rfl,by rw[←gn],by rw[←gn]⟩⟩
     ·rw[ap h0]at eD;simp[h0,zar,zaL,zau,zaU,plain,AV.pd,AV.known,zdh,gZ];simp only[zax,zaO,zaK];simp[aj,znl,zt5,wi q' (by omega)];refine⟨⟨by omega,by omega⟩,?_⟩;have m5:zaD s++[.int .i64 (q':Int)::.sl [] .none::zam (pcf a b q':Int)]=zaD (((za4 a b).take (q'+1)).filter λp=>p.2 != 0):=by rw[eD,←zq3];rfl
      have iw:s.length+1=(((za4 a b).take (q'+1)).filter λp=>p.2 != 0).length:=by rw[eD];simp
      rw[m5,iw];exact jo _ _ ⟨a+b+1-(q'+1),by omega,Back.at (J:=[.cells (zam (pcf a b q':Int))]) (H2:=H++[AB.cells (VT.mk 7 tn tks).cs,.cells (IT.mk a l).cs,.cells (IT.mk b m).cs,.perm zaC 5 (((za4 a b).take (q'+1)).filter λp=>p.2 != 0).length]) (by simp) (by simp) (jJ _) (by simp[ziI,ux,AV.sc,AV.scA,AV.scB,AV.scV]) ⟨_,_,by simp only[gd];rfl,q'+1,by omega,rfl,rfl,rfl,rfl⟩⟩
    ·obtain rfl:q'=a+b+1:=by omega
     rw[am (by omega)];simp[zt2,zfY,znk,gd];exact Out.at (b:=.sl (zaD ((za4 a b).filter λp=>p.2 != 0)) .none) rfl (aa _) hs (.atom (.sl _ _)) rfl rfl hK
  ·by_cases k5:k=5
   ·subst k5;have ev:∀(n:Int) (l:List IT),0≤rdV dU (.mk n l) (.mk 5 tn tks)→n=0∧l.length≤6∧rdV dU (.mk n l) (.mk 5 tn tks)=rdE dU l (.mk 5 tn tks) 0:=λn l h=>by
     rw[zey]at h ⊢;by_cases hc:n=0∧l.length≤6
     ·rw[aA hc];exact⟨hc.1,hc.2,rfl⟩
     ·rw[ap hc]at h;omega
    obtain⟨i1,i2,i3⟩:=ev n l hi;obtain⟨j1,j2,j3⟩:=ev n' m hj;rw[i3]at hi h6;rw[j3]at hj h6;obtain⟨R,hR⟩:∃R,R=zaE dU f (.mk 5 tn tks) l m:=⟨_,rfl⟩;obtain⟨R1,R2,R3,R4⟩:=zi4 h8 (f:=f) (t:=.mk 5 tn tks) (l:=l) (m:=m) (by omega) hi hj h6;rw[←hR]at R1 R2 R3 R4;have lR:zaA dU (f+1) (.mk 5 tn tks) (.mk n l) (.mk n' m)=R.map λr=>(.mk 0 r.1,r.2):=by rw[zaA,hR];simp[VT.kind,zaF]
    rw[lR]at hK;simp[ziH,iP,lS,mZ,ae];rw[←iP];refine hM (.mk 5 tn tks) l m (by omega) lN jL rfl hi hj h6 (by omega) _ _ ?_;rw[←hR];simp;rw[←lS,←mZ];unfold znn;refine ALoop.own 9 zaC 5 rfl ?_;rw[lT,aw];show znn (.sl (zaD ((R.take 0).map λr=>(IT.mk 0 r.1,r.2))) (.own (H.length+3))) _ _ _ (H++[AB.cells (VT.mk 5 tn tks).cs,.cells (IT.mk n l).cs,.cells (IT.mk n' m).cs,.perm zaC 5 0]) _;refine zTb (Inv:=λq t9 t36 H'=>∃q':Nat,q'≤R.length∧R.length-q'=q∧t36=.int .i64 q'∧t9=.sl (zaD ((R.take q').map λr=>(IT.mk 0 r.1,r.2))) (.own (H.length+3))∧H'=H++[AB.cells (VT.mk 5 tn tks).cs,.cells (IT.mk n l).cs,.cells (IT.mk n' m).cs,.perm zaC 5 q']) R.length ?_ ?_
    ·intro _;exact⟨0,by omega,rfl,rfl,rfl,rfl⟩
    ·rintro q t9 t36 H' ⟨q',hq,rfl,rfl,rfl,rfl⟩ hsc6 hlen6 hsF6 Kb6 m0;have gX:min q' R.length=q':=by omega
     by_cases lP:q'<R.length
     ·have eD:(R.take (q'+1)).map (λr=>(IT.mk 0 r.1,r.2))=(R.take q').map (λr=>(IT.mk 0 r.1,r.2))++[(IT.mk 0 R[q'].1,R[q'].2)]:=by rw[af lP];simp only[aP,aD,bJ]
      simp[zt3,lP,zar,zaL,wi q' (by omega),AV.known,zau,zaU,plain,AV.pd,zdh,gZ];simp only[zax,zaO,zaK];simp[gX,aj];refine⟨⟨by omega,by omega⟩,?_⟩;have m5:zaD (List.take q' (List.map (λr=>(IT.mk 0 r.1,r.2)) R))++[.int .i64 0::.sl (IT.css R[q'].1) .none::zam (R[q'].2:Int)]=zaD ((R.take (q'+1)).map λr=>(IT.mk 0 r.1,r.2)):=by rw[eD,←zq3,bM];rfl
      rw[m5];exact m0 _ _ ⟨R.length-(q'+1),by omega,Back.at (J:=[.cells (.sl (IT.css R[q'].1) .none::zam (R[q'].2:Int))]) (H2:=H++[AB.cells (VT.mk 5 tn tks).cs,.cells (IT.mk n l).cs,.cells (IT.mk n' m).cs,.perm zaC 5 (q'+1)]) (by simp) (by simp) (jJ _) (by simp[zni,ux,AV.sc,AV.scA,AV.scB,AV.scV]) ⟨_,_,rfl,q'+1,by omega,rfl,rfl,rfl,rfl⟩⟩
     ·obtain rfl:q'=R.length:=by omega
      rw[aq];simp[zt3,zfY,znk];exact Out.at (b:=.sl (zaD (R.map λr=>(IT.mk 0 r.1,r.2))) .none) rfl (aa _) hs (.atom (.sl _ _)) rfl rfl hK
   ·have lR:zaA dU (f+1) (.mk k tn tks) (.mk n l) (.mk n' m)=[(.mk 0 [],1)]:=by rw[zaA];simp[VT.kind,k6,k7,k5]
    rw[lR]at hK;have b6:(k == 6)=false:=by simpa using k6
    have b7:(k == 7)=false:=by simpa using k7
    have b5:(k == 5)=false:=by simpa using k5
    simp[ziH,iP,lS,mZ,b6,b7,b5,zar,zaL,AV.known,ae];refine zeI 1 (by omega) _ _ ?_;simp[zar,zaL,zau,zaU,plain,AV.pd,AV.known,zdh,zax,zaO,zaK];exact Out.at (b:=.sl (zaD [(IT.mk 0 [],1)]) .none) rfl (aa _) hs (.atom (.sl _ _)) rfl rfl hK
theorem zpn{dU:List Dat}(hk:zbw dU)(h8:∀ D∈dU,D.cons.length≤8)(hD:zbB dU=true):∀ f,zon dU f∧ziY dU f∧ziX dU f
 |0=>⟨λt i j h=>by have:=i.nodes_pos;omega,λts l m h=>by omega,λt l m h=>by omega⟩
 |f+1=>by obtain⟨h1,h2,h3⟩:=zpn hk h8 hD f;exact⟨zGA h8 h2 h3,zHI h8 h1,zGq hk h8 hD h2 h3⟩
section
variable (t0 t1 t2 t3 t5 t8 t9 t10 t11 t12 t13:AV) (H:zaa) (K:Kt) (Kb3 Kb4:Lt)
def znF:Nat→List Bool|3=>rl false [3,1,1,1,2,3,15]|_=>[]
noncomputable def zum:=Tryz.f62.body.getD .skip
noncomputable def zUf:=Tryz.f62.results.toList
def znG:=ux 3 (t3::ux 1 (t5::ux 2 (t8::t9::t10::ux 15 [])))
def zUd:=znF 3
noncomputable def zUb:=zas [1,1,0,1,0,0] zum
def zUa:=zat tP znF [1,1,0,1,0] zum (zaB tP zUf K)
def znH:=ALoop tP zUb (zUa K) (znG t3 t5 t8 t9 t10) H
def zul:=zad .lss false t10 t9 λt11=>zag t11 (zaj 5 t8 t10 λt12=>zae true 5 t12 H λt13=>zaz [(.int .i64 0),.snil,(.bool false),.snil,.snil] H λt7 H=>zao 5 t7 t13 H λH=>apm H t5 λt14=>apu H (zaf 0 t7) λt15=>apu H (zal true 2 t15 H) λt16=>apu H (zaf 2 t7) λt17=>apu H (zal true 3 t17 H) λt18=>apu H (zal true 3 t3 H) λt19=>zaJ H (λH K'=>ACalls tP zet [t18,t19] H K') λt20=>apu H (zar [(.int .i64 0),.snil,(.bool false),.snil,.snil] [(0,2),(2,3)] [(0,t16),(1,t20)]) λt21=>apu H (zau 5 [(.int .i64 0),.snil,(.bool false),.snil,.snil] 1 [(0,t21)]) λt22=>zax zaC 5 88 t14 t22 H λt23 H=>apm H t23 λt5=>zad .add false t10 (.int .i64 1) λt24=>Kb3 (znG t3 t5 t8 t9 t24) H) (K t5 H)
def zDa:=zaw t1 H λt3 H=>zai 1 t0 λt9=>znH t3 .snil t0 t9 (.int .i64 0) H K
def zm5:Nat→List Bool|4=>rl false [2,2,7,3,12]|_=>[]
noncomputable def ztJ:=Tryz.f30.body.getD .skip
noncomputable def zSi:=Tryz.f30.results.toList
def zm6:=ux 2 (t2::t3::ux 7 (t11::t12::t13::ux 12 []))
def zSg:=zm5 4
noncomputable def zSe:=zas [1,1,0,1,0,1,0,0] ztJ
def zSd:=zat tP zm5 [1,1,0,1,0,1,0] ztJ (zaB tP zSi K)
def zm8:=ALoop tP zSe (zSd K) (zm6 t2 t3 t11 t12 t13) H
def zm7:=zae true 2 t3 H λt25=>zao 2 t2 t25 H λH=>zae true 2 t2 H λr0=>K r0 H
def ztI:=zad .lss false t13 t12 λt14=>zag t14 (zaj 3 t11 t13 λt15=>zae true 3 t15 H λt16=>zaz [(.int .i64 0),(.int .i64 0),.snil] H λt5 H=>zao 3 t5 t16 H λH=>apu H (zaf 1 t3) λt17=>apu H (zal false 1 t17 H) λt18=>apu H (zal true 3 t5 H) λt19=>zaJ H (λH K'=>ACalls tP zjO [t19] H K') λt20=>apu H (zau 2 [(.int .i64 0),.snil] 1 [(0,t20)]) λt21=>zax zba 2 32 t18 t21 H λt22 H=>apu H (zaf 1 t3) λt23=>zao 1 t23 t22 H λH=>zad .add false t13 (.int .i64 1) λt24=>Kb4 (zm6 t2 t3 t11 t12 t24) H) (zm7 t2 t3 H K)
def zCt:=zaw t0 H λt1 H=>zaz [(.int .i64 0),.snil] H λt2 H=>zar [(.int .i64 0),.snil] [(0,1),(1,1)] [] λt6=>zaz [(.int .i64 0),.snil] H λt3 H=>zao 2 t3 t6 H λH=>zaf 0 t1 λt7=>zae false 1 t7 H λt8=>zad .eql false t8 (.int .i64 6) λt9=>zag t9 (zaf 2 t1 λt10=>zae false 1 t10 H λt11=>zai 1 t11 λt12=>zm8 t2 t3 t11 t12 (.int .i64 0) H K) (zm7 t2 t3 H K)
variable {t0 t1 t2 t3 t5 t8 t9 t10 t11 t12 t13} {H} {K} {Kb3 Kb4}
theorem zUc:Lo2 (λt5 t10=>znG t3 t5 t8 t9 t10) (λt5 t10 H Kb3=>zul t3 t5 t8 t9 t10 H K Kb3) t5 t10 H (znH t3 t5 t8 t9 t10 H K):=lq2 znF zUd
theorem zUe(h:HSc H→zDa t0 t1 H K):ACalls tP zqa [t0,t1] H K:=
 acb znF Tryz.func62 zum h
theorem zSf:Lo1 (λt13=>zm6 t2 t3 t11 t12 t13) (λt13 H Kb4=>ztI t2 t3 t11 t12 t13 H K Kb4) t13 H (zm8 t2 t3 t11 t12 t13 H K):=lq1 zm5 zSg
theorem zSh(h:HSc H→zCt t0 H K):ACalls tP zjO [t0] H K:=
 acb zm5 Tryz.func30 ztJ h
end
def scl(l:List (IT×Nat))(c:Nat):List (IT×Nat):=l.map λp=>(p.1,p.2*c)
@[simp] theorem zHV(l:List (IT×Nat))(c:Nat):(scl l c).length=l.length:=by simp[scl]
theorem zHW{l:List (IT×Nat)}{c j:Nat}(h:j<l.length):scl (l.take (j+1)) c=scl (l.take j) c++[(l[j].1,l[j].2*c)]:=by rw[af h];simp only[scl,aP,aD,bJ]
theorem zJh(a:List (IT×Nat))(p:IT×Nat):zaD (a++[p])=zaD a++[tmC p]:=by simp[zaD]
theorem zUg(l:List (IT × Nat))(c:Nat)(hl:l.length≤100000)(hc:Sm (c:Int))(lQ:∀ p∈l,Sm (p.2:Int))(H:zaa)(K:Kt)(hK:K (.sl (zaD (scl l c)) .none) H):
  ACalls tP zqa [.sl (zaD l) .none,.agg (zam (c:Int))] H K:=by
 refine ACalls.out (zUe λhs=>?_);simp[zDa,ae];unfold znH;refine ALoop.own 5 zaC 5 rfl ?_;have gK:(H++[AB.cells (zam (c:Int))]).length=H.length+1:=by simp
 rw[gK,aw];show znH _ (.sl (zaD (scl (l.take 0) c)) (.own (H.length+1))) _ _ _ (H++[.cells (zam (c:Int)),.perm zaC 5 0]) _;have nA:∀n,HSc (H++[.cells (zam (c:Int)),.perm zaC 5 n]):=λn=>hs.append (by simp[AB.sc,zgz]);refine zUc (Inv:=λq t5 t10 H'=>∃j:Nat,j≤l.length∧l.length-j=q∧t10=.int .i64 j∧t5=.sl (zaD (scl (l.take j) c)) (.own (H.length+1))∧H'=H++[.cells (zam (c:Int)),.perm zaC 5 j]) l.length ?_ ?_
 ·intro _;exact⟨0,by omega,rfl,rfl,rfl,rfl⟩
 ·rintro q t5 t10 H' ⟨j,hj,rfl,rfl,rfl,rfl⟩ eA d8 eC Kb ee;by_cases d7:j<l.length
  ·have eD:=zHW (c:=c) d7;have hm:=lQ _ (ah d7);have ia:(scl (l.take j) c).length=j:=by simp;omega
   generalize hS:scl (l.take j) c=S at *;simp[zul,d7,zco,zcz,zcQ,ae];refine⟨zea _,?_⟩;try simp[zcz]
   refine zaH (.agg (zam ((l[j].2*c:Nat):Int))) (λJ=>zgV _ _ hm hc _ _ ⟨by rw[Int.natCast_mul],rfl⟩) ?_;have m6:List.drop 5 (l[j].1.cs++[AV.bool false,.snil,.snil])=[]:=a7 (by simp);have f8:plain ([.int .i64 0,.snil,.bool false,.snil,.snil]:List AV)=some [.int .i64 0,.sl [] .none,.bool false,.sl [] .none,.sl [] .none]:=rfl;have lC:∀x∈l[j].1.cs,x.known=true:=ak.1 (IT.cs_known l[j].1);have m7:∀x∈zam ((l[j].2*c:Nat):Int),x.known=true:=ak.1 (zfC _);simp[zar,zaL,m6];have nT:l[j].1.cs++zam ((l[j].2:Int)*(c:Int))=tmC (l[j].1,l[j].2*c):=by simp[tmC,Int.natCast_mul]
   rw[nT];simp[zau,zaU,zgw,f8];simp only[zax,zaO,zaK];simp[aj,ia,wi j (by omega)];refine⟨⟨by omega,by omega⟩,?_⟩;have m5:zaD S++[tmC (l[j].1,l[j].2*c)]=zaD (scl (l.take (j+1)) c):=by rw[eD,zJh]
   rw[m5];exact ee _ _ ⟨l.length-(j+1),by omega,Back.at (J:=[.cells (tmC l[j])]) (H2:=H++[.cells (zam (c:Int)),.perm zaC 5 (j+1)]) (by simp) (by simp) (nA _) (by simp[znG,ux,AV.sc,AV.scA,AV.scB,AV.scV]) ⟨_,_,rfl,j+1,by omega,rfl,rfl,rfl,rfl⟩⟩
  ·obtain rfl:j=l.length:=by omega
   rw[aq];simp[zul];exact Out.at (b:=.sl (zaD (scl l c)) .none) rfl (aa _) hs (.atom (.sl _ _)) rfl rfl hK
def kvS:List (IT × Nat)→Nat→List (List UInt8 × AV)
 |[],_=>[]
 |p::s,k=>(wrI p.1,.int .i64 k)::kvS s (k+1)
theorem zwN{i:IT}(hi:Dig i):∀ (s:List (IT × Nat)) (k:Nat),(∀ p∈s,Dig p.1)→(∀ p∈s,p.1≠i)→zbP (kvS s k) (wrI i)=none∧∀ c,zcF (kvS s k) (wrI i) (.int .i64 (k+s.length:Nat))=kvS (s++[(i,c)]) k
 |[],k,_,_=>by simp[kvS,zbP,zcF]
 |p::s,k,h,hn=>by
  have hb:(wrI p.1 == wrI i)=false:=by simp only[cC,ne_eq];intro he;exact hn p (by simp) (zzy (h p (by simp)) hi he)
  obtain⟨h1,h2⟩:=zwN hi s (k+1) (λq hq=>h q (by simp[hq])) (λq hq=>hn q (by simp[hq]));refine⟨by simp[kvS,zbP,hb,h1],λc=>?_⟩;have:=h2 c;rw[show k+1+s.length=k+(p::s).length by simp;omega]at this;simp[kvS,zcF,hb]at this ⊢;exact this
theorem zwP{i:IT}(hi:Dig i):∀ (s:List (IT × Nat)) (k j:Nat) (hj:j<s.length),(∀ p∈s,Dig p.1)→(s.map Prod.fst).Nodup→s[j].1=i→zbP (kvS s k) (wrI i)=some (.int .i64 (k+j:Nat))
 |p::s,k,0,hj,h,hn,he=>by simp at he;simp[kvS,zbP,he]
 |p::s,k,j+1,hj,h,hn,he=>by
  simp only[List.getElem_cons_succ]at he;simp only[aD,cH]at hn;have hb:(wrI p.1 == wrI i)=false:=by simp only[cC,ne_eq];intro hh;have:=zzy (h p (by simp)) hi hh;exact hn.1 (by rw[this,←he];exact aC.2 ⟨_,ah (by simpa using hj),rfl⟩)
  have:=zwP hi s (k+1) j (by simpa using hj) (λq hq=>h q (by simp[hq])) hn.2 he;rw[show k+1+j=k+(j+1) by omega]at this;simp[kvS,zbP,hb,this]
theorem zwM:∀ (s s':List (IT × Nat)) (k:Nat),s.map Prod.fst=s'.map Prod.fst→kvS s k=kvS s' k
 |[],[],_,_=>rfl
 |[],_::_,_,h=>by simp at h
 |_::_,[],_,h=>by simp at h
 |p::s,q::s',k,h=>by simp only[aD,cI]at h;rw[kvS,kvS,h.1,zwM s s' (k+1) h.2]
theorem zGd(s:List (IT×Nat)){j:Nat}(hj:j<s.length)(c k:Nat):kvS (s.set j (s[j].1,c)) k=kvS s k:=by
 refine zwM _ _ _ ?_;rw[List.map_set];refine bA (by simp) λn h1 h2=>?_;rw[cY];split
 ·rename_i h;subst h;simp
 ·rfl
theorem zwO{n:Nat}:∀ (s:List (IT × Nat)) (k:Nat),((kvS s k).all λp=>p.2.scV n)=true
 |[],_=>rfl
 |p::s,k=>by rw[kvS,List.all_cons,zwO s (k+1),ce];simp[AV.scV,AV.scA,AV.scB]
mutual
theorem zrm:∀ i:IT,(wrI i).length+1≤4*i.nodes
 |.mk n ks=>by
  have:=zkM ks;rw[wrI];simp only[IT.nodes];split
  ·simp;omega
  ·rename_i h;have hl:=IT.len_le ks;simp;omega
theorem zkM:∀ ks:List IT,(zbm ks).length≤4*IT.nodesL ks
 |[]=>by simp[zbm]
 |k::ks=>by have:=zrm k;have:=zkM ks;rw[zbm];simp only[IT.nodesL,az,List.length_cons];omega
end
section
open Go.RowKit
set_option maxHeartbeats 1000000 in
set_option maxRecDepth 100000 in
theorem zFt(b:Nat)(w:World)(h0:w.cell? ⟨b,0,none⟩=some (.pointer (some ⟨b,0,none⟩))):
  Calls tP zhJ #[.pointer (some ⟨b,0,none⟩)] w λe w'=>e=.returned (.tuple #[])∧w'=w:=by
 obtain⟨j,hj⟩:∃j,tP.info? 112=some j:=cE.1 (by kernel_rfl)
 go_enter Tryz.func169,Tryz.ntmps169
 go_wp2
 rw[Lib.run_neq_ptr_same w _ Tryz.underlying109 hj]
 go_wp2
 go_end0
 exact⟨rfl,rfl⟩
set_option maxHeartbeats 1000000 in
set_option maxRecDepth 100000 in
theorem zFs(b:Nat)(w:World)(h0:w.cell? ⟨b,0,none⟩=some (.pointer none))(eG:w.shape? b=some (112,2))(hfz:w.frozen? ⟨b,0,none⟩=false):
  Calls tP zhJ #[.pointer (some ⟨b,0,none⟩)] w λe w'=>e=.returned (.tuple #[])∧w'=w.setCell ⟨b,0,none⟩ (.pointer (some ⟨b,0,none⟩)):=by
 obtain⟨j,hj⟩:∃j,tP.info? 112=some j:=cE.1 (by kernel_rfl);have hjs:j.size=2:=by
  have:(tP.info? 112).map (·.size)=some 2:=by kernel_rfl
  rw[hj]at this;simpa using this
 go_enter Tryz.func169,Tryz.ntmps169
 go_wp2
 rw[Lib.run_to_unsafe w ⟨b,0,none⟩ Tryz.underlying109 Tryz.underlying256 hj (by rw[hjs];decide) eG (Nat.zero_lt_succ 1)];simp only[Result.andThen];rw[Oper.upon_value]
 go_wp2
 rw[run_callFunc_extern Tryz.func214 (by kernel_rfl) (by kernel_rfl) (by kernel_rfl) (e:=Extern.AbiNoEscape.same) (by kernel_rfl)];rw[Lib.run_noEscape];simp only[Result.andThen];rw[Oper.upon_value]
 go_wp2
 rw[Lib.run_from_unsafe w ⟨b,0,none⟩ Tryz.underlying256 Tryz.underlying109 hj eG (by kernel_rfl)];simp only[Result.andThen];rw[Oper.upon_value]
 go_wp2
 go_end0
 exact⟨rfl,rfl⟩
set_option maxHeartbeats 2000000 in
set_option maxRecDepth 100000 in
theorem zJH(b:Nat)(s:ByteArray)(v v':Value)(w w1 w2:World)(fS:Calls tP zhJ #[.pointer (some ⟨b,0,none⟩)] w λe w'=>e=.returned (.tuple #[])∧w'=w1)(fR:w1.heap[b]?=some (.cells #[.pointer (some ⟨b,0,none⟩),v] 112 (0,0)))(hr:∀ ty,(Builtin.append_ #[110,9] ty #[v,.string s]).run tP w1=.ok v' w2)(fq:w2.heap[b]?=some (.cells #[.pointer (some ⟨b,0,none⟩),v] 112 (0,0)))(fG:∃ ao n cap,v'=.slice ao n cap):
  Calls tP zjp #[.pointer (some ⟨b,0,none⟩),.string s] w λe w'=>e=.returned (.tuple #[.int .i64 s.size,.nilIface])∧w'=w2.setCell ⟨b,1,none⟩ v':=by
 obtain⟨ao,n',cap,rfl⟩:=fG;have c1:w1.cell? ⟨b,1,none⟩=some v:=by rw[Lib.cell_of_heap fR];rfl
 have d1:w2.cell? ⟨b,1,none⟩=some v:=by rw[Lib.cell_of_heap fq];rfl
 have f1:w2.frozen? ⟨b,1,none⟩=false:=Lib.frozen_of_heap fq 1
 go_enter Tryz.func126,Tryz.ntmps126
 go_wp2_with (go_at_call 169;refine fS.mono ?_)
 rintro e w1' ⟨rfl,rfl⟩
 go_wp2_with (at_builtin;refine Go.Proofs.YtdmamdnkcefmmaaGreatDoor.wpList_append_str rfl _ _ 110 9 rfl rfl rfl hr ?_)
 go_wp2
 go_ret2
 exact⟨rfl,rfl⟩
end
end Go.Proofs.YtdmamdnkcefmmaaGreatDoor
