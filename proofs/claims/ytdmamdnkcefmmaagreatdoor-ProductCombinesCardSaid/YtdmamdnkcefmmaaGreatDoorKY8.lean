import Derived.Test.YtdmamdnkcefmmaaGreatDoorKUB
set_option linter.unusedSectionVars false
set_option linter.unusedSimpArgs false
set_option linter.unusedVariables false
set_option linter.defProp false
set_option maxRecDepth 100000
namespace Go.Proofs.YtdmamdnkcefmmaaGreatDoor
def fill:List IT→List Nat→List IT→List IT
 |row,p::ps,x::xs=>fill (row.set p x) ps xs
 |row,_,_=>row
mutual
theorem IT.same_eq:∀ v w:IT,IT.same v w=true→v=w
 |.mk n ks,.mk n' ks',h=>by simp only[IT.same,ap,bt]at h;rw[h.1,IT.sameL_eq ks ks' h.2]
theorem IT.sameL_eq:∀ v w:List IT,IT.ZL v w=true→v=w
 |[],[],_=>rfl
 |v::vs,w::ws,h=>by simp only[IT.ZL,ap]at h;rw[IT.same_eq v w h.1,IT.sameL_eq vs ws h.2]
 |[],_::_,h=>by simp[IT.ZL]at h
 |_::_,[],h=>by simp[IT.ZL]at h
end
def yb(v:IT):∃a b,v.cs=[a,b]∧a.ZP=true∧b.ZP=true:=by obtain⟨n,ks⟩:=v;exact⟨_,_,rfl,rfl,rfl⟩
def QX{v:IT}{k:AV→Prop}:uk 2 [I0,.ZG] 1 [(0,.agg v.cs)] k=k (.sl [v.cs] .full):=by cases v;exact propext bk
def zBp{l:List IT}{i:Nat}(h:i<l.length):IT.css (l.take (i+1))=IT.css (l.take i)++[(l[i]).cs]:=by rw[IT.ZC,IT.ZC,ag h,a6];rfl
def zRA:∀(m:Nat) (v:IT),v.ZO≤m→v.ZO≤1000000→∀(H:or) (K:Kt),K (.agg v.cs) H→ge tP 116 [.agg v.cs] H K:=by
 intro m;induction m with
 |zero=>intro v h;have:=v.ZB;omega
 |succ m ih=>
  intro v hm hb H K hK;obtain⟨n,ks⟩:=v;have gy:=IT.ZQ ks;have kr:(IT.mk n ks).ZO=IT.ZA ks+1:=by simp[IT.ZO]
  refine ge.out (zRy λhs=>?_);simp[Yw,IT.cs,ug,uv,AV.ZP,aa];unfold JH;refine tM.ownC (H.length+2) 1 28 2 (cs:=[I6 n,.ZG]) (by simp) rfl ?_;have fW:(H++[AB.cells [I6 n,.sl (IT.css ks) .none],.cells [I0,.ZG],.cells [I6 n,.ZG]]).set (H.length+2) (.cells ([AV.int .i64 n,.ZG].set 1 (.sl [] (.own (H++[AB.cells [I6 n,.sl (IT.css ks) .none],.cells [I0,.ZG],.cells [I6 n,.ZG]]).length))))++[.perm 28 2 0] =
    H++[.cells [I6 n,.sl (IT.css ks) .none],.cells [I0,.ZG],.cells [I6 n,.sl [] (.own (H.length+3))],.perm 28 2 0]:=by simp[au]
  rw[fW];show JH (.ptr (H.length+1) 0) (.ptr (H.length+2) 0) (.sl (IT.css ks) .none) (I6 ks.length) I0 _ (Out H.length K);have hsc:∀ i,HSc (H++[.cells [I6 n,.sl (IT.css ks) .none],.cells [I0,.ZG],.cells [I6 n,.sl (IT.css (ks.take i)) (.own (H.length+3))],.perm 28 2 i]):=λi=>hs.append (by simp[AB.sc,AV.ZH,AV.ZI]);refine zRw (Inv:=λq t12 H'=>∃ i:Nat,i≤ks.length∧q=ks.length-i∧t12=I6 i ∧
   H'=H++[.cells [I6 n,.sl (IT.css ks) .none],.cells [I0,.ZG],.cells [I6 n,.sl (IT.css (ks.take i)) (.own (H.length+3))],.perm 28 2 i]) ks.length ?_ ?_
  ·intro _;exact⟨0,by omega,by omega,rfl,by simp[IT.css]⟩
  ·rintro q t12 H' ⟨i,hi,rfl,rfl,rfl⟩ fG fz fM Kb fB;by_cases fy:i<ks.length
   ·obtain⟨x,y,fD,hx,hy⟩:=yb ks[i];have jF:=IT.ZM (n:=n) fy;simp[Qi,fy,fD,hx,hy];rw[←fD];refine ur (.agg (ks[i]).cs) (λJ=>ih ks[i] (by omega) (by omega) _ _ ⟨rfl,rfl⟩) ?_;rw[QX];simp[uj,uD,uy,bo hi,AV.ZP,au];refine⟨⟨by omega,by omega⟩,?_⟩;rw[um (by omega) (by omega)];rw[←zBp fy];refine fB _ _ ⟨ks.length-(i+1),by omega,Back.at (J:=[.cells (ks[i]).cs]) (H2:=H++[.cells [I6 n,.sl (IT.css ks) .none],.cells [I0,.ZG],.cells [I6 n,.sl (IT.css (ks.take (i+1))) (.own (H.length+3))],.perm 28 2 (i+1)]) (by simp) (by simp) (hsc _) ?_ ⟨_,rfl,i+1,by omega,rfl,by simp,rfl⟩⟩;simp[JG,AV.sc,AV.ZJ,AV.ZH,AV.ZI]
   ·obtain rfl:i=ks.length:=by omega
    rw[az]at *;simp[Qi,AV.ZP,au];exact Out.at rfl (af _) hs (vK.agg (ds:=[I6 n,.sl (IT.css ks) .none]) ⟨.refl _,.sl _ _,trivial⟩) rfl (by simp[AV.ZJ,AV.ZH,AV.ZI]) (by simpa[IT.cs]using hK)
mutual
def wL:VT→IT
 |.mk k _ ks=>.mk 0 (if k=6 then wu ks else [])
def wu:List VT→List IT
 |[]=>[]
 |t::ts=>wL t::wu ts
end
theorem Fh:∀ ts:List VT,wu ts=ts.map wL
 |[]=>by simp[wu]
 |t::ts=>by simp[wu,Fh ts]
def zRk:∀(m:Nat) (v:VT),v.ZO≤m→v.ZO≤1000000→∀(H:or) (K:Kt),K (.agg (wL v).cs) H→ge tP 112 [.agg v.cs] H K:=by
 intro m;induction m with
 |zero=>intro v h;have:=v.ZB;omega
 |succ m ih=>
  intro v hm hb H K hK;obtain⟨k,n,ks⟩:=v;have gy:=VT.ZQ ks;have kr:(VT.mk k n ks).ZO=VT.ZA ks+1:=by simp[VT.ZO]
  refine ge.out (zRi λhs=>?_);simp[Yu,VT.cs,ug,uv,AV.ZP,aa];by_cases rb:k=6
  ·have hK:K (.agg [I0,.sl (IT.css (wu ks)) .none]) H:=by simpa[wL,rb,IT.cs]using hK
   simp[rb];subst rb;unfold JD;refine tM.ownC (H.length+2) 1 28 2 (cs:=[I0,.ZG]) (by simp) rfl ?_;have fW:(H++[AB.cells [I6 6,I6 n,.sl (VT.css ks) .none],.cells [I0,.ZG],.cells [I0,.ZG]]).set (H.length+2) (.cells ([AV.int .i64 0,.ZG].set 1 (.sl [] (.own (H++[AB.cells [I6 6,I6 n,.sl (VT.css ks) .none],.cells [I0,.ZG],.cells [I0,.ZG]]).length))))++[.perm 28 2 0] =
     H++[.cells [I6 6,I6 n,.sl (VT.css ks) .none],.cells [I0,.ZG],.cells [I0,.sl [] (.own (H.length+3))],.perm 28 2 0]:=by simp[au]
   rw[fW];show JD (.ptr (H.length+1) 0) (.ptr (H.length+2) 0) (.sl (VT.css ks) .none) (I6 ks.length) I0 _ (Out H.length K);have hsc:∀ i,HSc (H++[.cells [I6 6,I6 n,.sl (VT.css ks) .none],.cells [I0,.ZG],.cells [I0,.sl (IT.css (wu (ks.take i))) (.own (H.length+3))],.perm 28 2 i]):=λi=>hs.append (by simp[AB.sc,AV.ZH,AV.ZI]);refine zRg (Inv:=λq t12 H'=>∃ i:Nat,i≤ks.length∧q=ks.length-i∧t12=I6 i ∧
    H'=H++[.cells [I6 6,I6 n,.sl (VT.css ks) .none],.cells [I0,.ZG],.cells [I0,.sl (IT.css (wu (ks.take i))) (.own (H.length+3))],.perm 28 2 i]) ks.length ?_ ?_
   ·intro _;exact⟨0,by omega,by omega,rfl,by simp[wu,IT.css]⟩
   ·rintro q t12 H' ⟨i,hi,rfl,rfl,rfl⟩ fG fz fM Kb fB;by_cases fy:i<ks.length
    ·obtain⟨x,y,z,fD,hx,hy,hz⟩:=ve ks[i];have jF:=VT.ZM (k:=6) (n:=n) fy;have l9:(wu (ks.take i)).length=i:=by simp[Fh,bo hi]
     simp[Qh,fy,fD,hx,hy,hz];rw[←fD];refine ur (.agg (wL ks[i]).cs) (λJ=>ih ks[i] (by omega) (by omega) _ _ ⟨rfl,rfl⟩) ?_;rw[QX];simp[uj,uD,uy,l9,AV.ZP,au];refine⟨⟨by omega,by omega⟩,?_⟩;rw[um (by omega) (by omega)];have fN:IT.css (wu (ks.take i))++[(wL ks[i]).cs]=IT.css (wu (ks.take (i+1))):=by rw[Fh,Fh,ag fy,IT.ZC,IT.ZC,a6,a6];rfl
     rw[fN];refine fB _ _ ⟨ks.length-(i+1),by omega,Back.at (J:=[.cells (ks[i]).cs]) (H2:=H++[.cells [I6 6,I6 n,.sl (VT.css ks) .none],.cells [I0,.ZG],.cells [I0,.sl (IT.css (wu (ks.take (i+1)))) (.own (H.length+3))],.perm 28 2 (i+1)]) (by simp) (by simp) (hsc _) ?_ ⟨_,rfl,i+1,by omega,rfl,by simp,rfl⟩⟩;simp[JC,AV.sc,AV.ZJ,AV.ZH,AV.ZI]
    ·obtain rfl:i=ks.length:=by omega
     rw[az]at *;simp[Qh,JE,AV.ZP,au];exact Out.at rfl (af _) hs (vK.agg (ds:=[I0,.sl (IT.css (wu ks)) .none]) ⟨.refl _,.sl _ _,trivial⟩) rfl (by simp[AV.ZJ,AV.ZH,AV.ZI]) hK
  ·have hK:K (.agg [I0,.sl [] .none]) H:=by simpa[wL,rb,IT.cs,IT.css]using hK
   have hb:(k == 6)=false:=by simpa using rb
   simp[hb,JE,AV.ZP,au];exact Out.at rfl (af _) hs (vK.agg (ds:=[I0,.sl [] .none]) ⟨.refl _,.ZG,trivial⟩) rfl (by simp[AV.ZJ,AV.ZH,AV.ZI]) hK
section
variable (t0 t1 t2 t3 t4 t5 t6 t7 t8 t9 t11 t13 t15 t16 t17 t18 t20 t21 t33 t34 t35 t37 t38 t39 t42 t43 t44 t45 t57 t58 t59 t64 t65 t66 t78 t79 t80 t118 t119 t120 t124 t125 t126:AV) (H:or) (K:Kt) (Kb2 Kb3 Kb5 Kb6 Kb7 Kb12 Kb13 Kb19 Kb21:Lt)
def Kq:Nat→List Bool|2=>rl false [0,1,3,2,1,1,82]|400002=>rl false [0,1]|400004=>rl false [0,1]|400005=>rl false [0,1]|_=>[]
noncomputable def zys:=bd Tryz.f63
def Kr:=t0::ux 3 (t4::t5::ux 1 (t7::ux 82 []))
def ycJ:=Kq 2
noncomputable def ycH:=uc [1,1,0,0,0] zys
def ycG:=ud tP Kq [1,1,0,0] zys (uq tP Tryz.f63.results.toList K)
def zIR:=tM tP ycH (ycG K) (Kr t0 t4 t5 t7) H
def Ks:=K t0 H
def QY:=apm H t7 λt8=>apm H t0 λt9=>apu H (tV 1 t9) λt10=>apu H (gt .lss false t8 t10) λt11=>apm H t11 λt12=>agu t12 true H (ub H (λK''=>K'' t0 H)) λt13 H=>agu t12 true H (ub H (λK''=>K'' t7 H)) λt14 H=>ui t12 true H (λK'=>ub H (λK''=>tW 5 t13 t14 (K'' · H)) (K' · H)) λt15 H=>ui t12 true H (λK'=>ub H (λK''=>tN 0 t15 (K'' · H)) (K' · H)) λt16 H=>ui t12 true H (λK'=>ub H (λK''=>tL true 2 t16 H (K'' · H)) (K' · H)) λt17 H=>ui t12 true H (λK'=>ub H (λK''=>tL true 2 t4 H (K'' · H)) (K' · H)) λt18 H=>agu t12 true H (xZ H (λH K''=>ge tP 115 [t17,t18] H K'')) λt19 H=>ui t12 true H (λK'=>ub H (λK''=>gt .lss false t19 I0 (K'' · H)) (K' · H)) λt20 H=>apu H (tZ t12 t20 (.bool false)) λt21=>tO t21 (gt .add false t7 I1 λt23=>Kb2 (Kr t0 t4 t5 t23) H) (apm H t7 λt24=>apm H t0 λt25=>apu H (tV 1 t25) λt26=>apu H (gt .lss false t24 t26) λt27=>apm H t27 λt28=>agu t28 true H (ub H (λK''=>K'' t0 H)) λt29 H=>agu t28 true H (ub H (λK''=>K'' t7 H)) λt30 H=>ui t28 true H (λK'=>ub H (λK''=>tW 5 t29 t30 (K'' · H)) (K' · H)) λt31 H=>ui t28 true H (λK'=>ub H (λK''=>tN 0 t31 (K'' · H)) (K' · H)) λt32 H=>ui t28 true H (λK'=>ub H (λK''=>tL true 2 t32 H (K'' · H)) (K' · H)) λt33 H=>ui t28 true H (λK'=>ub H (λK''=>tL true 2 t4 H (K'' · H)) (K' · H)) λt34 H=>agu t28 true H (xZ H (λH K''=>ge tP 115 [t33,t34] H K'')) λt35 H=>ui t28 true H (λK'=>ub H (λK''=>gt .eql false t35 I0 (K'' · H)) (K' · H)) λt36 H=>apu H (tZ t28 t36 (.bool false)) λt37=>tO t37 (apm H t0 λt38=>apm H t7 λt39=>apm H t0 λt40=>apm H t7 λt41=>apu H (tW 5 t40 t41) λt42=>apu H (tN 2 t42) λt43=>apu H (tL true 3 t43 H) λt44=>apu H (tL true 3 t5 H) λt45=>apc tP H 54 [t44,t45] λt46=>apu H (tW 5 t38 t39) λt47=>apu H (tN 2 t47) λt48=>ua 3 t48 t46 H λH=>tW 5 t0 t7 λt51=>tN 2 t51 λt52=>tL true 3 t52 H λt53=>ge tP 24 [t53] H λt54 H=>gt .eql false t54 I0 λt55=>tO t55 (apm H t0 λt56=>apm H t7 λt57=>apu H (uF 1 5 t56 none (some t57)) λt58=>apm H t0 λt59=>apm H t7 λt60=>apu H (gt .add false t60 I1) λt61=>apu H (uF 1 5 t59 (some t61) none) λt62=>uj 55 5 88 t58 t62 H λt63 H=>apm H t63 λt0=>Ks t0 H K) (Ks t0 H K)) (tL true 3 t5 H λt65=>ge tP 24 [t65] H λt66 H=>gt .eql false t66 I0 λt67=>tO t67 (K t0 H) (ug [I0,.ZG,(.bool false),.ZG,.ZG] [(0,2),(2,3)] [] λt70=>uk 5 [I0,.ZG,(.bool false),.ZG,.ZG] 1 [(0,t70)] λt71=>uj 55 5 88 t0 t71 H λt72 H=>apm H t72 λt73=>apm H t7 λt74=>apu H (gt .add false t74 I1) λt75=>apu H (uF 1 5 t73 (some t75) none) λt76=>apm H t72 λt77=>apm H t7 λt78=>apu H (uF 1 5 t77 (some t78) none) λt79=>A5 5 t76 t79 H λt80 H=>apm H t72 λt81=>apm H t7 λt82=>apu H (tY true 2 t4 H) λt83=>apc tP H 116 [t83] λt84=>apu H (tY true 3 t5 H) λt85=>apc tP H 56 [t85] λt86=>apu H (ug [I0,.ZG,(.bool false),.ZG,.ZG] [(0,2),(2,3)] [(0,t84),(1,t86)]) λt87=>apu H (tW 5 t81 t82) λt88=>ua 5 t88 t87 H λH=>K t72 H)))
def zIQ:=ul t1 H λt4 H=>ul t2 H λt5 H=>zIR t0 t4 t5 I0 H K
def zt:Nat→List Bool|6=>rl false [9,1,23,3,56]|13=>rl false [9,1,47,3,32]|19=>rl false [9,1,68,3,11]|_=>[]
noncomputable def Dc:=bd Tryz.f45
noncomputable def QZ:=Tryz.f45.results.toList
def Ku:=ux 9 (t9::ux 23 (t33::t34::t35::ux 56 []))
def ybw:=zt 6
noncomputable def ybq:=uc [1,1,0,1,0,1,0,1,0,0] Dc
def ybn:=ud tP zt [1,1,0,1,0,1,0,1,0] Dc (uq tP QZ K)
def Kv:=tM tP ybq (ybn K) (Ku t9 t33 t34 t35) H
def Kw:=K t9 H
def Bx:=Kw t9 H K
def Q3:=gt .lss false t35 t34 λt36=>tO t36 (tW 4 t33 t35 λt37=>tL true 4 t37 H λt38=>un [.ZG,(.bool false),.ZG,.ZG] H λt11 H=>ua 4 t11 t38 H λH=>tN 0 t11 λt40=>tL false 1 t40 H λt41=>ug [I0,.ZG] [(0,1),(1,1)] [(1,t41)] λt42=>tN 1 t11 λt43=>tL true 3 t43 H λt44=>ge tP 63 [t9,t42,t44] H λt45 H=>gt .add false t35 I1 λt46=>Kb6 (Ku t45 t33 t34 t46) H) (Bx t9 H K)
def Kx:=ux 9 (t9::ux 47 (t57::t58::t59::ux 32 []))
def ybu:=zt 13
noncomputable def ybo:=uc [1,1,0,1,0,1,1,1,0,1,1,0,0] Dc
def ybl:=ud tP zt [1,1,0,1,0,1,1,1,0,1,1,0] Dc (uq tP QZ K)
def Ky:=tM tP ybo (ybl K) (Kx t9 t57 t58 t59) H
def Q4:=gt .lss false t59 t58 λt60=>tO t60 (tW 3 t57 t59 λt62=>tL true 3 t62 H λt63=>un [(.bool false),.ZG,.ZG] H λt15 H=>ua 3 t15 t63 H λH=>ug [I0,.ZG] [(0,1),(1,1)] [(0,t59)] λt66=>tL true 3 t15 H λt67=>ge tP 63 [t9,t66,t67] H λt68 H=>gt .add false t59 I1 λt69=>Kb13 (Kx t68 t57 t58 t69) H) (Bx t9 H K)
def Kz:=ux 9 (t9::ux 68 (t78::t79::t80::ux 11 []))
def ybv:=zt 19
noncomputable def ybp:=uc [1,1,0,1,0,1,1,1,1,1,0,1,0,0] Dc
def ybm:=ud tP zt [1,1,0,1,0,1,1,1,1,1,0,1,0] Dc (uq tP QZ K)
def KA:=tM tP ybp (ybm K) (Kz t9 t78 t79 t80) H
def Q5:=gt .lss false t80 t79 λt81=>tO t81 (tW 5 t78 t80 λt82=>tL true 5 t82 H λt83=>un [I0,.ZG,(.bool false),.ZG,.ZG] H λt17 H=>ua 5 t17 t83 H λH=>tN 0 t17 λt85=>tL true 2 t85 H λt86=>tN 2 t17 λt87=>tL true 3 t87 H λt88=>ge tP 63 [t9,t86,t88] H λt89 H=>gt .add false t80 I1 λt90=>Kb19 (Kz t89 t78 t79 t90) H) (Bx t9 H K)
def Fi:=ul t1 H λt5 H=>ul t2 H λt6 H=>ul t3 H λt7 H=>tN 0 t5 λt18=>tL false 1 t18 H λt19=>gt .eql false t19 (I6 6) λt25=>tO t25 (tN 2 t5 λt27=>tL false 1 t27 H λt28=>tN 1 t6 λt29=>tL false 1 t29 H λt30=>tN 1 t7 λt31=>tL false 1 t31 H λt32=>ge tP 88 [t0,t28,t30,t32] H λt33 H=>tV 1 t33 λt34=>Kv .ZG t33 t34 I0 H K) (gt .eql false t19 (I6 7) λt48=>tO t48 (tN 0 t6 λt50=>tL false 1 t50 H λt51=>tN 0 t7 λt52=>tL false 1 t52 H λt53=>ge tP 89 [t51,t53] H λt54 H=>uo t54 0 λt55=>uo t54 1 λt56=>tV 1 t55 λt58=>Ky .ZG t55 t58 I0 H K) (gt .eql false t19 (I6 5) λt71=>tO t71 (tL true 3 t5 H λt73=>tN 1 t6 λt74=>tL false 1 t74 H λt75=>tN 1 t7 λt76=>tL false 1 t76 H λt77=>ge tP 90 [t0,t73,t75,t77] H λt78 H=>tV 1 t78 λt79=>KA .ZG t78 t79 I0 H K) (ug [I0,.ZG] [(0,1),(1,1)] [] λt21=>ge tP 36 [I1] H λt22 H=>ge tP 63 [.ZG,t21,t22] H λt23 H=>Bx t23 H K)))
def zu:Nat→List Bool|3=>rl false [0,4,5,1,10,2,48]|7=>rl false [0,4,5,1,1,1,8,2,15,3,30]|10=>rl false [0,4,5,1,1,1,1,1,6,2,15,3,3,3,24]|_=>[]
noncomputable def zyZ:=bd Tryz.f88
def Fj:=t0::t1::t2::t3::ux 5 (t9::ux 10 (t20::t21::ux 48 []))
def zJy:=zu 3
noncomputable def Q6:=uc [1,1,0,1,0,0] zyZ
def zJu:=ud tP zu [1,1,0,1,0] zyZ (uq tP Tryz.f88.results.toList K)
def zJx:=tM tP Q6 (zJu K) (Fj t0 t1 t2 t3 t9 t20 t21) H
def KB:=t0::t1::t2::t3::ux 5 (t9::ux 1 (t11::ux 8 (t20::t21::ux 15 (t37::t38::t39::ux 30 []))))
def zJz:=zu 7
noncomputable def Q7:=uc [1,1,0,0,1,1,0,1,0,0] Q6
def zJv:=ud tP zu [1,1,0,0,1,1,0,1,0] Q6 (vz zJy Kb3 (zJu K))
def KC:=tM tP Q7 (zJv K Kb3) (KB t0 t1 t2 t3 t9 t11 t20 t21 t37 t38 t39) H
def KD:=t0::t1::t2::t3::ux 5 (t9::ux 1 (t11::ux 1 (t13::ux 6 (t20::t21::ux 15 (t37::t38::t39::ux 3 (t43::t44::t45::ux 24 []))))))
def yeF:=zu 10
noncomputable def yeB:=uc [1,1,0,0,1,1,0,0] Q7
def yeA:=ud tP zu [1,1,0,0,1,1,0] Q7 (vz zJz Kb7 (zJv K Kb3))
def zJw:=tM tP yeB (yeA K Kb3 Kb7) (KD t0 t1 t2 t3 t9 t11 t13 t20 t21 t37 t38 t39 t43 t44 t45) H
def Q8(t0 t1 t2 t3 t9 t11 t13 t20 t21 t37 t38 t39 t43 t44 t45:AV)(H:or)(K:Kt)(Kb3:Lt)(Kb7:Lt)(Kb10:Lt):Prop:=gt .lss false t45 t44 λt46=>tO t46 (tW 4 t43 t45 λt47=>tL true 4 t47 H λt48=>un [.ZG,(.bool false),.ZG,.ZG] H λt15 H=>ua 4 t15 t48 H λH=>apm H t11 λt49=>apu H (tN 0 t15) λt50=>apu H (tY false 1 t50 H) λt51=>uj 28 2 32 .ZG t51 H λt52 H=>apu H (tN 0 t13) λt53=>apu H (tY true 2 t53 H) λt54=>apu H (uk 2 [I0,.ZG] 1 [(0,t54)]) λt55=>uj 28 2 32 t52 t55 H λt56 H=>apu H (tN 1 t15) λt57=>apu H (tY true 3 t57 H) λt58=>apu H (tN 2 t13) λt59=>apu H (tY true 3 t59 H) λt60=>apc tP H 22 [t58,t60] λt61=>apu H (ug [.ZG,(.bool false),.ZG,.ZG] [(0,1),(1,3)] [(0,t56),(1,t61)]) λt62=>apu H (uk 4 [.ZG,(.bool false),.ZG,.ZG] 1 [(0,t62)]) λt63=>uj 132 4 80 t49 t63 H λt64 H=>apm H t64 λt11=>gt .add false t45 I1 λt65=>Kb10 (KD t0 t1 t2 t3 t9 t11 t13 t20 t21 t37 t38 t39 t43 t44 t65) H) (gt .add false t39 I1 λt66=>Kb7 (KB t0 t1 t2 t3 t9 t11 t20 t21 t37 t38 t66) H)
def Q9:=gt .lss false t39 t38 λt40=>tO t40 (tW 5 t37 t39 λt41=>tL true 5 t41 H λt42=>un [I0,.ZG,(.bool false),.ZG,.ZG] H λt13 H=>ua 5 t13 t42 H λH=>tV 1 t9 λt44=>zJw t0 t1 t2 t3 t9 t11 t13 t20 t21 t37 t38 t39 t9 t44 I0 H K Kb3 Kb7) (gt .add false t21 I1 λt68=>Kb3 (Fj t0 t1 t2 t3 t11 t20 t68) H)
def Ra:=gt .lss false t21 t20 λt22=>tO t22 (apm H t0 λt24=>apm H t1 λt25=>apm H t21 λt26=>apu H (tW 3 t25 t26) λt27=>apu H (tY true 3 t27 H) λt28=>apm H t2 λt29=>apm H t21 λt30=>apu H (tW 2 t29 t30) λt31=>apu H (tY true 2 t31 H) λt32=>apm H t3 λt33=>apm H t21 λt34=>apu H (tW 2 t33 t34) λt35=>apu H (tY true 2 t35 H) λt36=>apc tP H 45 [t24,t28,t32,t36] λt37=>apu H (tV 1 t37) λt38=>apm H I0 λt39=>KC t0 t1 t2 t3 t9 .ZG t20 t21 t37 t38 t39 H K Kb3) (K t9 H)
def zJt:=ge tP 36 [I1] H λt16 H=>ug [.ZG,(.bool false),.ZG,.ZG] [(0,1),(1,3)] [(0,.ZG),(1,t16)] λt17=>uk 4 [.ZG,(.bool false),.ZG,.ZG] 1 [(0,t17)] λt18=>tV 1 t1 λt20=>zJx t0 t1 t2 t3 t18 t20 I0 H K
def yw:Nat→List Bool|7=>rl false [0,1,1,2,1,1,3,1,32,3,105]|200009=>rl false [0,6]|12=>rl false [0,1,1,2,1,1,3,1,54,3,83]|200014=>rl false [0,6]|21=>rl false [2,1,6,1,6,1,101,3,29]|24=>rl false [2,1,6,1,6,1,1,1,99,3,3,3,23]|200026=>rl false [0,6]|_=>[]
noncomputable def Dd:=bd Tryz.f90
noncomputable def Rb:=Tryz.f90.results.toList
def KE:=t0::ux 1 (t2::t3::ux 1 (t5::ux 3 (t9::ux 32 (t42::t43::t44::ux 105 []))))
def ye1:=yw 7
noncomputable def yeU:=uc [1,1,1,1,0,1,0,0] Dd
def yeR:=ud tP yw [1,1,1,1,0,1,0] Dd (uq tP Rb K)
def KF:=tM tP yeU (yeR K) (KE t0 t2 t3 t5 t9 t42 t43 t44) H
def KG:=t0::ux 1 (t2::t3::ux 1 (t5::ux 3 (t9::ux 54 (t64::t65::t66::ux 83 []))))
def yeZ:=yw 12
noncomputable def yeS:=uc [1,1,1,1,1,0,1,0,0] Dd
def yeP:=ud tP yw [1,1,1,1,1,0,1,0] Dd (uq tP Rb K)
def Rc:=tM tP yeS (yeP K) (KG t0 t2 t3 t5 t9 t64 t65 t66) H
def KH:=ux 2 (t2::ux 6 (t9::ux 6 (t16::ux 101 (t118::t119::t120::ux 29 []))))
def zJD:=yw 21
noncomputable def Rd:=uc [1,1,1,1,1,1,1,1,1,0,1,0,0] Dd
def zJB:=ud tP yw [1,1,1,1,1,1,1,1,1,0,1,0] Dd (uq tP Rb K)
def Re:=tM tP Rd (zJB K) (KH t2 t9 t16 t118 t119 t120) H
def KI:=ux 2 (t2::ux 6 (t9::ux 6 (t16::ux 1 (t18::ux 99 (t118::t119::t120::ux 3 (t124::t125::t126::ux 23 []))))))
def ye0:=yw 24
noncomputable def yeT:=uc [1,1,0,0,1,1,0,0] Rd
def yeQ:=ud tP yw [1,1,0,0,1,1,0] Rd (vz zJD Kb21 (zJB K))
def zJC:=tM tP yeT (yeQ K Kb21) (KI t2 t9 t16 t18 t118 t119 t120 t124 t125 t126) H
def Rf(t2 t9 t16 t18 t118 t119 t120 t124 t125 t126:AV)(H:or)(K:Kt)(Kb21:Lt)(Kb24:Lt):Prop:=gt .lss false t126 t125 λt127=>tO t127 (tW 5 t124 t126 λt128=>tL true 5 t128 H λt129=>un [I0,.ZG,(.bool false),.ZG,.ZG] H λt20 H=>ua 5 t20 t129 H λH=>apm H t9 λt130=>apm H t2 λt131=>apu H (tW 2 t131 I0) λt132=>apu H (tN 0 t132) λt133=>apu H (tY false 1 t133 H) λt134=>apu H (tN 0 t18) λt135=>apu H (tY false 1 t135 H) λt136=>apu H (ug [I0,.ZG] [(0,1),(1,1)] [(0,t134),(1,t136)]) λt137=>apu H (tN 0 t20) λt138=>apu H (tY true 2 t138 H) λt139=>apc tP H 144 [t137,t139] λt140=>apu H (tN 1 t18) λt141=>apu H (tY true 3 t141 H) λt142=>apu H (tN 2 t20) λt143=>apu H (tY true 3 t143 H) λt144=>apc tP H 22 [t142,t144] λt145=>ge tP 63 [t130,t140,t145] H λt146 H=>gt .add false t126 I1 λt147=>Kb24 (KI t2 t146 t16 t18 t118 t119 t120 t124 t125 t147) H) (gt .add false t120 I1 λt148=>Kb21 (KH t2 t9 t16 t118 t119 t148) H)
def Rg:=gt .lss false t120 t119 λt121=>tO t121 (tW 4 t118 t120 λt122=>tL true 4 t122 H λt123=>un [.ZG,(.bool false),.ZG,.ZG] H λt18 H=>ua 4 t18 t123 H λH=>tV 1 t16 λt125=>zJC t2 t9 t16 t18 t118 t119 t120 t16 t125 I0 H K Kb21) (K t9 H)
def KJ:=gt .lss false t66 t65 λt67=>tO t67 (tW 5 t64 t66 λt68=>tL true 5 t68 H λt69=>un [I0,.ZG,(.bool false),.ZG,.ZG] H λt13 H=>ua 5 t13 t69 H λH=>apm H t9 λt70=>apm H t3 λt71=>apu H (tW 2 t71 I0) λt72=>apu H (tY true 2 t72 H) λt73=>apu H (tN 0 t13) λt74=>apu H (tY true 2 t74 H) λt75=>apc tP H 144 [t73,t75] λt76=>apu H (tN 2 t13) λt77=>apu H (tY true 3 t77 H) λt78=>ge tP 63 [t70,t76,t78] H λt79 H=>gt .add false t66 I1 λt80=>Kb12 (KG t0 t2 t3 t5 t79 t64 t65 t80) H) (apm H t2 λt81=>apu H (tW 2 t81 I0) λt82=>apu H (tN 0 t82) λt83=>apu H (tY false 1 t83 H) λt84=>apm H t3 λt85=>apu H (tW 2 t85 I0) λt86=>apu H (tN 0 t86) λt87=>apu H (tY false 1 t87 H) λt88=>apu H (gt .neq false t84 t88) λt89=>tO t89 (K t9 H) (apm H t0 λt92=>apu H (tY true 3 t5 H) λt93=>apm H t2 λt94=>apu H (tW 2 t94 I0) λt95=>apu H (tN 0 t95) λt96=>apu H (tY false 1 t96 H) λt97=>apc tP H 102 [t92,t93,t97] λt98=>apm H t98 λt91=>apu H (uo t91 0) λt99=>apu H (uo t91 1) λt100=>apm H t99 λt14=>apm H t100 λt15=>apm H t0 λt101=>apu H (tY true 3 t5 H) λt102=>apm H t2 λt103=>ub H (λK'=>uF 1 2 t103 (some I1) none (K' · H)) λt104=>apm H t3 λt105=>ub H (λK'=>uF 1 2 t105 (some I1) none (K' · H)) λt106=>apc tP H 90 [t101,t102,t104,t106] λt107=>apm H t107 λt16=>apm H t0 λt108=>apm H t14 λt109=>apm H t2 λt110=>apu H (tW 2 t110 I0) λt111=>apu H (tN 1 t111) λt112=>apu H (tY false 1 t112 H) λt113=>apm H t3 λt114=>apu H (tW 2 t114 I0) λt115=>apu H (tN 1 t115) λt116=>apu H (tY false 1 t116 H) λt117=>apc tP H 88 [t108,t109,t113,t117] λt118=>apu H (tV 1 t118) λt119=>apm H I0 λt120=>Re t2 t9 t16 t118 t119 t120 H K))
def Rh:=gt .lss false t44 t43 λt45=>tO t45 (tW 5 t42 t44 λt46=>tL true 5 t46 H λt47=>un [I0,.ZG,(.bool false),.ZG,.ZG] H λt11 H=>ua 5 t11 t47 H λH=>apm H t9 λt48=>apm H t2 λt49=>apu H (tW 2 t49 I0) λt50=>apu H (tY true 2 t50 H) λt51=>apu H (tN 0 t11) λt52=>apu H (tY true 2 t52 H) λt53=>apc tP H 144 [t51,t53] λt54=>apu H (tN 2 t11) λt55=>apu H (tY true 3 t55 H) λt56=>ge tP 63 [t48,t54,t56] H λt57 H=>gt .add false t44 I1 λt58=>Kb7 (KE t0 t2 t3 t5 t57 t42 t43 t58) H) (apm H t0 λt59=>apu H (tY true 3 t5 H) λt60=>apm H t2 λt61=>apm H t3 λt62=>ub H (λK'=>uF 1 2 t62 (some I1) none (K' · H)) λt63=>apc tP H 90 [t59,t60,t61,t63] λt64=>apu H (tV 1 t64) λt65=>apm H I0 λt66=>Rc t0 t2 t3 t5 t9 t64 t65 t66 H K)
def KL:=ul t1 H λt5 H=>tV 1 t2 λt22=>gt .eql false t22 I0 λt23=>tO t23 (ug [I0,.ZG] [(0,1),(1,1)] [(1,t3)] λt26=>ge tP 36 [I1] H λt27 H=>ge tP 63 [.ZG,t26,t27] H λt28 H=>K t28 H) (tV 1 t3 λt30=>gt .eql false t30 I0 λt31=>tO t31 (ug [I0,.ZG] [(0,1),(1,1)] [(1,t2)] λt34=>ge tP 36 [I1] H λt35 H=>ge tP 63 [.ZG,t34,t35] H λt36 H=>K t36 H) (apm H t0 λt37=>apu H (tY true 3 t5 H) λt38=>apm H t2 λt39=>ub H (λK'=>uF 1 2 t39 (some I1) none (K' · H)) λt40=>apm H t3 λt41=>apc tP H 90 [t37,t38,t40,t41] λt42=>apu H (tV 1 t42) λt43=>apm H I0 λt44=>KF t0 t2 t3 t5 .ZG t42 t43 t44 H K))
def By:Nat→List Bool|3=>rl false [0,1,1,1,1,1,2,2,25]|6=>rl false [0,1,1,1,1,1,2,2,6,3,16]|_=>[]
noncomputable def zx6:=bd Tryz.f46
def KM:=t0::ux 1 (t2::ux 1 (t4::ux 2 (t7::t8::ux 25 [])))
def zIn:=By 3
noncomputable def Ri:=uc [1,1,0,1,0,0] zx6
def zIl:=ud tP By [1,1,0,1,0] zx6 (uq tP Tryz.f46.results.toList K)
def KN:=tM tP Ri (zIl K) (KM t0 t2 t4 t7 t8) H
def Fk:=t0::ux 1 (t2::ux 1 (t4::ux 2 (t7::t8::ux 6 (t15::t16::t17::ux 16 []))))
def ybC:=By 6
noncomputable def ybz:=uc [1,0,0,1,0,0] Ri
def yby:=ud tP By [1,0,0,1,0] Ri (vz zIn Kb3 (zIl K))
def zIm:=tM tP ybz (yby K Kb3) (Fk t0 t2 t4 t7 t8 t15 t16 t17) H
def Rj(t0 t2 t4 t7 t8 t15 t16 t17:AV)(H:or)(K:Kt)(Kb3:Lt)(Kb6:Lt):Prop:=gt .add false t17 I1 λt32=>Kb6 (Fk t0 t2 t4 t7 t8 t15 t16 t32) H
def KO:=Rj t0 t2 t4 t7 t8 t15 t16 t17 H K Kb3 Kb6
def Rk:=gt .lss false t17 t16 λt18=>tO t18 (tW 5 t15 t17 λt19=>tL true 5 t19 H λt20=>un [I0,.ZG,(.bool false),.ZG,.ZG] H λt10 H=>ua 5 t10 t20 H λH=>tL true 3 t4 H λt22=>tN 0 t10 λt23=>tL true 2 t23 H λt24=>ge tP 91 [t0,t22,t24] H λt25 H=>gt .eql false t25 t8 λt27=>tO t27 (tL true 5 t10 H λt29=>uk 5 [I0,.ZG,(.bool false),.ZG,.ZG] 1 [(0,t29)] λt30=>uj 55 5 88 t7 t30 H λt31 H=>KO t0 t2 t4 t31 t8 t15 t16 t17 H K Kb3 Kb6) (KO t0 t2 t4 t7 t8 t15 t16 t17 H K Kb3 Kb6)) (gt .add false t8 I1 λt14=>Kb3 (KM t0 t2 t4 t7 t14) H)
def Rm:=gt .leq false t8 (I6 6) λt12=>tO t12 (tV 1 t2 λt16=>zIm t0 t2 t4 t7 t8 t2 t16 I0 H K Kb3) (K t7 H)
def zIk:=ul t1 H λt4 H=>KN t0 t2 t4 .ZG I0 H K
def KP:Nat→List Bool|5=>rl false [0,2,4,2,57]|_=>[]
noncomputable def zy3:=bd Tryz.f89
def KQ:=t0::t1::ux 4 (t6::t7::ux 57 [])
def yeL:=KP 5
noncomputable def yeJ:=uc [1,1,1,0,1,0,0] zy3
def yeI:=ud tP KP [1,1,1,0,1,0] zy3 (uq tP Tryz.f89.results.toList K)
def KR:=tM tP yeJ (yeI K) (KQ t0 t1 t6 t7) H
def KS(t0 t1 t6 t7 t8:AV)(H:or)(K:Kt)(Kb5:Lt):Prop:=tL true 3 t8 H λt61=>uk 3 [(.bool false),.ZG,.ZG] 1 [(0,t61)] λt62=>uj 46 3 56 t6 t62 H λt63 H=>gt .add false t7 I1 λt30=>Kb5 (KQ t0 t1 t63 t30) H
def Rn:=gt .add false t0 t1 λt27=>gt .leq false t7 t27 λt28=>tO t28 (ge tP 36 [I0] H λt31 H=>un [(.bool false),.ZG,.ZG] H λt8 H=>ua 3 t8 t31 H λH=>DN t0 t1 λt35=>gt .geq false t7 t35 λt36=>tO t36 (gt .sub false t7 t0 λt39=>ge tP 142 [t39] H λt40 H=>gt .sub false t7 t1 λt43=>ge tP 142 [t43] H λt44 H=>ge tP 22 [t40,t44] H λt45 H=>gt .add false t0 t1 λt48=>gt .sub false t48 t7 λt50=>ge tP 142 [t50] H λt51 H=>ge tP 22 [t45,t51] H λt52 H=>un [(.bool false),.ZG,.ZG] H λt9 H=>ua 3 t9 t52 H λH=>apm H t7 λt54=>apc tP H 142 [t54] λt55=>apu H (tY true 3 t9 H) λt56=>apc tP H 143 [t55,t56] λt57=>apm H t57 λt53=>apu H (uo t53 0) λt58=>apu H (uo t53 1) λt59=>ua 3 t8 t58 H λH=>KS t0 t1 t6 t7 t8 H K Kb5) (KS t0 t1 t6 t7 t8 H K Kb5)) (ut [t6,(.bool true)] (K · H))
def zJA:=gt .lss false t0 I0 λt11=>agm t11 false H t1 λt13 H=>agu t11 false H (gt .lss false t13 I0) λt14 H=>tZ t11 (.bool true) t14 λt15=>agm t15 false H t0 λt17 H=>agu t15 false H (gt .gtr false t17 (I6 16)) λt18 H=>tZ t15 (.bool true) t18 λt19=>agm t19 false H t1 λt21 H=>agu t19 false H (gt .gtr false t21 (I6 16)) λt22 H=>tZ t19 (.bool true) t22 λt23=>tO t23 (ut [.ZG,(.bool false)] (K · H)) (KR t0 t1 .ZG I0 H K)
def ye3(_:Nat):List Bool:=[]
def zJE:=ul t1 H λt4 H=>ul t2 H λt5 H=>tL true 3 t4 H λt8=>tL true 2 t5 H λt9=>ge tP 59 [t0,t8,t9] H λt10 H=>K t10 H
variable {t0 t1 t2 t3 t4 t5 t6 t7 t8 t9 t11 t13 t15 t16 t17 t18 t20 t21 t33 t34 t35 t37 t38 t39 t42 t43 t44 t45 t57 t58 t59 t64 t65 t66 t78 t79 t80 t118 t119 t120 t124 t125 t126} {H} {K} {Kb2 Kb3 Kb5 Kb6 Kb7 Kb12 Kb13 Kb19 Kb21}
def ycI:Lo1 (λt7=>Kr t0 t4 t5 t7) (λt7 H Kb2=>QY t0 t4 t5 t7 H K Kb2) t7 H (zIR t0 t4 t5 t7 H K):=lq1 Kq ycJ
def ycK(h:HSc H→zIQ t0 t1 t2 H K):ge tP 63 [t0,t1,t2] H K:=
 acb Kq Tryz.func63 h
def ybt:Lo2 (λt9 t35=>Ku t9 t33 t34 t35) (λt9 t35 H Kb6=>Q3 t9 t33 t34 t35 H K Kb6) t9 t35 H (Kv t9 t33 t34 t35 H K):=lq2 zt ybw
def ybr:Lo2 (λt9 t59=>Kx t9 t57 t58 t59) (λt9 t59 H Kb13=>Q4 t9 t57 t58 t59 H K Kb13) t9 t59 H (Ky t9 t57 t58 t59 H K):=lq2 zt ybu
def ybs:Lo2 (λt9 t80=>Kz t9 t78 t79 t80) (λt9 t80 H Kb19=>Q5 t9 t78 t79 t80 H K Kb19) t9 t80 H (KA t9 t78 t79 t80 H K):=lq2 zt ybv
def ybx(h:HSc H→Fi t0 t1 t2 t3 H K):ge tP 45 [t0,t1,t2,t3] H K:=
 acb zt Tryz.func45 h
def yeC:Lo2 (λt11 t45=>KD t0 t1 t2 t3 t9 t11 t13 t20 t21 t37 t38 t39 t43 t44 t45) (λt11 t45 H Kb10=>Q8 t0 t1 t2 t3 t9 t11 t13 t20 t21 t37 t38 t39 t43 t44 t45 H K Kb3 Kb7 Kb10) t11 t45 H (zJw t0 t1 t2 t3 t9 t11 t13 t20 t21 t37 t38 t39 t43 t44 t45 H K Kb3 Kb7):=lq2 zu yeF
def yeE:Lo2 (λt11 t39=>KB t0 t1 t2 t3 t9 t11 t20 t21 t37 t38 t39) (λt11 t39 H Kb7=>Q9 t0 t1 t2 t3 t9 t11 t20 t21 t37 t38 t39 H K Kb3 Kb7) t11 t39 H (KC t0 t1 t2 t3 t9 t11 t20 t21 t37 t38 t39 H K Kb3):=lq2 zu zJz
def yeD:Lo2 (λt9 t21=>Fj t0 t1 t2 t3 t9 t20 t21) (λt9 t21 H Kb3=>Ra t0 t1 t2 t3 t9 t20 t21 H K Kb3) t9 t21 H (zJx t0 t1 t2 t3 t9 t20 t21 H K):=lq2 zu zJy
def yeG(h:HSc H→zJt t0 t1 t2 t3 H K):ge tP 88 [t0,t1,t2,t3] H K:=
 acb zu Tryz.func88 h
def yeX:Lo2 (λt9 t126=>KI t2 t9 t16 t18 t118 t119 t120 t124 t125 t126) (λt9 t126 H Kb24=>Rf t2 t9 t16 t18 t118 t119 t120 t124 t125 t126 H K Kb21 Kb24) t9 t126 H (zJC t2 t9 t16 t18 t118 t119 t120 t124 t125 t126 H K Kb21):=lq2 yw ye0
def yeW:Lo2 (λt9 t120=>KH t2 t9 t16 t118 t119 t120) (λt9 t120 H Kb21=>Rg t2 t9 t16 t118 t119 t120 H K Kb21) t9 t120 H (Re t2 t9 t16 t118 t119 t120 H K):=lq2 yw zJD
def yeV:Lo2 (λt9 t66=>KG t0 t2 t3 t5 t9 t64 t65 t66) (λt9 t66 H Kb12=>KJ t0 t2 t3 t5 t9 t64 t65 t66 H K Kb12) t9 t66 H (Rc t0 t2 t3 t5 t9 t64 t65 t66 H K):=lq2 yw yeZ
def yeY:Lo2 (λt9 t44=>KE t0 t2 t3 t5 t9 t42 t43 t44) (λt9 t44 H Kb7=>Rh t0 t2 t3 t5 t9 t42 t43 t44 H K Kb7) t9 t44 H (KF t0 t2 t3 t5 t9 t42 t43 t44 H K):=lq2 yw ye1
def ye2(h:HSc H→KL t0 t1 t2 t3 H K):ge tP 90 [t0,t1,t2,t3] H K:=
 acb yw Tryz.func90 h
def ybB:Lo2 (λt7 t17=>Fk t0 t2 t4 t7 t8 t15 t16 t17) (λt7 t17 H Kb6=>Rk t0 t2 t4 t7 t8 t15 t16 t17 H K Kb3 Kb6) t7 t17 H (zIm t0 t2 t4 t7 t8 t15 t16 t17 H K Kb3):=lq2 By ybC
def ybA:Lo2 (λt7 t8=>KM t0 t2 t4 t7 t8) (λt7 t8 H Kb3=>Rm t0 t2 t4 t7 t8 H K Kb3) t7 t8 H (KN t0 t2 t4 t7 t8 H K):=lq2 By zIn
def ybD(h:HSc H→zIk t0 t1 t2 H K):ge tP 46 [t0,t1,t2] H K:=
 acb By Tryz.func46 h
def yeK:Lo2 (λt6 t7=>KQ t0 t1 t6 t7) (λt6 t7 H Kb5=>Rn t0 t1 t6 t7 H K Kb5) t6 t7 H (KR t0 t1 t6 t7 H K):=lq2 KP yeL
def yeM(h:HSc H→zJA t0 t1 H K):ge tP 89 [t0,t1] H K:=
 acb KP Tryz.func89 h
def ye5(h:HSc H→zJE t0 t1 t2 H K):ge tP 91 [t0,t1,t2] H K:=
 acb ye3 Tryz.func91 h
end
def tmC(p:IT×Nat):List AV:=p.1.cs++ue (p.2:Int)
def tms(s:List (IT×Nat)):List AV:=(s.map tmC).flatten
@[simp] theorem yi8(p:IT×Nat):(tmC p).length=5:=by simp[tmC,ue]
def zDW(p:IT×Nat)(s:List (IT×Nat)):tms (p::s)=tmC p++tms s:=by simp[tms]
def zDX(s:List (IT×Nat))(n:Nat):(tms s).all (AV.ZH n)=true:=by
 induction s with
 |nil=>rfl
 |cons p s ih=>rw[zDW,bl,ih,tmC,bl,IT.cs_scA,EX];rfl
def xp:List AV:=[I0,.sl [] .none,.bool false,.sl [] .none,.sl [] .none]
@[simp] theorem Raw.cs_all(r:Raw):r.cs.all AV.ZP=true:=rfl
def Raw.cs_scA(r:Raw)(n:Nat):r.cs.all (AV.ZH n)=true:=rfl
theorem Raw.plain(r:Raw):plain r.cs=some r.cs:=rfl
def twC(p:IT×Raw):List AV:=p.1.cs++p.2.cs
def tw(s:List (IT×Raw)):List AV:=(s.map twC).flatten
@[simp] theorem zPF(p:IT×Raw):(twC p).length=5:=by simp[twC,Raw.cs]
@[simp] theorem yjd(s:List (IT×Raw)):(tw s).length=s.length*5:=by
 induction s with
 |nil=>rfl
 |cons p s ih=>simp only[tw,aL,List.flatten_cons,aH,zPF,List.length_cons]at ih ⊢;omega
def Bz(a b:List (IT×Raw)):tw (a++b)=tw a++tw b:=by simp[tw]
def De(p:IT×Raw)(s:List (IT×Raw)):tw (p::s)=twC p++tw s:=by simp[tw]
def Df{s:List (IT×Raw)}{k:Nat}(h:k<s.length):tw s=tw (s.take k)++(twC s[k]++tw (s.drop (k+1))):=by rw[←De,←Bz,←ai h,aJ]
def BA{s:List (IT×Raw)}{k:Nat}(h:k≤s.length):(tw (s.take k)).length=k*5:=by simp[bo h]
def zPK{s:List (IT×Raw)}{k:Nat}(h:k<s.length):((tw s).drop (k*5)).take 2=s[k].1.cs:=by rw[Df h,bS (BA (by omega)),twC,aB,cc (by simp)]
def Ro{s:List (IT×Raw)}{k:Nat}(h:k<s.length):((tw s).drop (k*5+2)).take 3=s[k].2.cs:=by
 have e:tw s=(tw (s.take k)++s[k].1.cs)++(s[k].2.cs++tw (s.drop (k+1))):=by rw[Df h,twC];simp
 have hl:(tw (s.take k)++s[k].1.cs).length=k*5+2:=by rw[aH,BA (by omega)];simp
 rw[e,bS hl,cc (by simp[Raw.cs])]
def zD7{s:List (IT×Raw)}{k:Nat}(h:k<s.length)(x:Raw):(tw s).take (k*5+2)++x.cs++(tw s).drop (k*5+2+3)=tw (s.set k (s[k].1,x)):=by
 have e:tw s=(tw (s.take k)++s[k].1.cs)++(s[k].2.cs++tw (s.drop (k+1))):=by rw[Df h,twC];simp
 have hl:(tw (s.take k)++s[k].1.cs).length=k*5+2:=by rw[aH,BA (by omega)];simp
 have e1:(tw s).take (k*5+2)=tw (s.take k)++s[k].1.cs:=by rw[e,cc hl]
 have e2:(tw s).drop (k*5+2+3)=tw (s.drop (k+1)):=by rw[←ck,e,bS hl,bS (by simp[Raw.cs])]
 rw[e1,e2,bx,aN h,Bz,De,twC];simp
def Dg(s:List (IT×Raw))(n:Nat):(tw s).all (AV.ZH n)=true:=by
 induction s with
 |nil=>rfl
 |cons p s ih=>rw[De,bl,ih,twC,bl,IT.cs_scA,Raw.cs_scA];rfl
def Rp(s:List (IT×Raw)):(tw s).all AV.ZP=true:=by
 induction s with
 |nil=>rfl
 |cons p s ih=>rw[De,bl,ih,twC,bl,IT.cs_known];simp[Raw.cs,AV.ZP]
def twS(s:List (IT×Raw)):List (List AV):=s.map twC
@[simp] theorem yjc(s:List (IT×Raw)):(twS s).length=s.length:=by simp[twS]
def KT(s:List (IT×Raw)):(twS s).flatten=tw s:=rfl
@[simp] theorem yjb{s:List (IT×Raw)}{i:Nat}(h:i<(twS s).length):(twS s)[i]=twC (s[i]'(by simpa using h)):=by simp[twS]
def wX(p:IT×Raw):List.take 5 (twC p)=twC p:=am (by simp)
def wY(p:IT×Raw):List.take 2 (twC p)=p.1.cs:=by rw[twC,cc (by simp)]
def xD(p:IT×Raw):List.take 3 (List.drop 2 (twC p))=p.2.cs:=by rw[twC,bS (by simp),am (by simp[Raw.cs])]
def xN(p:IT×Raw):∀x∈twC p,x.ZP=true:=aA.1 (by rw[twC,bl,IT.cs_known,Raw.cs_all];rfl)
def zPG(p:IT×Raw)(n:Nat):(twC p).all (AV.ZH n)=true:=by rw[twC,bl,IT.cs_scA,Raw.cs_scA];rfl
def uO:List (IT × Rat)→IT→Rat→List (IT × Rat)
 |[],i,c=>if c=0 then [] else [(i,c)]
 |p::s,i,c=>if IT.cmp p.1 i<0 then p::uO s i c else if IT.cmp p.1 i=0 then (if p.2+c=0 then s else (p.1,p.2+c)::s) else if c=0 then p::s else (i,c)::p::s
def up(l:List (IT×Rat)):List (IT×Raw):=l.map λp=>(p.1,ofR p.2)
@[simp] theorem Rq(l:List (IT×Rat)):(up l).length=l.length:=by simp[up]
def Rr(a b:List (IT×Rat)):up (a++b)=up a++up b:=by simp[up]
section
variable (t0 t1:AV) (H:or) (K:Kt)
def zT6:Nat→List Bool|300008=>rl false [0,1]|300009=>rl false [0,1]|_=>[]
def Rs:=tV 1 t1 λt11=>tV 1 t0 λt13=>gt .lss false t13 t11 λt15=>tO t15 (K (.int .u64 0) H) (apm H t1 λt16=>apm H t11 λt17=>apu H (gt .sub false t17 I1) λt18=>apu H (tW 1 t16 t18) λt19=>apu H (tY false 1 t19 H) λt20=>apu H (uw .u64 t20) λt21=>apu H (gt .mul false t21 (.int .u64 1000000000)) λt22=>apm H t1 λt23=>apm H t11 λt24=>apu H (gt .sub false t24 (I6 2)) λt25=>apu H (tW 1 t23 t25) λt26=>apu H (tY false 1 t26 H) λt27=>apu H (uw .u64 t27) λt28=>apu H (gt .add false t22 t28) λt29=>apm H t29 λt6=>apm H t0 λt30=>apm H t11 λt31=>apu H (gt .sub false t31 I1) λt32=>apu H (tW 1 t30 t32) λt33=>apu H (tY false 1 t33 H) λt34=>apu H (uw .u64 t34) λt35=>apu H (gt .mul false t35 (.int .u64 1000000000)) λt36=>apm H t0 λt37=>apm H t11 λt38=>apu H (gt .sub false t38 (I6 2)) λt39=>apu H (tW 1 t37 t39) λt40=>apu H (tY false 1 t40 H) λt41=>apu H (uw .u64 t41) λt42=>apu H (gt .add false t36 t42) λt43=>apm H t43 λt7=>tV 1 t0 λt45=>gt .eql false t45 t11 λt47=>tO t47 (gt .quo false t7 t6 λt50=>K t50 H) (tW 1 t0 t11 λt53=>tL false 1 t53 H λt54=>A7 t54 λt55=>A6 .mul t55 .flt λt56=>A7 t7 λt58=>A6 .add t56 t58 λt59=>A7 t6 λt62=>A6 .quo t59 t62 λt63=>DS t63 λt64=>gt .add false t64 (.int .u64 2) λt66=>Gc t66 (.int .u64 999999999) λt67=>K t67 H))
variable {t0 t1} {H} {K}
def zT8(h:HSc H→Rs t0 t1 H K):ge tP 151 [t0,t1] H K:=
 acb zT6 Tryz.func151 h
end
def zL1(R L:List Nat)(n n1 n2:Nat)(h1:n1+1=n)(h2:n2+2=n)(lR:∀x∈R,x<1000000000)(lL:∀x∈L,x<1000000000)(hL:L.length=n)(hn:n≤1000)(mZ:L[n1]'(by omega)≠0)(hR:R.length≤n+1)(H:or)(K:Kt)(hK:∀d:Nat,d<1000000000→K (.int .u64 d) H):ge tP 151 [.sl (tX R) .none,.sl (tX L) .none] H K:=by
 refine ge.out (zT8 λhs=>?_);have hO:∀d:Nat,d<1000000000→Out H.length K (.int .u64 d) H:=λd hd=>Out.int (J:=[]) (by simp) (af _) hs (hK d hd);by_cases fy:R.length<n
 ·have fK:(R.length:Int)<(n:Int):=by omega
  simp[Rs,hL,fK];exact hO 0 (by omega)
 have fK:¬(R.length:Int)<(n:Int):=by omega
 have b1:n1<L.length:=by omega
 have b2:n2<L.length:=by omega
 have c1:n1<R.length:=by omega
 have c2:n2<R.length:=by omega
 have d1:=lL L[n1] (ae b1);have d2:=lL L[n2] (ae b2);have e1:=lR R[n1] (ae c1);have e2:=lR R[n2] (ae c2);have w1:IntKind.i64.wrap ((n:Int)-1)=(n1:Int):=by rw[wI _ (by omega) (by omega)];omega
 have w2:IntKind.i64.wrap ((n:Int)-2)=(n2:Int):=by rw[wI _ (by omega) (by omega)];omega
 obtain⟨top,nT⟩:∃t,t=L[n1]*1000000000+L[n2]:=⟨_,rfl⟩;obtain⟨have_,nI⟩:∃t,t=R[n1]*1000000000+R[n2]:=⟨_,rfl⟩;have u1:IntKind.u64.wrap ((L[n1]:Nat):Int)=((L[n1]:Nat):Int):=uE (by omega);have u2:IntKind.u64.wrap ((L[n2]:Nat):Int)=((L[n2]:Nat):Int):=uE (by omega);have u3:IntKind.u64.wrap ((R[n1]:Nat):Int)=((R[n1]:Nat):Int):=uE (by omega);have u4:IntKind.u64.wrap ((R[n2]:Nat):Int)=((R[n2]:Nat):Int):=uE (by omega);have u5:IntKind.u64.wrap (((L[n1]:Nat):Int)*1000000000)=((L[n1]:Nat):Int)*1000000000:=by rw[show ((L[n1]:Nat):Int)*1000000000=((L[n1]*1000000000:Nat):Int) by omega];exact uE (by omega)
 have u6:IntKind.u64.wrap (((R[n1]:Nat):Int)*1000000000)=((R[n1]:Nat):Int)*1000000000:=by rw[show ((R[n1]:Nat):Int)*1000000000=((R[n1]*1000000000:Nat):Int) by omega];exact uE (by omega)
 have u7:IntKind.u64.wrap (((L[n1]:Nat):Int)*1000000000+((L[n2]:Nat):Int))=(top:Int):=by rw[show ((L[n1]:Nat):Int)*1000000000+((L[n2]:Nat):Int)=(top:Int) by omega];exact uE (by omega)
 have u8:IntKind.u64.wrap (((R[n1]:Nat):Int)*1000000000+((R[n2]:Nat):Int))=(have_:Int):=by rw[show ((R[n1]:Nat):Int)*1000000000+((R[n2]:Nat):Int)=(have_:Int) by omega];exact uE (by omega)
 simp[Rs,hL,fK,w1,w2,Bk b1,Bk b2,Bk c1,Bk c2,u1,u2,u3,u4,u5,u6,u7,u8];refine⟨by omega,by omega,by omega,by omega,?_⟩;by_cases heq:R.length=n
 ·have heq':((R.length:Int) == (n:Int))=true:=by simp;omega
  obtain⟨x,c,gG,gf,f1,f2⟩:=CV have_ top (by omega) (by omega);simp[heq,f2];refine hO c ?_;refine cn (a:=top) ?_;have:1000000000*1000000000≤top*1000000000:=aD _ (by omega);omega
 ·have heq':((R.length:Int) == (n:Int))=false:=by simp;omega
  have c0:n<R.length:=by omega
  simp[heq',Bk c0,A7,A6,DS];refine⟨by omega,λm hm=>?_⟩;obtain⟨m2,nV⟩:∃m2:Nat,IntKind.u64.wrap ((m:Int)+2)=(m2:Int):=⟨(m+2) % 18446744073709551616,rfl⟩;rw[nV];by_cases h9:(999999999:Int)<(m2:Int)
  ·rw[aN h9];exact hO 999999999 (by omega)
  ·rw[aG h9];exact hO m2 (by omega)
def AI(a b:Nat)(ha:(lim a).length≤1000)(hb:(lim b).length≤1000)(H:or)(K:Kt)(hK:K (.sl (tX (lim (a*b))) .none) H):
  ge tP 58 [.sl (tX (lim a)) .none,.sl (tX (lim b)) .none] H K:=
 Xr _ _ (uZ a) (uZ b) ha hb H K (by rw[uN,uN];exact hK)
def KU(a b:Nat)(ha:(lim a).length≤1000)(fS:b≤a)(H:or)(K:Kt)(hK:K (.sl (tX (lim (a-b))) .none) H):
  ge tP 106 [.sl (tX (lim a)) .none,.sl (tX (lim b)) .none] H K:=
 zQB _ _ (uZ a) (uZ b) ha (xM fS) (by rw[uN,uN];exact fS) H K (by rw[uN,uN];exact hK)
def zAz{a b:Nat}:(0<vI a b)↔b<a:=by
 unfold vI;split
 ·simp;omega
 ·split <;> simp <;> omega
def Fl{a b:Nat}:(0≤vI a b)↔b≤a:=by
 unfold vI;split
 ·simp;omega
 ·split <;> simp <;> omega
def zAP{R b d r:Nat}(h:r+b*d=R)(hr:r<b):d=R / b∧r=R % b:=by subst h;exact⟨by rw[du _ _ (by omega),bB hr,aX],by rw[cW,bC hr]⟩
section
variable (R b j la:Nat) (gk:0<b) (iy:(lim b).length≤900) (iN:(lim R).length≤950) (rc:R<1000000000*b) (A Q:List Nat) (m5:Q.length=la) (ow:∀ x∈Q,x<1000000000) (jL:la≤900) (hj:j<la)
  (H J:or) (hs:∀Q:List Nat,HSc (H++(AB.cells (us Q)::J))) (K:Kt) (Kb9:Lt)
  (hK:Kb9 (CQ (.sl (tX A) .none) (.sl (tX (lim b)) .none) (.ms H.length 0 la la) (.sl (tX (lim (R % b))) .none) (I6 ((j:Int)-1))) (H++(AB.cells (us (Q.set j (R / b)))::J)))
include gk iy iN rc m5 ow jL hj hs hK
theorem zLC(r0 d0:Nat)(h0:r0+b*d0=R):
  IH (.sl (tX A) .none) (.sl (tX (lim b)) .none) (.ms H.length 0 la la) (.sl (tX (lim r0)) .none) (I6 j) (.int .u64 d0) (H++(AB.cells (us Q)::J)) K Kb9:=by
 refine zQT (Inv:=λq t9 t11 H'=>∃r d:Nat,r=q∧t9=.sl (tX (lim r)) .none∧t11=.int .u64 d∧r+b*d=R∧H'=H++(AB.cells (us Q)::J)) r0 ?_ ?_
 ·intro _;exact⟨r0,d0,rfl,rfl,rfl,h0,rfl⟩
 ·rintro q t9 t11 H' ⟨r,d,rfl,rfl,rfl,hrd,rfl⟩ hsc fz fM Kb fB;have hdB:d<1000000000:=by refine cn (a:=b) ?_;rw[bh b 1000000000];omega
  have lc:(lim r).length≤950:=aC (xM (by omega)) iN;simp only[W9];refine Bn r b (by omega) (by omega) _ _ ?_;by_cases gW:b≤r
  ·have w1:IntKind.u64.wrap ((d:Int)+1)=((d+1:Nat):Int):=by rw[show (d:Int)+1=((d+1:Nat):Int) by omega];exact uE (by omega)
   simp[Fl,gW];refine KU r b (by omega) gW _ _ ?_;simp only[w1,PF];refine fB _ _ ⟨r-b,by omega,Back.here (by simp) (hs Q) (by simp[IG,ux,AV.sc,AV.ZH,AV.ZI,AV.ZJ]) ⟨_,_,rfl,r-b,d+1,rfl,rfl,rfl,?_,rfl⟩⟩;rw[Nat.mul_succ];omega
  ·obtain⟨k1,k2⟩:=zAP hrd (by omega);have w2:IntKind.u32.wrap (d:Int)=d:=v8 (by omega);have w3:IntKind.i64.wrap ((j:Int)-1)=(j:Int)-1:=wI _ (by omega) (by omega);rw[←k1,←k2]at hK;simp[Fl,gW,w2,w3,Bo Q j d (by omega),aR,au,m5];exact⟨by omega,by omega,hK⟩
theorem zLA(d0:Nat)(jX:d0<1000000000):
  IF (.sl (tX A) .none) (.sl (tX (lim b)) .none) (.ms H.length 0 la la) (.sl (tX (lim R)) .none) (I6 j) (.int .u64 d0) (H++(AB.cells (us Q)::J)) K Kb9:=by
 have lQ:∀d:Nat,d<1000000000→(lim d).length≤1:=λd hd=>wx (by omega);refine zQS (Inv:=λq t11 H'=>∃d:Nat,d=q∧t11=.int .u64 d∧d<1000000000∧H'=H++(AB.cells (us Q)::J)) d0 ?_ ?_
 ·intro _;exact⟨d0,rfl,rfl,jX,rfl⟩
 ·rintro q t11 H' ⟨d,rfl,rfl,hd,rfl⟩ hsc fz fM Kb fB;have jY:=lQ d hd;have qJ:=x8 b d;have hexit:b*d≤R→ge tP 71 [.int .u64 d] (H++(AB.cells (us Q)::J)) λt70 H0=>ge tP 58 [.sl (tX (lim b)) .none,t70] H0 λt71 H1=>ge tP 106 [.sl (tX (lim R)) .none,t71] H1 λt72 H2=>
    IH (.sl (tX A) .none) (.sl (tX (lim b)) .none) (.ms H.length 0 la la) t72 (I6 j) (.int .u64 d) H2 K Kb9:=λfS=>by
   refine EU d (by omega) _ _ ?_;refine AI b d (by omega) (by omega) _ _ ?_;refine KU R (b*d) (by omega) fS _ _ ?_;exact zLC R b j la gk iy iN rc A Q m5 ow jL hj H J hs K Kb9 hK (R-b*d) d (by omega)
  by_cases kS:0<d
  ·have hdI:(0:Int)<(d:Int):=by omega
   by_cases hgt:R<b*d
   ·have w1:IntKind.u64.wrap ((d:Int)-1)=((d-1:Nat):Int):=by rw[show (d:Int)-1=((d-1:Nat):Int) by omega];exact uE (by omega)
    simp only[II];simp[kS];refine EU d (by omega) _ _ ?_;refine AI b d (by omega) (by omega) _ _ ?_;refine Bn (b*d) R (by omega) (by omega) _ _ ?_;simp[zAz,hgt,w1];exact fB _ _ ⟨d-1,by omega,Back.here (by simp) (hs Q) (by simp[IE,ux,AV.sc,AV.ZH,AV.ZI,AV.ZJ]) ⟨_,rfl,d-1,rfl,rfl,by omega,rfl⟩⟩
   ·have:=hexit (by omega);simp only[II];simp[kS];refine EU d (by omega) _ _ ?_;refine AI b d (by omega) (by omega) _ _ ?_;refine Bn (b*d) R (by omega) (by omega) _ _ ?_;simp[zAz,hgt];exact this
  ·have hd00:d=0:=by omega
   have:=hexit (by rw[hd00];omega);simp only[II];simp[kS];exact this
end
def zKJ(x:Nat)(L:List Nat)(hL:L.length≤1000){H:or}{K:Kt}{y:AV}(hy:y=.sl (tX L) .none∨(y=.ZG∧L=[]))(h1:L=[]→K (.sl (tX [x]) .full) H)(h2:L≠[]→K (.sl (tX (x::L)) (.own H.length)) (H++[.perm 88 1 (1+L.length)])):uj 88 1 4 (.sl [[.int .u32 (x:Int)]] .full) y H K:=by
 cases L with
 |nil=>
  have:=h1 rfl;rcases hy with rfl|⟨rfl,_⟩
  ·simpa[uj,uD,uy,tX]using this
  ·simpa[uj,uD,uy,tX]using this
 |cons z L=>
  have:=h2 (by simp);rcases hy with rfl|⟨_,h⟩
  ·have e:tX (z::L)=[AV.int .u32 (z:Int)]::tX L:=rfl;have e2:tX (x::z::L)=[AV.int .u32 (x:Int)]::[AV.int .u32 (z:Int)]::tX L:=rfl;rw[e2]at this;rw[e];simp[uj,uD,uy]at hL ⊢;refine⟨λc hc=>yJ L c hc,⟨by omega,by omega⟩,?_⟩;simpa[fh,Nat.add_left_comm]using this
  ·cases h
def zMI(a b:Nat)(ha:(lim a).length≤900)(hb:1000000000≤b)(sY:b≤a)(H:or)(K:Kt)(hK:K (.tup [.sl (tX (lim (a / b))) .none,.sl (tX (lim (a % b))) .none]) H):
  ge tP 109 [.sl (tX (lim a)) .none,.sl (tX (lim b)) .none] H K:=by
 refine ge.out (PB λhs=>?_);have hlab:(lim b).length≤(lim a).length:=xM sY;have pw:1<(lim b).length:=CW (k:=1) (by omega);obtain⟨n1,gx⟩:∃n1,(lim b).length=n1+1:=⟨(lim b).length-1,by omega⟩;obtain⟨n2,ig⟩:∃n2,n1=n2+1:=⟨n1-1,by omega⟩;have mZ:=XP gx;simp only[IJ];refine Bn a b (by omega) (by omega) _ _ ?_;have ki:¬(vI a b<0):=by have:=(Fl (a:=a) (b:=b)).2 sY;omega
 have lA:=uZ a;have vA:=uN a;generalize hA:lim a=A at *;obtain⟨la,jL⟩:∃la,A.length=la:=⟨_,rfl⟩;have c1:((((lim b).length:Nat):Int) == 1)=false:=by rw[gx];simp;omega
 have w1:IntKind.i64.wrap ((la:Int)-1)=(la:Int)-1:=wI _ (by omega) (by omega);simp[ki,c1,jL,w1,vo];rw[AC];refine⟨⟨by omega,by omega⟩,?_⟩;have hsc:∀Q:List Nat,HSc (H++[AB.cells (us Q)]):=λQ=>hs.append (by simp[AB.sc,us,AV.ZH,AV.ZI]);have hscP:∀(Q:List Nat) (n:Nat),HSc (H++[AB.cells (us Q),AB.perm 88 1 n]):=λQ n=>hs.append (by simp[AB.sc,us,AV.ZH,AV.ZI]);refine zQU (Inv:=λq t9 t10 H'=>∃(i r:Nat) (Q:List Nat),i≤la∧i=q∧t10=I6 ((i:Int)-1)∧Q.length=la∧(∀x∈Q,x<1000000000)∧tQ (A.drop i)=b*tQ (Q.drop i)+r∧r<b∧(t9=.sl (tX (lim r)) .none∨(t9=.ZG∧r=0))∧H'=H++[AB.cells (us Q)]) la ?_ ?_
 ·intro _;exact⟨la,0,_,by omega,rfl,rfl,by simp,by simp,by rw[aS (by omega),aS (by simp),tQ,Nat.mul_zero],by omega,.inr ⟨rfl,rfl⟩,rfl⟩
 ·rintro q t9 t10 H' ⟨i,r,Q,hi,rfl,rfl,m5,ow,he,hr,ht9,rfl⟩ fG fz fM Kb fB;by_cases h0:i=0
  ·subst h0;rw[bA,bA,vA]at he;obtain⟨k1,k2⟩:=zAP (R:=a) (b:=b) (d:=tQ Q) (r:=r) (by omega) hr;rw[←k1,←k2]at hK;simp only[PA];simp;rw[←m5];refine IN Q ow (by omega) (by simp) ?_;simp[au];rcases ht9 with rfl | ⟨rfl,rfl⟩
   ·exact⟨⟨rfl,rfl⟩,Out.tup (bs:=[.sl (tX (lim (tQ Q))) .none,.sl (tX (lim r)) .none]) hs hK ⟨slV,slV,trivial⟩⟩
   ·rw[show tX (lim 0)=[] by simp[tX]]at hK;exact⟨⟨rfl,rfl⟩,Out.tup (bs:=[.sl (tX (lim (tQ Q))) .none,.sl [] .none]) hs hK ⟨slV,xd,trivial⟩⟩
  ·obtain⟨j,rfl⟩:∃ j,i=j+1:=⟨i-1,by omega⟩;have ej:((j+1:Nat):Int)-1=(j:Int):=by omega
   have s7:j<A.length:=by omega
   have rY:j<Q.length:=by omega
   have mA:=lA A[j] (ae s7);obtain⟨R,hR⟩:∃R,R=A[j]+1000000000*r:=⟨_,rfl⟩;have rc:R<1000000000*b:=by omega
   have s8:vX (A[j]::lim r)=lim R:=by
    rw[zQ _ (λx hx=>by
     rcases aT.1 hx with rfl|hx
     ·exact mA
     ·exact uZ r x hx),tQ,uN,hR]
   have lc:(lim r).length≤(lim b).length:=xM (by omega);have iN:(lim R).length≤(lim b).length+1:=by have:=x8 1000000000 b;have e1:(lim 1000000000).length≤2:=wx (by omega);refine wx ?_;have h2:=wr (lim b) (uZ b);rw[uN]at h2;rw[Nat.pow_succ];omega
   have hdmR:=cP R b;have s9:=ci R (show 0<b by omega);have hqB:R / b<1000000000:=dv (by rw[bh];exact rc)
   -- what a fm leaves behind
   have lp:∀J:or,Kb (CQ (.sl (tX A) .none) (.sl (tX (lim b)) .none) (.ms H.length 0 la la) (.sl (tX (lim (R % b))) .none) (I6 ((j:Int)-1))) (H++(AB.cells (us (Q.set j (R / b)))::J)):=λJ=>by
    refine fB _ _ ⟨j,by omega,Back.at (J:=J) (H2:=H++[AB.cells (us (Q.set j (R / b)))]) (by simp) (by simp) (hsc _) (by simp[CQ,ux,AV.sc,AV.ZH,AV.ZI,AV.ZJ]) ⟨_,_,rfl,j,R % b,Q.set j (R / b),by omega,rfl,rfl,by simp[m5],zn ow hqB,?_,s9,.inl rfl,rfl⟩⟩;rw[yH A j s7,yH (Q.set j (R / b)) j (by simpa using rY),List.getElem_set_self,List.drop_set_of_lt (by omega),he];clear fB hsc fG;generalize tQ (Q.drop (j+1))=Z at *;generalize A[j]=x at *;have h3:b*(R / b+1000000000*Z)=b*(R / b)+1000000000*(b*Z):=by grind
    rw[h3];omega
   have r7:∀(J:or),(∀Q:List Nat,HSc (H++(AB.cells (us Q)::J)))→ge tP 151 [.sl (tX (lim R)) .none,.sl (tX (lim b)) .none] (H++(AB.cells (us Q)::J)) λt53 H2=>IF (.sl (tX A) .none) (.sl (tX (lim b)) .none) (.ms H.length 0 la la) (.sl (tX (lim R)) .none) (I6 j) t53 H2 (Out H.length K) Kb:=λJ hJ=>by refine zL1 (lim R) (lim b) (n1+1) n1 n2 rfl (by omega) (uZ R) (uZ b) gx (by omega) mZ (by omega) _ _ λd hd=>?_;exact zLA R b j la (by omega) (by omega) (by omega) rc A Q m5 ow (by omega) (by omega) H J hJ (Out H.length K) Kb (lp J) d hd
   rw[ej];simp only[PA];simp[Bk s7,uk,uI,plain,AV.pd];refine⟨by omega,?_⟩;refine zKJ A[j] (lim r) (by omega) (by
    rcases ht9 with rfl|⟨rfl,rfl⟩
    ·exact .inl rfl
    ·exact .inr ⟨rfl,EP⟩) (λph=>?_) (λ_=>?_)
   ·rw[ph]at s8;refine ge.wk (args':=[.sl (tX [A[j]]) .none]) ?_ ⟨.atom (.sl _ _),trivial⟩;refine CX [A[j]] (by simp) _ _ ?_;rw[s8];exact r7 [] λQ=>hsc Q
   ·refine ge.wk (args':=[.sl (tX (A[j]::lim r)) .none]) ?_ ⟨.atom (.sl _ _),trivial⟩;refine CX (A[j]::lim r) (by simp;omega) _ _ ?_;rw[s8];have:=r7 [AB.perm 88 1 (1+(lim r).length)] λQ=>hscP Q _;simpa using this
def Rt(a b:Nat)(ha:(lim a).length≤900)(iy:(lim b).length≤900)(gk:0<b)(H:or)(K:Kt)(hK:K (.tup [.sl (tX (lim (a / b))) .none,.sl (tX (lim (a % b))) .none]) H):
  ge tP 109 [.sl (tX (lim a)) .none,.sl (tX (lim b)) .none] H K:=by
 by_cases hB:b<1000000000
 ·exact zQY a b (by omega) gk hB H K hK
 by_cases fy:b≤a
 ·exact zMI a b ha (by omega) fy H K hK
 have fy:a<b:=by omega
 refine ge.out (PB λhs=>?_);simp only[IJ];refine Bn a b (by omega) (by omega) _ _ ?_;have ki:vI a b<0:=by unfold vI;rw[aN fy];decide
 simp[ki];refine CX (lim a) (by omega) _ _ ?_;rw[zQ _ (uZ a),uN];rw[bB fy,bC fy,EP]at hK;refine⟨⟨rfl,rfl⟩,?_⟩;exact Out.tup0 (bs:=[.sl (tX []) .none,.sl (tX (lim a)) .none]) hs hK ⟨xd,slV,trivial⟩
def zMJ(a b:Nat)(ha:(lim a).length≤900)(hb:(lim b).length≤900)(H:or)(K:Kt)(hK:K (.sl (tX (lim (Nat.gcd a b))) .none) H):
  ge tP 108 [.sl (tX (lim a)) .none,.sl (tX (lim b)) .none] H K:=by
 refine ge.out (zQM λhs=>?_);unfold WY;refine zQK (Inv:=λq t0 t1 H'=>∃x y:Nat,y=q∧t0=.sl (tX (lim x)) .none∧t1=.sl (tX (lim y)) .none∧(lim x).length≤900∧(lim y).length≤900∧Nat.gcd x y=Nat.gcd a b∧H'=H) b ?_ ?_
 ·intro _;exact⟨a,b,rfl,rfl,rfl,ha,hb,rfl,rfl⟩
 ·rintro q t0 t1 H' ⟨x,y,rfl,rfl,rfl,hx,hy,hg,rfl⟩ fG fz fM Kb fB;by_cases h0:y=0
  ·subst h0;rw[ey]at hg;subst hg;simp[Pw];exact Out.one0 hs (.atom (.sl _ _)) rfl rfl hK
  ·have hp:0<(lim y).length:=by rw[xK h0];simp
   have hm:x % y<y:=ci _ (by omega);have qJ:=xM (bH hm);simp[Pw,hp];refine Rt x y hx hy (by omega) _ _ ?_;simp;refine fB _ _ ⟨x % y,hm,Back.here (by simp) hs (by simp[Iy,ux,AV.sc,AV.ZH,AV.ZI,AV.ZJ]) ⟨_,_,rfl,y,x % y,rfl,rfl,rfl,hy,by omega,?_,rfl⟩⟩;rw[←hg,di x y,Nat.gcd_rec y x,di]
def Raw.val_lim{r:Raw}{k:Nat}(h:r.ok k):Lim (k+1) r.val:=by
 have h1:=Raw.ln_len h;have h2:=Raw.ld_len h;rw[←r.lval_eq];refine⟨?_,?_⟩
 ·rw[E0 r.ld0,C5];exact aC (xM (cy _ _)) h1
 ·rw[I9 r.ld0];exact aC (xM (cy _ _)) h2
def zAk(r:Raw)(hr:r.ok 890)(H:or)(K:Kt)(hK:K (.agg (uS r.val)) H):
  ge tP 57 [.bool r.neg,.sl (tX r.ns) .none,.sl (tX r.ds) .none] H K:=by
 refine ge.out (ycf λhs=>?_);obtain⟨h1,h2,h3,h4⟩:=hr;have ln:=Ja h1;have ld:=Ja h2;simp[W6];refine Xq r.ns h1 (by omega) _ _ ?_;refine Xq r.ds h2 (by omega) _ _ ?_;have hzero:r.val=0→∀J,Out H.length K (.agg [.bool false,.ZG,.sl [[.int .u32 1]] .full]) (H++J):=λh J=>by
  have e1:uS 0=[.bool false,.sl [] .none,.sl [[.int .u32 1]] .none]:=by rw[XV];simp[u0,tX,xA]
  rw[h,e1]at hK;exact Out.one hs (vK.agg (ds:=[.bool false,.sl [] .none,.sl [[.int .u32 1]] .none]) ⟨.refl _,.ZG,.sl _ _,trivial⟩) rfl (by simp[AV.ZJ,AV.ZH,AV.ZI]) hK
 by_cases hn:tQ r.ns=0
 ·have hv:r.val=0:=by
   unfold Raw.val;split
   ·rfl
   ·rw[hn,E1]
  simp[hn,uk,uI,plain,AV.pd,ug,uv,xb];exact hzero hv _
 by_cases hd:tQ r.ds=0
 ·have hv:r.val=0:=by unfold Raw.val;rw[aN hd]
  simp[zU hn,hd,uk,uI,plain,AV.pd,ug,uv,xb];exact hzero hv _
 have hv:r.val=frR r.neg (tQ r.ns) (tQ r.ds):=by unfold Raw.val;rw[aG hd]
 rw[hv,XW hn hd]at hK;have jz:0<Nat.gcd (tQ r.ns) (tQ r.ds):=c7 _ (by omega);have lg:(lim (Nat.gcd (tQ r.ns) (tQ r.ds))).length≤900:=aC (xM (eG (by omega) (d6 _ _))) (by omega);simp[zU hn,zU hd];refine zMJ _ _ (by omega) (by omega) _ _ ?_;obtain⟨g,hg⟩:∃g,g=Nat.gcd (tQ r.ns) (tQ r.ds):=⟨_,rfl⟩;rw[←hg]at hK jz lg ⊢;have hj:∀n d:Nat,K (.agg (u0 r.neg n d)) H→EN (.bool r.neg) (.sl (tX (lim n)) .none) (.sl (tX (lim d)) .none) (.ptr H.length 0) (H++[.cells [.bool false,.ZG,.ZG]]) (Out H.length K):=λn d h=>by simp[EN,ug,uv,xb];exact AD hs h
 by_cases m6:g=1
 ·rw[m6,et,et]at hK;simp[m6,xA];simpa using hj _ _ hK
 ·have r7:=hj _ _ hK;have pB:ge tP 109 [.sl (tX (lim (tQ r.ns))) .none,.sl (tX (lim g)) .none] (H++[.cells [.bool false,.ZG,.ZG]]) λt37 H0=>uo t37 0 λt38=>uo t37 1 λt39=>
    ge tP 109 [.sl (tX (lim (tQ r.ds))) .none,.sl (tX (lim g)) .none] H0 λt43 H1=>uo t43 0 λt44=>uo t43 1 λt45=>EN (.bool r.neg) t38 t44 (.ptr H.length 0) H1 (Out H.length K):=by
   refine Rt _ _ (by omega) lg jz _ _ ?_;simp;refine Rt _ _ (by omega) lg jz _ _ ?_;simp;exact r7
  by_cases jY:(lim g).length=1
  ·have qX:g<1000000000:=by have:=wr (lim g) (uZ g);rw[uN,jY]at this;omega
   have hlg:lim g=[g]:=ER (by omega) qX;have fI:((g:Int) != 1)=true:=by simp;omega
   rw[hlg]at pB ⊢;simp[fI];simpa using pB
  ·have fI:((((lim g).length:Nat):Int) != 1)=true:=by simp;omega
   simp[fI];simpa using pB
def BB(r:Raw)(hr:r.ok 890)(H:or)(K:Kt)(hK:K (.agg (uS r.val)) H):ge tP 56 [.agg r.cs] H K:=by refine ge.out (ycc λhs=>?_);simp[WE,Raw.cs];refine zAk r hr _ _ ?_;simp;exact zo hs hK
def zND(b:Bool)(n d:Nat)(hd:d≠0):(Raw.mk b (lim n) (lim d)).val=frR b n d:=by unfold Raw.val;simp only[uN];rw[aG hd]
def zNC(b:Bool)(n d k:Nat)(hn:(lim n).length≤k)(hd:(lim d).length≤k):(Raw.mk b (lim n) (lim d)).ok k:=⟨IR _,IR _,hn,hd⟩
def Dh(b:Bool)(n d:Nat)(jX:d≠0)(hn:(lim n).length≤890)(hd:(lim d).length≤890)(H:or)(K:Kt)(hK:K (.agg (uS (frR b n d))) H):
  ge tP 57 [.bool b,.sl (tX (lim n)) .none,.sl (tX (lim d)) .none] H K:=
 zAk ⟨b,lim n,lim d⟩ (zNC b n d 890 hn hd) H K (by rw[zND b n d jX];exact hK)
def Ru(r s:Raw)(hr:r.ok 400)(gK:s.ok 400)(H:or)(K:Kt)(hK:K (.agg (uS (r.val*s.val))) H):ge tP 22 [.agg r.cs,.agg s.cs] H K:=by
 refine ge.out (zX0 λhs=>?_);obtain⟨l1,l2⟩:=Raw.val_lim hr;obtain⟨l3,l4⟩:=Raw.val_lim gK;have jr:r.ok 890:=⟨hr.1,hr.2.1,by have:=hr.2.2.1;omega,by have:=hr.2.2.2;omega⟩;have gn:s.ok 890:=⟨gK.1,gK.2.1,by have:=gK.2.2.1;omega,by have:=gK.2.2.2;omega⟩;have hd:=x8 r.val.den s.val.den;have hn:=x8 r.val.num.natAbs s.val.num.natAbs;have oY:frR (!(decide (r.val.num<0) == decide (s.val.num<0))) (r.val.num.natAbs*s.val.num.natAbs) (r.val.den*s.val.den)=r.val*s.val:=by rw[show (!(decide (r.val.num<0) == decide (s.val.num<0)))=(decide (r.val.num<0) != decide (s.val.num<0)) from rfl,←P0,E2,E2]
 simp[WA,aa];refine ur (.agg (uS r.val)) (λJ=>BB r jr _ _ ⟨rfl,rfl⟩) ?_;refine ur (.agg (uS s.val)) (λJ=>BB s gn _ _ ⟨rfl,rfl⟩) ?_;simp[uS,u0,AV.ZP,aa];refine ur (.sl (tX (lim (r.val.num.natAbs*s.val.num.natAbs))) .none) (λJ=>AI _ _ (by omega) (by omega) _ _ ⟨rfl,rfl⟩) ?_;try simp[aa]
 refine ur (.sl (tX (lim (r.val.den*s.val.den))) .none) (λJ=>AI _ _ (by omega) (by omega) _ _ ⟨rfl,rfl⟩) ?_;try simp[aa]
 refine ur (.agg (uS (r.val*s.val))) (λJ=>Dh _ _ _ (cO r.val.den_nz s.val.den_nz) (by omega) (by omega) _ _ ⟨by rw[oY],rfl⟩) ?_;simp[aa];exact zo hs hK
def yb3(r s:Raw)(hr:r.ok 400)(gK:s.ok 400)(H:or)(K:Kt)(hK:K (.agg (uS (r.val+s.val))) H):ge tP 54 [.agg r.cs,.agg s.cs] H K:=by
 refine ge.out (yb2 λhs=>?_);obtain⟨l1,l2⟩:=Raw.val_lim hr;obtain⟨l3,l4⟩:=Raw.val_lim gK;have jr:r.ok 890:=⟨hr.1,hr.2.1,by have:=hr.2.2.1;omega,by have:=hr.2.2.2;omega⟩;have gn:s.ok 890:=⟨gK.1,gK.2.1,by have:=gK.2.2.1;omega,by have:=gK.2.2.2;omega⟩;obtain⟨p,hp⟩:∃p,p=r.val:=⟨_,rfl⟩;obtain⟨q,hq⟩:∃q,q=s.val:=⟨_,rfl⟩;rw[←hp]at l1 l2;rw[←hq]at l3 l4;rw[←hp,←hq]at hK;have hd:=x8 p.den q.den;have e1:=x8 p.num.natAbs q.den;have e2:=x8 q.num.natAbs p.den;have e3:=XX (p.num.natAbs*q.den) (q.num.natAbs*p.den) 802 (by omega) (by omega);have pC:frR (decide (p.num<0)) p.num.natAbs p.den+frR (decide (q.num<0)) q.num.natAbs q.den=p+q:=by rw[E2,E2]
 simp[WB,aa];refine ur (.agg (uS p)) (λJ=>BB r jr _ _ ⟨by rw[hp],rfl⟩) ?_;refine ur (.agg (uS q)) (λJ=>BB s gn _ _ ⟨by rw[hq],rfl⟩) ?_;simp[uS,u0,AV.ZP,aa];refine ur (.sl (tX (lim (p.num.natAbs*q.den))) .none) (λJ=>AI _ _ (by omega) (by omega) _ _ ⟨rfl,rfl⟩) ?_;try simp[aa]
 refine ur (.sl (tX (lim (q.num.natAbs*p.den))) .none) (λJ=>AI _ _ (by omega) (by omega) _ _ ⟨rfl,rfl⟩) ?_;try simp[aa]
 refine AI p.den q.den (by omega) (by omega) _ _ ?_;simp[aa];have jX:=cO p.den_nz q.den_nz;by_cases hb:decide (p.num<0)=decide (q.num<0)
 ·have kb:(decide (p.num<0) == decide (q.num<0))=true:=by simpa using hb
  simp[kb,aa];refine ur (.sl (tX (lim (p.num.natAbs*q.den+q.num.natAbs*p.den))) .none) (λJ=>zQo _ _ (uZ _) (uZ _) (by omega) (by omega) _ _ (by rw[uN]) (by rw[uN]) (by rw[uN,uN];exact⟨rfl,rfl⟩)) ?_;refine ur (.agg (uS (p+q))) (λJ=>Dh _ _ _ jX (by omega) (by omega) _ _ ⟨by rw[←pC,←hb,XS _ _ _ _ _ p.den_nz q.den_nz],rfl⟩) ?_;simp[aa];exact zo hs hK
 ·have kb:(decide (p.num<0) == decide (q.num<0))=false:=by simpa using hb
  simp[kb,aa];refine Bn _ _ (by omega) (by omega) _ _ ?_;by_cases hc:q.num.natAbs*p.den≤p.num.natAbs*q.den
  ·simp[Fl,hc,aa];refine ur (.sl (tX (lim (p.num.natAbs*q.den-q.num.natAbs*p.den))) .none) (λJ=>KU _ _ (by omega) hc _ _ ⟨rfl,rfl⟩) ?_;have:=xM (ff (p.num.natAbs*q.den) (q.num.natAbs*p.den));refine ur (.agg (uS (p+q))) (λJ=>Dh _ _ _ jX (by omega) (by omega) _ _ ⟨by rw[←pC,XT _ _ hb _ _ _ _ p.den_nz q.den_nz hc],rfl⟩) ?_;simp[aa];exact zo hs hK
  ·simp[Fl,hc,aa];refine ur (.sl (tX (lim (q.num.natAbs*p.den-p.num.natAbs*q.den))) .none) (λJ=>KU _ _ (by omega) (by omega) _ _ ⟨rfl,rfl⟩) ?_;have:=xM (ff (q.num.natAbs*p.den) (p.num.natAbs*q.den));refine ur (.agg (uS (p+q))) (λJ=>Dh _ _ _ jX (by omega) (by omega) _ _ ⟨by rw[←pC,XU _ _ hb _ _ _ _ p.den_nz q.den_nz (by omega)],rfl⟩) ?_;simp[aa];exact zo hs hK
def zHx(r:Raw)(hr:r.ok 890)(H:or)(K:Kt)(hK:K (I6 (sgR r.val)) H):ge tP 24 [.agg r.cs] H K:=by
 refine ge.out (zZa λhs=>?_);have hO:∀z J,z=sgR r.val→Out H.length K (I6 z) (H++J):=λz J h=>Out.int rfl (af _) hs (by rw[h];exact hK);simp[WT];refine BB r hr _ _ ?_;simp[uS,u0,AV.ZP];by_cases h0:r.val=0
 ·have kQ:r.val.num=0:=Rat.num_eq_zero.2 h0;simp[kQ];exact hO _ _ (by simp[sgR,h0])
 ·have kQ:r.val.num.natAbs≠0:=by intro h;exact h0 (Rat.num_eq_zero.1 (Int.natAbs_eq_zero.1 h))
  simp[zU kQ];by_cases hn:r.val.num<0
  ·simp[hn];exact hO _ _ (by simp[sgR,h0,hn])
  ·simp[hn];exact hO _ _ (by simp[sgR,h0,hn])
def KV(s:List (IT×Rat))(i:IT)(c:Rat):∀(k:Nat) (hk:k≤s.length) (hl:∀(j:Nat) (h:j<k),IT.cmp (s[j]'(by omega)).1 i<0),uO s i c=s.take k++uO (s.drop k) i c:=by
 induction s with
 |nil=>intro k hk hl;simp
 |cons p s ih=>
  intro k hk hl;cases k with
  |zero=>simp
  |succ k=>have h0:=hl 0 (by omega);simp at h0;rw[uO,aN h0,ih k (by simpa using hk) λj h=>by have:=hl (j+1) (by omega);simpa using this];simp
def zKA(s:List (IT×Rat))(i:IT)(c:Rat)(k:Nat)(hk:k<s.length)(hl:∀(j:Nat) (h:j<k),IT.cmp (s[j]'(by omega)).1 i<0)(h0:IT.cmp s[k].1 i=0)(hz:s[k].2+c≠0):uO s i c=s.set k (s[k].1,s[k].2+c):=by rw[KV s i c k (by omega) hl,ai hk,uO,aG (by omega),aN h0,aG hz,bx,aN hk]
def zKz(s:List (IT×Rat))(i:IT)(c:Rat)(k:Nat)(hk:k<s.length)(hl:∀(j:Nat) (h:j<k),IT.cmp (s[j]'(by omega)).1 i<0)(h0:IT.cmp s[k].1 i=0)(hz:s[k].2+c=0):uO s i c=s.take k++s.drop (k+1):=by rw[KV s i c k (by omega) hl,ai hk,uO,aG (by omega),aN h0,aN hz]
def zKB(s:List (IT×Rat))(i:IT)(c:Rat)(k:Nat)(hk:k≤s.length)(hl:∀(j:Nat) (h:j<k),IT.cmp (s[j]'(by omega)).1 i<0)(h0:∀h:k<s.length,0<IT.cmp s[k].1 i)(hc:c≠0):uO s i c=s.take k++(i,c)::s.drop k:=by
 rw[KV s i c k hk hl];by_cases h:k<s.length
 ·have:=h0 h;rw[ai h,uO,aG (by omega),aG (by omega),aG hc]
 ·rw[aS (by omega),uO,aG hc]
def zKC(s:List (IT×Rat))(i:IT)(k:Nat)(hk:k≤s.length)(hl:∀(j:Nat) (h:j<k),IT.cmp (s[j]'(by omega)).1 i<0)(h0:∀h:k<s.length,0<IT.cmp s[k].1 i):uO s i 0=s:=by
 rw[KV s i 0 k hk hl];by_cases h:k<s.length
 ·have:=h0 h;rw[ai h,uO,aG (by omega),aG (by omega),aN rfl,←ai h,aJ]
 ·rw[aS (by omega),uO,aN rfl,aP,am (by omega)]
def sgR_zero{q:Rat}:sgR q=0↔q=0:=by
 unfold sgR;split
 ·simp[*]
 ·split <;> simp[*]
def zPH{s:List (IT×Raw)}{k:Nat}(h:k≤s.length)(p:IT×Raw):(ym (tw s++xp) ((k+1)*5) (((tw s++xp).drop (k*5)).take ((s.length-k)*5))).take (k*5)++twC p++(ym (tw s++xp) ((k+1)*5) (((tw s++xp).drop (k*5)).take ((s.length-k)*5))).drop (k*5+5)=tw (s.take k++p::s.drop k):=by
 have e:tw s=tw (s.take k)++tw (s.drop k):=by rw[←Bz,aJ]
 have hl:=BA h;have hd:(tw (s.drop k)).length=(s.length-k)*5:=by simp
 have e1:((tw s++xp).drop (k*5)).take ((s.length-k)*5)=tw (s.drop k):=by rw[e,aB,bS hl,cc hd]
 rw[e1];have hk:k*5+(s.length-k)*5=s.length*5:=by omega
 unfold ym;have h1:((tw s++xp).take ((k+1)*5)).length=(k+1)*5:=by simp[xp];omega
 have h2:((tw s++xp).drop ((k+1)*5+(tw (s.drop k)).length))=[]:=by apply aS;rw[hd];simp[xp];omega
 rw[h2,aP];have h3:((tw s++xp).take ((k+1)*5)++tw (s.drop k)).take (k*5)=tw (s.take k):=by rw[db (by rw[h1];omega),dx,bo (by omega),e,aB,cc hl]
 have h4:((tw s++xp).take ((k+1)*5)++tw (s.drop k)).drop (k*5+5)=tw (s.drop k):=by rw[bS (by rw[h1];omega)]
 rw[h3,h4,Bz,De,aB]
def zPI{s:List (IT×Raw)}{k:Nat}(h:k<s.length):(tw s).take (k*5)++(tw s).drop ((k+1)*5)=tw (s.take k++s.drop (k+1)):=by
 have h1:(tw s).take (k*5)=tw (s.take k):=by rw[Df h,cc (BA (by omega))]
 have h2:(tw s).drop ((k+1)*5)=tw (s.drop (k+1)):=by rw[Df h,←aB,bS (by rw[aH,BA (by omega)];simp;omega)]
 rw[h1,h2,Bz]
def zEm(s:List (IT×Rat))(k:Nat):up (s.take k)=(up s).take k:=by simp[up]
def zPO(s:List (IT×Rat))(k:Nat):up (s.drop k)=(up s).drop k:=by simp[up]
def zPP(s:List (IT×Rat))(k:Nat)(p:IT×Rat):up (s.set k p)=(up s).set k (p.1,ofR p.2):=by simp[up,fg]
def Rv{s:List (IT×Rat)}{k:Nat}(h:k<(up s).length):(up s)[k]=((s[k]'(by simpa using h)).1,ofR (s[k]'(by simpa using h)).2):=by simp[up]
def zCU(s:List (IT × Rat))(i:IT)(c:Raw)(hi:i.ZO≤1000)(nW:∀ p∈s,p.1.ZO≤1000∧Lim 400 p.2)(hc:c.ok 400)(lv:∀ p∈s,IT.cmp p.1 i=0→Lim 400 (p.2+c.val))(hl:s.length≤1000000)(id:Nat)(H:or)(K:Kt)(fA:H[id]?=some (.vec 55 5 s.length (tw (up s))))(hKs:HSc H→K (.ov id (uO s i c.val).length) (H.set id (.vec 55 5 (uO s i c.val).length (tw (up (uO s i c.val))))))(hK:(∃ p∈s,p.2+c.val=0)→∀ (id':Nat) (H':or),HSc H→HSc H'→H'[id']?=some (.vec 55 5 (uO s i c.val).length (tw (up (uO s i c.val))))→(id'=id∨H.length≤id')→(∀ x,x≠id→x<H.length→H'[x]?=H[x]?)→H.length≤H'.length→K (.ov id' (uO s i c.val).length) H'):
  ge tP 63 [.ov id s.length,.agg i.cs,.agg c.cs] H K:=by
 refine ge.out (ycK λhs=>?_);have kJ:=uR fA;obtain⟨x3,y3,pD,gL,hy3⟩:=yb i;have t3:List.take 3 c.cs=c.cs:=rfl;obtain⟨u,hu⟩:∃u,u=up s:=⟨_,rfl⟩;have hul:u.length=s.length:=by rw[hu];simp
 rw[←hu]at fA;simp[zIQ,aa];have oy:∀J,(H++J)[id]?=some (.vec 55 5 s.length (tw u)):=λJ=>vq fA;have hscT:∀n (l:List (IT×Raw)),HSc (H.set id (.vec 55 5 n (tw l))):=λn l=>hs.set (by simp only[AB.sc];exact Dg l _);have gg:H.set id (.vec 55 5 s.length (tw u))=H:=by
  apply aU;intro j;by_cases hj:id=j
  ·subst hj;rw[ak kJ,fA]
  ·rw[aj hj]
 have gz:∀(l:List (IT×Rat)) (H' J:or),l=uO s i c.val→H'=H.set id (.vec 55 5 l.length (tw (up l)))++J→Out H.length K (.ov id l.length) H':=λl H' J he hH=>by subst he;refine Out.at (b:=.ov id (uO s i c.val).length) hH (by simp) (hscT _ _) .rfl' rfl (by simp[AV.ZJ,AV.ZH,AV.ZI];omega) ?_;exact hKs hs
 have gF:HSc (H++[.cells i.cs,.cells c.cs]):=hs.append (by simp[AB.sc,Raw.cs_scA]);have gn:∀X,(H++[AB.cells i.cs,.cells c.cs]).set id X=H.set id X++[.cells i.cs,.cells c.cs]:=λX=>aY _ _ kJ;have qU:∀X Y,(H.set id X++[AB.cells i.cs,.cells c.cs]).set id Y=H.set id Y++[.cells i.cs,.cells c.cs]:=λX Y=>by rw[aY _ _ (by simpa using kJ),bX]
 have g2:∀X J,(H.set id X++J)[id]?=some X:=λX J=>by rw[ah (by simpa using kJ),ak kJ]
 have g3:∀X J,(H.set id X++AB.cells i.cs::J)[H.length]?=some (.cells i.cs):=λX J=>by simp[aR]
 have g4:∀X Y J,(H.set id X++AB.cells i.cs::Y::J)[H.length+1]?=some Y:=λX Y J=>by simp[aR]
 have hout2:(∃p∈s,p.2+c.val=0)→∀(l:List (IT×Rat)),l=uO s i c.val→Out H.length K (.ov (H.length+2) l.length) (H.set id .dead++[.cells i.cs,.cells c.cs,.vec 55 5 l.length (tw (up l))]):=λrd l he=>by subst he;have nX:HSc (H.set id .dead):=hs.set (by rfl);have pE:HSc (H.set id .dead++[.cells i.cs,.cells c.cs,.vec 55 5 (uO s i c.val).length (tw (up (uO s i c.val)))]):=nX.append (by simp[AB.sc,Raw.cs_scA];exactλx hx=>aA.1 (Dg _ _) x hx);refine Out.at (J:=[]) (b:=.ov (H.length+2) (uO s i c.val).length) (by simp) (by simp) pE .rfl' rfl (by simp[AV.ZJ,AV.ZH,AV.ZI]) ?_;refine hK rd (H.length+2) _ hs pE (by simp[aR]) (.inr (by omega)) (λx hx ix=>?_) (by simp);rw[ah (by simpa using ix),aj (λh=>hx h.symm)]
 have hmiss:∀k,k≤s.length→(∀(j:Nat) (h:j<k) (h2:j<s.length),IT.cmp s[j].1 i<0)→(∀h:k<s.length,0<IT.cmp s[k].1 i)→ge tP 24 [.agg c.cs] (H++[.cells i.cs,.cells c.cs]) λt66 H_1=>
   gt .eql false t66 I0 λt67=>tO t67 (Out H.length K (.ov id s.length) H_1)
    (ug [I0,.ZG,.bool false,.ZG,.ZG] [(0,2),(2,3)] [] λt70=>uk 5 [I0,.ZG,.bool false,.ZG,.ZG] 1 [(0,t70)] λt71=>
     uj 55 5 88 (.ov id s.length) t71 H_1 λt72 H_2=>uF 1 5 t72 (some (I6 (IntKind.i64.wrap ((k:Int)+1)))) none λt76=>uF 1 5 t72 (some (I6 k)) none λt79=>
      A5 5 t76 t79 H_2 λt80 H_3=>ub H_3 (λK'=>CR true 2 0 H_3[H.length]? λx=>K' x H_3) λt83=>xZ H_3 (λH K'=>ge tP 116 [t83] H K') λt84=>
       ub H_3 (λK'=>CR true 3 0 H_3[H.length+1]? λx=>K' x H_3) λt85=>xZ H_3 (λH K'=>ge tP 56 [t85] H K') λt86=>
        ug [I0,.ZG,.bool false,.ZG,.ZG] [(0,2),(2,3)] [(0,t84),(1,t86)] λt87=>tW 5 t72 (I6 k) λt88=>ua 5 t88 t87 H_3 λH_4=>Out H.length K t72 H_4):=by
  intro k hk iY h0;refine zHx c ⟨hc.1,hc.2.1,by have:=hc.2.2.1;omega,by have:=hc.2.2.2;omega⟩ _ _ ?_;by_cases kE:c.val=0
  ·have e0:uO s i c.val=s:=by rw[kE];exact zKC s i k hk (λj h=>iY j h (by omega)) h0
   have ml:sgR c.val=0:=sgR_zero.2 kE;rw[ml];simp;exact gz s _ _ e0.symm (by rw[←hu,gg])
  ·have ml:sgR c.val≠0:=λh=>kE (sgR_zero.1 h);have hsgb:(sgR c.val == 0)=false:=by simpa using ml
   have e1:uO s i c.val=s.take k++(i,c.val)::s.drop k:=zKB s i c.val k hk (λj h=>iY j h (by omega)) h0 kE;have w1:=wi k (by omega);rw[w1];simp only[zKh,hsgb,zKp];simp only[ug,uv,uk,uI,plain,AV.pd,uj,uD,uy,oy,aa];simp[plain,AV.pd,oy,gn];refine⟨⟨by omega,by omega⟩,by omega,by omega,by omega,?_⟩;rw[g2];simp only[zKg,gn,qU];have jF:(tw u++[AV.int .i64 0,.sl [] .none,.bool false,.sl [] .none,.sl [] .none]).all AV.ZP=true:=by rw[bl,Rp];rfl
   refine⟨⟨⟨⟨trivial,trivial,trivial⟩,trivial,trivial,trivial⟩,jF⟩,?_⟩;have hcp:=zPH (s:=u) (k:=k) (by omega) (i,ofR c.val);have iQ:min (s.length+1-k) (s.length+1-(k+1))=s.length-k:=by omega
   rw[iQ];simp[g2,g3,g4,t3];refine ur (.agg i.cs) (λJ=>zRA _ i (af _) (by omega) _ _ ⟨rfl,rfl⟩) ?_;refine ur (.agg (uS c.val)) (λJ=>BB c ⟨hc.1,hc.2.1,by have:=hc.2.2.1;omega,by have:=hc.2.2.2;omega⟩ _ _ ⟨rfl,rfl⟩) ?_;have pF:List.drop 5 (i.cs++[AV.bool false,.ZG,.ZG])=[]:=aS (by simp);have lU:∀x∈i.cs,x.ZP=true:=aA.1 (IT.cs_known i);simp[g2,pF];have hlay:(ym (tw u++xp) ((k+1)*5) (((tw u++xp).drop (k*5)).take ((s.length-k)*5))).length=(s.length+1)*5:=by simp[ym,xp];omega
   refine⟨by omega,⟨?_,λx hx=>hx.elim (lU x) (aA.1 (Raw.cs_all (ofR c.val)) x)⟩,?_⟩
   ·show _≤(ym (tw u++xp) ((k+1)*5) (((tw u++xp).drop (k*5)).take ((s.length-k)*5))).length;omega
   ·rw[qU];have jY:(s.take k++(i,c.val)::s.drop k).length=s.length+1:=by simp;omega
    have:=gz (s.take k++(i,c.val)::s.drop k) _ [.cells i.cs,.cells c.cs] e1.symm rfl;have qy:up (s.take k++(i,c.val)::s.drop k)=u.take k++(i,ofR c.val)::u.drop k:=by rw[hu];simp[up]
    rw[jY,qy,←hcp]at this;simpa[xp,twC,hul,E3]using this
 refine ycI (Inv:=λq t7 H'=>∃k:Nat,k≤s.length∧s.length-k=q∧t7=I6 k∧(∀(j:Nat) (h:j<s.length),j<k→IT.cmp s[j].1 i<0)∧H'=H++[.cells i.cs,.cells c.cs]) s.length ?_ ?_
 ·intro _;exact⟨0,by omega,rfl,rfl,λj h hj=>by omega,rfl⟩
 ·rintro q t7 H' ⟨k,hk,rfl,rfl,iY,rfl⟩ fG fz fM Kb fB;have hlow':∀ (j:Nat) (h:j<k),IT.cmp (s[j]'(by omega)).1 i<0:=λj h=>iY j (by omega) h;by_cases fy:k<s.length
  ·obtain⟨gx,kT⟩:=nW s[k] (ae fy);have oZ:k<u.length:=by omega
   have r8:((tw u).drop (k*5)).take 2=s[k].1.cs:=by rw[zPK oZ];subst hu;rw[Rv]
   have hco0:((tw u).drop (k*5+2)).take 3=(ofR s[k].2).cs:=by rw[Ro oZ];subst hu;rw[Rv]
   have h52:k*5+2≤s.length*5:=by omega
   have lz:=IT.cmp_rng s[k].1 i;simp[QY,fy,oy,r8,hco0,t3,hul,aa];refine⟨h52,?_⟩;refine ur (I6 (IT.cmp s[k].1 i)) (λJ=>zCX _ _ _ (af _) (by omega) _ _ ⟨rfl,rfl⟩) ?_;by_cases h1:IT.cmp s[k].1 i<0
   ·simp[h1,wi k (by omega)];exact fB _ _ ⟨s.length-(k+1),by omega,Back.here (by simp) gF (by simp[Kr,ux,AV.sc,AV.ZH,AV.ZI,AV.ZJ];omega) ⟨_,rfl,k+1,by omega,rfl,rfl,λj h hj=>by
     by_cases hjk:j=k
     ·subst hjk;exact h1
     ·exact iY j h (by omega),rfl⟩⟩
   ·simp[h1];refine⟨h52,?_⟩;refine ur (I6 (IT.cmp s[k].1 i)) (λJ=>zCX _ _ _ (af _) (by omega) _ _ ⟨rfl,rfl⟩) ?_;by_cases h0:IT.cmp s[k].1 i=0
    ·have hLs:=lv _ (ae fy) h0;have fN:=zD7 oZ (ofR (s[k].2+c.val));have hu1:u[k].1=s[k].1:=by subst hu;rw[Rv]
     rw[aB,hu1]at fN;simp[h0];refine⟨by omega,?_⟩;refine ur (.agg (uS (s[k].2+c.val))) (λJ=>yb3 _ _ (x7 kT) hc _ _ ⟨by rw[wt],rfl⟩) ?_;simp[gn,g2];refine⟨by omega,by omega,?_⟩;have jy:=Ro (s:=u.set k (s[k].1,ofR (s[k].2+c.val))) (k:=k) (by simpa using oZ);simp only[dY]at jy;rw[E3]at fN;rw[fN,jy];have fH:=x7 hLs;refine zHx _ ⟨fH.1,fH.2.1,by have:=fH.2.2.1;omega,by have:=fH.2.2.2;omega⟩ _ _ ?_;rw[wt];by_cases hz:s[k].2+c.val=0
     ·have ml:sgR (s[k].2+c.val)=0:=sgR_zero.2 hz;have he:=zKz s i c.val k fy hlow' h0 hz;rw[ml];simp[wi k (by omega)];refine⟨by omega,by omega,by omega,zKb ?_⟩;rw[g2];simp only[zKa];have lQ:=zPI (s:=u.set k (s[k].1,ofR (s[k].2+c.val))) (k:=k) (by simpa using oZ);have qy:up (s.take k++s.drop (k+1))=(u.set k (s[k].1,ofR (s[k].2+c.val))).take k++(u.set k (s[k].1,ofR (s[k].2+c.val))).drop (k+1):=by rw[Rr,zEm,zPO,←hu,dD (af _),List.drop_set_of_lt (Nat.lt_succ_self _)]
      have mL:(s.take k++s.drop (k+1)).length=k+(s.length-(k+1)):=by simp;omega
      have:=hout2 ⟨s[k],ae fy,hz⟩ _ he.symm;rw[qy,←lQ,mL]at this;refine⟨by simp,⟨?_,?_,by omega,by omega⟩,?_⟩
      ·exact aA.2 λx hx=>aA.1 (Rp _) x (ec hx)
      ·simp;omega
      ·simp[Ks,qU];simpa using this
     ·have ml:(sgR (s[k].2+c.val) == 0)=false:=by simpa using λh=>hz (sgR_zero.1 h)
      have he:=zKA s i c.val k fy hlow' h0 hz;simp[ml,Ks];have:=gz (s.set k (s[k].1,s[k].2+c.val)) _ [.cells i.cs,.cells c.cs] he.symm rfl;rw[zPP,←hu]at this;simpa using this
    ·have gk:(IT.cmp s[k].1 i == 0)=false:=by simp[h0]
     simp[gk];exact hmiss k (by omega) (λj h h2=>iY j h2 h) (λh=>by omega)
  ·obtain rfl:k=s.length:=by omega
   simp[QY,oy,t3,aa];exact hmiss s.length (af _) (λj h h2=>iY j h2 h) (λh=>by omega)
def zNJ(s:List (IT × Rat))(i:IT)(c:Raw)(hi:i.ZO≤1000)(nW:∀ p∈s,p.1.ZO≤1000∧Lim 400 p.2)(hc:c.ok 400)(lv:∀ p∈s,IT.cmp p.1 i=0→Lim 400 (p.2+c.val))(hl:s.length≤1000000)(id:Nat)(H:or)(K:Kt)(fA:H[id]?=some (.vec 55 5 s.length (tw (up s))))(hK:∀ (id':Nat) (H':or),HSc H→HSc H'→H'[id']?=some (.vec 55 5 (uO s i c.val).length (tw (up (uO s i c.val))))→(id'=id∨H.length≤id')→(∀ x,x≠id→x<H.length→H'[x]?=H[x]?)→H.length≤H'.length→K (.ov id' (uO s i c.val).length) H'):
  ge tP 63 [.ov id s.length,.agg i.cs,.agg c.cs] H K:=
 zCU s i c hi nW hc lv hl id H K fA (λhs=>hK id _ hs (hs.set (by simp only[AB.sc];exact Dg _ _)) (ak (uR fA)) (.inl rfl) (λx hx _=>aj (λh=>hx h.symm)) (by simp)) λ_=>hK
def zXX:∀(m:Nat) (v:VT),v.ZO≤m→v.ZO≤1000000000→∀(H:or) (K:AV→or→Prop),K (I6 v.ZO) H→ge tP 211 [.agg v.cs] H K:=by
 intro m;induction m with
 |zero=>intro v h;have:=v.ZB;omega
 |succ m ih=>
  intro v hv hb H K hK;obtain⟨k,n,ks⟩:=v;have iM:VT.ZA ks+1≤1000000000:=by simpa[VT.ZO]using hb
  have gy:=VT.ZQ ks;refine ge.out (zXV λhs=>?_);simp[VT.cs,zHa];refine zXT (Inv:=λq t3 t4 H'=>∃i:Nat,i≤ks.length∧q=ks.length-i∧t4=I6 i∧t3=I6 (1+VT.ZA (ks.take i):Nat)∧H'=H++[.cells [I6 k,I6 n,.sl (VT.css ks) .none]]) ks.length ?_ ?_
  ·intro _;exact⟨0,by omega,by omega,rfl,by simp[VT.ZA],rfl⟩
  ·rintro q t3 t4 H' ⟨i,hi,rfl,rfl,rfl,rfl⟩ hsc fz fM Kb fB;by_cases fy:i<ks.length
   ·have gB:=VT.ZM (k:=k) (n:=n) fy;have h1:=VT.ZE fy;have h2:=VT.ZD ks (i+1);obtain⟨x,y,z,fD,hx,hy,hz⟩:=ve ks[i];simp[QE,fy,fD,hx,hy,hz];rw[←fD];refine ih ks[i] (by omega) (by omega) _ _ ?_;simp;rw[um (by omega) (by omega),um (by omega) (by omega),zD8];refine fB _ _ ⟨ks.length-(i+1),by omega,Back.same (by simp) hsc ?_ ⟨_,_,rfl,i+1,by omega,rfl,by simp,?_,rfl⟩⟩
    ·simp[J3,AV.sc,AV.ZJ,AV.ZH,AV.ZI]
    ·rw[h1];congr 1;omega
   ·obtain rfl:i=ks.length:=by omega
    simp[QE];refine Out.int rfl (af _) hs ?_;simpa[VT.ZO,Int.add_comm]using hK
def xO(f:VT→VT→Bool):List VT→List VT→Bool
 |[],[]=>true
 |a::x,b::y=>f a b && xO f x y
 |_,_=>false
theorem Rw{f:VT→VT→Bool}:∀ {x y:List VT},x.length≠y.length→xO f x y=false
 |[],[],h=>(h rfl).elim
 |a::x,b::y,h=>by have:x.length≠y.length:=λe=>h (by simp[e]);simp[xO,Rw this]
 |[],_::_,_=>rfl
 |_::_,[],_=>rfl
end Go.Proofs.YtdmamdnkcefmmaaGreatDoor
