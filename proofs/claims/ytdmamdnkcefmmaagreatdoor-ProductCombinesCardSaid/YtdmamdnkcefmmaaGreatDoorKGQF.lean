import Derived.Test.YtdmamdnkcefmmaaGreatDoorKOT
set_option linter.unusedSimpArgs false
set_option linter.unusedVariables false
set_option linter.unusedSectionVars false
set_option linter.defProp false
set_option maxRecDepth 100000
namespace Go.Proofs.YtdmamdnkcefmmaaGreatDoor
section
variable (t0 t1 t2 t3 t12 t13:AV) (H:or) (K:Kt) (Kb4:Lt)
def zRb(_:Nat):List Bool:=[]
def zEG:=ul t1 H λt5 H=>ul t2 H λt6 H=>ul t3 H λt7 H=>apm H t0 λt13=>apu H (tY true 3 t5 H) λt14=>apu H (tY true 2 t6 H) λt15=>apc tP H 40 [t13,t14,t15] λt16=>apm H t0 λt17=>apu H (tY true 3 t5 H) λt18=>apu H (tY true 2 t7 H) λt19=>apc tP H 40 [t17,t18,t19] λt20=>apm H t16 λt10=>apm H t20 λt11=>gt .lss false t10 I0 λt22=>agm t22 false H t11 λt24 H=>agu t22 false H (gt .lss false t24 I0) λt25 H=>tZ t22 (.bool true) t25 λt26=>tO t26 (ut [.ZG,I1] (K · H)) (gt .add false t10 t11 λt29=>gt .gtr false t29 (I6 6) λt30=>tO t30 (ut [.ZG,(I6 13)] (K · H)) (tL true 3 t5 H λt32=>ge tP 41 [t0,t32] H λt33 H=>tL true 3 t5 H λt36=>tL true 2 t6 H λt37=>tL true 2 t7 H λt38=>ge tP 43 [t0,t36,t37,t38] H λt39 H=>ge tP 42 [t33,t39] H λt40 H=>ge tP 44 [t33] H λt42 H=>uo t42 0 λt43=>uo t42 1 λt44=>ut [t43,t44] (K · H)))
def ye7(_:Nat):List Bool:=[]
def zq8:=ul t1 H λt3 H=>ge tP 37 [t0] H λt6 H=>agu t6 true H (tL true 3 t3 H) λt8 H=>agc tP t6 true H 38 [t8] λt9 H=>tZ t6 t9 (.bool false) λt10=>K t10 H
def zTg(_:Nat):List Bool:=[]
def zFl:=ug [I0,I0,.ZG] [(0,1),(1,1),(2,1)] [(0,I1)] λt4=>uk 3 [I0,I0,.ZG] 1 [(0,t4)] λt5=>ug [I0,I0,.ZG] [(0,1),(1,1),(2,1)] [(0,(I6 7)),(2,t5)] λt6=>un [I0,I0,.ZG] H λt1 H=>ua 3 t1 t6 H λH=>tL true 3 t1 H λt8=>ug [I0,.ZG] [(0,1),(1,1)] [(0,I1)] λt9=>ug [I0,.ZG] [(0,1),(1,1)] [(0,I1)] λt10=>ge tP 12 [.ZG,t8,t9,t10] H λt11 H=>uo t11 0 λt12=>uo t11 1 λt13=>apm H t13 λt14=>apu H (gt .eql false t14 I0) λt15=>apm H t15 λt16=>agu t16 true H (ub H (λK''=>K'' t12 H)) λt17 H=>ui t16 true H (λK'=>ub H (λK''=>tV 1 t17 (K'' · H)) (K' · H)) λt18 H=>ui t16 true H (λK'=>ub H (λK''=>gt .eql false t18 (I6 2) (K'' · H)) (K' · H)) λt19 H=>apu H (tZ t16 t19 (.bool false)) λt20=>apm H t20 λt21=>agu t21 true H (ub H (λK''=>K'' t12 H)) λt22 H=>ui t21 true H (λK'=>ub H (λK''=>tW 5 t22 I1 (K'' · H)) (K' · H)) λt23 H=>ui t21 true H (λK'=>ub H (λK''=>tN 0 t23 (K'' · H)) (K' · H)) λt24 H=>ui t21 true H (λK'=>ub H (λK''=>tN 0 t24 (K'' · H)) (K' · H)) λt25 H=>ui t21 true H (λK'=>ub H (λK''=>tY false 1 t25 H (K'' · H)) (K' · H)) λt26 H=>ui t21 true H (λK'=>ub H (λK''=>gt .eql false t26 (I6 2) (K'' · H)) (K' · H)) λt27 H=>apu H (tZ t21 t27 (.bool false)) λt28=>apm H t28 λt29=>agu t29 true H (ub H (λK''=>K'' t12 H)) λt30 H=>ui t29 true H (λK'=>ub H (λK''=>tW 5 t30 I1 (K'' · H)) (K' · H)) λt31 H=>ui t29 true H (λK'=>ub H (λK''=>tN 2 t31 (K'' · H)) (K' · H)) λt32 H=>ui t29 true H (λK'=>ub H (λK''=>tY true 3 t32 H (K'' · H)) (K' · H)) λt33 H=>ui t29 true H (λK'=>xZ H (λH K''=>ge tP 36 [(I6 2)] H K'') (K' · H)) λt34 H=>agu t29 true H (xZ H (λH K''=>ge tP 21 [t33,t34] H K'')) λt35 H=>apu H (tZ t29 t35 (.bool false)) λt36=>apm H t36 λt0=>K t0 H
def M6:Nat→List Bool|4=>rl false [0,2,10,2,29]|_=>[]
noncomputable def zvr:=bd Tryz.f14
def M7:=t0::t1::ux 10 (t12::t13::ux 29 [])
def zSz:=M6 4
noncomputable def zSx:=uc [1,1,0,1,0,0] zvr
def zSw:=ud tP M6 [1,1,0,1,0] zvr (uq tP Tryz.f14.results.toList K)
def zFk:=tM tP zSx (zSw K) (M7 t0 t1 t12 t13) H
def T2:=gt .lss false t13 t12 λt14=>tO t14 (apm H t0 λt16=>apm H t13 λt17=>apu H (tW 5 t16 t17) λt18=>apu H (tN 0 t18) λt19=>apu H (tY true 2 t19 H) λt20=>apm H t1 λt21=>apm H t13 λt22=>apu H (tW 5 t21 t22) λt23=>apu H (tN 0 t23) λt24=>apu H (tY true 2 t24 H) λt25=>apc tP H 29 [t20,t25] λt26=>apu H (aUn .not t26) λt27=>apm H t27 λt28=>agu t28 false H (ub H (λK''=>K'' t0 H)) λt29 H=>agu t28 false H (ub H (λK''=>K'' t13 H)) λt30 H=>ui t28 false H (λK'=>ub H (λK''=>tW 5 t29 t30 (K'' · H)) (K' · H)) λt31 H=>ui t28 false H (λK'=>ub H (λK''=>tN 2 t31 (K'' · H)) (K' · H)) λt32 H=>ui t28 false H (λK'=>ub H (λK''=>tY true 3 t32 H (K'' · H)) (K' · H)) λt33 H=>agu t28 false H (ub H (λK''=>K'' t1 H)) λt34 H=>agu t28 false H (ub H (λK''=>K'' t13 H)) λt35 H=>ui t28 false H (λK'=>ub H (λK''=>tW 5 t34 t35 (K'' · H)) (K' · H)) λt36 H=>ui t28 false H (λK'=>ub H (λK''=>tN 2 t36 (K'' · H)) (K' · H)) λt37 H=>ui t28 false H (λK'=>ub H (λK''=>tY true 3 t37 H (K'' · H)) (K' · H)) λt38 H=>agu t28 false H (xZ H (λH K''=>ge tP 21 [t33,t38] H K'')) λt39 H=>ui t28 false H (λK'=>ub H (λK''=>aUn .not t39 (K'' · H)) (K' · H)) λt40 H=>apu H (tZ t28 (.bool true) t40) λt41=>tO t41 (K (.bool false) H) (gt .add false t13 I1 λt42=>Kb4 (M7 t0 t1 t12 t42) H)) (K (.bool true) H)
def zE9:=tV 1 t0 λt7=>tV 1 t1 λt9=>gt .neq false t7 t9 λt10=>tO t10 (K (.bool false) H) (tV 1 t0 λt12=>zFk t0 t1 t12 I0 H K)
variable {t0 t1 t2 t3 t12 t13} {H} {K} {Kb4}
def zRd(h:HSc H→zEG t0 t1 t2 t3 H K):ge tP 12 [t0,t1,t2,t3] H K:=
 acb zRb Tryz.func12 h
def ye9(h:HSc H→zq8 t0 t1 H K):ge tP 10 [t0,t1] H K:=
 acb ye7 Tryz.func10 h
def zTi(h:HSc H→zFl H K):ge tP 15 [] H K:=
 acb zTg Tryz.func15 h
def zSy:Lo1 (λt13=>M7 t0 t1 t12 t13) (λt13 H Kb4=>T2 t0 t1 t12 t13 H K Kb4) t13 H (zFk t0 t1 t12 t13 H K):=lq1 M6 zSz
def zSA(h:HSc H→zE9 t0 t1 H K):ge tP 14 [t0,t1] H K:=
 acb M6 Tryz.func14 h
end
def DH{eq:List Dat}{t:VT}(hf:wC eq t=true)(i:IT):xU eq t i=rdV eq i t:=by unfold xU;rw[aN hf]
def T3(eq:List Dat)(T:VT)(H:or)(K:Kt)(hK:K (.ptr (H.length+2) 0) (H++[.cells T.cs,.map [],.cells (.sl (eq.map Dat.cs) .none::T.cs++[.map (H.length+1),.ZG])])):
  ge tP 41 [.sl (eq.map Dat.cs) .none,.agg T.cs] H K:=by
 refine yaS λhs=>?_;obtain⟨x,y,z,fD,hx,hy,hz⟩:=ve T;simp[X0,fD,Aj,ug,uv,AV.ZP,aa];rw[fD]at hK;simpa using hK
def yA(l:List (IT×Nat))(q:Rat):List (IT×Raw):=l.map λp=>(p.1,ofR ((p.2:Rat)*q))
@[simp] theorem yi3(l:List (IT×Nat))(q:Rat):(yA l q).length=l.length:=by simp[yA]
def zN8{l:List (IT×Nat)}{q:Rat}{j:Nat}(h:j<l.length):yA (l.take (j+1)) q=yA (l.take j) q++[(l[j].1,ofR ((l[j].2:Rat)*q))]:=by rw[ag h];simp only[yA,a6,aL,bI]
def zCQ(n:Nat):ue (n:Int)=(ofR (n:Rat)).cs:=by rw[E3,←Rat.intCast_natCast,AF]
def zB4{n k:Nat}(hn:n<1000000000 ^ k)(hk:1≤k):(ofR (n:Rat)).ok k:=by
 refine x7 (Fit.lim (D:=1) (M:=n) ⟨by decide,n,?_,by simp⟩ ?_ hn)
 ·rw[←Rat.intCast_natCast,dL]
 ·exact bK (by decide) (bi (by decide) hk)
def zNp(l:List (IT × Nat))(c:Raw)(hl:l.length≤100000)(hc:c.ok 400)(mX:∀ p∈l,p.2<1000000000 ^ 400)(H:or)(K:Kt)(hK:K (.sl (twS (yA l c.val)) .none) H):
  ge tP 62 [.sl (vi l) .none,.agg c.cs] H K:=by
 refine ge.out (ycE λhs=>?_);simp[zIP,aa];unfold M5;refine tM.own 5 55 5 rfl ?_;have jK:(H++[AB.cells c.cs]).length=H.length+1:=by simp
 rw[jK,aB];show M5 _ (.sl (twS (yA (l.take 0) c.val)) (.own (H.length+1))) _ _ _ (H++[.cells c.cs,.perm 55 5 0]) _;have p9:∀n,HSc (H++[.cells c.cs,.perm 55 5 n]):=λn=>hs.append (by simp[AB.sc,Raw.cs_scA]);refine ycC (Inv:=λq t5 t10 H'=>∃j:Nat,j≤l.length∧l.length-j=q∧t10=I6 j∧t5=.sl (twS (yA (l.take j) c.val)) (.own (H.length+1))∧H'=H++[.cells c.cs,.perm 55 5 j]) l.length ?_ ?_
 ·intro _;exact⟨0,by omega,rfl,rfl,rfl,rfl⟩
 ·rintro q t5 t10 H' ⟨j,hj,rfl,rfl,rfl,rfl⟩ fG fz fM Kb fB;by_cases fy:j<l.length
  ·have fN:=zN8 (q:=c.val) fy;have hm:=mX _ (ae fy);have jG:(yA (l.take j) c.val).length=j:=by simp;omega
   generalize hS:yA (l.take j) c.val=S at *;simp[TZ,fy,Af,y5,B6,aa];refine⟨AT _,?_⟩;try simp[y5]
   rw[zCQ];refine ur (.agg (uS ((l[j].2:Rat)*c.val))) (λJ=>Jx _ _ (zB4 hm (by decide)) hc _ _ ⟨by rw[wt],rfl⟩) ?_;have pF:List.drop 5 (l[j].1.cs++[AV.bool false,.ZG,.ZG])=[]:=aS (by simp);have ib:plain ([I0,.ZG,.bool false,.ZG,.ZG]:List AV)=some [I0,.sl [] .none,.bool false,.sl [] .none,.sl [] .none]:=rfl;have lU:∀x∈l[j].1.cs,x.ZP=true:=aA.1 (IT.cs_known l[j].1);simp[ug,uv,pF];have rh:l[j].1.cs++uS ((l[j].2:Rat)*c.val)=twC (l[j].1,ofR ((l[j].2:Rat)*c.val)):=rfl;rw[rh];simp[uk,uI,FW,ib];simp only[uj,uD,uy];simp[au,jG,wi j (by omega)];refine⟨⟨by omega,by omega⟩,?_⟩;rw[zD6,←fN];exact fB _ _ ⟨l.length-(j+1),by omega,Back.at (J:=[.cells (tmC l[j])]) (H2:=H++[.cells c.cs,.perm 55 5 (j+1)]) (by simp) (by simp) (p9 _) (by simp[M4,ux,AV.sc,AV.ZH,AV.ZI,AV.ZJ]) ⟨_,_,rfl,j+1,by omega,rfl,rfl,rfl,rfl⟩⟩
  ·obtain rfl:j=l.length:=by omega
   rw[az];simp[TZ];exact Out.at (b:=.sl (twS (yA l c.val)) .none) rfl (af _) hs (.atom (.sl _ _)) rfl rfl hK
def opX(H:or)(T:VT)(C:List AV):or:=H++[.cells T.cs,.map [],.cells (C++[AV.map (H.length+1),AV.ov (H.length+3) 0]),.vec 55 5 0 []]
def F4(H:or)(T:VT){C:List AV}(h4:C.length=4):Sx (opX H T C) (H.length+2) (H.length+1) (H.length+3) C []:=by unfold opX;exact⟨h4,by omega,by omega,by omega,by simp[aR],by simp[aR,kvW],by simp[aR,tw]⟩
def zCk(H:or)(T:VT){C:List AV}(h4:C.length=4):(H++[AB.cells T.cs,.map [],.cells (C++[AV.map (H.length+1),AV.ZG])]).set (H.length+2) (.cells ((C++[AV.map (H.length+1),AV.ZG]).set 5 (.ov (H++[AB.cells T.cs,.map [],.cells (C++[AV.map (H.length+1),AV.ZG])]).length 0)))++[.vec 55 5 0 []]=opX H T C:=by
 have fW:(C++[AV.map (H.length+1),AV.ZG]).set 5 (.ov (H++[AB.cells T.cs,.map [],.cells (C++[AV.map (H.length+1),AV.ZG])]).length 0)=C++[AV.map (H.length+1),AV.ov (H.length+3) 0]:=by rw[au _ _ (by omega),h4];simp
 rw[fW];simp[opX,au]
def zCl(H:or)(T:VT)(C:List AV):(H++[AB.cells T.cs,.map [],.cells (C++[AV.map (H.length+1),AV.ZG])])[H.length+2]?=some (.cells (C++[AV.map (H.length+1),AV.ZG])):=by simp[aR]
def zCj(H:or){C:List AV}(h4:C.length=4):(C++[AV.map (H.length+1),AV.ZG])[5]?=some .ZG:=by rw[aM (by omega),h4];rfl
def T4(H:or)(T:VT)(C:List AV)(s:List (IT×Raw)):∃J,sx (opX H T C) (H.length+2) (H.length+1) (H.length+3) C s=H++J:=⟨_,by
 unfold opX;simp only[sx];rw[au _ _ (by omega),au _ _ (by omega),au _ _ (by omega)]⟩
def zMZ{H:or}{T:VT}{C:List AV}{s:List (IT×Raw)}{x:Nat}{b:AB}(h:H[x]?=some b):(sx (opX H T C) (H.length+2) (H.length+1) (H.length+3) C s)[x]?=some b:=by obtain⟨J,hJ⟩:=T4 H T C s;rw[hJ];exact vq h
section
variable (t0 t1 t2 t3 t5 t7 t8 t12 t15 t17 t87 t88 t89 t93 t94 t95:AV) (H:or) (K:Kt) (Kb2 Kb17:Lt)
def zRB(_:Nat):List Bool:=[]
def zE1:=ge tP 156 [t0,t1] H λt7 H=>gt .geq false t7 I0 λt8=>K t8 H
def M8:Nat→List Bool|2=>rl false [0,2,5,2,10]|_=>[]
noncomputable def zv0:=bd Tryz.f156
def M9:=t0::t1::ux 5 (t7::t8::ux 10 [])
def zUu:=M8 2
noncomputable def zUs:=uc [1,0,1,0,0] zv0
def zUr:=ud tP M8 [1,0,1,0] zv0 (uq tP Tryz.f156.results.toList K)
def zFN:=tM tP zUs (zUr K) (M9 t0 t1 t7 t8) H
def T5:=gt .lss false t8 t7 λt9=>tO t9 (tW 5 t0 t8 λt14=>tL true 5 t14 H λt15=>aCallV tP t1 [t15] H λt16 H=>tO t16 (K t8 H) (gt .add false t8 I1 λt18=>Kb2 (M9 t0 t1 t7 t18) H)) (K (I6 (-1)) H)
def zFM:=tV 1 t0 λt7=>zFN t0 t1 t7 I0 H K
def zRE(_:Nat):List Bool:=[]
def zE2:=ul t0 H λt3 H=>tL false 1 t1 H λt5=>tL true 3 t2 H λt6=>tN 0 t3 λt7=>tL true 2 t7 H λt8=>ge tP 119 [t5,t6,t8] H λt9 H=>aUn .not t9 λt10=>K t10 H
def ycY(_:Nat):List Bool:=[]
def T6:=ul t0 H λt3 H=>ul t1 H λt4 H=>tL false 1 t3 H λt10=>tL true 3 t4 H λt11=>ge tP 60 [t10,t11] H λt12 H=>uo t12 0 λt13=>uo t12 1 λt14=>un [I0,.ZG] H λt7 H=>ua 2 t7 t13 H λH=>agm t14 true H t2 λt17 H=>agu t14 true H (yl 118 [t3,t4]) λt18 H=>agc tP t14 true H 117 [t17,t18] λt19 H=>agu t14 true H (aUn .not t19) λt20 H=>tZ t14 t20 (.bool false) λt21=>K t21 H
def yc1(_:Nat):List Bool:=[]
def zIV:=ul t1 H λt4 H=>tV 1 t2 λt10=>gt .gtr false t10 (I6 2000) λt11=>tO t11 (ut [.ZG,(I6 9)] (K · H)) (tL true 3 t4 H λt13=>ge tP 41 [t0,t13] H λt14 H=>ge tP 42 [t14,t2] H λt17 H=>ge tP 44 [t14] H λt19 H=>uo t19 0 λt20=>uo t19 1 λt21=>ut [t20,t21] (K · H))
def zZ5(_:Nat):List Bool:=[]
def zHP:=ul t1 H λt4 H=>tL true 3 t4 H λt9=>ge tP 66 [t0,t9,t2] H λt11 H=>aUn .not t11 λt12=>tO t12 (ut [.ZG,I1] (K · H)) (tL true 3 t4 H λt14=>ge tP 67 [t0,t14,t2] H λt16 H=>uo t16 0 λt17=>uo t16 1 λt18=>ut [t17,t18] (K · H))
def Cc:Nat→List Bool|17=>rl false [0,1,4,1,6,1,2,1,71,3,30]|20=>rl false [0,1,4,1,6,1,2,1,1,1,69,3,3,3,24]|200022=>rl false [0,5]|_=>[]
noncomputable def zxz:=bd Tryz.f34
def Na:=t0::ux 4 (t5::ux 6 (t12::ux 2 (t15::ux 71 (t87::t88::t89::ux 30 []))))
def zHU:=Cc 17
noncomputable def T7:=uc [1,1,1,1,1,1,1,1,1,1,1,0,1,0,0] zxz
def zHS:=ud tP Cc [1,1,1,1,1,1,1,1,1,1,1,0,1,0] zxz (uq tP Tryz.f34.results.toList K)
def Nb:=tM tP T7 (zHS K) (Na t0 t5 t12 t15 t87 t88 t89) H
def Nc:=t0::ux 4 (t5::ux 6 (t12::ux 2 (t15::ux 1 (t17::ux 69 (t87::t88::t89::ux 3 (t93::t94::t95::ux 24 []))))))
def yaf:=Cc 20
noncomputable def yac:=uc [1,1,0,0,1,1,0,0] T7
def yab:=ud tP Cc [1,1,0,0,1,1,0] T7 (vz zHU Kb17 (zHS K))
def zHT:=tM tP yac (yab K Kb17) (Nc t0 t5 t12 t15 t17 t87 t88 t89 t93 t94 t95) H
def T8(t0 t5 t12 t15 t17 t87 t88 t89 t93 t94 t95:AV)(H:or)(K:Kt)(Kb17:Lt)(Kb20:Lt):Prop:=gt .lss false t95 t94 λt96=>tO t96 (tW 5 t93 t95 λt97=>tL true 5 t97 H λt98=>un [I0,.ZG,(.bool false),.ZG,.ZG] H λt19 H=>ua 5 t19 t98 H λH=>apm H t15 λt99=>apm H t0 λt100=>apu H (tY true 3 t5 H) λt101=>apu H (tN 0 t17) λt102=>apu H (tY true 2 t102 H) λt103=>apu H (tN 0 t19) λt104=>apu H (tY true 2 t104 H) λt105=>apc tP H 43 [t100,t101,t103,t105] λt106=>apu H (tN 2 t17) λt107=>apu H (tY true 3 t107 H) λt108=>apu H (tN 2 t19) λt109=>apu H (tY true 3 t109 H) λt110=>apc tP H 70 [t108,t110] λt111=>apc tP H 62 [t106,t111] λt112=>ge tP 42 [t99,t112] H λt113 H=>gt .add false t95 I1 λt114=>Kb20 (Nc t0 t5 t12 t15 t17 t87 t88 t89 t93 t94 t114) H) (gt .add false t89 I1 λt115=>Kb17 (Na t0 t5 t12 t15 t87 t88 t115) H)
def T9:=gt .lss false t89 t88 λt90=>tO t90 (tW 5 t87 t89 λt91=>tL true 5 t91 H λt92=>un [I0,.ZG,(.bool false),.ZG,.ZG] H λt17 H=>ua 5 t17 t92 H λH=>tV 1 t12 λt94=>zHT t0 t5 t12 t15 t17 t87 t88 t89 t12 t94 I0 H K Kb17) (ge tP 44 [t15] H λt117 H=>uo t117 0 λt118=>uo t117 1 λt119=>ut [t118,t119] (K · H))
def zHR:=ul t1 H λt5 H=>tL true 3 t5 H λt21=>ge tP 66 [t0,t21,t2] H λt23 H=>aUn .not t23 λt24=>agm t24 false H t0 λt26 H=>agu t24 false H (tL true 3 t5 H) λt27 H=>agm t24 false H t3 λt28 H=>agc tP t24 false H 66 [t26,t27,t28] λt29 H=>agu t24 false H (aUn .not t29) λt30 H=>tZ t24 (.bool true) t30 λt31=>tO t31 (ut [.ZG,I1] (K · H)) (tL true 3 t5 H λt34=>ge tP 67 [t0,t34,t2] H λt36 H=>uo t36 0 λt37=>uo t36 1 λt38=>gt .neq false t38 I0 λt40=>tO t40 (ut [.ZG,t38] (K · H)) (tL true 3 t5 H λt44=>ge tP 67 [t0,t44,t3] H λt46 H=>uo t46 0 λt47=>uo t46 1 λt48=>gt .neq false t48 I0 λt50=>tO t50 (ut [.ZG,t48] (K · H)) (tV 1 t37 λt53=>gt .eql false t53 I0 λt54=>agm t54 false H t47 λt56 H=>agu t54 false H (tV 1 t56) λt57 H=>agu t54 false H (gt .eql false t57 I0) λt58 H=>tZ t54 (.bool true) t58 λt59=>tO t59 (ut [.ZG,I0] (K · H)) (apm H t0 λt60=>apu H (tY true 3 t5 H) λt61=>apm H t37 λt62=>apm H t37 λt63=>apu H (tV 1 t63) λt64=>apu H (gt .sub false t64 I1) λt65=>apu H (tW 5 t62 t65) λt66=>apu H (tN 0 t66) λt67=>apu H (tY true 2 t67 H) λt68=>apc tP H 40 [t60,t61,t68] λt69=>apm H t69 λt13=>apm H t0 λt70=>apu H (tY true 3 t5 H) λt71=>apm H t47 λt72=>apm H t47 λt73=>apu H (tV 1 t73) λt74=>apu H (gt .sub false t74 I1) λt75=>apu H (tW 5 t72 t75) λt76=>apu H (tN 0 t76) λt77=>apu H (tY true 2 t77 H) λt78=>apc tP H 40 [t70,t71,t78] λt79=>apm H t79 λt14=>gt .add false t13 t14 λt82=>gt .gtr false t82 (I6 6) λt83=>tO t83 (ut [.ZG,(I6 13)] (K · H)) (tL true 3 t5 H λt85=>ge tP 41 [t0,t85] H λt86 H=>tV 1 t37 λt88=>Nb t0 t5 t47 t86 t37 t88 I0 H K)))))
variable {t0 t1 t2 t3 t5 t7 t8 t12 t15 t17 t87 t88 t89 t93 t94 t95} {H} {K} {Kb2 Kb17}
def zRD(h:HSc H→zE1 t0 t1 H K):ge tP 117 [t0,t1] H K:=
 acb zRB Tryz.func117 h
def zUt:Lo1 (λt8=>M9 t0 t1 t7 t8) (λt8 H Kb2=>T5 t0 t1 t7 t8 H K Kb2) t8 H (zFN t0 t1 t7 t8 H K):=lq1 M8 zUu
def zUv(h:HSc H→zFM t0 t1 H K):ge tP 156 [t0,t1] H K:=
 acb M8 Tryz.func156 h
def zRG(h:HSc H→zE2 t0 t1 t2 H K):ge tP 118 [t0,t1,t2] H K:=
 acb zRE Tryz.func118 h
def yc0(h:HSc H→T6 t0 t1 t2 H K):ge tP 66 [t0,t1,t2] H K:=
 acb ycY Tryz.func66 h
def yc3(h:HSc H→zIV t0 t1 t2 H K):ge tP 67 [t0,t1,t2] H K:=
 acb yc1 Tryz.func67 h
def zZ7(h:HSc H→zHP t0 t1 t2 H K):ge tP 32 [t0,t1,t2] H K:=
 acb zZ5 Tryz.func32 h
def yae:Lo1 (λt95=>Nc t0 t5 t12 t15 t17 t87 t88 t89 t93 t94 t95) (λt95 H Kb20=>T8 t0 t5 t12 t15 t17 t87 t88 t89 t93 t94 t95 H K Kb17 Kb20) t95 H (zHT t0 t5 t12 t15 t17 t87 t88 t89 t93 t94 t95 H K Kb17):=lq1 Cc yaf
def yad:Lo1 (λt89=>Na t0 t5 t12 t15 t87 t88 t89) (λt89 H Kb17=>T9 t0 t5 t12 t15 t87 t88 t89 H K Kb17) t89 H (Nb t0 t5 t12 t15 t87 t88 t89 H K):=lq1 Cc zHU
def yag(h:HSc H→zHR t0 t1 t2 t3 H K):ge tP 34 [t0,t1,t2,t3] H K:=
 acb Cc Tryz.func34 h
end
section
set_option exponentiation.threshold 500
def zLk(x:List (IT×Raw))(f:IT×Raw→Bool)(hl:x.length≤1000000000)(fv:AV)(H:or)(K:Kt)(pl:fv.sc H.length=true)(step:∀(i:Nat) (h:i<x.length),aCallV tP fv [.agg (twC x[i])] H λr H''=>r=.bool (f x[i])∧H''=H)(fin:K (.bool (x.any f)) H):ge tP 117 [.sl (twS x) .none,fv] H K:=by
 refine zRD λmX=>?_;unfold zE1;refine zUv λhs=>?_;simp[zFM];refine zUt (Inv:=λq t8 H'=>∃i:Nat,i≤x.length∧x.length-i=q∧t8=I6 i∧H'=H∧(x.take i).any f=false) x.length ?_ ?_
 ·intro _;exact⟨0,by omega,by omega,rfl,rfl,by simp⟩
 ·rintro q t8 H' ⟨i,hi,rfl,rfl,rfl,iH⟩ hsc fz fM Kb fB;by_cases fy:i<x.length
  ·simp[T5,fy,wX];refine (step i fy).mono' λr H'' fG hle' hr=>?_;obtain⟨rfl,rfl⟩:=hr;cases hfx:f x[i] with
   |true=>
    have:x.any f=true:=d9.2 ⟨x[i],ae fy,hfx⟩;rw[this]at fin;simp;have h0:¬((i:Int)<0):=by omega
    simpa[h0]using fin
   |false=>
    simp;rw[um (by omega) (by omega)];refine fB _ _ ⟨x.length-(i+1),by omega,Back.here (by omega) fG ?_ ⟨_,rfl,i+1,by omega,rfl,by simp,rfl,?_⟩⟩
    ·simp[M9,AV.sc,AV.ZJ,AV.ZH,AV.ZI];exact pl
    ·rw[ag fy,List.any_append,iH];simp[hfx]
  ·obtain rfl:i=x.length:=by omega
   rw[az]at iH;rw[iH]at fin;simp[T5];exact fin
def ycv(eq:List Dat)(hk:vj eq)(t:VT)(ht:t.ZO≤1000)(H:or)(K:Kt)(hf:wC eq t=false)(hK:K (.tup [.agg [I0,.ZG],.bool false]) H):
  ge tP 60 [.sl (eq.map Dat.cs) .none,.agg t.cs] H K:=by
 refine ge.out (YJ λhs=>?_);obtain⟨x,y,z,fD,hx,hy,hz⟩:=ve t;simp[Qn,fD,hx,hy,hz];rw[←fD];refine SO eq hk t (by omega) _ _ ?_;simp[hf,fD,hx,hy,hz];simp[ug,uv,AV.ZP];exact⟨⟨rfl,rfl⟩,Out.tup (bs:=[.agg [I0,.ZG],.bool false]) hs hK ⟨uJ rfl rfl,uJ rfl rfl,trivial⟩⟩
def wP(eq:List Dat)(t:VT)(l:List (IT×Raw)):Bool:=wC eq t && !(l.any λp=>!decide (0≤rdV eq p.1 t))
def Ah{eq:List Dat}{t:VT}{l:List (IT×Raw)}(h:wP eq t l=true):wC eq t=true∧∀p∈l,0≤rdV eq p.1 t:=by unfold wP at h;simpa using h
def Ua{eq:List Dat}(hk:vj eq)(t:VT)(ht:t.ZO≤1000)(l:List (IT × Raw))(hl:l.length≤100000)(hv:∀ p∈l,p.1.ZO≤900)(H:or)(K:Kt)(hK:K (.bool (wP eq t l)) H):
  ge tP 66 [.sl (eq.map Dat.cs) .none,.agg t.cs,.sl (twS l) .none] H K:=by
 refine ge.out (yc0 λhs=>?_);obtain⟨x,y,z,fD,hx,hy,hz⟩:=ve t;cases hf:wC eq t with
 |false=>
  simp[T6,fD,aa];rw[←fD];refine ycv eq hk t ht _ _ hf ?_;simp;have:wP eq t l=false:=by simp[wP,hf]
  rw[this]at hK;exact Out.bool rfl (af _) hs hK
 |true=>
  obtain⟨x3,y3,pD,gL,hy3⟩:=yb (wL t);simp[T6,fD,aa];rw[←fD];refine ycw eq hk t ht _ _ (λ_=>?_) hf;simp[fD,pD,aa,IT.cs_known];refine⟨⟨gL,hy3⟩,?_⟩;rw[←fD,←pD];obtain⟨A,hA⟩:∃A,A=H++[AB.cells [.sl (eq.map Dat.cs) .none],.cells t.cs,.cells (wL t).cs]:=⟨_,rfl⟩;have a0:A[H.length]?=some (.cells [.sl (eq.map Dat.cs) .none]):=by rw[hA];simp[aR]
  have a1:A[H.length+1]?=some (.cells t.cs):=by rw[hA];simp[aR]
  have kN:List.take 3 t.cs=t.cs:=am (by obtain⟨a,b,c⟩:=t;simp[VT.cs]);have kp:t.cs.length=3:=by obtain⟨a,b,c⟩:=t;rfl
  rw[←hA];refine⟨⟨rfl,rfl⟩,?_⟩;refine zLk l (λp=>!decide (0≤rdV eq p.1 t)) (by omega) _ _ _ (show (AV.fn 118 [.ptr H.length 0,.ptr (H.length+1) 0]).sc A.length=true by rw[hA];simp[AV.sc,AV.ZJ,AV.ZH,AV.ZI]) (λi hi=>?_) ?_
  ·have callV:y9 tP 118=true:=by kernel_rfl
   simp only[aCallV,callV,List.singleton_append];refine ge.out (zRG λf9=>?_);simp[zE2,vq a0,vq a1,kN,kp,wY];have h1:=hv _ (ae hi);refine zRK eq hk t ht l[i].1 h1 _ _ ?_;rw[DH hf];simp;exact Out.bool rfl (af _) f9 ⟨by simp,rfl⟩
  ·simp;rw[hA];refine Out.bool rfl (af _) hs ?_;have:wP eq t l=!(l.any λp=>!decide (0≤rdV eq p.1 t)):=by simp[wP,hf]
   rw[←this];exact hK
def wQ(eq:List Dat)(t:VT)(l:List (IT×Raw)):List (IT×Raw):=zbcq eq t (up (uA [] (vals l))) 7
def Ub{n:Nat}(h:n≤8):(1000000000 ^ 9) ^ n≤1000000000 ^ 72:=by rw[←Nat.pow_mul];exact bi (by decide) (by omega)
def zLe{l:List (IT×Raw)}(hl:l.length≤8)(h8:∀p∈l,p.2.ok 8):∀p∈uL [] l,p.2.ok 400:=by
 obtain⟨D,h0,h1,h2⟩:=M2 h8;have hp:=Ub hl;refine zAF h0 (λp hp=>?_) h2 (aI (aC h1 hp) (by decide)) ?_
 ·obtain⟨a,b,c,d⟩:=h8 p hp;exact⟨a,b,by omega,by omega⟩
 ·exact aI (aZ hl hp) (by decide)
def zDT{eq:List Dat}(hk:vj eq)(t:VT)(ht:t.ZO≤250)(hf:wC eq t=true)(l:List (IT × Raw))(hl:l.length≤8)(hw:∀ p∈l,p.1.ZO≤900∧p.2.ok 8∧0≤rdV eq p.1 t)(H A B:or)(hA:A=H++B)(hs:HSc H)(C:List AV)(hC:C=AV.sl (eq.map Dat.cs) .none::t.cs)(K:Kt)(hK:K (.tup [.sl (twS (wQ eq t l)) .none,I0]) H):
  ge tP 42 [.ptr (A.length+2) 0,.sl (twS l) .none] (A++[AB.cells t.cs,.map [],.cells (C++[AV.map (A.length+1),AV.ZG])]) λ_ H1=>
   ge tP 44 [.ptr (A.length+2) 0] H1 λr H2=>uo r 0 λa=>uo r 1 λb=>(a.isV=true∧b.isV=true)∧Out H.length K (.tup [a,b]) H2:=by
 have h8:=BQ hf;have h4:C.length=4:=by rw[hC];obtain⟨a,b,c⟩:=t;rfl
 refine ge.ovC (id:=A.length+2) (j:=5) 55 5 (zCl A t C) (zCj A h4) ?_;rw[zCk A t h4];have fH:∀j,∀p∈uL [] (l.take j),p.2.ok 400:=λj=>zLe (by simp;omega) λp hp=>(hw p (bq hp)).2.1;refine zDQ l (λp hp=>?_) _ _ _ _ _ [] (F4 A t h4) (by simp) (by simp) fH (λp hp=>?_) (by simp;omega) _ ?_
 ·obtain⟨h1,h2,h3⟩:=hw p hp;exact⟨by omega,Tp h8 _ p.1 (af _) t h3⟩
 ·obtain⟨a,b,c,d⟩:=(hw p hp).2.1;exact⟨a,b,by omega,by omega⟩
 ·have hS:=(F4 A t h4).next (s':=uL [] l)
  rw[hC]at hS;have iw:=FZ l [];have gN:=FY l [];have hq:=DG (vals l) [];simp at gN hq;obtain⟨J,hJ⟩:=T4 A t C (uL [] l);refine zDS hk t (by omega) hf _ _ _ _ (uL [] l) (up (uA [] (vals l))) (by rw[hC];exact hS) (λp hp=>?_) (Ca _ _ (by simp)) (by omega) (zAp _) (zAq l) _ (λgA=>?_) (λ_=>?_)
  ·rcases iw p hp with ⟨q,hq,_⟩ | ⟨q,hq,he⟩
   ·simp at hq
   ·obtain⟨p1,p2,p3⟩:=hw q hq;have hr:=Dr (h8:=h8) q.1 t;have ho:=fH l.length p (by rw[az];exact hp);rw[←he];exact⟨by omega,ho,p3,hr.2⟩
  ·simp at gA;omega
  ·simp;rw[hJ,hA,aB];exact⟨⟨rfl,rfl⟩,Out.tup (bs:=[.sl (twS (wQ eq t l)) .none,I0]) hs hK ⟨uJ rfl rfl,uJ rfl rfl,trivial⟩⟩
def Uc{eq:List Dat}(hk:vj eq)(t:VT)(ht:t.ZO≤250)(hf:wC eq t=true)(l:List (IT × Raw))(hl:l.length≤8)(hw:∀ p∈l,p.1.ZO≤900∧p.2.ok 8∧0≤rdV eq p.1 t)(H:or)(K:Kt)(hK:K (.tup [.sl (twS (wQ eq t l)) .none,I0]) H):
  ge tP 67 [.sl (eq.map Dat.cs) .none,.agg t.cs,.sl (twS l) .none] H K:=by
 refine ge.out (yc3 λhs=>?_);obtain⟨x,y,z,fD,hx,hy,hz⟩:=ve t;have qf:¬((2000:Int)<(l.length:Int)):=by omega
 simp[zIV,fD,qf,aa];rw[←fD];refine T3 eq t _ _ ?_;exact zDT hk t ht hf l hl hw H _ _ rfl hs _ rfl K hK
def yB(eq:List Dat)(t:VT)(l:List (IT×Raw)):AV:=if wP eq t l then .tup [.sl (twS (wQ eq t l)) .none,I0] else .tup [.sl [] .none,I1]
def zNn{eq:List Dat}(hk:vj eq)(t:VT)(ht:t.ZO≤250)(l:List (IT × Raw))(hl:l.length≤8)(hw:∀ p∈l,p.1.ZO≤900∧p.2.ok 8)(H:or)(K:Kt)(hK:K (yB eq t l) H):
  ge tP 32 [.sl (eq.map Dat.cs) .none,.agg t.cs,.sl (twS l) .none] H K:=by
 refine ge.out (zZ7 λhs=>?_);obtain⟨x,y,z,fD,hx,hy,hz⟩:=ve t;simp[zHP,fD,aa];rw[←fD];refine Ua hk t (by omega) l (by omega) (λp hp=>(hw p hp).1) _ _ ?_;cases hv:wP eq t l with
 |false=>rw[yB,hv]at hK;simp[fD,aa];exact⟨⟨rfl,rfl⟩,Out.tup (bs:=[.sl [] .none,I1]) hs hK ⟨xd,uJ rfl rfl,trivial⟩⟩
 |true=>rw[yB,hv]at hK;obtain⟨hf,hr⟩:=Ah hv;simp[fD,aa];rw[←fD];refine Uc hk t ht hf l hl (λp hp=>⟨(hw p hp).1,(hw p hp).2,hr p hp⟩) _ _ ?_;simp;exact⟨⟨rfl,rfl⟩,Out.tup (bs:=[.sl (twS (wQ eq t l)) .none,I0]) hs hK ⟨uJ rfl rfl,uJ rfl rfl,trivial⟩⟩
end
section
variable (t0 t1 t12 t13:AV) (H:or) (K:Kt) (Kb4:Lt)
def zZV(_:Nat):List Bool:=[]
def zHL:=ul t0 H λt2 H=>ul t1 H λt3 H=>tN 0 t2 λt5=>tL false 1 t5 H λt6=>tN 0 t3 λt7=>tL false 1 t7 H λt8=>gt .eql false t6 t8 λt9=>agu t9 true H (tN 1 t2) λt11 H=>agu t9 true H (tL false 1 t11 H) λt12 H=>agu t9 true H (tN 1 t3) λt13 H=>agu t9 true H (tL false 1 t13 H) λt14 H=>agc tP t9 true H 64 [t12,t14] λt15 H=>tZ t9 t15 (.bool false) λt16=>K t16 H
def Nd:Nat→List Bool|4=>rl false [0,2,10,2,13]|_=>[]
noncomputable def zyu:=bd Tryz.f64
def Nf:=t0::t1::ux 10 (t12::t13::ux 13 [])
def ycQ:=Nd 4
noncomputable def ycO:=uc [1,1,0,1,0,0] zyu
def ycN:=ud tP Nd [1,1,0,1,0] zyu (uq tP Tryz.f64.results.toList K)
def zIT:=tM tP ycO (ycN K) (Nf t0 t1 t12 t13) H
def Ud:=gt .lss false t13 t12 λt14=>tO t14 (apm H t0 λt16=>apm H t13 λt17=>apu H (tW 2 t16 t17) λt18=>apu H (tY true 2 t18 H) λt19=>apm H t1 λt20=>apm H t13 λt21=>apu H (tW 2 t20 t21) λt22=>apu H (tY true 2 t22 H) λt23=>apc tP H 29 [t19,t23] λt24=>apu H (aUn .not t24) λt25=>tO t25 (K (.bool false) H) (gt .add false t13 I1 λt26=>Kb4 (Nf t0 t1 t12 t26) H)) (K (.bool true) H)
def zIS:=tV 1 t0 λt7=>tV 1 t1 λt9=>gt .neq false t7 t9 λt10=>tO t10 (K (.bool false) H) (tV 1 t0 λt12=>zIT t0 t1 t12 I0 H K)
variable {t0 t1 t12 t13} {H} {K} {Kb4}
def zZX(h:HSc H→zHL t0 t1 H K):ge tP 29 [t0,t1] H K:=
 acb zZV Tryz.func29 h
def ycP:Lo1 (λt13=>Nf t0 t1 t12 t13) (λt13 H Kb4=>Ud t0 t1 t12 t13 H K Kb4) t13 H (zIT t0 t1 t12 t13 H K):=lq1 Nd ycQ
def ycR(h:HSc H→zIS t0 t1 H K):ge tP 64 [t0,t1] H K:=
 acb Nd Tryz.func64 h
end
def ycT(vs:List IT)(hl:vs.length≤1000000)(ja:∀v∈vs,∀(H:or) (K:Kt),K (.bool true) H→ge tP 29 [.agg v.cs,.agg v.cs] H K)(H:or)(K:Kt)(hK:K (.bool true) H):ge tP 64 [.sl (IT.css vs) .none,.sl (IT.css vs) .none] H K:=by
 refine ge.out (ycR λgn=>?_);simp[zIS];refine ycP (Inv:=λq t13 H'=>∃i:Nat,i≤vs.length∧q=vs.length-i∧t13=I6 i∧H'=H) vs.length ?_ ?_
 ·intro _;exact⟨0,by omega,by omega,rfl,rfl⟩
 ·rintro q t13 H' ⟨i,hi,rfl,rfl,rfl⟩ fG fz fM Kb fB;by_cases fy:i<vs.length
  ·simp[Ud,fy];refine ur (.bool true) (λJ=>ja _ (ae fy) _ _ ⟨rfl,rfl⟩) ?_;simp;rw[um (by omega) (by omega)];refine fB _ _ ⟨vs.length-(i+1),by omega,Back.here (by simp) fG ?_ ⟨_,rfl,i+1,by omega,rfl,by simp,rfl⟩⟩;simp[Nf,AV.sc,AV.ZJ,AV.ZH,AV.ZI]
  ·simp[Ud,fy];exact Out.bool (J:=[]) (by simp) (af _) gn hK
def zZY:∀(m:Nat) (v:IT),v.ZO≤m→v.ZO≤1000000→∀(H:or) (K:Kt),K (.bool true) H→ge tP 29 [.agg v.cs,.agg v.cs] H K:=by
 intro m;induction m with
 |zero=>intro v h;have:=v.ZB;omega
 |succ m ih=>
  intro v hv hb H K hK;obtain⟨n,ks⟩:=v;have iM:IT.ZA ks+1≤1000000:=by simpa[IT.ZO]using hb
  have gy:=IT.ZQ ks;refine ge.out (zZX λgn=>?_);simp[zHL,IT.cs,aa];refine ycT ks (by omega) (λv oA=>by
   obtain⟨i,hi,rfl⟩:=bv oA;have:=IT.ZM (n:=n) hi;exact ih _ (by omega) (by omega)) _ _ ?_
  try simp
  exact Out.bool rfl (af _) gn hK
def yfa(eq:List Dat)(fz:eq.length≤9223372036854775807)(t:VT)(H:or)(K:Kt)(hK:∀b,(b=true→vj eq∧t.ZO≤250)→K (.bool b) H):ge tP 10 [.sl (eq.map Dat.cs) .none,.agg t.cs] H K:=by
 refine ge.out (ye9 λhs=>?_);have hO:∀b,(b=true→vj eq∧t.ZO≤250)→∀J,Out H.length K (.bool b) (H++J):=λb h J=>Out.bool rfl (af _) hs (hK b h);obtain⟨x,y,z,fD,hx,hy,hz⟩:=ve t;simp[zq8,fD,aa];refine yaB eq _ _ fz λb1 gJ=>?_;cases b1 with
 |false=>simp;exact hO _ (λh=>by cases h) _
 |true=>
  simp[aa];rw[←fD];refine yaF t _ _ λb2 gF=>?_;try simp
  exact hO _ (λh=>⟨gJ rfl,gF h⟩) _
def t17:VT:=.mk 7 0 [.mk 1 0 []]
def i17:IT:=.mk 1 []
def DlS(f:Nat→Nat):Nat→Nat
 |0=>1
 |b+1=>f (b+1)+DlS f b+f b
def Dl:Nat→Nat→Nat
 |0,_=>1
 |a+1,b=>DlS (Dl a) b
set_option maxRecDepth 100000 in
def yfY:∀a b c d:Fin 7,a.1≤c.1∧b.1≤d.1∧c.1+d.1≤6→Dl a.1 b.1≤Dl c.1 d.1:=by decide
set_option maxRecDepth 100000 in
def yfZ:∀a<7,∀b<7,∀c<7,∀d<7,a+b+c+d≤6→Dl a b*Dl c d≤Dl (a+c) (b+d):=by decide
set_option maxRecDepth 100000 in
def yfX:∀a<7,∀b<7,a+b≤6→uK (λ_=>1) (u9 a b)≤Dl a b:=by decide
def ge.frzV3{P:Program}{H:or}{f:FuncId}{K:Kt}{a b:AV}(id e size n:Nat)(cs:List AV)(es:List (List AV))(hH:H[id]?=some (.vec e size n cs))(hp:plain cs=some es.flatten)(fz:es.length=n)(fP:∀c∈es,c.length=size)(h:ge P f [a,b,.sl es .none] (H.set id .dead) K):ge P f [a,b,.ov id n] H K:=by
 intro B w G vs hR hv;obtain⟨G',hE,oh,hd⟩:=hR.frzV hH hp fz fP;refine(h B w G' vs oh ?_).mono λe w' ⟨v,r,H',G'',k1,k2,k3,k4,k5⟩=>⟨v,r,H',G'',k1,hE.trans k2,k3,k4,k5⟩;generalize vs.toList=l at *
 match l,hv with
 |[u,v,w0],⟨h1,h2,h3,_⟩=>exact⟨hE.trel h1,hE.trel h2,hd w0 h3,trivial⟩
section
variable (t0 t1 t2 t3 t4 t6 t7 t8 t13 t14 t15:AV) (H:or) (K:Kt) (Kb3 Kb4:Lt)
def Ng:Nat→List Bool|4=>rl false [0,1,3,1,8,3,10]|_=>[]
noncomputable def zyx:=bd Tryz.f68
def Nh:=t0::ux 3 (t4::ux 8 (t13::t14::t15::ux 10 []))
def yc7:=Ng 4
noncomputable def yc5:=uc [1,1,0,1,0,0] zyx
def yc4:=ud tP Ng [1,1,0,1,0] zyx (uq tP Tryz.f68.results.toList K)
def zIX:=tM tP yc5 (yc4 K) (Nh t0 t4 t13 t14 t15) H
def Ue:=gt .lss false t15 t14 λt16=>tO t16 (tW 5 t13 t15 λt17=>tL true 5 t17 H λt18=>un [I0,.ZG,(.bool false),.ZG,.ZG] H λt8 H=>ua 5 t8 t18 H λH=>tL true 3 t4 H λt20=>tN 0 t8 λt21=>tL true 2 t21 H λt22=>ge tP 28 [t0,t20,t22] H λt23 H=>aUn .not t23 λt24=>tO t24 (K (.bool false) H) (gt .add false t15 I1 λt25=>Kb4 (Nh t0 t4 t13 t14 t25) H)) (K (.bool true) H)
def zIW:=ul t1 H λt4 H=>tL true 3 t4 H λt10=>ge tP 53 [t0,t10] H λt11 H=>aUn .not t11 λt12=>tO t12 (K (.bool false) H) (tV 1 t2 λt14=>zIX t0 t4 t2 t14 I0 H K)
def Ni:Nat→List Bool|3=>rl false [3,1,2,3,11]|_=>[]
noncomputable def zyz:=bd Tryz.f69
def Nj:=ux 3 (t3::ux 2 (t6::t7::t8::ux 11 []))
def ydd:=Ni 3
noncomputable def ydb:=uc [1,1,0,1,0,0] zyz
def yda:=ud tP Ni [1,1,0,1,0] zyz (uq tP Tryz.f69.results.toList K)
def Nk:=tM tP ydb (yda K) (Nj t3 t6 t7 t8) H
def Uf:=gt .lss false t8 t7 λt9=>tO t9 (tW 5 t6 t8 λt10=>tL true 5 t10 H λt11=>un [I0,.ZG,(.bool false),.ZG,.ZG] H λt5 H=>ua 5 t5 t11 H λH=>tN 0 t5 λt13=>tL true 2 t13 H λt14=>tN 2 t5 λt15=>tL true 3 t15 H λt16=>ge tP 63 [t3,t14,t16] H λt17 H=>gt .add false t8 I1 λt18=>Kb3 (Nj t17 t6 t7 t18) H) (K t3 H)
def zIY:=tV 1 t0 λt7=>Nk .ZG t0 t7 I0 H K
def zZ8(_:Nat):List Bool:=[]
def zHQ:=ul t1 H λt4 H=>tL true 3 t4 H λt10=>ge tP 68 [t0,t10,t2] H λt12 H=>aUn .not t12 λt13=>tO t13 (ut [.ZG,I1] (K · H)) (tV 1 t2 λt15=>gt .gtr false t15 (I6 2000) λt16=>tO t16 (ut [.ZG,(I6 9)] (K · H)) (ge tP 69 [t2] H λt18 H=>tV 1 t18 λt20=>gt .gtr false t20 (I6 1000) λt21=>tO t21 (ut [.ZG,(I6 9)] (K · H)) (tL true 3 t4 H λt23=>ge tP 46 [t0,t23,t18] H λt25 H=>ut [t25,I0] (K · H))))
variable {t0 t1 t2 t3 t4 t6 t7 t8 t13 t14 t15} {H} {K} {Kb3 Kb4}
def yc6:Lo1 (λt15=>Nh t0 t4 t13 t14 t15) (λt15 H Kb4=>Ue t0 t4 t13 t14 t15 H K Kb4) t15 H (zIX t0 t4 t13 t14 t15 H K):=lq1 Ng yc7
def yc8(h:HSc H→zIW t0 t1 t2 H K):ge tP 68 [t0,t1,t2] H K:=
 acb Ng Tryz.func68 h
def ydc:Lo2 (λt3 t8=>Nj t3 t6 t7 t8) (λt3 t8 H Kb3=>Uf t3 t6 t7 t8 H K Kb3) t3 t8 H (Nk t3 t6 t7 t8 H K):=lq2 Ni ydd
def yde(h:HSc H→zIY t0 H K):ge tP 69 [t0] H K:=
 acb Ni Tryz.func69 h
def yaa(h:HSc H→zHQ t0 t1 t2 H K):ge tP 33 [t0,t1,t2] H K:=
 acb zZ8 Tryz.func33 h
end
section
set_option exponentiation.threshold 500
def zCV{eq:List Dat}(hk:vj eq)(h8:∀D∈eq,D.cons.length≤8)(t:VT)(ht:t.ZO≤1000)(s:List (IT×Raw))(mX:∀p∈s,p.1.ZO≤900)(hl:s.length≤1000)(H:or)(K:Kt)(hK:K (.sl (twS (zbcq eq t s 7)) .none) H):ge tP 46 [.sl (eq.map Dat.cs) .none,.agg t.cs,.sl (twS s) .none] H K:=by
 refine ge.out (ybD λhs=>?_);obtain⟨x,y,z,fD,hx,hy,hz⟩:=ve t;simp[zIk,fD,aa];rw[←fD];unfold KN;refine tM.own 7 55 5 rfl ?_;have jK:(H++[AB.cells t.cs]).length=H.length+1:=by simp
 rw[jK,aB];show KN _ _ _ (.sl (twS (zbcq eq t s 0)) (.own (H.length+1))) _ (H++[.cells t.cs,.perm 55 5 0]) _;have p9:∀n,HSc (H++[.cells t.cs,.perm 55 5 n]):=λn=>hs.append (by
  obtain⟨k,m,ks⟩:=t;simp[AB.sc,VT.cs,AV.ZH,AV.ZI])
 refine ybA (Inv:=λq t7 t8 H'=>∃d:Nat,d≤7∧7-d=q∧t8=I6 d∧t7=.sl (twS (zbcq eq t s d)) (.own (H.length+1))∧H'=H++[.cells t.cs,.perm 55 5 (zbcq eq t s d).length]) 7 ?_ ?_
 ·intro _;exact⟨0,by omega,rfl,rfl,rfl,rfl⟩
 ·rintro q t7 t8 H' ⟨d,hd,rfl,rfl,rfl,rfl⟩ jM hlen3 hsF3 Kb3 hKb3;have lQ:=TU (eq:=eq) (t:=t) (s:=s) d;have hdl2:d*s.length≤7000:=aZ (show d≤7 by omega) hl;by_cases fy:d≤6
  ·have fK:(d:Int)≤6:=by omega
   simp[Rm,fK,aa];refine ybB (Inv:=λq t7 t17 H'=>∃j:Nat,j≤s.length∧s.length-j=q∧t17=I6 j∧t7=.sl (twS (zbcq eq t s d++ofW eq t (s.take j) d)) (.own (H.length+1))∧H'=H++[.cells t.cs,.perm 55 5 (zbcq eq t s d++ofW eq t (s.take j) d).length]) s.length ?_ ?_
   ·intro _;exact⟨0,by omega,rfl,rfl,by simp[ofW],by simp[ofW]⟩
   ·rintro q t7 t17 H' ⟨j,hj,rfl,rfl,rfl,rfl⟩ pX nB pY Kb6 kM;by_cases fU:j<s.length
    ·have fC:=zMO (eq:=eq) (t:=t) (d:=d) fU;have hol:(ofW eq t (s.take j) d).length≤1000:=aC M1 (by simp;omega);generalize nX:ofW eq t (s.take j) d=o at *;generalize tr:zbcq eq t s d=A at *;have hn:=mX _ (ae fU);simp[Rk,fU,wX,wY,fD,aa];refine⟨xN _,?_⟩;rw[←fD];refine ye6 hk h8 t ht s[j].1 (by omega) _ _ ?_;by_cases he:rdV eq s[j].1 t=(d:Int)
     ·rw[aN he]at fC;have ib:plain ([I0,.ZG,.bool false,.ZG,.ZG]:List AV)=some [I0,.sl [] .none,.bool false,.sl [] .none,.sl [] .none]:=rfl;simp[he,KO,Rj,wX,uk,uI,FW,ib,wi j (by omega)];simp only[uj,uD,uy];simp[au];refine⟨⟨by omega,by omega⟩,?_⟩;rw[zD6,aB,←fC];have iF:A.length+o.length+1=(A++ofW eq t (s.take (j+1)) d).length:=by rw[fC];simp;omega
      rw[iF];exact kM _ _ ⟨s.length-(j+1),by omega,Back.at (J:=[.cells (twC s[j])]) (H2:=H++[.cells t.cs,.perm 55 5 (A++ofW eq t (s.take (j+1)) d).length]) (by simp) (by simp) (p9 _) (by simp[Fk,ux,AV.sc,AV.ZH,AV.ZI,AV.ZJ]) ⟨_,_,rfl,j+1,by omega,rfl,rfl,rfl,rfl⟩⟩
     ·have qI:(rdV eq s[j].1 t == (d:Int))=false:=by simpa using he
      rw[aG he,aP]at fC;simp[qI,KO,Rj,wi j (by omega)];exact kM _ _ ⟨s.length-(j+1),by omega,Back.at (J:=[.cells (twC s[j])]) (H2:=H++[.cells t.cs,.perm 55 5 (A++o).length]) (by simp) (by simp) (p9 _) (by simp[Fk,ux,AV.sc,AV.ZH,AV.ZI,AV.ZJ]) ⟨_,_,rfl,j+1,by omega,rfl,rfl,by rw[fC],by rw[fC]⟩⟩
    ·obtain rfl:j=s.length:=by omega
     rw[az,←M0];simp[Rk,wi d (by omega)];exact hKb3 _ _ ⟨7-(d+1),by omega,Back.here (by simp) (p9 _) (by simp[KM,ux,AV.sc,AV.ZH,AV.ZI,AV.ZJ]) ⟨_,_,rfl,d+1,by omega,rfl,rfl,rfl,rfl⟩⟩
  ·obtain rfl:d=7:=by omega
   simp[Rm];exact Out.at (b:=.sl (twS (zbcq eq t s 7)) .none) rfl (af _) hs (.atom (.sl _ _)) rfl rfl hK
def Ug{eq:List Dat}(hk:vj eq)(t:VT)(ht:t.ZO≤1000)(l:List (IT × Raw))(hl:l.length≤100000)(hv:∀ p∈l,p.1.ZO≤900)(H:or)(K:Kt)(hK:K (.bool (wP eq t l)) H):
  ge tP 68 [.sl (eq.map Dat.cs) .none,.agg t.cs,.sl (twS l) .none] H K:=by
 refine ge.out (yc8 λhs=>?_);obtain⟨x,y,z,fD,hx,hy,hz⟩:=ve t;simp[zIW,fD,aa];rw[←fD];refine zIy eq hk t (by omega) _ _ ?_;cases hf:wC eq t with
 |false=>
  simp;have:wP eq t l=false:=by simp[wP,hf]
  rw[this]at hK;exact Out.bool rfl (af _) hs hK
 |true=>
  simp;have n7:wP eq t l=!(l.any λp=>!decide (0≤rdV eq p.1 t)):=by simp[wP,hf]
  rw[n7]at hK;have gJ:HSc (H++[.cells t.cs]):=hs.append (by
   obtain⟨t1,t2,t3⟩:=t;simp[AB.sc,AV.ZH,AV.ZI,VT.cs])
  refine yc6 (Inv:=λq t15 H'=>∃i:Nat,i≤l.length∧l.length-i=q∧t15=I6 i∧H'=H++[.cells t.cs]∧((l.take i).any λp=>!decide (0≤rdV eq p.1 t))=false) l.length ?_ ?_
  ·intro _;exact⟨0,by omega,rfl,rfl,rfl,by simp⟩
  ·rintro q t15 H' ⟨i,hi,rfl,rfl,rfl,iH⟩ fG fz fM Kb fB;by_cases fy:i<l.length
   ·have hn:=hv _ (ae fy);simp[Ue,fy,wX,wY,fD,aa];refine⟨xN _,?_⟩;rw[←fD];refine zZU eq hk t ht l[i].1 hn _ _ ?_;rw[DH hf];by_cases hp:0≤rdV eq l[i].1 t
    ·simp[hp,wi i (by omega)];refine fB _ _ ⟨l.length-(i+1),by omega,Back.at (J:=[.cells (twC l[i])]) (H2:=H++[.cells t.cs]) (by simp) (by simp) gJ (by simp[Nh,ux,AV.sc,AV.ZH,AV.ZI,AV.ZJ]) ⟨_,rfl,i+1,by omega,rfl,rfl,rfl,?_⟩⟩;rw[ag fy,List.any_append,iH];simp[hp]
    ·have:(l.any λp=>!decide (0≤rdV eq p.1 t))=true:=d9.2 ⟨l[i],ae fy,by simpa using hp⟩;rw[this]at hK;simp[hp];exact Out.bool rfl (af _) hs hK
   ·obtain rfl:i=l.length:=by omega
    rw[az]at iH;rw[iH]at hK;simp[Ue];exact Out.bool rfl (af _) hs hK
def FitL(L:List (IT×Rat)):Prop:=∃D M,D≠0∧Fits D M L∧D<1000000000 ^ 400∧L.length*M<1000000000 ^ 400
theorem FitL.sub{L X:List (IT×Rat)}(h:FitL L)(hX:∀p∈X,p∈L)(hl:X.length≤L.length):FitL X:=by obtain⟨D,M,h0,h1,h2,h3⟩:=h;exact⟨D,M,h0,h1.sub hX,h2,aI (aD M hl) h3⟩
theorem FitL.cf{L:List (IT×Rat)}(h:FitL L)(i:IT):Lim 400 (cf L i):=by obtain⟨D,M,h0,h1,h2,h3⟩:=h;exact(h1.cf h0 i).lim h2 h3
def FitL.can{L:List (IT×Rat)}(h:FitL L):∀p∈uA [] L,Lim 400 p.2:=by obtain⟨D,M,h0,h1,h2,h3⟩:=h;exactλp hp=>(zAo h0 h1 p hp).lim h2 h3
def FitL.step{L X Y:List (IT×Rat)}{i:IT}{c:Rat}(h:FitL L)(hX:L=X++[(i,c)]++Y):(∀p∈uA [] X,Lim 400 p.2)∧∀p∈uA [] X,IT.cmp p.1 i=0→Lim 400 (p.2+c):=by
 have f9:FitL X:=h.sub (λp hp=>by rw[hX];simp[hp]) (by rw[hX];simp);have gn:FitL (X++[(i,c)]):=h.sub (λp hp=>by rw[hX];exact List.mem_append_left _ hp) (by rw[hX];simp);refine⟨f9.can,λp hp h0=>?_⟩;obtain⟨a1,_,_⟩:=Ag X AU AW;have h1:=F3 a1.nd hp;have oc:=zDf h0;have h2:_root_.Go.Proofs.YtdmamdnkcefmmaaGreatDoor.cf (X++[(i,c)]) i=p.2+c:=by rw[DE,←oc,←h1,DF];simp only[Go.Proofs.YtdmamdnkcefmmaaGreatDoor.cf,MC,br];rw[ce,cJ]
 rw[←h2];exact gn.cf i
def Nl{B:Nat}{L:List (IT×Rat)}(h:∀p∈L,p.1.ZO≤B):∀p∈uA [] L,p.1.ZO≤B:=by
 intro p hp;obtain⟨_,_,h3⟩:=Ag L AU AW;rcases h3 p hp with ⟨q,hq,_⟩|⟨q,hq,he⟩
 ·simp at hq
 ·rw[←he];exact h q hq
def zz1{L X Y:List (IT × Rat)}{i:IT}{c:Raw}(hF:FitL L)(hX:L=X++[(i,c.val)]++Y)(hn:∀ p∈L,p.1.ZO≤1000)(hc:c.ok 400)(fz:L.length≤900000)(id:Nat)(H:or)(K:Kt)(fA:H[id]?=some (.vec 55 5 (uA [] X).length (tw (up (uA [] X)))))(hK:∀ (id':Nat) (H':or),HSc H→HSc H'→H'[id']?=some (.vec 55 5 (uA [] (X++[(i,c.val)])).length (tw (up (uA [] (X++[(i,c.val)])))))→(id'=id∨H.length≤id')→(∀ x,x≠id→x<H.length→H'[x]?=H[x]?)→H.length≤H'.length→K (.ov id' (uA [] (X++[(i,c.val)])).length) H'):
  ge tP 63 [.ov id (uA [] X).length,.agg i.cs,.agg c.cs] H K:=by
 obtain⟨h1,h2⟩:=hF.step hX;have hnX:=Nl (B:=1000) (L:=X) λp hp=>hn p (by rw[hX];simp[hp]);have hlX:=DG X [];have kx:X.length≤L.length:=by rw[hX];simp
 have oQ:(i,c.val)∈L:=by rw[hX];simp
 refine zNJ (uA [] X) i c (hn _ oQ) (λp hp=>⟨hnX p hp,h1 p hp⟩) hc h2 (by simp at hlX;omega) id H K fA ?_;rw[zK2]at hK;exact hK
def zCK{H H':or}(h:∀x,x<H.length→H'[x]?=H[x]?)(hl:H.length≤H'.length):∃J,H'=H++J:=by
 refine⟨H'.drop H.length,aU λj=>?_⟩;by_cases hj:j<H.length
 ·rw[h j hj,ah hj]
 ·rw[aM (by omega),cD];congr 1;omega
def zNK(l:List (IT × Raw))(hl:l.length≤100000)(hn:∀ p∈l,p.1.ZO≤1000∧p.2.ok 400)(hF:FitL (vals l))(H:or)(K:Kt)(hK:∀ (id:Nat) (H':or),HSc H'→H'[id]?=some (.vec 55 5 (uA [] (vals l)).length (tw (up (uA [] (vals l)))))→H.length≤id→(∀ x,x<H.length→H'[x]?=H[x]?)→H.length≤H'.length→K (.ov id (uA [] (vals l)).length) H'):
  ge tP 69 [.sl (twS l) .none] H K:=by
 refine ge.out (yde λhs=>?_);simp[zIY];unfold Nk;refine tM.vec 3 55 5 rfl ?_;show Nk (.ov H.length 0) (.sl (twS l) .none) (I6 l.length) I0 (H++[.vec 55 5 0 []]) (Out H.length K);refine ydc (Inv:=λq t3 t8 H'=>∃j id:Nat,j≤l.length∧l.length-j=q∧t8=I6 j∧t3=.ov id (uA [] (vals (l.take j))).length∧H'[id]?=some (.vec 55 5 (uA [] (vals (l.take j))).length (tw (up (uA [] (vals (l.take j))))))∧H.length≤id∧(∀x,x<H.length→H'[x]?=H[x]?)∧H.length≤H'.length) l.length ?_ ?_
 ·intro _;exact⟨0,H.length,by omega,rfl,rfl,rfl,by simp[vals,uA,up,tw],af _,λx hx=>ah hx,by simp⟩
 ·rintro q t3 t8 H' ⟨j,id,hj,rfl,rfl,rfl,fA,gW,je,fz⟩ fG iF fM Kb fB;by_cases fy:j<l.length
  ·obtain⟨gx,ig⟩:=hn _ (ae fy);have fN:vals (l.take (j+1))=vals (l.take j)++[(l[j].1,l[j].2.val)]:=by rw[ag fy,zEo];rfl
   have kJ:=uR fA;simp[Uf,fy,wX,wY,xD];refine⟨xN _,?_⟩;try simp[xD]
   have sq:vals l=vals (l.take j)++[(l[j].1,l[j].2.val)]++vals (l.drop (j+1)):=by rw[←fN,←zEo,aJ]
   refine zz1 hF sq (λp hp=>?_) ig (by simp;omega) id _ _ (vq fA) (λid' H2 k0 k1 k2 k3 k4 k5=>?_)
   ·obtain⟨r,hr,rfl⟩:=aF.1 hp;exact(hn r hr).1
   ·rw[←fN]at k2 ⊢;simp at k5;simp[wi j (by omega)];have hid2:=uR k2;refine fB _ _ ⟨l.length-(j+1),by omega,Back.here (by omega) k1 (by simp[Nj,ux,AV.sc,AV.ZH,AV.ZI,AV.ZJ];omega) ⟨_,_,rfl,j+1,id',by omega,rfl,rfl,rfl,k2,?_,?_,by omega⟩⟩
    ·rcases k3 with rfl | k3
     ·exact gW
     ·simp at k3;omega
    ·intro x hx;rw[k4 x (by omega) (by simp;omega),ah (by omega),je x hx]
  ·obtain rfl:j=l.length:=by omega
   rw[az]at *;simp[Uf];have kJ:=uR fA;refine Out.at (J:=[]) (H2:=H') (b:=.ov id (uA [] (vals l)).length) (by simp) fz fG .rfl' rfl (by simp[AV.ZJ,AV.ZH,AV.ZI];omega) ?_;exact hK id H' fG fA gW je fz
def zNy{l:List (IT×Raw)}(hl:l.length≤8)(h8:∀p∈l,p.2.ok 8):FitL (vals l):=by obtain⟨D,h0,h1,h2⟩:=M2 h8;have hp:=Ub hl;refine⟨D,_,h0,h2,aI (aC h1 hp) (by decide),?_⟩;rw[TX];exact aI (aZ hl hp) (by decide)
def Uh{eq:List Dat}(hk:vj eq)(t:VT)(ht:t.ZO≤250)(l:List (IT × Raw))(hl:l.length≤8)(hw:∀ p∈l,p.1.ZO≤900∧p.2.ok 8)(H:or)(K:Kt)(hK:K (yB eq t l) H):
  ge tP 33 [.sl (eq.map Dat.cs) .none,.agg t.cs,.sl (twS l) .none] H K:=by
 refine ge.out (yaa λhs=>?_);obtain⟨x,y,z,fD,hx,hy,hz⟩:=ve t;simp[zHQ,fD,aa];rw[←fD];refine Ug hk t (by omega) l (by omega) (λp hp=>(hw p hp).1) _ _ ?_;cases hv:wP eq t l with
 |false=>rw[yB,hv]at hK;simp[fD,aa];exact⟨⟨rfl,rfl⟩,Out.tup (bs:=[.sl [] .none,I1]) hs hK ⟨xd,uJ rfl rfl,trivial⟩⟩
 |true=>
  rw[yB,hv]at hK;obtain⟨hf,hr⟩:=Ah hv;have h8:=BQ hf;have qf:¬((2000:Int)<(l.length:Int)):=by omega
  simp[fD,qf,aa];rw[←fD];refine zNK l (by omega) (λp hp=>?_) (zNy hl λp hp=>(hw p hp).2) _ _ (λid H' k1 k2 k3 k4 k5=>?_)
  ·obtain⟨h1,a,b,c,d⟩:=hw p hp;exact⟨by omega,a,b,by omega,by omega⟩
  ·have hq:=DG (vals l) [];simp at hq;have oF:¬ ((1000:Int)<((uA [] (vals l)).length:Int)):=by omega
   simp at k3 k5;have hb:H'[H.length]?=some (.cells t.cs):=by rw[k4 _ (by simp)];simp
   have kN:List.take 3 t.cs=t.cs:=am (by obtain⟨a,b,c⟩:=t;simp[VT.cs]);have kp:t.cs.length=3:=by obtain⟨a,b,c⟩:=t;rfl
   simp[oF,hb,kN,kp];refine ge.frzV3 id 55 5 (uA [] (vals l)).length (tw (up (uA [] (vals l)))) (twS (up (uA [] (vals l)))) k2 (by rw[KT];exact FX _) (by simp) (λc hc=>by
    obtain⟨p,_,rfl⟩:=aF.1 hc;simp) ?_
   have qE:=Nl (B:=900) (L:=vals l) λp hp=>by obtain⟨r,hr,rfl⟩:=aF.1 hp;exact(hw r hr).1
   refine zCV hk h8 t (by omega) (up (uA [] (vals l))) (λp hp=>by
    obtain⟨r,hr,rfl⟩:=aF.1 hp;exact qE r hr) (by simp;omega) _ _ ?_
   obtain⟨J,hJ⟩:=zCK (H:=H) (H':=H'.set id .dead) (λx hx=>by
    rw[aj (by omega),k4 x (by simp;omega),ah hx]) (by simp;omega)
   rw[hJ];exact⟨⟨rfl,rfl⟩,Out.tup (bs:=[.sl (twS (wQ eq t l)) .none,I0]) hs hK ⟨uJ rfl rfl,uJ rfl rfl,trivial⟩⟩
def vG(l:List (IT×Nat))(q:Rat):List (IT×Rat):=l.map λp=>(p.1,(p.2:Rat)*q)
@[simp] theorem zN5(l:List (IT×Nat))(q:Rat):(vG l q).length=l.length:=by simp[vG]
def zN9(l:List (IT×Nat))(q:Rat):yA l q=up (vG l q):=by simp[yA,vG,up]
def zN6{l:List (IT×Nat)}{q:Rat}{j:Nat}(h:j<l.length):vG (l.take (j+1)) q=vG (l.take j) q++[(l[j].1,(l[j].2:Rat)*q)]:=by rw[ag h];simp only[vG,a6,aL,bI]
def mT(eq:List Dat)(t:VT)(v w:IT):List (IT×Nat):=wg eq (v.ZO+w.ZO) t v w
def mF(eq:List Dat)(t:VT)(v w:IT):List (IT×Nat):=we eq (v.ZO+w.ZO) t v w
def rwG(f:IT→IT→List (IT×Nat))(v:IT×Raw)(q:List (IT×Raw)):List (IT×Rat):=q.flatMap λw=>vG (f v.1 w.1) (v.2.val*w.2.val)
def uH(f:IT→IT→List (IT×Nat))(p q:List (IT×Raw)):List (IT×Rat):=p.flatMap λv=>rwG f v q
section
variable {f:IT→IT→List (IT×Nat)} {p q:List (IT×Raw)}
theorem Ui{v:IT×Raw}{j:Nat}(h:j<q.length):rwG f v (q.take (j+1))=rwG f v (q.take j)++vG (f v.1 q[j].1) (v.2.val*q[j].2.val):=by rw[ag h];simp only[rwG,bF,bj,dc,aP]
theorem Uj{j:Nat}(h:j<p.length):uH f (p.take (j+1)) q=uH f (p.take j) q++rwG f p[j] q:=by rw[ag h];simp only[uH,bF,bj,dc,aP]
theorem zCS(f:IT→IT→List (IT×Nat))(p q:List (IT×Raw)){j1 j2:Nat}(h1:j1<p.length)(h2:j2<q.length):uH f p q=(uH f (p.take j1) q++rwG f p[j1] (q.take j2))++vG (f p[j1].1 q[j2].1) (p[j1].2.val*q[j2].2.val)++(rwG f p[j1] (q.drop (j2+1))++uH f (p.drop (j1+1)) q):=by
 have e1:uH f p q=uH f (p.take (j1+1)) q++uH f (p.drop (j1+1)) q:=by
  conv=>lhs;rw[←aJ (j1+1) p]
  simp only[uH,bF]
 have e2:rwG f p[j1] q=rwG f p[j1] (q.take (j2+1))++rwG f p[j1] (q.drop (j2+1)):=by
  conv=>lhs;rw[←aJ (j2+1) q]
  simp only[rwG,bF]
 rw[e1,Uj h1,e2,Ui h2];simp only[aB]
theorem zNz{n m k:Nat}(hp:p.length≤n)(hq:q.length≤m)(hf:∀v∈p,∀w∈q,(f v.1 w.1).length≤k):(uH f p q).length≤n*(m*k):=by
 have h2:∀(q':List (IT×Raw)) (v:IT×Raw),(∀w∈q',(f v.1 w.1).length≤k)→(rwG f v q').length≤q'.length*k:=by
  intro q' v;induction q' with
  |nil=>simp[rwG]
  |cons w q' ih=>intro h;have:=ih λw hw=>h w (by simp[hw]);have h1:=h w (by simp);simp only[rwG,bj,aH,zN5,List.length_cons,bD]at this ⊢;omega
 have h3:∀p':List (IT×Raw),(∀v∈p',∀w∈q,(f v.1 w.1).length≤k)→(uH f p' q).length≤p'.length*(m*k):=by
  intro p';induction p' with
  |nil=>simp[uH]
  |cons v p' ih=>intro h;have h1:=ih λv hv=>h v (by simp[hv]);have h4:=h2 q v (h v (by simp));have h5:q.length*k≤m*k:=aD _ hq;simp only[uH,bj,aH,List.length_cons,bD]at h1 ⊢;omega
 exact aC (h3 p hf) (aD _ hp)
theorem zNA{x:IT×Rat}(h:x∈uH f p q):∃v∈p,∃w∈q,∃y∈f v.1 w.1,x=(y.1,(y.2:Rat)*(v.2.val*w.2.val)):=by obtain⟨v,hv,h⟩:=cG.1 h;obtain⟨w,hw,h⟩:=cG.1 h;obtain⟨y,hy,rfl⟩:=aF.1 h;exact⟨v,hv,w,hw,y,hy,rfl⟩
end
theorem Uk(i:IT)(q:Rat):∀ l:List (IT × Nat),cf (vG l q) i=(uB (λj=>if IT.same j i then 1 else 0) l:Nat)*q
 |[]=>by simp[vG,cf]
 |p::l=>by
  have ih:=Uk i q l;show cf ((p.1,(p.2:Rat)*q)::vG l q) i=_;rw[cf,ih,yu];by_cases h:IT.same p.1 i=true
  ·simp only[h,br,dX];rw[Rat.natCast_add,Rat.add_mul]
  ·simp only[h,ba,aK,Nat.mul_zero,aX];rw[cJ]
theorem zDb{f g:IT→IT→List (IT × Nat)}(rE:∀ v w,∀ h:IT→Nat,uB h (f v w)=uB h (g v w))(i:IT)(v:IT × Raw):∀ q,cf (rwG f v q) i=cf (rwG g v q) i
 |[]=>rfl
 |w::q=>by have ih:=zDb rE i v q;simp only[rwG,bj]at ih ⊢;rw[DE,DE,ih,Uk,Uk,rE]
theorem zCR{f g:IT→IT→List (IT × Nat)}(rE:∀ v w,∀ h:IT→Nat,uB h (f v w)=uB h (g v w))(i:IT)(q:List (IT × Raw)):∀ p,cf (uH f p q) i=cf (uH g p q) i
 |[]=>rfl
 |v::p=>by have ih:=zCR rE i q p;simp only[uH,bj]at ih ⊢;rw[DE,DE,ih,zDb rE]
def zNB(eq:List Dat)(t:VT)(p q:List (IT×Raw)):uA [] (uH (mT eq t) p q)=uA [] (uH (mF eq t) p q):=
 zK1 λi=>zCR (λv w h=>(Dy eq _).1 t v w h) i q p
theorem zCn{eq:List Dat}{t:VT}(s:List (IT × Raw)):∀ d:Nat,(zbcq eq t s d).length=(s.filter λp=>decide (0≤rdV eq p.1 t∧rdV eq p.1 t<(d:Int))).length
 |0=>by
  have:(s.filter λp=>decide (0≤rdV eq p.1 t∧rdV eq p.1 t<((0:Nat):Int)))=[]:=List.filter_eq_nil_iff.2 λp _=>by simp
  rw[this];simp[zbcq]
 |d+1=>by
  rw[M0,aH,zCn s d];unfold ofW;induction s with
  |nil=>simp
  |cons p s ih=>
   simp only[dz];have h1:((d+1:Nat):Int)=(d:Int)+1:=by omega
   simp only[h1]at ih ⊢;by_cases ha:0≤rdV eq p.1 t∧rdV eq p.1 t<(d:Int)
   ·have hb:¬ rdV eq p.1 t=(d:Int):=by omega
    have hc:0≤rdV eq p.1 t∧rdV eq p.1 t<(d:Int)+1:=by omega
    have nh:(rdV eq p.1 t == (d:Int))=false:=by simpa using hb
    simp only[ha,hc,nh,and_self,dT,br,ba,aK,List.length_cons];omega
   ·by_cases hb:rdV eq p.1 t=(d:Int)
    ·have hc:0≤rdV eq p.1 t∧rdV eq p.1 t<(d:Int)+1:=by omega
     have nh:(rdV eq p.1 t == (d:Int))=true:=by simpa using hb
     simp only[bz ha,bG hc,nh,br,ba,aK,List.length_cons];omega
    ·have hc:¬ (0≤rdV eq p.1 t∧rdV eq p.1 t<(d:Int)+1):=by omega
     simp only[ha,hc,decide_false,ba,aK];have nh:(rdV eq p.1 t == (d:Int))=false:=by simpa using hb
     simp only[nh,ba,aK];exact ih
def zCo{eq:List Dat}{t:VT}{s:List (IT×Raw)}{d:Nat}:(zbcq eq t s d).length≤s.length:=by rw[zCn];exact cT _ _
theorem zCq{eq:List Dat}{t:VT}{s:List (IT × Raw)}:∀ d:Nat,(zbcq eq t s d).Pairwise λa b=>rdV eq a.1 t≤rdV eq b.1 t
 |0=>by simp[zbcq]
 |d+1=>by
  rw[M0,List.pairwise_append];refine⟨zCq d,?_,λa ha b hb=>?_⟩
  ·rw[List.pairwise_iff_forall_sublist];intro a b gc;have h1:=gc.subset (bu);have h2:=gc.subset (be a bu);have e1:rdV eq a.1 t=(d:Int):=by simpa using (cx.1 h1).2
   have e2:rdV eq b.1 t=(d:Int):=by simpa using(cx.1 h2).2
   omega
  ·obtain⟨k,hk,ha⟩:=cG.1 ha;have e1:rdV eq a.1 t=(k:Int):=by simpa using (cx.1 ha).2
   have e2:rdV eq b.1 t=(d:Int):=by simpa using(cx.1 hb).2
   have:=bP.1 hk;omega
structure Cn (eq:List Dat) (t:VT) (B D:Nat) (p:List (IT × Raw)):Prop where
 d0:D≠0
 dle:D≤1000000000 ^ 72
 len:p.length≤8
 mem:∀v∈p,v.1.ZO≤B∧0≤rdV eq v.1 t∧v.2=ofR v.2.val∧Fit D (8*1000000000 ^ 72) v.2.val
 asc:p.Pairwise λa b=>rdV eq a.1 t≤rdV eq b.1 t
def Cn.last{eq:List Dat}{t:VT}{B D:Nat}{p:List (IT×Raw)}(h:Cn eq t B D p){n:Nat}(hn:p.length=n+1):∀v∈p,rdV eq v.1 t≤rdV eq (p[n]'(by omega)).1 t:=by
 intro v hv;obtain⟨k,hk,rfl⟩:=bv hv;by_cases he:k=n
 ·subst he;exact Int.le_refl _
 ·exact cX.1 h.asc k n hk (by omega) (by omega)
def Cd{eq:List Dat}{t:VT}{B:Nat}{l:List (IT×Raw)}(hl:l.length≤8)(hw:∀p∈l,p.1.ZO≤B∧p.2.ok 8∧0≤rdV eq p.1 t):∃D,Cn eq t B D (wQ eq t l):=by
 obtain⟨D,h0,h1,h2⟩:=M2 (l:=l) λp hp=>(hw p hp).2.1;have hp:=Ub hl;have hq:=DG (vals l) [];simp at hq;refine⟨D,h0,aC h1 hp,aC zCo (by simp;omega),λv hv=>?_,zCq 7⟩;obtain⟨q,rU,rfl⟩:=aF.1 (zCp v hv);obtain⟨_,_,h3⟩:=Ag (vals l) AU AW;have hF:=zAo h0 h2 q rU;rcases h3 q rU with ⟨r,hr,_⟩|⟨r,hr,he⟩
 ·simp at hr
 ·obtain⟨r',jr,rfl⟩:=aF.1 hr;obtain⟨w1,w2,w3⟩:=hw r' jr;simp only at he ⊢;rw[←he];refine⟨w1,w3,by rw[wt],?_⟩;rw[wt];refine hF.mono ?_;rw[TX];exact aZ hl hp
def Ul{eq:List Dat}{t:VT}{B C D E:Nat}{p q:List (IT × Raw)}(hp:Cn eq t B D p)(hq:Cn eq t C E q){f:IT→IT→List (IT × Nat)}(hf:∀ v∈p,∀ w∈q,(∀ y∈f v.1 w.1,y.2≤729∧0≤rdV eq y.1 t∧y.1.ZO≤B+C)∧(f v.1 w.1).length≤729):
  FitL (uH f p q)∧(uH f p q).length≤46656∧∀x∈uH f p q,x.1.ZO≤B+C∧0≤rdV eq x.1 t∧Lim 400 x.2:=by
 have fz:(uH f p q).length≤46656:=aC (zNz hp.len hq.len λv hv w hw=>(hf v hv w hw).2) (by decide);have hDE:D*E<1000000000 ^ 400:=aI (aZ hp.dle hq.dle) (by decide);have gC:∀x∈uH f p q,Fit (D*E) (729*((8*1000000000 ^ 72)*(8*1000000000 ^ 72))) x.2∧x.1.ZO≤B+C∧0≤rdV eq x.1 t:=λx hx=>by obtain⟨v,hv,w,hw,y,hy,rfl⟩:=zNA hx;obtain⟨y1,y2,y3⟩:=(hf v hv w hw).1 y hy;exact⟨(Fit.nat (((hp.mem v hv).2.2.2).mul (hq.mem w hw).2.2.2) y.2).mono (aD _ y1),y3,y2⟩
 refine⟨⟨D*E,_,cO hp.d0 hq.d0,λx hx=>(gC x hx).1,hDE,aI (aD _ fz) (by decide)⟩,fz,λx hx=>?_⟩;obtain⟨h1,h2,h3⟩:=gC x hx;exact⟨h2,h3,h1.lim hDE (by decide)⟩
def zBM{eq:List Dat}(h8:∀ D∈eq,D.cons.length≤8){t:VT}{v w:IT}(hv:0≤rdV eq v t)(hw:0≤rdV eq w t)(h6:rdV eq v t+rdV eq w t≤6):
  (∀y∈mT eq t v w,y.2≤729∧0≤rdV eq y.1 t∧y.1.ZO≤v.ZO+w.ZO)∧(mT eq t v w).length≤729:=by
 obtain⟨P1,P2,P3,P4⟩:=zAf h8 (f:=v.ZO+w.ZO) (t:=t) (i:=v) (j:=w) (af _) hv hw h6;exact⟨λy hy=>⟨(P1 y hy).2.1,(P1 y hy).2.2.1,(P1 y hy).2.2.2.2.2.2⟩,P4⟩
def Um{eq:List Dat}(h8:∀ D∈eq,D.cons.length≤8){t:VT}{v w:IT}(hv:0≤rdV eq v t)(hw:0≤rdV eq w t)(h6:rdV eq v t+rdV eq w t≤6):
  (∀y∈mF eq t v w,y.2≤729∧0≤rdV eq y.1 t∧y.1.ZO≤v.ZO+w.ZO)∧(mF eq t v w).length≤729:=by
 obtain⟨R1,R2⟩:=(xV h8 (v.ZO+w.ZO)).1 t v w (af _) hv hw h6;have h2:=aC R2 (xW h6);have h3:=BV λp hp=>(R1 p hp).1;exact⟨λy hy=>⟨aC (Ab hy) h2,(R1 y hy).2.1,(R1 y hy).2.2.2.2.2⟩,aC h3 h2⟩
def FitL.mem{L:List (IT×Rat)}(h:FitL L):∀p∈L,Lim 400 p.2:=by obtain⟨D,M,h0,h1,h2,h3⟩:=h;intro p hp;refine(h1 p hp).lim h2 (aI ?_ h3);have:1≤L.length:=List.length_pos_of_mem hp;exact aC (by omega:M≤1*M) (aD M this)
def FitL.coll{L:List (IT×Rat)}(h:FitL L):∀x∈uL [] (up L),x.2.ok 400:=by have hm:=h.mem;obtain⟨D,M,h0,h1,h2,h3⟩:=h;refine zAF h0 (λp hp=>?_) (by rw[zEq];exact h1) h2 (by rw[Rq];exact h3);obtain⟨q,hq,rfl⟩:=aF.1 hp;exact x7 (hm q hq)
theorem Cn.ok{eq:List Dat}{t:VT}{B D:Nat}{p:List (IT×Raw)}(h:Cn eq t B D p):∀v∈p,v.2.ok 400:=by intro v hv;obtain⟨_,_,h1,h2⟩:=h.mem v hv;rw[h1];exact x7 (h2.lim (aI h.dle (by decide)) (by decide))
def Nm(eq:List Dat)(t:VT)(p:List (IT × Raw)):Int:=match p.getLast? with
 |some v=>rdV eq v.1 t
 |none=>0
def DI{eq:List Dat}{t:VT}{p:List (IT×Raw)}{n:Nat}(hn:p.length=n+1):Nm eq t p=rdV eq (p[n]'(by omega)).1 t:=by
 have:p.getLast?=some (p[n]'(by omega)):=by rw[List.getLast?_eq_getElem?,show p.length-1=n by omega,aw (by omega)]
 unfold Nm;rw[this]
def yi(eq:List Dat)(t:VT)(p q:List (IT×Raw)):AV:=
 if p=[]∨q=[] then .tup [.sl [] .none,I0]
 else if 6<Nm eq t p+Nm eq t q then .tup [.sl [] .none,I6 13]
 else if 1000<(uA [] (uH (mF eq t) p q)).length then .tup [.sl [] .none,I6 9]
 else .tup [.sl (twS (zbcq eq t (up (uA [] (uH (mF eq t) p q))) 7)) .none,I0]
def yj(eq:List Dat)(t:VT)(l m:List (IT×Raw)):AV:=
 if wP eq t l && wP eq t m then yi eq t (wQ eq t l) (wQ eq t m) else .tup [.sl [] .none,I1]
def zNo{eq:List Dat}(hk:vj eq)(t:VT)(ht:t.ZO≤250)(l m:List (IT × Raw))(hl:l.length≤8)(hm:m.length≤8)(jq:∀ p∈l,p.1.ZO≤40∧p.2.ok 8)(kz:∀ p∈m,p.1.ZO≤40∧p.2.ok 8)(H:or)(K:Kt)(hK:K (yj eq t l m) H):
  ge tP 34 [.sl (eq.map Dat.cs) .none,.agg t.cs,.sl (twS l) .none,.sl (twS m) .none] H K:=by
 refine ge.out (yag λhs=>?_);obtain⟨x,y,z,fD,hx,hy,hz⟩:=ve t;have hO:∀(e:Int) J,yj eq t l m=.tup [.sl [] .none,I6 e]→Out H.length K (.tup [.ZG,I6 e]) (H++J):=λe J he=>Out.tup (bs:=[.sl [] .none,I6 e]) hs (by rw[←he];exact hK) ⟨xd,uJ rfl rfl,trivial⟩;simp[zHR,fD,aa];rw[←fD];refine Ua hk t (by omega) l (by omega) (λp hp=>by have:=jq p hp;omega) _ _ ?_;cases iW:wP eq t l with
 |false=>simp[fD,aa];exact⟨⟨rfl,rfl⟩,hO 1 _ (by simp[yj,iW])⟩
 |true=>
 simp[fD,aa];rw[←fD];refine Ua hk t (by omega) m (by omega) (λp hp=>by have:=kz p hp;omega) _ _ ?_;cases jS:wP eq t m with
 |false=>simp[fD,aa];exact⟨⟨rfl,rfl⟩,hO 1 _ (by simp[yj,jS])⟩
 |true=>
 obtain⟨hf,i9⟩:=Ah iW;obtain⟨_,ij⟩:=Ah jS;have h8:=BQ hf;obtain⟨tG,jn⟩:vM eq=true∧uW eq 0 t=true:=by unfold wC at hf;simpa using hf
 simp[fD,aa];rw[←fD];refine Uc hk t ht hf l hl (λp hp=>⟨by have:=jq p hp;omega,(jq p hp).2,i9 p hp⟩) _ _ ?_;simp[fD,aa];rw[←fD];refine Uc hk t ht hf m hm (λp hp=>⟨by have:=kz p hp;omega,(kz p hp).2,ij p hp⟩) _ _ ?_;obtain⟨D1,wp⟩:=Cd (eq:=eq) (t:=t) (B:=40) hl λp hp=>⟨(jq p hp).1,(jq p hp).2,i9 p hp⟩;obtain⟨D2,wq⟩:=Cd (eq:=eq) (t:=t) (B:=40) hm λp hp=>⟨(kz p hp).1,(kz p hp).2,ij p hp⟩;have kH:yj eq t l m=yi eq t (wQ eq t l) (wQ eq t m):=by simp[yj,iW,jS]
 rw[kH]at hO hK;clear kH;generalize wQ eq t l=p at *;generalize wQ eq t m=q at *;by_cases ib:p=[]
 ·subst ib;simp[twS];exact⟨⟨rfl,rfl⟩,hO 0 _ (by simp[yi])⟩
 by_cases oH:q=[]
 ·subst oH;have:(p.length == 0)=false:=by simpa using ib
  have qg:((p.length:Int) == 0)=false:=by simpa using ib
  simp[twS,qg];exact⟨⟨rfl,rfl⟩,hO 0 _ (by simp[yi])⟩
 obtain⟨n1,gx⟩:∃n,p.length=n+1:=⟨p.length-1,by have:=bV.2 ib;omega⟩;obtain⟨n2,ig⟩:∃n,q.length=n+1:=⟨q.length-1,by have:=bV.2 oH;omega⟩;have gQ:=wp.len;have jw:=wq.len;have k1:n1<p.length:=by omega
 have k2:n2<q.length:=by omega
 have w1:IntKind.i64.wrap (n1:Int)=(n1:Int):=um (by omega) (by omega);have w2:IntKind.i64.wrap (n2:Int)=(n2:Int):=um (by omega) (by omega);obtain⟨e1,e2,_,_⟩:=wp.mem _ (ae k1);obtain⟨g1,g2,_,_⟩:=wq.mem _ (ae k2);have r1:=Dr (h8:=h8) p[n1].1 t;have r2:=Dr (h8:=h8) q[n2].1 t;have qG:=DI (eq:=eq) (t:=t) gx;have o7:=DI (eq:=eq) (t:=t) ig;have w3:IntKind.i64.wrap (rdV eq p[n1].1 t+rdV eq q[n2].1 t)=rdV eq p[n1].1 t+rdV eq q[n2].1 t:=um (by omega) (by omega);have z1:((n1:Int)+1 == 0)=false:=by simp;omega
 have z2:((n2:Int)+1 == 0)=false:=by simp;omega
 simp[fD,gx,ig,z1,z2,w1,w2,k1,k2,wY,wX,aa];rw[←fD];refine⟨by omega,?_⟩;refine ur (I6 (rdV eq p[n1].1 t)) (λJ=>Dt eq hk t (by omega) p[n1].1 (by omega) _ _ ⟨by rw[DH hf],rfl⟩) ?_;refine⟨by omega,?_⟩;refine ur (I6 (rdV eq q[n2].1 t)) (λJ=>Dt eq hk t (by omega) q[n2].1 (by omega) _ _ ⟨by rw[DH hf],rfl⟩) ?_;by_cases jN:6<rdV eq p[n1].1 t+rdV eq q[n2].1 t
 ·simp[w3,jN];exact⟨⟨rfl,rfl⟩,hO 13 _ (by simp[yi,ib,oH,qG,o7,jN])⟩
 have qh:∀v∈p,∀w∈q,rdV eq v.1 t+rdV eq w.1 t≤6:=λv hv w hw=>by have:=wp.last gx v hv;have:=wq.last ig w hw;omega
 have iR:yi eq t p q=if 1000<(uA [] (uH (mT eq t) p q)).length then .tup [.sl [] .none,I6 9] else .tup [.sl (twS (zbcq eq t (up (uA [] (uH (mT eq t) p q))) 7)) .none,I0]:=by rw[zNB];simp[yi,ib,oH,qG,o7,jN]
 obtain⟨mt,nG,oI⟩:=Ul wp wq (f:=mT eq t) λv hv w hw=>by obtain⟨v1,v2,_,_⟩:=wp.mem v hv;obtain⟨u1,u2,_,_⟩:=wq.mem w hw;obtain⟨a,b⟩:=zBM h8 (t:=t) v2 u2 (qh v hv w hw);exact⟨λy hy=>by obtain⟨y1,y2,y3⟩:=a y hy;exact⟨y1,y2,by omega⟩,b⟩
 simp[fD,w3,jN,aa];rw[←fD];obtain⟨A,hA⟩:∃A,A=H++[AB.cells t.cs]:=⟨_,rfl⟩;have kv:A.length=H.length+1:=by rw[hA];simp
 have a0:A[H.length]?=some (.cells t.cs):=by rw[hA];simp
 have hAs:HSc A:=by rw[hA];refine hs.append ?_;obtain⟨t1,t2,t3⟩:=t;simp[AB.sc,AV.ZH,AV.ZI,VT.cs]
 rw[←hA];obtain⟨Q,hQ⟩:∃Q:List AV,Q=AV.sl (eq.map Dat.cs) .none::t.cs:=⟨_,rfl⟩;have h4:Q.length=4:=by rw[hQ];obtain⟨a,b,c⟩:=t;rfl
 have hQs:∀n,Q.all (AV.ZH n)=true:=λn=>by rw[hQ];obtain⟨a,b,c⟩:=t;simp[AV.ZH,AV.ZI,VT.cs]
 have kN:List.take 3 t.cs=t.cs:=am (by obtain⟨a,b,c⟩:=t;simp[VT.cs]);have kp:t.cs.length=3:=by obtain⟨a,b,c⟩:=t;rfl
 refine T3 eq t _ _ ?_;rw[←hQ];unfold Nb;refine tM.ovC (id:=A.length+2) (j:=5) 55 5 (zCl A t Q) (zCj A h4) ?_;rw[zCk A t h4];obtain⟨G,hG⟩:∃G:List (IT×Raw)→or,G=λs=>sx (opX A t Q) (A.length+2) (A.length+1) (A.length+3) Q s:=⟨_,rfl⟩;have hS:∀s,Sx (G s) (A.length+2) (A.length+1) (A.length+3) Q s:=λs=>by rw[hG];exact(F4 A t h4).next
 have hG0:opX A t Q=G []:=by rw[hG];exact((F4 A t h4).self).symm
 have hGs:∀s,HSc (G s):=λs=>by rw[hG];refine(F4 A t h4).hsc ?_;unfold opX;refine hAs.append ?_;simp only[AB.sc,List.all_cons,List.all_nil,bl,hQs];obtain⟨t1,t2,t3⟩:=t;simp[AV.ZH,AV.ZI,VT.cs]
 have qH:∀s,(G s).length=A.length+4:=λs=>by rw[hG];simp[opX]
 have hGG:∀s s' J,sx (G s++J) (A.length+2) (A.length+1) (A.length+3) Q s'=G s'++J:=λs s' J=>by rw[(hS s).sw_app,hG];simp only;rw[zPu (by omega) (by omega) (by omega)]
 have b0:∀s,(G s)[H.length]?=some (.cells t.cs):=λs=>by rw[hG];exact zMZ a0
 have je:∀s,∃J,G s=A++J:=λs=>by rw[hG];exact T4 A t Q s
 clear hG;show Nb (.sl (eq.map Dat.cs) .none) (.ptr H.length 0) (.sl (twS q) .none) (.ptr (A.length+2) 0) (.sl (twS p) .none) (I6 ((n1:Int)+1)) I0 (opX A t Q) (Out H.length K);rw[hG0,show ((n1:Int)+1)=(p.length:Int) by omega];refine yad (Inv:=λr t89 H'=>∃j1:Nat,j1≤p.length∧p.length-j1=r∧t89=I6 j1∧H'=G (uL [] (up (uH (mT eq t) (p.take j1) q)))) p.length ?_ ?_
 ·intro _;exact⟨0,by omega,rfl,rfl,by simp[uH,up,zAE]⟩
 ·rintro r t89 H' ⟨j1,nM,rfl,rfl,rfl⟩ hsc17 hlen17 hsF17 Kb17 hKb17;by_cases fy:j1<p.length
  ·have fN:=Uj (f:=mT eq t) (q:=q) fy;obtain⟨v1,v2,v3,v4⟩:=wp.mem _ (ae fy);have vok:=wp.ok _ (ae fy);obtain⟨S0,hS0⟩:∃S0,S0=uL [] (up (uH (mT eq t) (p.take j1) q)):=⟨_,rfl⟩;rw[←hS0];simp[T9,fy,wX,xN,qH];refine⟨xN _,?_⟩;refine yae (Inv:=λr t95 H3=>∃j2:Nat,j2≤q.length∧q.length-j2=r∧t95=I6 j2∧H3=G (uL [] (up (uH (mT eq t) (p.take j1) q++rwG (mT eq t) p[j1] (q.take j2))))++[.cells (twC p[j1])]) q.length ?_ ?_
   ·intro _;exact⟨0,by omega,rfl,rfl,by simp[rwG,hS0]⟩
   ·rintro r t95 H3 ⟨j2,lP,rfl,rfl,rfl⟩ hsc20 hlen20 hsF20 Kb20 nf;by_cases fT:j2<q.length
    ·obtain⟨u1,u2,u3,u4⟩:=wq.mem _ (ae fT);have uok:=wq.ok _ (ae fT);have tH:=qh _ (ae fy) _ (ae fT);have iq:=zCS (mT eq t) p q fy fT;have ko:=Ui (f:=mT eq t) (v:=p[j1]) fT;obtain⟨W,rF⟩:∃ W,W=mT eq t p[j1].1 q[j2].1:=⟨_,rfl⟩;obtain⟨P1,P2⟩:=zBM h8 (t:=t) v2 u2 tH;rw[←rF]at P1 P2 ko iq;obtain⟨c,hc⟩:∃ c,c=p[j1].2.val*q[j2].2.val:=⟨_,rfl⟩;rw[←hc]at ko iq;obtain⟨R,hR⟩:∃ R,R=uH (mT eq t) (p.take j1) q++rwG (mT eq t) p[j1] (q.take j2):=⟨_,rfl⟩;have oh:uH (mT eq t) (p.take j1) q++rwG (mT eq t) p[j1] (q.take (j2+1))=R++vG W c:=by rw[ko,hR,aB]
     rw[←hR]at iq;obtain⟨rr,tI⟩:∃rr,rr=rwG (mT eq t) p[j1] (q.drop (j2+1))++uH (mT eq t) (p.drop (j1+1)) q:=⟨_,rfl⟩;rw[←tI]at iq;have qi:(ofR c).ok 400:=by rw[hc];exact x7 ((v4.mul u4).lim (aI (aZ wp.dle wq.dle) (by decide)) (by decide))
     have hFa:∀Y,Y <+: R++vG W c→FitL Y:=λY hY=>by
      obtain⟨Z,hZ⟩:=hY;refine mt.sub (λx hx=>?_) ?_
      ·rw[iq,←hZ];simp[hx]
      ·rw[iq,←hZ];simp
     have hmY:∀x∈vG W c,x.1.ZO≤80∧0≤rdV eq x.1 t:=λx hx=>by have:=oI x (by rw[iq];simp[hx]);exact⟨this.1,this.2.1⟩
     have s9:∀x∈R,x.1.ZO≤80∧0≤rdV eq x.1 t:=λx hx=>by have:=oI x (by rw[iq];simp[hx]);exact⟨this.1,this.2.1⟩
     have sV:R.length+W.length≤46656:=by have:=nG;rw[iq]at this;simp at this;omega
     rw[←hR];have hSl:=FY (up R) [];simp at hSl;have hSn:((uL [] (up R)).map Prod.fst).Nodup:=Ca _ _ (by simp);have hSdg:∀x∈uL [] (up R),Dig x.1:=λx hx=>by
      rcases FZ _ _ x hx with ⟨y,hy,he⟩|⟨y,hy,he⟩
      ·simp at hy
      ·obtain⟨y',nR,rfl⟩:=aF.1 hy;rw[←he];exact Tp h8 _ y'.1 (af _) t (s9 y' nR).2
     have fC:uL [] (up (R++vG W c))=uL (uL [] (up R)) (up (vG W c)):=by rw[Rr,zAC]
     have hokj:∀j,∀x∈uL (uL [] (up R)) ((up (vG W c)).take j),x.2.ok 400:=λj=>by rw[←zAC,←zEm,←Rr];exact(hFa _ ⟨(vG W c).drop j,by rw[aB,aJ]⟩).coll
     have hokY:∀x∈up (vG W c),x.2.ok 400:=λx hx=>by obtain⟨y,hy,rfl⟩:=aF.1 hx;exact x7 ((hFa _ (List.prefix_rfl)).mem y (by simp[hy]))
     generalize hSd:uL [] (up R)=S at *;have c0:=b0 S;simp[T8,fT,wX,xN,wY,xD,qH,vq c0,kN,kp];refine⟨xN _,?_⟩;try simp[xD]
     refine ur (.sl (vi W) .none) (λJ=>by rw[rF];exact(T1 hk h8 tG (p[j1].1.ZO+q[j2].1.ZO)).1 t p[j1].1 q[j2].1 (af _) (by omega) jn v2 u2 (by omega) (by omega) _ _ ⟨rfl,rfl⟩) ?_;refine ur (.agg (uS c)) (λJ=>Jx _ _ vok uok _ _ ⟨by rw[hc],rfl⟩) ?_;refine ur (.sl (twS (up (vG W c))) .none) (λJ=>zNp W (ofR c) (by omega) qi (λx hx=>aI (P1 x hx).1 (by decide)) _ _ ⟨by rw[wt,zN9],rfl⟩) ?_;refine zDQ (up (vG W c)) (λx hx=>?_) _ _ _ _ _ S (hS S).app hSn hSdg hokj hokY (by simp;omega) _ ?_
     ·obtain⟨y,hy,rfl⟩:=aF.1 hx;have:=hmY y hy;exact⟨by show y.1.ZO≤1000;omega,Tp h8 _ y.1 (af _) t this.2⟩
     ·rw[hGG,←fC,←oh,wi j2 (by omega)];refine nf _ _ ⟨q.length-(j2+1),by omega,Back.at (J:=[.cells (twC q[j2])]) (H2:=G (uL [] (up (uH (mT eq t) (p.take j1) q++rwG (mT eq t) p[j1] (q.take (j2+1)))))++[.cells (twC p[j1])]) (by simp) (by simp[qH]) ((hGs _).append (by simp[AB.sc,zPG])) (by simp[Nc,ux,AV.sc,AV.ZH,AV.ZI,AV.ZJ,qH];omega) ⟨_,rfl,j2+1,by omega,rfl,rfl,rfl⟩⟩
    ·obtain rfl:j2=q.length:=by omega
     rw[az]at *;simp[T8,wi j1 (by omega)];rw[←fN];refine hKb17 _ _ ⟨p.length-(j1+1),by omega,Back.at (J:=[.cells (twC p[j1])]) (H2:=G (uL [] (up (uH (mT eq t) (p.take (j1+1)) q)))) rfl (by simp[qH]) (hGs _) (by simp[Na,ux,AV.sc,AV.ZH,AV.ZI,AV.ZJ,qH];omega) ⟨_,rfl,j1+1,by omega,rfl,rfl,rfl⟩⟩
  ·obtain rfl:j1=p.length:=by omega
   rw[az];simp[T9];rw[iR]at hK;have hSw:=hS (uL [] (up (uH (mT eq t) p q)));obtain⟨J,hJ⟩:=je (uL [] (up (uH (mT eq t) p q)));generalize uH (mT eq t) p q=R at *;have gN:=FY (up R) [];simp at gN;have oY:=zAq (up R);rw[zEq]at oY;refine zDS hk t (by omega) hf _ _ _ _ (uL [] (up R)) (up (uA [] R)) (by rw[←hQ];exact hSw) (λx hx=>?_) (Ca _ _ (by simp)) (by omega) (zAp R) oY _ (λgA=>?_) (λhgood=>?_)
   ·rcases FZ _ _ x hx with ⟨y,hy,_⟩ | ⟨y,hy,he⟩
    ·simp at hy
    ·obtain⟨y',nR,rfl⟩:=aF.1 hy;obtain⟨p1,p2,p3⟩:=oI y' nR;have hr:=Dr (h8:=h8) y'.1 t;have ho:=mt.coll x hx;simp only at he;rw[←he];exact⟨by omega,ho,p2,hr.2⟩
   ·rw[Rq]at gA;rw[aN gA]at hK;simp;rw[hJ,hA,aB];exact⟨⟨rfl,rfl⟩,Out.tup (bs:=[.sl [] .none,I6 9]) hs hK ⟨uJ rfl rfl,uJ rfl rfl,trivial⟩⟩
   ·rw[Rq]at hgood;rw[aG (by omega)]at hK;simp;rw[hJ,hA,aB];exact⟨⟨rfl,rfl⟩,Out.tup (bs:=[.sl (twS (zbcq eq t (up (uA [] R)) 7)) .none,I0]) hs hK ⟨uJ rfl rfl,uJ rfl rfl,trivial⟩⟩
end
section
variable (t0 t1 t2 t3 t5 t12 t13 t15 t17 t82 t83 t84 t88 t89 t90 t100 t101 t102:AV) (H:or) (K:Kt) (Kb15 Kb18:Lt)
def zC:Nat→List Bool|15=>rl false [0,1,4,1,6,2,68,3,43]|18=>rl false [0,1,4,1,6,2,1,1,66,3,3,3,37]|21=>rl false [0,1,4,1,6,2,1,1,1,1,64,3,3,3,9,3,25]|200023=>rl false [0,6]|_=>[]
noncomputable def zxD:=bd Tryz.f35
def Nn:=t0::ux 4 (t5::ux 6 (t12::t13::ux 68 (t82::t83::t84::ux 43 [])))
def zH0:=zC 15
noncomputable def Un:=uc [1,1,1,1,1,1,1,1,1,0,1,0,0] zxD
def zHW:=ud tP zC [1,1,1,1,1,1,1,1,1,0,1,0] zxD (uq tP Tryz.f35.results.toList K)
def No:=tM tP Un (zHW K) (Nn t0 t5 t12 t13 t82 t83 t84) H
def Np:=t0::ux 4 (t5::ux 6 (t12::t13::ux 1 (t15::ux 66 (t82::t83::t84::ux 3 (t88::t89::t90::ux 37 [])))))
def zH1:=zC 18
noncomputable def Uo:=uc [1,1,0,0,1,1,0,0] Un
def zHX:=ud tP zC [1,1,0,0,1,1,0] Un (vz zH0 Kb15 (zHW K))
def zHY:=tM tP Uo (zHX K Kb15) (Np t0 t5 t12 t13 t15 t82 t83 t84 t88 t89 t90) H
def Nq:=t0::ux 4 (t5::ux 6 (t12::t13::ux 1 (t15::ux 1 (t17::ux 64 (t82::t83::t84::ux 3 (t88::t89::t90::ux 9 (t100::t101::t102::ux 25 [])))))))
def yan:=zC 21
noncomputable def yaj:=uc [1,1,0,0,1,1,0,0] Uo
def yai:=ud tP zC [1,1,0,0,1,1,0] Uo (vz zH1 Kb18 (zHX K Kb15))
def zHZ:=tM tP yaj (yai K Kb15 Kb18) (Nq t0 t5 t12 t13 t15 t17 t82 t83 t84 t88 t89 t90 t100 t101 t102) H
def Up(t0 t5 t12 t13 t15 t17 t82 t83 t84 t88 t89 t90 t100 t101 t102:AV)(H:or)(K:Kt)(Kb15:Lt)(Kb18:Lt)(Kb21:Lt):Prop:=gt .lss false t102 t101 λt103=>tO t103 (tW 5 t100 t102 λt104=>tL true 5 t104 H λt105=>un [I0,.ZG,(.bool false),.ZG,.ZG] H λt19 H=>ua 5 t19 t105 H λH=>apm H t13 λt106=>apu H (tN 0 t19) λt107=>apu H (tY true 2 t107 H) λt108=>apu H (tN 2 t19) λt109=>apu H (tY true 3 t109 H) λt110=>apu H (tN 2 t15) λt111=>apu H (tY true 3 t111 H) λt112=>apu H (tN 2 t17) λt113=>apu H (tY true 3 t113 H) λt114=>apc tP H 22 [t112,t114] λt115=>apc tP H 22 [t110,t115] λt116=>ge tP 63 [t106,t108,t116] H λt117 H=>gt .add false t102 I1 λt118=>Kb21 (Nq t0 t5 t12 t117 t15 t17 t82 t83 t84 t88 t89 t90 t100 t101 t118) H) (gt .add false t90 I1 λt119=>Kb18 (Np t0 t5 t12 t13 t15 t82 t83 t84 t88 t89 t119) H)
def Uq:=gt .lss false t90 t89 λt91=>tO t91 (tW 5 t88 t90 λt92=>tL true 5 t92 H λt93=>un [I0,.ZG,(.bool false),.ZG,.ZG] H λt17 H=>ua 5 t17 t93 H λH=>tL true 3 t5 H λt95=>tN 0 t15 λt96=>tL true 2 t96 H λt97=>tN 0 t17 λt98=>tL true 2 t98 H λt99=>ge tP 45 [t0,t95,t97,t99] H λt100 H=>tV 1 t100 λt101=>zHZ t0 t5 t12 t13 t15 t17 t82 t83 t84 t88 t89 t90 t100 t101 I0 H K Kb15 Kb18) (gt .add false t84 I1 λt120=>Kb15 (Nn t0 t5 t12 t13 t82 t83 t120) H)
def Nr:=gt .lss false t84 t83 λt85=>tO t85 (tW 5 t82 t84 λt86=>tL true 5 t86 H λt87=>un [I0,.ZG,(.bool false),.ZG,.ZG] H λt15 H=>ua 5 t15 t87 H λH=>tV 1 t12 λt89=>zHY t0 t5 t12 t13 t15 t82 t83 t84 t12 t89 I0 H K Kb15) (tV 1 t13 λt122=>gt .gtr false t122 (I6 1000) λt123=>tO t123 (ut [.ZG,(I6 9)] (K · H)) (tL true 3 t5 H λt125=>ge tP 46 [t0,t125,t13] H λt127 H=>ut [t127,I0] (K · H)))
def zHV:=ul t1 H λt5 H=>tL true 3 t5 H λt21=>ge tP 68 [t0,t21,t2] H λt23 H=>aUn .not t23 λt24=>agm t24 false H t0 λt26 H=>agu t24 false H (tL true 3 t5 H) λt27 H=>agm t24 false H t3 λt28 H=>agc tP t24 false H 68 [t26,t27,t28] λt29 H=>agu t24 false H (aUn .not t29) λt30 H=>tZ t24 (.bool true) t30 λt31=>tO t31 (ut [.ZG,I1] (K · H)) (tL true 3 t5 H λt34=>ge tP 33 [t0,t34,t2] H λt36 H=>uo t36 0 λt37=>uo t36 1 λt38=>gt .neq false t38 I0 λt40=>tO t40 (ut [.ZG,t38] (K · H)) (tL true 3 t5 H λt44=>ge tP 33 [t0,t44,t3] H λt46 H=>uo t46 0 λt47=>uo t46 1 λt48=>gt .neq false t48 I0 λt50=>tO t50 (ut [.ZG,t48] (K · H)) (tV 1 t37 λt53=>gt .eql false t53 I0 λt54=>agm t54 false H t47 λt56 H=>agu t54 false H (tV 1 t56) λt57 H=>agu t54 false H (gt .eql false t57 I0) λt58 H=>tZ t54 (.bool true) t58 λt59=>tO t59 (ut [.ZG,I0] (K · H)) (apm H t0 λt60=>apu H (tY true 3 t5 H) λt61=>apm H t37 λt62=>apm H t37 λt63=>apu H (tV 1 t63) λt64=>apu H (gt .sub false t64 I1) λt65=>apu H (tW 5 t62 t65) λt66=>apu H (tN 0 t66) λt67=>apu H (tY true 2 t67 H) λt68=>apc tP H 23 [t60,t61,t68] λt69=>apm H t0 λt70=>apu H (tY true 3 t5 H) λt71=>apm H t47 λt72=>apm H t47 λt73=>apu H (tV 1 t73) λt74=>apu H (gt .sub false t74 I1) λt75=>apu H (tW 5 t72 t75) λt76=>apu H (tN 0 t76) λt77=>apu H (tY true 2 t77 H) λt78=>apc tP H 23 [t70,t71,t78] λt79=>apu H (gt .add false t69 t79) λt80=>apu H (gt .gtr false t80 (I6 6)) λt81=>tO t81 (ut [.ZG,(I6 13)] (K · H)) (tV 1 t37 λt83=>No t0 t5 t47 .ZG t37 t83 I0 H K)))))
variable {t0 t1 t2 t3 t5 t12 t13 t15 t17 t82 t83 t84 t88 t89 t90 t100 t101 t102} {H} {K} {Kb15 Kb18}
def yam:Lo2 (λt13 t102=>Nq t0 t5 t12 t13 t15 t17 t82 t83 t84 t88 t89 t90 t100 t101 t102) (λt13 t102 H Kb21=>Up t0 t5 t12 t13 t15 t17 t82 t83 t84 t88 t89 t90 t100 t101 t102 H K Kb15 Kb18 Kb21) t13 t102 H (zHZ t0 t5 t12 t13 t15 t17 t82 t83 t84 t88 t89 t90 t100 t101 t102 H K Kb15 Kb18):=lq2 zC yan
def yal:Lo2 (λt13 t90=>Np t0 t5 t12 t13 t15 t82 t83 t84 t88 t89 t90) (λt13 t90 H Kb18=>Uq t0 t5 t12 t13 t15 t82 t83 t84 t88 t89 t90 H K Kb15 Kb18) t13 t90 H (zHY t0 t5 t12 t13 t15 t82 t83 t84 t88 t89 t90 H K Kb15):=lq2 zC zH1
def yak:Lo2 (λt13 t84=>Nn t0 t5 t12 t13 t82 t83 t84) (λt13 t84 H Kb15=>Nr t0 t5 t12 t13 t82 t83 t84 H K Kb15) t13 t84 H (No t0 t5 t12 t13 t82 t83 t84 H K):=lq2 zC zH0
def yao(h:HSc H→zHV t0 t1 t2 t3 H K):ge tP 35 [t0,t1,t2,t3] H K:=
 acb zC Tryz.func35 h
end
end Go.Proofs.YtdmamdnkcefmmaaGreatDoor
