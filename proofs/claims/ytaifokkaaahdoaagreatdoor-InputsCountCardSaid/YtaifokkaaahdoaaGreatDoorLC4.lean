import Derived.Test.YtaifokkaaahdoaaGreatDoorKNum
import Derived.Test.YtaifokkaaahdoaaGreatDoorProg
import Derived.KernelRfl
import Derived.Test.YtaifokkaaahdoaaGreatDoorKGN1
import Derived.Test.YtaifokkaaahdoaaGreatDoorKY5
set_option linter.unusedSimpArgs false
set_option linter.unusedVariables false
set_option maxRecDepth 8000
namespace Go.Proofs.YtaifokkaaahdoaaGreatDoor
open Go Go.Abs
set_option maxRecDepth 100000
def zlE:Nat→List Bool
 |21=>rl false [0,1,3,2,1,1,2,1,174]
 |_=>[]
noncomputable def zrf:Code:=Tryz.f29.body.getD .skip
noncomputable def zLq:List ResultVar:=Tryz.f29.results.toList
def zlF(t0 t4 t5 t7 t10:AV):List AV:=t0::ux 3 (t4::t5::ux 1 (t7::ux 2 (t10::ux 174 [])))
def zLo:List Bool:=zlE 21
noncomputable def zLm:Code:=zat [1,1,0,1,0,1,1,1,1,1,1,1,1,1,1,1,0,1,0,1,0,0] zrf
def zLl(K:Kt):AExit→List AV→zaa→Prop:=zau tP zlE [1,1,0,1,0,1,1,1,1,1,1,1,1,1,1,1,0,1,0,1,0] zrf (zaz tP zLq K)
def zrg(t0 t4 t5 t7 t10:AV)(H:zaa)(K:Kt):Prop:=ALoop tP zLm (zLl K) (zlF t0 t4 t5 t7 t10) H
def zre(t0 t4 t5 t7 t10:AV)(H:zaa)(K:Kt)(Kb21:Lt):Prop:=
 zac .lss false t10 t7 λt153=>
 zag t153
 (zab H (λK'=>K' t0 H) λt156=>
 zab H (λK'=>zaf 2 t4 (K' · H)) λt157=>
 zab H (λK'=>zam false 1 t157 H (K' · H)) λt158=>
 zab H (λK'=>K' t10 H) λt159=>
 zab H (λK'=>zai 3 t158 t159 (K' · H)) λt160=>
 zab H (λK'=>zam true 3 t160 H (K' · H)) λt161=>
 zab H (λK'=>zaf 2 t5 (K' · H)) λt162=>
 zab H (λK'=>zam false 1 t162 H (K' · H)) λt163=>
 zab H (λK'=>zai 3 t163 (.int .i64 0) (K' · H)) λt164=>
 zab H (λK'=>zam true 3 t164 H (K' · H)) λt165=>
 zaA H (λH K'=>ACalls tP zjx [t156,t161,t165] H K') λt166=>
 zab H (λK'=>aUn .not t166 (K' · H)) λt167=>
 zag t167
 (K (.bool false) H)
 (zac .add false t10 (.int .i64 1) λt155=>
 Kb21 (zlF t0 t4 t5 t7 t155) H))
 (K (.bool true) H)
def zii(t0 t4 t5 t7 t117:AV)(H:zaa)(K:Kt):Prop:=
 zag t117
 (zaf 0 t5 λt120=>
 zae false 1 t120 H λt121=>
 zac .eql false t121 (.int .i64 7) λt122=>
 zad t122 true H (λK'=>zaf 0 t4 (K' · H)) λt124 H=>
 zad t122 true H (λK'=>zae false 1 t124 H (K' · H)) λt125 H=>
 zad t122 true H (λK'=>zac .neq false t125 (.int .i64 6) (K' · H)) λt126 H=>
 zad t122 true H (λK'=>K' t126 H) λt127 H=>
 zad t127 false H (λK'=>K' t7 H) λt128 H=>
 zad t127 false H (λK'=>zac .gtr false t128 (.int .i64 4096) (K' · H)) λt129 H=>
 zad t122 true H (λK'=>zao t127 (.bool true) t129 (K' · H)) λt130 H=>
 zao t122 t130 (.bool false) λt131=>
 zad t131 false H (λK'=>zaf 0 t5 (K' · H)) λt133 H=>
 zad t131 false H (λK'=>zae false 1 t133 H (K' · H)) λt134 H=>
 zad t131 false H (λK'=>zac .eql false t134 (.int .i64 8) (K' · H)) λt135 H=>
 zad t131 false H (λK'=>K' t135 H) λt136 H=>
 zad t136 true H (λK'=>zaf 0 t4 (K' · H)) λt137 H=>
 zad t136 true H (λK'=>zae false 1 t137 H (K' · H)) λt138 H=>
 zad t136 true H (λK'=>zac .neq false t138 (.int .i64 7) (K' · H)) λt139 H=>
 zad t136 true H (λK'=>K' t139 H) λt140 H=>
 zad t140 false H (λK'=>K' t7 H) λt141 H=>
 zad t140 false H (λK'=>zac .neq false t141 (.int .i64 1) (K' · H)) λt142 H=>
 zad t136 true H (λK'=>zao t140 (.bool true) t142 (K' · H)) λt143 H=>
 zad t131 false H (λK'=>zao t136 t143 (.bool false) (K' · H)) λt144 H=>
 zao t131 (.bool true) t144 λt145=>
 zad t145 false H (λK'=>zaf 1 t4 (K' · H)) λt147 H=>
 zad t145 false H (λK'=>zae false 1 t147 H (K' · H)) λt148 H=>
 zad t145 false H (λK'=>zac .neq false t148 (.int .i64 0) (K' · H)) λt149 H=>
 zao t145 (.bool true) t149 λt150=>
 zag t150
 (K (.bool false) H)
 (zrg t0 t4 t5 t7 (.int .i64 0) H K))
 (zaf 0 t4 λt168=>
 zae false 1 t168 H λt169=>
 zac .eql false t169 (.int .i64 8) λt170=>
 zad t170 true H (λK'=>zaf 1 t4 (K' · H)) λt172 H=>
 zad t170 true H (λK'=>zae false 1 t172 H (K' · H)) λt173 H=>
 zad t170 true H (λK'=>zac .geq false t173 (.int .i64 0) (K' · H)) λt174 H=>
 zao t170 t174 (.bool false) λt175=>
 zad t175 true H (λK'=>zaf 1 t4 (K' · H)) λt177 H=>
 zad t175 true H (λK'=>zae false 1 t177 H (K' · H)) λt178 H=>
 zad t175 true H (λK'=>zac .lss false t178 (.int .i64 64) (K' · H)) λt179 H=>
 zao t175 t179 (.bool false) λt180=>
 zad t180 true H (λK'=>K' t7 H) λt182 H=>
 zad t180 true H (λK'=>zac .eql false t182 (.int .i64 0) (K' · H)) λt183 H=>
 zao t180 t183 (.bool false) λt184=>
 K t184 H)
def zev(t0 t1 t2:AV)(H:zaa)(K:Kt):Prop:=
 zas t1 H λt4 H=>
 zas t2 H λt5 H=>
 zaf 2 t4 λt11=>
 zae false 1 t11 H λt12=>
 zah 1 t12 λt13=>
 zaf 0 t5 λt14=>
 zae false 1 t14 H λt15=>
 zac .eql false t15 (.int .i64 3) λt17=>
 zag t17
 (zaf 0 t4 λt18=>
 zae false 1 t18 H λt19=>
 zac .eql false t19 (.int .i64 1) λt20=>
 zad t20 true H (λK'=>zaf 1 t4 (K' · H)) λt22 H=>
 zad t20 true H (λK'=>zae false 1 t22 H (K' · H)) λt23 H=>
 zad t20 true H (λK'=>zac .eql false t23 (.int .i64 0) (K' · H)) λt24 H=>
 zao t20 t24 (.bool false) λt25=>
 zad t25 true H (λK'=>K' t13 H) λt27 H=>
 zad t25 true H (λK'=>zac .eql false t27 (.int .i64 0) (K' · H)) λt28 H=>
 zao t25 t28 (.bool false) λt29=>
 K t29 H)
 (zac .eql false t15 (.int .i64 2) λt31=>
 zag t31
 (zaf 0 t4 λt32=>
 zae false 1 t32 H λt33=>
 zac .eql false t33 (.int .i64 2) λt34=>
 zad t34 true H (λK'=>zaf 1 t4 (K' · H)) λt36 H=>
 zad t34 true H (λK'=>zae false 1 t36 H (K' · H)) λt37 H=>
 zad t34 true H (λK'=>zac .eql false t37 (.int .i64 0) (K' · H)) λt38 H=>
 zad t34 true H (λK'=>K' t38 H) λt39 H=>
 zad t39 false H (λK'=>zaf 1 t4 (K' · H)) λt40 H=>
 zad t39 false H (λK'=>zae false 1 t40 H (K' · H)) λt41 H=>
 zad t39 false H (λK'=>zac .eql false t41 (.int .i64 1) (K' · H)) λt42 H=>
 zad t34 true H (λK'=>zao t39 (.bool true) t42 (K' · H)) λt43 H=>
 zao t34 t43 (.bool false) λt44=>
 zad t44 true H (λK'=>K' t13 H) λt46 H=>
 zad t44 true H (λK'=>zac .eql false t46 (.int .i64 0) (K' · H)) λt47 H=>
 zao t44 t47 (.bool false) λt48=>
 K t48 H)
 (zac .eql false t15 (.int .i64 1) λt50=>
 zag t50
 (zaf 0 t4 λt51=>
 zae false 1 t51 H λt52=>
 zac .eql false t52 (.int .i64 3) λt53=>
 zad t53 true H (λK'=>zaf 1 t4 (K' · H)) λt55 H=>
 zad t53 true H (λK'=>zae false 1 t55 H (K' · H)) λt56 H=>
 zad t53 true H (λK'=>zac .geq false t56 (.int .i64 (-1099511627776)) (K' · H)) λt57 H=>
 zao t53 t57 (.bool false) λt58=>
 zad t58 true H (λK'=>zaf 1 t4 (K' · H)) λt60 H=>
 zad t58 true H (λK'=>zae false 1 t60 H (K' · H)) λt61 H=>
 zad t58 true H (λK'=>zac .leq false t61 (.int .i64 1099511627776) (K' · H)) λt62 H=>
 zao t58 t62 (.bool false) λt63=>
 zad t63 true H (λK'=>K' t13 H) λt65 H=>
 zad t63 true H (λK'=>zac .eql false t65 (.int .i64 0) (K' · H)) λt66 H=>
 zao t63 t66 (.bool false) λt67=>
 K t67 H)
 (zac .eql false t15 (.int .i64 6) λt69=>
 zag t69
 (zaf 0 t4 λt70=>
 zae false 1 t70 H λt71=>
 zac .eql false t71 (.int .i64 4) λt72=>
 zad t72 true H (λK'=>zaf 1 t4 (K' · H)) λt74 H=>
 zad t72 true H (λK'=>zae false 1 t74 H (K' · H)) λt75 H=>
 zad t72 true H (λK'=>zac .eql false t75 (.int .i64 0) (K' · H)) λt76 H=>
 zao t72 t76 (.bool false) λt77=>
 zad t77 true H (λK'=>K' t0 H) λt79 H=>
 zad t77 true H (λK'=>zaf 2 t4 (K' · H)) λt80 H=>
 zad t77 true H (λK'=>zae false 1 t80 H (K' · H)) λt81 H=>
 zad t77 true H (λK'=>zaf 2 t5 (K' · H)) λt82 H=>
 zad t77 true H (λK'=>zae false 1 t82 H (K' · H)) λt83 H=>
 zad t77 true H (λK'=>ACalls tP zjI [t79,t81,t83] H K') λt84 H=>
 zao t77 t84 (.bool false) λt85=>
 K t85 H)
 (zac .eql false t15 (.int .i64 5) λt87=>
 zag t87
 (zaf 0 t4 λt88=>
 zae false 1 t88 H λt89=>
 zac .neq false t89 (.int .i64 5) λt90=>
 zad t90 false H (λK'=>zaf 1 t4 (K' · H)) λt92 H=>
 zad t90 false H (λK'=>zae false 1 t92 H (K' · H)) λt93 H=>
 zad t90 false H (λK'=>zac .lss false t93 (.int .i64 0) (K' · H)) λt94 H=>
 zao t90 (.bool true) t94 λt95=>
 zad t95 false H (λK'=>zaf 1 t4 (K' · H)) λt97 H=>
 zad t95 false H (λK'=>zae false 1 t97 H (K' · H)) λt98 H=>
 zad t95 false H (λK'=>zac .geq false t98 (.int .i64 8) (K' · H)) λt99 H=>
 zao t95 (.bool true) t99 λt100=>
 zag t100
 (K (.bool false) H)
 (zae true 3 t5 H λt103=>
 zaf 1 t4 λt104=>
 zae false 1 t104 H λt105=>
 ACalls tP zoM [t0,t103,t105] H λt106 H=>
 zaG t106 0 λt107=>
 zaG t106 1 λt108=>
 zad t108 true H (λK'=>K' t0 H) λt111 H=>
 zad t108 true H (λK'=>zaf 2 t4 (K' · H)) λt112 H=>
 zad t108 true H (λK'=>zae false 1 t112 H (K' · H)) λt113 H=>
 zad t108 true H (λK'=>K' t107 H) λt114 H=>
 zad t108 true H (λK'=>ACalls tP zjI [t111,t113,t114] H K') λt115 H=>
 zao t108 t115 (.bool false) λt116=>
 K t116 H))
 (zac .eql false t15 (.int .i64 7) λt118=>
 zag t118
 (zii t0 t4 t5 t13 t118 H K)
 (zac .eql false t15 (.int .i64 8) λt119=>
 zii t0 t4 t5 t13 t119 H K))))))
theorem zLn{t0 t4 t5 t7 t10:AV}{H:zaa}{K:Kt}(Inv:Nat→AV→zaa→Prop)(n:Nat)(h0:HSc H→Inv n t10 H)(round:Rd1 (λt10=>zlF t0 t4 t5 t7 t10) (λt10=>λH Kb21=>zre t0 t4 t5 t7 t10 H K Kb21) H Inv):zrg t0 t4 t5 t7 t10 H K:=
 lp1 (M:=zlE) zLo t10 (by kernel_rfl) Inv n h0 round
theorem zLp{t0 t1 t2:AV}{H:zaa}{K:Kt}(h:HSc H→zev t0 t1 t2 H K):ACalls tP zjx [t0,t1,t2] H K:=
 zap (M:=zlE) Tryz.func29 (c:=zrf) (by kernel_rfl) (λhs=>Eq.mpr (by kernel_rfl) (h hs))
def zmn:Nat→List Bool
 |4=>rl false [0,3,4,1,22]
 |_=>[]
noncomputable def zrU:Code:=Tryz.f67.body.getD .skip
noncomputable def zN4:List ResultVar:=Tryz.f67.results.toList
def zmo(t0 t1 t2 t7:AV):List AV:=t0::t1::t2::ux 4 (t7::ux 22 [])
def zN2:List Bool:=zmn 4
noncomputable def zN0:Code:=zat [1,1,0,1,0,0] zrU
def zNZ(K:Kt):AExit→List AV→zaa→Prop:=zau tP zmn [1,1,0,1,0] zrU (zaz tP zN4 K)
def zzX(t0 t1 t2 t7:AV)(H:zaa)(K:Kt):Prop:=ALoop tP zN0 (zNZ K) (zmo t0 t1 t2 t7) H
def zrT(t0 t1 t2 t7:AV)(H:zaa)(K:Kt)(Kb4:Lt):Prop:=
 zah 1 t1 λt15=>
 zac .lss false t7 t15 λt16=>
 zag t16
 (zab H (λK'=>K' t0 H) λt19=>
 zab H (λK'=>K' t1 H) λt20=>
 zab H (λK'=>K' t7 H) λt21=>
 zab H (λK'=>zai 3 t20 t21 (K' · H)) λt22=>
 zab H (λK'=>zam true 3 t22 H (K' · H)) λt23=>
 zab H (λK'=>K' t2 H) λt24=>
 zab H (λK'=>K' t7 H) λt25=>
 zab H (λK'=>zai 3 t24 t25 (K' · H)) λt26=>
 zab H (λK'=>zam true 3 t26 H (K' · H)) λt27=>
 zaA H (λH K'=>ACalls tP zjx [t19,t23,t27] H K') λt28=>
 zab H (λK'=>aUn .not t28 (K' · H)) λt29=>
 zag t29
 (K (.bool false) H)
 (zac .add false t7 (.int .i64 1) λt18=>
 Kb4 (zmo t0 t1 t2 t18) H))
 (K (.bool true) H)
def zrS(t0 t1 t2:AV)(H:zaa)(K:Kt):Prop:=
 zah 1 t1 λt9=>
 zah 1 t2 λt11=>
 zac .neq false t9 t11 λt12=>
 zag t12
 (K (.bool false) H)
 (zzX t0 t1 t2 (.int .i64 0) H K)
theorem zN1{t0 t1 t2 t7:AV}{H:zaa}{K:Kt}(Inv:Nat→AV→zaa→Prop)(n:Nat)(h0:HSc H→Inv n t7 H)(round:Rd1 (λt7=>zmo t0 t1 t2 t7) (λt7=>λH Kb4=>zrT t0 t1 t2 t7 H K Kb4) H Inv):zzX t0 t1 t2 t7 H K:=
 lp1 (M:=zmn) zN2 t7 (by kernel_rfl) Inv n h0 round
theorem zN3{t0 t1 t2:AV}{H:zaa}{K:Kt}(h:HSc H→zrS t0 t1 t2 H K):ACalls tP zjI [t0,t1,t2] H K:=
 zap (M:=zmn) Tryz.func67 (c:=zrU) (by kernel_rfl) (λhs=>Eq.mpr (by kernel_rfl) (h hs))
end Go.Proofs.YtaifokkaaahdoaaGreatDoor

namespace Go.Proofs.YtaifokkaaahdoaaGreatDoor
open Go Go.Abs
def d4(data:List Dat):AV:=.agg [.sl (data.map Dat.cs) .none,.snil,.snil,.snil]
section
variable {H:zaa} {K:Kt} (data:List Dat)
theorem zFW(hK:K (.bool true) H):ACalls tP zog [d4 data] H K:=by refine ACalls.out (zHz λhs=>?_);simp[zxr,d4];refine⟨rfl,ACalls.wk (args':=[.sl (VT.css []) .none,.fn zu3 [.ptr H.length 0]]) ?_ ⟨.atom .snil,.atom (.refl _),trivial⟩⟩;refine ziN [] (by simp) _ _ _ (by simp[AV.sc,AV.scV,AV.scA,AV.scB]) (λ_ H'=>H'=H++[.cells [.sl (data.map Dat.cs) .none,.snil,.snil,.snil]]) rfl (λi h=>by simp at h) ?_;rintro H' rfl;simp;exact Out.bool rfl (Nat.le_refl _) hs hK
theorem zCc(hK:K (.bool true) H):ACalls tP zoh [d4 data] H K:=by refine ACalls.out (zHE λhs=>?_);simp[zxs,d4];refine zHC (Inv:=λ_ _ t H'=>t=.int .i64 0∧H'=_) 0 (λ_=>⟨rfl,rfl⟩) ?_;rintro q t4 t H' ⟨rfl,rfl⟩ _ _ _ Kb hKb;simp[zxt];exact Out.bool rfl (Nat.le_refl _) hs hK
theorem zFA(hK:K (.bool true) H):ACalls tP zoi [d4 data] H K:=by refine ACalls.out (zHP λhs=>?_);simp[zxw,d4,zba];refine⟨⟨rfl,rfl⟩,zHN (Inv:=λ_ t H'=>t=.int .i64 0∧H'=_) 0 (λ_=>⟨rfl,rfl⟩) ?_⟩;rintro q t H' ⟨rfl,rfl⟩ _ _ _ Kb hKb;simp[zxz];refine zHM (Inv:=λ_ t H'=>t=.int .i64 0∧H'=_) 0 (λ_=>⟨rfl,rfl⟩) ?_;rintro q t H' ⟨rfl,rfl⟩ _ _ _ Kb2 hKb2;simp[zxy,Nat.add_assoc];exact Out.bool rfl (Nat.le_refl _) hs hK
theorem zBT(hK:K (.bool true) H):ACalls tP zoj [d4 data] H K:=by refine ACalls.out (zHZ λhs=>?_);simp[zxF,d4,zba];refine⟨⟨rfl,rfl⟩,zHX (Inv:=λ_ t H'=>t=.int .i64 0∧H'=_) 0 (λ_=>⟨rfl,rfl⟩) ?_⟩;rintro q t H' ⟨rfl,rfl⟩ _ _ _ Kb hKb;simp[zxI];refine zHW (Inv:=λ_ t H'=>t=.int .i64 0∧H'=_) 0 (λ_=>⟨rfl,rfl⟩) ?_;rintro q t H' ⟨rfl,rfl⟩ _ _ _ Kb2 hKb2;simp[zxH,Nat.add_assoc];exact Out.bool rfl (Nat.le_refl _) hs hK
theorem zEl(hK:K (.bool true) H):ACalls tP zok [d4 data] H K:=by refine ACalls.out (zH4 λhs=>?_);simp[zxO,d4,zba];refine⟨rfl,⟨rfl,rfl,rfl,rfl⟩,zH2 (Inv:=λ_ t H'=>t=.int .i64 0∧H'=_) 0 (λ_=>⟨rfl,rfl⟩) ?_⟩;rintro q t H' ⟨rfl,rfl⟩ _ _ _ Kb hKb;simp[zxP];exact Out.bool rfl (Nat.le_refl _) hs hK
theorem zCy(hK:K (.bool true) H):ACalls tP zol [d4 data] H K:=by refine ACalls.out (zIe λhs=>?_);simp[zxR,d4,zba,zaq,zaN];refine zIa (Inv:=λ_ t H'=>t=.int .i64 0∧H'=_) 0 (λ_=>⟨rfl,rfl⟩) ?_;rintro q t H' ⟨rfl,rfl⟩ _ _ _ Kb hKb;simp[zxS];refine zIb (Inv:=λ_ t H'=>t=.int .i64 0∧H'=_) 0 (λ_=>⟨rfl,rfl⟩) ?_;rintro q t H' ⟨rfl,rfl⟩ _ _ _ Kb2 hKb2;simp[zxT];exact Out.bool rfl (Nat.le_refl _) hs hK
def zc6(data:List Dat)(t:VT):Bool:=zaE data && zaD data 0 t
end
def zcY(data:List Dat):Prop:=∀D∈data,D.cons.length≤1000000∧∀c∈D.cons,c.args.length≤1000000∧∀x∈c.args,za1 x
theorem zHn(data:List Dat)(hB:zcY data)(hl:data.length≤1000000)(H:zaa)(K:AV→zaa→Prop)(hK:K (.bool (zaE data)) H):ACalls tP zof [.sl (data.map Dat.cs) .none] H K:=by
 refine ACalls.out (zHs λhs=>?_);have hO:∀J,Out H.length K (.bool (zaE data)) (H++J):=λJ=>Out.bool rfl (Nat.le_refl _) hs hK;by_cases h12:data.length≤12
 ·have h12':¬ (12:Int)<data.length:=by omega
  have h12'':¬ 12<data.length:=by omega
  have hD0:zb5 data data 0=false→∀J,Out H.length K (.bool false) (H++J):=λh J=>by have:=hO J;rwa [show zaE data=false by simp[zaE,h]]at this
  have hD1:zdw (zbH data)=true→∀J,Out H.length K (.bool false) (H++J):=λh J=>by have:=hO J;rwa [show zaE data=false by simp[zaE,h]]at this
  have hD2:zdw (zbL data)=true→∀J,Out H.length K (.bool false) (H++J):=λh J=>by have:=hO J;rwa [show zaE data=false by simp[zaE,h]]at this
  simp[zp6,h12',h12''];refine zHq (Inv:=λq t15 H'=>∃i:Nat,i≤data.length∧q=data.length-i∧t15=.int .i64 i∧zb5 data (data.drop i) i=zb5 data data 0∧(zbH (data.take i)).Nodup∧(zbL (data.take i)).Nodup∧H'=H++[.map (zbC (zbH (data.take i))),.map (zbC (zbL (data.take i)))]) data.length ?_ ?_
  ·intro _;exact⟨0,by omega,by omega,rfl,by simp,by simp[zbH],by simp[zbL],by simp[zbH,zbL,zbC]⟩
  ·rintro q t15 H' ⟨i,hi,rfl,rfl,ho,hdn,hcn,rfl⟩ hsc hlen hsF Kb hKb;by_cases hlt:i<data.length
   ·have e1:(data.map Dat.cs)[i]?=some (data[i]).cs:=by simp[hlt]
    obtain⟨hB1,hB2⟩:=hB _ (List.getElem_mem hlt);have hargs:=λc hc=>zJB data i c hlt hc hl hB1 (hB2 _ (List.getElem_mem hc)).1 (hB2 _ (List.getElem_mem hc)).2;rw[List.drop_eq_getElem_cons hlt,zb5]at ho;have htk:data.take (i+1)=data.take i++[data[i]]:=by rw[List.take_append_getElem hlt]
    have hsplit:data=data.take i++data[i]::data.drop (i+1):=by rw[List.getElem_cons_drop,List.take_append_drop]
    generalize hD:data[i]=D at *;have hbad:zcl data i D=false→zb5 data data 0=false:=λh=>by rw[←ho,h,Bool.false_and]
    have hno:∀J,zcl data i D=false→Out H.length K (.bool false) (H++[.map (zbC (zbH (data.take i))),.map (zbC (zbL (data.take i)))]++J):=λJ h=>by rw[List.append_assoc];exact hD0 (hbad h) _
    simp[zp8,hlt,e1,hD,Dat.cs];refine zyl _ _ _ ?_;cases hu:zcI D.name with
    |false=>simp;exact hD0 (hbad (by simp[zcl,hu])) _
    |true=>
    by_cases hmem:D.name∈zbH (data.take i)
    ·simp[hlt,e1,hD,Dat.cs,zfE,hmem];refine hD1 ?_ _;rw[hsplit];simp only[zbH,List.map_append,List.map_cons];exact zvH hmem
    by_cases hv0:D.vars<0
    ·simp[hlt,e1,hD,Dat.cs,zfE,hmem,hv0];exact hD0 (hbad (by simp[zcl,show ¬ 0≤D.vars by omega])) _
    by_cases hv6:6<D.vars
    ·simp[hlt,e1,hD,Dat.cs,zfE,hmem,hv0,hv6];exact hD0 (hbad (by simp[zcl,show ¬D.vars≤6 by omega])) _
    simp[hlt,e1,hD,Dat.cs,zfE,hmem,hv0,hv6,zpg _ _ hmem];by_cases hc1:D.cons.length<1
    ·have hc1':(D.cons.length:Int)<1:=by omega
     simp[hc1'];exact hD0 (hbad (by simp[zcl,show ¬ 1≤D.cons.length by omega])) _
    have hc1':¬(D.cons.length:Int)<1:=by omega
    by_cases hc8:8<D.cons.length
    ·have hc8':(8:Int)<D.cons.length:=by omega
     simp[hlt,e1,hD,Dat.cs,hc1',hc8',hc8];exact hD0 (hbad (by simp[zcl,show ¬D.cons.length≤8 by omega])) _
    have hc8':¬(8:Int)<D.cons.length:=by omega
    have hdat:zcl data i D=D.cons.all (zdn data i D.vars):=by simp[zcl,hu,show 0≤D.vars by omega,show D.vars≤6 by omega,show 1≤D.cons.length by omega,show D.cons.length≤8 by omega]
    simp[hlt,e1,hD,Dat.cs,hc1',hc8',hc8];have hdn':(zbH (data.take (i+1))).Nodup:=by rw[htk];simp only[zbH,List.map_append,List.map_cons,List.map_nil];exact zvd hdn hmem
    have hde:zbH (data.take i)++[D.name]=zbH (data.take (i+1)):=by rw[htk];simp[zbH]
    rw[hde];refine zHp (Inv:=λq t78 H'=>∃j:Nat,j≤D.cons.length∧q=D.cons.length-j∧t78=.int .i64 j∧(D.cons.drop j).all (zdn data i D.vars)=D.cons.all (zdn data i D.vars)∧(zbL (data.take i)++(D.cons.take j).map Con.name).Nodup∧H'=H++[.map (zbC (zbH (data.take (i+1)))),.map (zbC (zbL (data.take i)++(D.cons.take j).map Con.name))]) D.cons.length ?_ ?_
    ·intro _;exact⟨0,by omega,by omega,rfl,by simp,by simpa using hcn,by simp⟩
    ·rintro q t78 H' ⟨j,hj,rfl,rfl,hoc,hcj,rfl⟩ hsc1 hlen1 hsF1 Kb1 hKb1;have hscH:∀ A B,HSc (H++[.map (zbC A),.map (zbC B)]):=λA B=>hs.append (by simp[zEm]);by_cases hjl:j<D.cons.length
     ·have e2:(D.cons.map Con.cs)[j]?=some (D.cons[j]).cs:=by simp[hjl]
      have hargs':=hargs j hjl;rw[List.drop_eq_getElem_cons hjl,List.all_cons]at hoc;have htj:zbL (data.take i)++(D.cons.take (j+1)).map Con.name=(zbL (data.take i)++(D.cons.take j).map Con.name)++[(D.cons[j]).name]:=by rw[←List.take_append_getElem hjl,List.map_append,List.append_assoc];rfl
      have hcs:zbL data=(zbL (data.take i)++(D.cons.take j).map Con.name)++(D.cons[j]).name::((D.cons.drop (j+1)).map Con.name++zbL (data.drop (i+1))):=by
       have h1:D.cons.map Con.name=(D.cons.take j).map Con.name++(D.cons[j]).name::(D.cons.drop (j+1)).map Con.name:=by rw[←List.map_cons (f:=Con.name),List.getElem_cons_drop,←List.map_append,List.take_append_drop]
       conv=>lhs;rw[hsplit]
       simp only[zbL,List.flatMap_append,List.flatMap_cons,List.append_assoc,h1,List.cons_append]
      generalize hC:D.cons[j]=C at *;have hbad':zdn data i D.vars C=false→zb5 data data 0=false:=λh=>hbad (by rw[hdat,←hoc,h,Bool.false_and]);generalize hA:zbL (data.take i)++(D.cons.take j).map Con.name=A at *;simp only[zp7];simp[hjl,hC,Con.cs,Nat.add_assoc];refine zyl _ _ _ ?_;cases hu2:zcI C.name with
      |false=>simp;exact hD0 (hbad' (by simp[zdn,hu2])) _
      |true=>
      by_cases hm2:C.name∈A
      ·simp[zfE,hm2];exact hD2 (by rw[hcs];exact zvH hm2) _
      ·simp[zfE,hm2];refine hargs' _ _ ?_;have hce:zdn data i D.vars C=(decide (C.args.length≤6) && C.args.all (zec data i D.vars)):=by simp[zdn,hu2]
       rw[←hce];cases hco:zdn data i D.vars C with
       |false=>simp;exact hD0 (hbad' hco) _
       |true=>
        rw[hco,Bool.true_and]at hoc;simp[zpg _ _ hm2];rw[zaB (by omega) (by omega)];refine hKb1 _ _ ⟨D.cons.length-(j+1),by omega,Back.at (J:=[.cells [.str C.name,.sl (VT.css C.args) .none]]) (H2:=H++[.map (zbC (zbH (data.take (i+1)))),.map (zbC (A++[C.name]))]) (by simp) (by simp) (hscH _ _) ?_ ⟨_,rfl,j+1,by omega,rfl,by simp,hoc,?_,?_⟩⟩
        ·simp[zkM,AV.sc,AV.scV,AV.scA,AV.scB]
        ·rw[htj];exact zvd hcj hm2
        ·rw[htj]
     ·obtain rfl:j=D.cons.length:=by omega
      rw[List.drop_length,List.all_nil]at hoc;rw[List.take_length]at *;simp[zp7];rw[zaB (by omega) (by omega)];have hce:zbL (data.take i)++D.cons.map Con.name=zbL (data.take (i+1)):=by rw[htk];simp[zbL]
      rw[hce]at hcj ⊢;refine hKb _ _ ⟨data.length-(i+1),by omega,Back.at (J:=[]) (by simp) (by simp) (hscH _ _) ?_ ⟨_,rfl,i+1,by omega,rfl,by simp,?_,hdn',hcj,rfl⟩⟩
      ·simp[zkN,AV.sc,AV.scV,AV.scA,AV.scB]
      ·rw[←ho,hdat,←hoc,Bool.true_and]
   ·obtain rfl:i=data.length:=by omega
    rw[List.drop_length,zb5]at ho;rw[List.take_length]at *;simp[zp8];have:=hO [.map (zbC (zbH data)),.map (zbC (zbL data))];rwa [show zaE data=true by simp[zaE,h12,←ho,zvI hdn,zvI hcn]]at this
 ·have h12':(12:Int)<data.length:=by omega
  have h12'':12<data.length:=by omega
  rw[show zaE data=false by simp[zaE,h12]]at hO;simp[zp6,h12',h12''];simpa using hO []
section
variable {H:zaa} {K:Kt} (data:List Dat)
theorem zQg(hB:zcY data)(hl:data.length≤1000000)(hK:K (.bool (zaE data)) H):ACalls tP zoR [d4 data] H K:=by
 refine ACalls.out (zQi λhs=>?_);simp[zAQ,d4];refine zHn data hB hl _ _ ?_;cases hd:zaE data with
 |false=>rw[hd]at hK;simp;exact Out.bool rfl (Nat.le_refl _) hs hK
 |true=>rw[hd]at hK;simp;refine zFW data ?_;simp;refine zCc data ?_;simp;refine zFA data ?_;simp;refine zBT data ?_;simp;refine zEl data ?_;simp;refine zCy data ?_;exact Out.bool rfl (Nat.le_refl _) hs hK
theorem zzS(hB:zcY data)(hl:data.length≤1000000)(t:VT)(ht:za1 t)(hK:K (.bool (zc6 data t)) H):ACalls tP zjF [.sl (data.map Dat.cs) .none,.agg t.cs] H K:=by
 refine ACalls.out (zNG λhs=>?_);obtain⟨a,b,c,hv,ha,hb,hc⟩:=zaO t;simp[zzR,zaq,zaN,hv];refine zQg data hB hl ?_;unfold zc6 at hK;cases hd:zaE data with
 |false=>rw[hd]at hK;simp;exact Out.bool rfl (Nat.le_refl _) hs hK
 |true=>rw[hd,Bool.true_and]at hK;simp;rw[←hv];refine zAR data 0 t ht _ _ ?_;exact Out.bool rfl (Nat.le_refl _) hs hK
end
def foL(g:VT→List Bool→Bool × List Bool):List VT→List Bool→Bool × List Bool
 |[],s=>(true,s)
 |v::vs,s=>if (g v s).1=true then foL g vs (g v s).2 else (false,(g v s).2)
def foC(g:VT→List Bool→Bool × List Bool):List Con→List Bool→Bool × List Bool
 |[],s=>(true,s)
 |c::cs,s=>if (foL g c.args s).1=true then foC g cs (foL g c.args s).2 else (false,(foL g c.args s).2)
def zbG(data:List Dat)(n:Int):List Con:=(data.getD n.toNat ⟨[],0,[]⟩).cons
def foD(g:VT→List Bool→Bool×List Bool)(data:List Dat)(k n:Int)(s:List Bool):Bool×List Bool:=
 if k=5∧s.getD n.toNat false=false then foC g (zbG data n) (s.set n.toNat true) else (true,s)
def fo(data:List Dat):Nat→VT→List Bool→Bool × List Bool
 |0,_,s=>(false,s)
 | f+1,.mk k n ks,s=>if k=9 then (false,s) else
  if (foD (fo data f) data k n s).1=true then foL (fo data f) ks (foD (fo data f) data k n s).2 else (false,(foD (fo data f) data k n s).2)
def uns(s:List Bool):Nat:=s.countP (· == false)
def ziA(g:VT→List Bool→Bool×List Bool):Prop:=∀v s,(g v s).2.length=s.length∧uns (g v s).2≤uns s
theorem znK{g:VT→List Bool→Bool × List Bool}(hg:ziA g):∀ vs s,(foL g vs s).2.length=s.length∧uns (foL g vs s).2≤uns s
 |[],s=>⟨rfl,Nat.le_refl _⟩
 |v::vs,s=>by
  obtain⟨h1,h2⟩:=hg v s;obtain⟨h3,h4⟩:=znK hg vs (g v s).2;rw[foL];split
  ·exact⟨by omega,by omega⟩
  ·exact⟨h1,h2⟩
theorem ztX{g:VT→List Bool→Bool × List Bool}(hg:ziA g):∀ cs s,(foC g cs s).2.length=s.length∧uns (foC g cs s).2≤uns s
 |[],s=>⟨rfl,Nat.le_refl _⟩
 |c::cs,s=>by
  obtain⟨h1,h2⟩:=znK hg c.args s;obtain⟨h3,h4⟩:=ztX hg cs (foL g c.args s).2;rw[foC];split
  ·exact⟨by omega,by omega⟩
  ·exact⟨h1,h2⟩
theorem zwP:∀ (s:List Bool) (i:Nat),i<s.length→s.getD i false=false→uns (s.set i true)+1=uns s
 |[],i,h,_=>by simp at h
 |b::s,0,_,h=>by simp at h;subst h;simp[uns]
 |b::s,i+1,h,h0=>by have:=zwP s i (by simpa using h) (by simpa using h0);simp only[uns,List.set_cons_succ,List.countP_cons]at this ⊢;omega
theorem zFL(s:List Bool)(i:Nat):uns (s.set i true)≤uns s:=by
 induction s generalizing i with
 |nil=>simp
 |cons b s ih=>
  cases i with
  |zero=>cases b <;> simp[uns]
  |succ i=>have:=ih i;simp only[uns,List.set_cons_succ,List.countP_cons]at this ⊢;omega
theorem zCD{g:VT→List Bool→Bool×List Bool}(hg:ziA g)(data:List Dat)(k n:Int)(s:List Bool):(foD g data k n s).2.length=s.length∧uns (foD g data k n s).2≤uns s:=by
 unfold foD;split
 ·obtain⟨h1,h2⟩:=ztX hg (zbG data n) (s.set n.toNat true);have:=zFL s n.toNat;exact⟨by simpa using h1,by omega⟩
 ·exact⟨rfl,Nat.le_refl _⟩
theorem ztY(data:List Dat):∀ f,ziA (fo data f)
 |0,_,s=>⟨rfl,Nat.le_refl _⟩
 |f+1,.mk k n ks,s=>by
  have hg:=ztY data f;obtain⟨h1,h2⟩:=zCD hg data k n s;obtain⟨h3,h4⟩:=znK hg ks (foD (fo data f) data k n s).2;rw[fo];split
  ·exact⟨rfl,Nat.le_refl _⟩
  ·split
   ·exact⟨by omega,by omega⟩
   ·exact⟨h1,h2⟩
def TyIn(data:List Dat)(t:VT):Prop:=t.nodes≤200∧∃vars,zaH data vars t=true
theorem zkf{data:List Dat}{vars:Int}:∀ {ts:List VT},za2 data vars ts=true→∀ x∈ts,zaH data vars x=true
 |[],_,x,hx=>by simp at hx
 |t::ts,h,x,hx=>by
  simp[za2]at h;rcases List.mem_cons.1 hx with rfl|hx
  ·exact h.1
  ·exact zkf h.2 x hx
theorem TyIn.kid{data:List Dat}{k n:Int}{ks:List VT}(h:TyIn data (.mk k n ks)):∀x∈ks,TyIn data x∧x.nodes<(VT.mk k n ks).nodes:=λx hx=>by
 obtain⟨h1,vars,h2⟩:=h;have hlt:x.nodes<(VT.mk k n ks).nodes:=by obtain⟨i,hi,rfl⟩:=List.mem_iff_getElem.1 hx;exact VT.kid_lt hi
 simp[zaH]at h2;exact⟨⟨by omega,vars,zkf h2.2 x hx⟩,hlt⟩
theorem TyIn.num{data:List Dat}{n:Int}{ks:List VT}(h:TyIn data (.mk 5 n ks)):0≤n∧n.toNat<data.length:=by
 obtain⟨h1,vars,h2⟩:=h;simp[zaH,zaR]at h2;obtain⟨⟨h3,h4⟩,_⟩:=h2;refine⟨h3,?_⟩;cases hd:data[n.toNat]? with
 |none=>rw[hd]at h4;simp at h4
 |some d=>exact(List.getElem?_eq_some_iff.1 hd).1
theorem zEt{data:List Dat}{vars k n:Int}{m len:Nat}(h:zaR (data.take m) vars k n len=true):zaR data vars k n len=true:=by
 by_cases h5:k=5
 ·subst h5;have e:∀ D:List Dat,zaR D vars 5 n len=(decide (0≤n) && (match D[n.toNat]? with | some d=>(len:Int) == d.vars | none=>false)):=λ_=>rfl;rw[e]at h ⊢;cases hd:(data.take m)[n.toNat]? with
  |none=>rw[hd]at h;simp at h
  |some d=>
   rw[hd]at h;have hd2:data[n.toNat]?=some d:=by
    rw[List.getElem?_take]at hd;split at hd
    ·exact hd
    ·cases hd
   rw[hd2];exact h
 ·have b5:(k == 5)=false:=by simpa using h5
  have e:∀D D':List Dat,zaR D vars k n len=zaR D' vars k n len:=λD D'=>by unfold zaR;rw[b5];rfl
  rw[e data (data.take m)];exact h
theorem zwG{data:List Dat}{vars:Int}{m:Nat}:∀ (f:Nat) (t:VT),t.nodes≤f→zaH (data.take m) vars t=true→zaH data vars t=true
 |0,t,h,_=>by have:=t.nodes_pos;omega
 |f+1,.mk k n ks,h,ho=>by
  simp only[zaH,Bool.and_eq_true]at ho ⊢;refine⟨zEt ho.1,?_⟩;have hL:∀l:List VT,VT.nodesL l≤f→za2 (data.take m) vars l=true→za2 data vars l=true:=by
   intro l;induction l with
   |nil=>intro _ _;rfl
   |cons a l ih=>intro hn hl;simp only[VT.nodesL]at hn;simp only[za2,Bool.and_eq_true]at hl ⊢;exact⟨zwG f a (by omega) hl.1,ih (by omega) hl.2⟩
  exact hL ks (by simp only[VT.nodes]at h;omega) ho.2
theorem ziT{data:List Dat}:∀ (l:List Dat) (d i:Nat) (h:i<l.length),zb5 data l d=true→zcl data (d+i) l[i]=true
 |[],_,i,h,_=>by simp at h
 |D::l,d,0,_,ho=>by simp[zb5]at ho;exact ho.1
 |D::l,d,i+1,h,ho=>by simp[zb5]at ho;have:=ziT l (d+1) i (by simpa using h) ho.2;rw[show d+(i+1)=d+1+i by omega];exact this
theorem ziM{data:List Dat}(hD:zaE data=true){i:Nat}(hi:i<data.length):∀c∈(data[i]).cons,c.args.length≤6∧∀x∈c.args,TyIn data x:=λc hc=>by
 have h1:zb5 data data 0=true:=by simp[zaE]at hD;exact hD.1.1.2
 have h2:=ziT data 0 i hi h1;rw[Nat.zero_add]at h2;simp only[zcl,Bool.and_eq_true]at h2;have h3:=List.all_eq_true.1 h2.2 c hc;simp only[zdn,Bool.and_eq_true,decide_eq_true_eq]at h3;refine⟨h3.2.1,λx hx=>?_⟩;have h4:=List.all_eq_true.1 h3.2.2 x hx;simp only[zec,Bool.and_eq_true]at h4;have h5:=h4.1;have hn:=zfG h5;simp[zaD]at h5;exact⟨hn,_,zwG _ x (Nat.le_refl _) h5.2⟩
end Go.Proofs.YtaifokkaaahdoaaGreatDoor
namespace Go.Proofs.YtaifokkaaahdoaaGreatDoor
open Go Go.Abs
set_option maxRecDepth 100000
def zOP(_:Nat):List Bool:=[]
noncomputable def zOQ:Code:=Tryz.f78.body.getD .skip
def zAh(t0 t1:AV)(H:zaa)(K:Kt):Prop:=
 zas t1 H λt3 H=>
 zae true 3 t3 H λt6=>
 ACalls tP zfB [t0,t6,(.int .i64 101)] H λt7 H=>
 aUn .not t7 λt8=>
 zag t8
 (K (.str []) H)
 (zae true 3 t3 H λt10=>
 ACalls tP zjf [t0,t10] H λt11 H=>
 K t11 H)
theorem zOR{t0 t1:AV}{H:zaa}{K:Kt}(h:HSc H→zAh t0 t1 H K):ACalls tP zoN [t0,t1] H K:=
 zap (M:=zOP) Tryz.func78 (c:=zOQ) (by kernel_rfl) (λhs=>Eq.mpr (by kernel_rfl) (h hs))
def zkw:Nat→List Bool
 |3=>rl false [0,1,2,1,1,1,5,3,72]
 |_=>[]
noncomputable def zpT:Code:=Tryz.f111.body.getD .skip
noncomputable def zGM:List ResultVar:=Tryz.f111.results.toList
def zkx(t0 t3 t5 t11 t12 t13:AV):List AV:=t0::ux 2 (t3::ux 1 (t5::ux 5 (t11::t12::t13::ux 72 [])))
def zGK:List Bool:=zkw 3
noncomputable def zGI:Code:=zat [1,1,0,1,0,0] zpT
def zGH(K:Kt):AExit→List AV→zaa→Prop:=zau tP zkw [1,1,0,1,0] zpT (zaz tP zGM K)
def zky(t0 t3 t5 t11 t12 t13:AV)(H:zaa)(K:Kt):Prop:=ALoop tP zGI (zGH K) (zkx t0 t3 t5 t11 t12 t13) H
def zpS(t0 t3 t5 t11 t12 t13:AV)(H:zaa)(K:Kt)(Kb3:Lt):Prop:=
 zac .lss false t13 t12 λt14=>
 zag t14
 (zai 3 t11 t13 λt15=>
 zae true 3 t15 H λt16=>
 zaw [(.int .i64 0),(.int .i64 0),.snil] H λt7 H=>
 zak 3 t7 t16 H λH=>
 zae true 3 t7 H λt19=>
 ACalls tP zjf [t0,t19] H λt20 H=>
 zar 1 [(.str [])] 1 [(0,t20)] λt21=>
 zay zfq 1 16 t5 t21 H λt22 H=>
 zac .add false t13 (.int .i64 1) λt23=>
 Kb3 (zkx t0 t3 t22 t11 t12 t23) H)
 (ACalls tP zoq [t5,(.str [44,32])] H λt25 H=>
 zac .add false (.str [40]) t25 λt26=>
 zac .add false t26 (.str [41]) λt27=>
 zaf 0 t3 λt28=>
 zae false 1 t28 H λt29=>
 zac .eql false t29 (.int .i64 1) λt31=>
 zag t31
 (K (.str [105,110,116]) H)
 (zac .eql false t29 (.int .i64 2) λt33=>
 zag t33
 (K (.str [98,111,111,108]) H)
 (zac .eql false t29 (.int .i64 3) λt35=>
 zag t35
 (K (.str [117,110,105,116]) H)
 (zac .eql false t29 (.int .i64 4) λt37=>
 zag t37
 (zaf 1 t3 λt38=>
 zae false 1 t38 H λt39=>
 ACalls tP zDt [t39] H λt40 H=>
 zac .add false (.str [97]) t40 λt41=>
 K t41 H)
 (zac .eql false t29 (.int .i64 7) λt43=>
 zag t43
 (zac .add false (.str [97,114,114,97,121]) t27 λt45=>
 K t45 H)
 (zac .eql false t29 (.int .i64 8) λt47=>
 zag t47
 (zac .add false (.str [114,101,102]) t27 λt49=>
 K t49 H)
 (zac .eql false t29 (.int .i64 9) λt51=>
 zag t51
 (zah 1 t5 λt53=>
 zac .sub false t53 (.int .i64 1) λt54=>
 zab H (λK'=>K' t5 H) λt55=>
 zab H (λK'=>K' t54 H) λt56=>
 zab H (λK'=>zbp 1 1 t55 none (some t56) (K' · H)) λt57=>
 zaA H (λH K'=>ACalls tP zoq [t57,(.str [44,32])] H K') λt58=>
 zab H (λK'=>zac .add false (.str [102,110,40]) t58 (K' · H)) λt59=>
 zab H (λK'=>zac .add false t59 (.str [41,32,45,62,32]) (K' · H)) λt60=>
 zab H (λK'=>K' t5 H) λt61=>
 zab H (λK'=>K' t54 H) λt62=>
 zab H (λK'=>zai 1 t61 t62 (K' · H)) λt63=>
 zab H (λK'=>zam false 1 t63 H (K' · H)) λt64=>
 zab H (λK'=>zac .add false t60 t64 (K' · H)) λt65=>
 zab H (λK'=>K' t65 H) λt4=>
 K t4 H)
 (zac .eql false t29 (.int .i64 5) λt67=>
 zag t67
 (zah 1 t5 λt69=>
 zac .eql false t69 (.int .i64 0) λt70=>
 zag t70
 (zaf 1 t3 λt72=>
 zae false 1 t72 H λt73=>
 zai 3 t0 t73 λt74=>
 zaf 0 t74 λt75=>
 zae false 1 t75 H λt76=>
 K t76 H)
 (zaf 1 t3 λt78=>
 zae false 1 t78 H λt79=>
 zai 3 t0 t79 λt80=>
 zaf 0 t80 λt81=>
 zae false 1 t81 H λt82=>
 zac .add false t82 t27 λt84=>
 K t84 H))
 (K t27 H)))))))))
def zxb(t0 t1:AV)(H:zaa)(K:Kt):Prop:=
 zas t1 H λt3 H=>
 zaf 2 t3 λt10=>
 zae false 1 t10 H λt11=>
 zah 1 t11 λt12=>
 zky t0 t3 .snil t11 t12 (.int .i64 0) H K
theorem zGJ{t0 t3 t5 t11 t12 t13:AV}{H:zaa}{K:Kt}(Inv:Nat→AV→AV→zaa→Prop)(n:Nat)(h0:HSc H→Inv n t5 t13 H)(round:Rd2 (λt5=>λt13=>zkx t0 t3 t5 t11 t12 t13) (λt5=>λt13=>λH Kb3=>zpS t0 t3 t5 t11 t12 t13 H K Kb3) H Inv):zky t0 t3 t5 t11 t12 t13 H K:=
 lp2 (M:=zkw) zGK t5 t13 (by kernel_rfl) Inv n h0 round
theorem zGL{t0 t1:AV}{H:zaa}{K:Kt}(h:HSc H→zxb t0 t1 H K):ACalls tP zjf [t0,t1] H K:=
 zap (M:=zkw) Tryz.func111 (c:=zpT) (by kernel_rfl) (λhs=>Eq.mpr (by kernel_rfl) (h hs))
end Go.Proofs.YtaifokkaaahdoaaGreatDoor
namespace Go.Proofs.YtaifokkaaahdoaaGreatDoor
open Go Go.Abs
def zcs(data:List Dat)(n:Int):List UInt8:=(data.getD n.toNat ⟨[],0,[]⟩).name
def zb6(l:List (List UInt8)):List UInt8:=Lib.join l [44,32]
def zbS(l:List (List UInt8)):List UInt8:=40::(zb6 l++[41])
def zbB(data:List Dat)(k n:Int)(l:List (List UInt8)):List UInt8:=
 if k=1 then [105,110,116] else if k=2 then [98,111,111,108] else if k=3 then [117,110,105,116]
 else if k=7 then [97,114,114,97,121]++zbS l else if k=8 then [114,101,102]++zbS l
 else if k=9 then [102,110,40]++zb6 (l.take (l.length-1))++[41,32,45,62,32]++l.getD (l.length-1) []
 else if k=5 then (if l=[] then zcs data n else zcs data n++zbS l) else zbS l
mutual
def txt(data:List Dat):VT→List UInt8
 |.mk k n ks=>zbB data k n (zaQ data ks)
def zaQ(data:List Dat):List VT→List (List UInt8)
 |[]=>[]
 |v::vs=>txt data v::zaQ data vs
end
theorem zeq(data:List Dat):∀ ks,zaQ data ks=ks.map (txt data)
 |[]=>rfl
 |v::vs=>by rw[zaQ,zeq data vs];rfl
theorem zuA(sep:List UInt8):∀ r:List (List UInt8),(Lib.joinTail sep r).length=(r.map List.length).sum+sep.length*r.length
 |[]=>by simp[Lib.joinTail]
 |x::r=>by have:=zuA sep r;unfold Lib.joinTail at this ⊢;simp only[List.map_cons,List.flatten_cons,List.length_append,List.sum_cons,List.length_cons,Nat.mul_add,Nat.mul_one];omega
theorem znV(l:List (List UInt8)):(zb6 l).length≤(l.map List.length).sum+2*l.length:=by
 cases l with
 |nil=>simp[zb6,Lib.join_nil]
 |cons x r=>unfold zb6;rw[Lib.join_cons,List.length_append,zuA];simp;omega
theorem zCV(l:List (List UInt8)):(zbS l).length≤(l.map List.length).sum+2*l.length+2:=by have:=znV l;simp[zbS];omega
theorem zFo(l:List (List UInt8))(k:Nat):((l.take k).map List.length).sum≤(l.map List.length).sum:=by
 induction l generalizing k with
 |nil=>simp
 |cons a l ih=>
  cases k with
  |zero=>simp
  |succ k=>have:=ih k;simp only[List.take_succ_cons,List.map_cons,List.sum_cons];omega
theorem zCK(l:List (List UInt8))(k:Nat):(l.getD k []).length≤(l.map List.length).sum:=by
 induction l generalizing k with
 |nil=>simp
 |cons a l ih=>
  cases k with
  |zero=>simp
  |succ k=>have:=ih k;simp at this ⊢;omega
theorem zFr(l:List (List UInt8)):((l.take (l.length-1)).map List.length).sum+(l.getD (l.length-1) []).length≤(l.map List.length).sum:=by
 cases h:l.length with
 |zero=>have:=List.eq_nil_of_length_eq_zero h;subst this;simp
 |succ m=>
  have e:l=l.take m++[l.getD m []]:=by
   have hm:m<l.length:=by omega
   conv=>lhs;rw[←List.take_append_drop m l]
   rw[List.drop_eq_getElem_cons hm,List.drop_eq_nil_of_le (by omega)];simp[List.getD_eq_getElem?_getD,hm]
  conv=>rhs;rw[e]
  simp
theorem zFE{data:List Dat}{B:Nat}(hB:∀D∈data,D.name.length≤B)(k n:Int)(l:List (List UInt8)):(zbB data k n l).length≤(l.map List.length).sum+2*l.length+B+20:=by
 have h1:=zCV l;have h2:=znV (l.take (l.length-1));have h3:=zFr l;have h4:(zcs data n).length≤B:=by
  unfold zcs;rw[List.getD_eq_getElem?_getD];cases hd:data[n.toNat]? with
  |none=>simp
  |some D=>exact hB D (List.mem_of_getElem? hd)
 unfold zbB
 repeat' split
 all_goals simp at *
 all_goals omega
mutual
theorem zFG{data:List Dat}{B:Nat}(hB:∀ D∈data,D.name.length≤B):∀ v:VT,(txt data v).length+2≤v.nodes*(B+24)
 |.mk k n ks=>by
  have h1:=zke hB ks;have h2:=zFE hB k n (zaQ data ks);rw[txt];have h3:(zaQ data ks).length=ks.length:=by rw[zeq];simp
  have e:(VT.mk k n ks).nodes*(B+24)=VT.nodesL ks*(B+24)+(B+24):=by rw[VT.nodes,Nat.add_mul,Nat.one_mul]
  rw[e];omega
theorem zke{data:List Dat}{B:Nat}(hB:∀ D∈data,D.name.length≤B):∀ ks:List VT,((zaQ data ks).map List.length).sum+2*ks.length≤VT.nodesL ks*(B+24)
 |[]=>by simp[zaQ]
 |v::vs=>by have h1:=zFG hB v;have h2:=zke hB vs;simp only[zaQ,List.map_cons,List.sum_cons,VT.nodesL,Nat.add_mul,List.length_cons]at *;omega
end
theorem zFH{data:List Dat}{B:Nat}(hB:∀D∈data,D.name.length≤B)(ks:List VT)(k:Nat):(zb6 ((zaQ data ks).take k)).length≤VT.nodesL ks*(B+24):=by
 have h1:=zke hB ks;have h2:=znV ((zaQ data ks).take k);have h3:=zFo (zaQ data ks) k;have h4:(zaQ data ks).length=ks.length:=by rw[zeq];simp
 have h5:((zaQ data ks).take k).length≤ks.length:=by rw[List.length_take];omega
 omega
theorem zFM(n k:Nat)(hn:n≤200)(hk:k≤1024):n*k≤204800:=Nat.mul_le_mul hn hk
theorem zGN{data:List Dat}(hD:zaE data=true)(hB:∀ D∈data,D.name.length≤1000):∀ (m:Nat) (v:VT),v.nodes≤m→v.nodes≤200→zaH data 0 v=true→∀ (H:zaa),H[0]?=some .nodr→∀ K:Kt,K (.str (txt data v)) H →
  ACalls tP zjf [.sl (data.map Dat.cs) .none,.agg v.cs] H K:=by
 intro m;induction m with
 |zero=>intro v h;have:=v.nodes_pos;omega
 |succ m ih=>
  intro v hm hn hok H h0 K hK;obtain⟨k,n,ks⟩:=v;have hnn:(VT.mk k n ks).nodes=VT.nodesL ks+1:=by simp[VT.nodes]
  have hll:=VT.len_le ks;have hlt0:0<H.length:=(List.getElem?_eq_some_iff.1 h0).1;refine ACalls.out (zGL λhs=>?_);simp only[zaH,Bool.and_eq_true]at hok;have hkid:=zkf hok.2;simp[zxb,VT.cs,Nat.add_assoc];unfold zky;refine ALoop.own 5 zfq 1 rfl ?_;have hH1:(H++[AB.cells [.int .i64 k,.int .i64 n,.sl (VT.css ks) .none]]).length=H.length+1:=by simp
  rw[hH1,List.append_assoc];show zky _ _ (.sl (zbz ((zaQ data ks).take 0)) (.own (H.length+1))) _ _ _ (H++[.cells [.int .i64 k,.int .i64 n,.sl (VT.css ks) .none],.perm zfq 1 0]) _;have hp3:∀n',HSc (H++[.cells [.int .i64 k,.int .i64 n,.sl (VT.css ks) .none],.perm zfq 1 n']):=λn'=>hs.append (by simp[AB.sc,AV.scA,AV.scB]);have htl:(zaQ data ks).length=ks.length:=by rw[zeq];simp
  refine zGJ (Inv:=λq t5 t13 H'=>∃j:Nat,j≤ks.length∧ks.length-j=q∧t13=.int .i64 j∧t5=.sl (zbz ((zaQ data ks).take j)) (.own (H.length+1))∧H'=H++[.cells [.int .i64 k,.int .i64 n,.sl (VT.css ks) .none],.perm zfq 1 j]) ks.length ?_ ?_
  ·intro _;exact⟨0,by omega,rfl,rfl,rfl,rfl⟩
  ·rintro q t5 t13 H' ⟨j,hj,rfl,rfl,rfl,rfl⟩ hsc' hlen hsF Kb hKb;by_cases hlt:j<ks.length
   ·have hki:=VT.kid_lt (k:=k) (n:=n) hlt;obtain⟨x1,x2,x3,hvx,hxa,hxb,hxc⟩:=zaO ks[j];simp[zpS,hlt,hvx,Nat.add_assoc];refine⟨⟨hxa,hxb,hxc⟩,?_⟩;rw[←hvx];refine ih ks[j] (by omega) (by omega) (hkid _ (List.getElem_mem hlt)) _ (by rw[List.getElem?_append_left hlt0];exact h0) _ ?_;simp[zar,za3,plain,AV.pd];simp only[zay,zbb,za0];have hsl:(zbz ((zaQ data ks).take j)).length=j:=by simp;omega
    simp[List.set_append_right,hsl];refine⟨⟨by omega,by omega⟩,?_⟩;have hst:zbz ((zaQ data ks).take j)++[[AV.str (txt data ks[j])]]=zbz ((zaQ data ks).take (j+1)):=by rw[zeq,←List.map_take,←List.map_take,List.take_succ_eq_append_getElem hlt];simp only[zbz,List.map_append,List.map_cons,List.map_nil]
    rw[hst,zaB (by omega) (by omega)];exact hKb _ _ ⟨ks.length-(j+1),by omega,Back.at (J:=[.cells (ks[j]).cs]) (H2:=H++[.cells [.int .i64 k,.int .i64 n,.sl (VT.css ks) .none],.perm zfq 1 (j+1)]) (by simp) (by simp) (hp3 _) (by simp[zkx,ux,AV.sc,AV.scA,AV.scB,AV.scV]) ⟨_,_,rfl,j+1,by omega,rfl,rfl,rfl,rfl⟩⟩
   ·obtain rfl:j=ks.length:=by omega
    rw[List.take_of_length_le (by omega)];simp[zpS];have hb1:=zFM (VT.nodesL ks) 1024 (by omega) (by omega);have hJl:∀k',(zb6 ((zaQ data ks).take k')).length≤204800:=λk'=>Nat.le_trans (zFH hB ks k') hb1;have hS0:((zaQ data ks).map List.length).sum≤204800:=by have h1:=zke hB ks;omega
    have hJ0:=hJl ks.length;rw[List.take_of_length_le (by omega)]at hJ0;obtain⟨J,hJ⟩:∃J:zaa,J=[.cells [.int .i64 k,.int .i64 n,.sl (VT.css ks) .none],.perm zfq 1 ks.length]:=⟨_,rfl⟩;rw[←hJ];have h0J:(H++J)[0]?=some .nodr:=by rw[List.getElem?_append_left hlt0];exact h0
    have hO:∀s,txt data (.mk k n ks)=s→Out H.length K (.str s) (H++J):=λs he=>by subst he;exact Out.at rfl (Nat.le_refl _) hs .rfl' rfl rfl hK
    have hg:(H++J)[H.length]?=some (.cells [.int .i64 k,.int .i64 n,.sl (VT.css ks) .none]):=by rw[hJ];simp
    rw[txt]at hO;generalize zaQ data ks=L at *;have e40:(40:UInt8)::(zb6 L++[41])=zbS L:=rfl;refine ACalls.wk (args':=[.sl (zbz L) .none,.str [44,32]]) (zyg L [44,32] (by omega) (by have:(Lib.join L [44,32]).length≤204800:=hJ0;omega) _ h0J _ ?_) ⟨.atom (.sl _ _),.rfl',trivial⟩;change (λt25 H_1=>_) (AV.str (zb6 L)) (H++J);have hJ1:(Lib.join L [44,32]).length≤204800:=hJ0;simp[hg];refine⟨by omega,by omega,?_⟩;by_cases k1:k=1
    ·simp[k1];exact hO _ (by simp[zbB,k1])
    by_cases k2:k=2
    ·simp[k2];exact hO _ (by simp[zbB,k2])
    by_cases k3:k=3
    ·simp[k3];exact hO _ (by simp[zbB,k3])
    have b1:(k == 1)=false:=by simpa using k1
    have b2:(k == 2)=false:=by simpa using k2
    have b3:(k == 3)=false:=by simpa using k3
    have k4:k≠4:=by rintro rfl;have:=hok.1;simp[zaR]at this;omega
    have b4:(k == 4)=false:=by simpa using k4
    by_cases k7:k=7
    ·simp[k7];refine⟨by omega,?_⟩;exact hO _ (by simp[zbB,k7,zbS,zb6])
    by_cases k8:k=8
    ·simp[k8];refine⟨by omega,?_⟩;exact hO _ (by simp[zbB,k8,zbS,zb6])
    have b7:(k == 7)=false:=by simpa using k7
    have b8:(k == 8)=false:=by simpa using k8
    simp[b1,b2,b3,b4,b7,b8];by_cases k9:k=9
    ·have hpos:1≤ks.length:=by have:=hok.1;rw[k9]at this;simp[zaR]at this;omega
     obtain⟨q,hq⟩:∃q,L.length=q+1:=⟨L.length-1,by omega⟩;have w1:IntKind.i64.wrap (q:Int)=q:=zaB (by omega) (by omega);have hsl:∀(c:List AV),c∈zbz L→c.length=1:=λc hc=>by obtain⟨s,_,rfl⟩:=List.mem_map.1 hc;rfl
     have hq2:q<L.length:=by omega
     have hgq:(zbz L)[q]'(by simpa using hq2)=[.str L[q]]:=by simp[zbz]
     have htk:(zbz L).take q=zbz (L.take q):=by simp[zbz]
     have hJq:=hJl q;have hLq:=hq2;simp[k9,hq,w1];refine⟨⟨by omega,hsl⟩,?_⟩;rw[htk];refine zaC (.str (zb6 (L.take q))) (λJ'=>zyg (L.take q) [44,32] (by simp;omega) (by have:(Lib.join (L.take q) [44,32]).length≤204800:=hJq;omega) _ (by rw[List.getElem?_append_left (by simp;omega)];exact h0J) _ ⟨rfl,rfl⟩) ?_;have hLl:L[q].length≤204800:=by
      have h1:=zCK L q;have h2:L.getD q []=L[q]:=by simp[List.getD_eq_getElem?_getD,hq2]
      rw[h2]at h1;omega
     simp[hgq];refine⟨by omega,by omega,by omega,by omega,?_⟩;exact hO _ (by simp[zbB,k9,hq,List.getD_eq_getElem?_getD,hq2])
    have b9:(k == 9)=false:=by simpa using k9
    simp[b9];by_cases k5:k=5
    ·have hnum:0≤n∧n.toNat<data.length:=by
      have:=hok.1;rw[k5]at this;simp[zaR]at this;refine⟨this.1,?_⟩;cases hd:data[n.toNat]? with
      |none=>rw[hd]at this;simp at this
      |some d=>exact(List.getElem?_eq_some_iff.1 hd).1
     obtain⟨p,rfl⟩:∃p:Nat,n=p:=⟨n.toNat,by omega⟩;have hp:p<data.length:=by have:=hnum.2;simpa using this
     have e1:(data.map Dat.cs)[p]?=some (data[p]).cs:=by simp[hp]
     have hna:zcs data p=(data[p]).name:=by simp[zcs,List.getD_eq_getElem?_getD,hp]
     simp[k5,hg,hp,e1,Dat.cs];by_cases hL0:L=[]
     ·subst hL0;simp;exact hO _ (by simp[zbB,k5,hna])
     ·have hne:((L.length:Int) == 0)=false:=by have:L.length≠0:=λh=>hL0 (List.eq_nil_of_length_eq_zero h);simp;omega
      have hnl:=hB _ (List.getElem_mem hp);simp[hne];refine⟨by omega,?_⟩;exact hO _ (by simp[zbB,k5,hL0,hna,zbS,zb6])
    have b5:(k == 5)=false:=by simpa using k5
    simp[b5];exact hO _ (by simp[zbB,k1,k2,k3,k5,k7,k8,k9,zbS,zb6])
theorem zkd(kw:List UInt8→Bool):∀(m:Nat) (r:List UInt8) (p:Nat) (l:List Tk),r.length≤m→zbm kw r p=.ok l→∀t∈l,t.text.length≤r.length:=by
 intro m;induction m with
 |zero=>intro r p l hm h t ht;have:r=[]:=List.eq_nil_of_length_eq_zero (by omega);subst this;unfold zbm at h;cases h;simp at ht;subst ht;simp
 |succ m ih=>
  intro r p l hm h t ht;unfold zbm at h;split at h
  ·cases h;simp at ht;subst ht;simp
  ·rename_i b r';simp at hm;split at h
   ·have:=ih r' _ l (by omega) h t ht;simp;omega
   ·split at h
    ·have h1:=(List.dropWhile_sublist (p:=(· != 10)) (l:=r')).length_le;have:=ih _ _ l (by omega) h t ht;simp;omega
    ·split at h
     ·cases h
     ·rename_i k n hk;split at h
      ·cases h
      ·rename_i l2 hl2;cases h;rcases List.mem_cons.1 ht with rfl | ht
       ·simp[List.length_take];omega
       ·have:=ih _ _ l2 (by simp;omega) hl2 t ht;simp at this ⊢;omega
theorem zFy{kw:List UInt8→Bool}{s:List UInt8}{a e:Tk}(h:zbm kw s 0=.ok [a,e])(hk:a.kind=2)(ht:a.text=s):s≠[]∧∀b∈s,bIn b=true:=by
 unfold zbm at h;split at h
 ·cases h
 ·rename_i b r;refine⟨by simp,?_⟩;split at h
  ·have:=zkd kw _ r _ _ (Nat.le_refl _) h a (by simp);rw[ht]at this;simp only[List.length_cons]at this;omega
  ·split at h
   ·have h1:=(List.dropWhile_sublist (p:=(· != 10)) (l:=r)).length_le;have:=zkd kw _ _ _ _ (Nat.le_refl _) h a (by simp);rw[ht]at this;simp at this;omega
   ·split at h
    ·cases h
    ·rename_i k n hkn;split at h
     ·cases h
     ·rename_i l2 hl2;injection h with h
      injection h with h1 h2
      subst h1;simp only at hk ht;subst hk;unfold tok at hkn;split at hkn
      ·rename_i hb;simp only at hkn;split at hkn
       ·cases hkn
       ·simp only[Except.ok.injEq,Prod.mk.injEq]at hkn;obtain⟨hk2,rfl⟩:=hkn;have hall:r.takeWhile bIn=r:=by
         have:((b::r).take ((r.takeWhile bIn).length+1)).length=(b::r).length:=by rw[ht]
         simp only[List.length_take,List.length_cons]at this;have hle:=(List.takeWhile_prefix (p:=bIn) (l:=r)).length_le;exact(List.takeWhile_prefix (p:=bIn) (l:=r)).eq_of_length (by omega)
        have hbi:bIn b=true:=by unfold bIn;simp only[Bool.or_eq_true]at hb ⊢;rcases hb with hb|hb <;> simp[hb]
        intro x hx;rcases List.mem_cons.1 hx with rfl|hx
        ·exact hbi
        ·rw[←hall]at hx;exact List.all_eq_true.1 List.all_takeWhile x hx
      ·split at hkn
       ·simp only at hkn;split at hkn
        ·cases hkn
        ·split at hkn <;> simp at hkn
       ·simp only at hkn;split at hkn <;> simp at hkn
theorem zwQ{s:List UInt8}(h:zcI s=true):s≠[]∧∀b∈s,bIn b=true:=by
 unfold zcI zcV ze5 at h;split at h
 ·simp at h
 ·split at h
  ·simp at h
  ·rename_i l hl;simp only[Bool.and_eq_true]at h;obtain⟨_,h⟩:=h
   match l,hl,h with
   |[a,e],hl,h=>simp only[Bool.and_eq_true,beq_iff_eq]at h;exact zFy hl h.1 h.2
   |[],_,h=>cases h
   |[_],_,h=>cases h
   |_::_::_::_,_,h=>cases h
theorem zFz{kw:List UInt8→Bool}{s:List UInt8}{a e:Tk}(h:zbm kw s 0=.ok [a,e])(hk:a.kind=2)(ht:a.text=s):s.length≤24∧∃b r,s=b::r∧bUp b=true:=by
 unfold zbm at h;split at h
 ·cases h
 ·rename_i b r;split at h
  ·have:=zkd kw _ r _ _ (Nat.le_refl _) h a (by simp);rw[ht]at this;simp only[List.length_cons]at this;omega
  ·split at h
   ·have h1:=(List.dropWhile_sublist (p:=(· != 10)) (l:=r)).length_le;have:=zkd kw _ _ _ _ (Nat.le_refl _) h a (by simp);rw[ht]at this;simp at this;omega
   ·split at h
    ·cases h
    ·rename_i k n hkn;split at h
     ·cases h
     ·rename_i l2 hl2;injection h with h
      injection h with h1 h2
      subst h1;simp only at hk ht;subst hk;unfold tok at hkn;split at hkn
      ·rename_i hb;simp only at hkn;split at hkn
       ·cases hkn
       ·rename_i h24;simp only[Except.ok.injEq,Prod.mk.injEq]at hkn;obtain⟨hk2,rfl⟩:=hkn;have hle:(b::r).length≤(r.takeWhile bIn).length+1:=by
         have:((b::r).take ((r.takeWhile bIn).length+1)).length=(b::r).length:=by rw[ht]
         rw[List.length_take]at this;omega
        refine⟨by omega,b,r,rfl,?_⟩;by_cases hu:bUp b=true
        ·exact hu
        ·rw[if_neg hu]at hk2;split at hk2 <;> simp at hk2
      ·split at hkn
       ·simp only at hkn;split at hkn
        ·cases hkn
        ·split at hkn <;> simp at hkn
       ·simp only at hkn;split at hkn <;> simp at hkn
theorem zpA{s:List UInt8}(h:zcI s=true):s.length≤24∧∃b r,s=b::r∧bUp b=true:=by
 unfold zcI zcV ze5 at h;split at h
 ·simp at h
 ·split at h
  ·simp at h
  ·rename_i l hl;simp only[Bool.and_eq_true]at h;obtain⟨_,h⟩:=h
   match l,hl,h with
   |[a,e],hl,h=>simp only[Bool.and_eq_true,beq_iff_eq]at h;exact zFz hl h.1 h.2
   |[],_,h=>cases h
   |[_],_,h=>cases h
   |_::_::_::_,_,h=>cases h
theorem zg7{data:List Dat}(hD:zaE data=true){i:Nat}(hi:i<data.length):zcI (data[i]).name=true:=by
 have h1:zb5 data data 0=true:=by simp[zaE]at hD;exact hD.1.1.2
 have h2:=ziT data 0 i hi h1;simp only[zcl,Bool.and_eq_true]at h2;exact h2.1.1.1.1.1
theorem zCr{data:List Dat}(hD:zaE data=true){i j:Nat}(hi:i<data.length)(hj:j<data.length)(h:(data[i]).name=(data[j]).name):i=j:=by
 have hr:zdw (zbH data)=false:=by simp[zaE]at hD;exact hD.1.2
 have key:∀a b:Nat,∀(ha:a<data.length) (hb:b<a),(data[a]).name≠(data[b]'(by omega)).name:=λa b ha hb e=>by have:=zD8 (l:=zbH data) (i:=a) (j:=b) (by simpa[zbH]using ha) hb (by simpa[zbH]using e);rw[hr]at this;cases this
 rcases Nat.lt_trichotomy i j with h1|h1|h1
 ·exact absurd h.symm (key j i hj h1)
 ·exact h1
 ·exact absurd h (key i j hi h1)
def Dlm(r:List UInt8):Prop:=r=[]∨∃b r',r=b::r'∧(b=41∨b=44)
def okT(data:List Dat)(t:VT):Prop:=zaH data 0 t=true
theorem zth{b:UInt8}(h:b=41∨b=44∨b=40):bIn b=false:=by rcases h with rfl|rfl|rfl <;> decide
theorem zDB{s t r1 r2:List UInt8}(hs:∀b∈s,bIn b=true)(ht:∀b∈t,bIn b=true)(h1:∀b r',r1=b::r'→bIn b=false)(h2:∀b r',r2=b::r'→bIn b=false)(h:s++r1=t++r2):s=t∧r1=r2:=by
 induction s generalizing t with
 |nil=>
  cases t with
  |nil=>exact⟨rfl,h⟩
  |cons b t=>have:=h1 b (t++r2) (by simpa using h);rw[ht b (by simp)]at this;cases this
 |cons a s ih=>
  cases t with
  |nil=>have:=h2 a (s++r1) (by simpa using h.symm);rw[hs a (by simp)]at this;cases this
  |cons b t=>simp only[List.cons_append,List.cons.injEq]at h;obtain⟨h3,h4⟩:=ih (t:=t) (λx hx=>hs x (by simp[hx])) (λx hx=>ht x (by simp[hx])) h.2;exact⟨by rw[h.1,h3],h4⟩
def znN(b:UInt8):Int:=if b=105 then 1 else if b=98 then 2 else if b=117 then 3 else if b=97 then 7 else if b=114 then 8 else if b=102 then 9 else if b=40 then 6 else 5
theorem zuc{b:UInt8}(h:bUp b=true):znN b=5:=by
 have h1:65≤b.toNat∧b.toNat≤90:=by unfold bUp at h;simp at h;omega
 unfold znN;have:∀n:UInt8,(n.toNat<65∨90<n.toNat)→b≠n:=λn hn e=>by subst e;omega
 rw[if_neg (this _ (by decide)),if_neg (this _ (by decide)),if_neg (this _ (by decide)),if_neg (this _ (by decide)),if_neg (this _ (by decide)),if_neg (this _ (by decide)),if_neg (this _ (by decide))]
theorem zej{data:List Dat}{k n:Int}{ks:List VT}(h:okT data (.mk k n ks)):(k=1∨k=2∨k=3)∧n=0∧ks=[]∨k=5∧0≤n∧(∃hn:n.toNat<data.length,(ks.length:Int)=(data[n.toNat]).vars)∨(k=6∨k=7∨k=8)∧n=0∨k=9∧n=0∧1≤ks.length:=by
 unfold okT at h;simp only[zaH,Bool.and_eq_true]at h;have hs:=h.1;unfold zaR at hs;by_cases h123:(k == 1 || k == 2 || k == 3)=true
 ·rw[if_pos h123]at hs;simp at hs h123;exact .inl ⟨by omega,hs.1,hs.2⟩
 rw[if_neg h123]at hs;by_cases h4:(k == 4)=true
 ·rw[if_pos h4]at hs;simp at hs;omega
 rw[if_neg h4]at hs;by_cases h5:(k == 5)=true
 ·rw[if_pos h5]at hs;simp at h5 hs;refine .inr (.inl ⟨h5,hs.1,?_⟩);cases hd:data[n.toNat]? with
  |none=>rw[hd]at hs;simp at hs
  |some d=>rw[hd]at hs;obtain⟨hn,hd2⟩:=List.getElem?_eq_some_iff.1 hd;exact⟨hn,by rw[hd2];simpa using hs.2⟩
 rw[if_neg h5]at hs;by_cases h6:(k == 6)=true
 ·rw[if_pos h6]at hs;simp at h6 hs;exact .inr (.inr (.inl ⟨.inl h6,hs.1.1⟩))
 rw[if_neg h6]at hs;by_cases h78:(k == 7 || k == 8)=true
 ·rw[if_pos h78]at hs;simp at h78 hs;exact .inr (.inr (.inl ⟨by omega,hs.1⟩))
 rw[if_neg h78]at hs;by_cases h9:(k == 9)=true
 ·rw[if_pos h9]at hs;simp at h9 hs;exact .inr (.inr (.inr ⟨h9,hs.1.1,hs.1.2⟩))
 ·rw[if_neg h9]at hs;cases hs
theorem zoW{data:List Dat}{k n:Int}{ks:List VT}(h:okT data (.mk k n ks)):∀x∈ks,okT data x:=by unfold okT at h;simp only[zaH,Bool.and_eq_true]at h;exact zkf h.2
theorem zpv{data:List Dat}(hD:zaE data=true){k n:Int}{ks:List VT}(h:okT data (.mk k n ks)):∃b r,txt data (.mk k n ks)=b::r∧znN b=k:=by
 rw[txt];rcases zej h with ⟨hk,_⟩|⟨rfl,h0,hn,_⟩|⟨hk,_⟩|⟨rfl,_⟩
 ·rcases hk with rfl | rfl | rfl
  ·exact⟨105,_,rfl,rfl⟩
  ·exact⟨98,_,rfl,rfl⟩
  ·exact⟨117,_,rfl,rfl⟩
 ·obtain⟨_,b,r,hb,hu⟩:=zpA (zg7 hD hn);have e:zcs data n=b::r:=by simp[zcs,List.getD_eq_getElem?_getD,hn,hb]
  by_cases hl:zaQ data ks=[]
  ·exact⟨b,r,by simp[zbB,hl,e],zuc hu⟩
  ·exact⟨b,r++zbS (zaQ data ks),by simp[zbB,hl,e],zuc hu⟩
 ·rcases hk with rfl | rfl | rfl
  ·exact⟨40,_,rfl,rfl⟩
  ·exact⟨97,_,rfl,rfl⟩
  ·exact⟨114,_,rfl,rfl⟩
 ·exact⟨102,_,by simp only[zbB];rfl,rfl⟩
theorem zud{data:List Dat}(hD:zaE data=true){t:VT}(h:okT data t):∀r1 r2:List UInt8,txt data t++r1≠41::r2:=λr1 r2 e=>by
 obtain⟨k,n,ks⟩:=t;obtain⟨b,r,hb,hk⟩:=zpv hD h;rw[hb]at e;simp only[List.cons_append,List.cons.injEq]at e;rw[e.1]at hk;have hk5:k=5:=by rw[←hk];rfl
 subst hk5;rcases zej h with ⟨h1,_⟩|⟨_,h0,hn,_⟩|⟨h1,_⟩|⟨h1,_⟩
 ·omega
 ·obtain⟨_,b',r',hb',hu⟩:=zpA (zg7 hD hn);have e2:zcs data n=b'::r':=by simp[zcs,List.getD_eq_getElem?_getD,hn,hb']
  have:b=b':=by
   rw[txt]at hb;by_cases hl:zaQ data ks=[]
   ·simp[zbB,hl,e2]at hb;exact hb.1.symm
   ·simp[zbB,hl,e2]at hb;exact hb.1.symm
  rw[←this,e.1]at hu;exact absurd hu (by decide)
 ·omega
 ·omega
theorem zCu{r:List UInt8}(h:Dlm r):∀b r',r=b::r'→bIn b=false:=λb r' e=>by
 rcases h with h|⟨b',r'',h,hb⟩
 ·rw[h]at e;cases e
 ·rw[h]at e;cases e;exact zth (by rcases hb with hb|hb <;> simp[hb])
def zgP(data:List Dat)(t:VT):Prop:=∀(u:VT) (r1 r2:List UInt8),okT data u→Dlm r1→Dlm r2→txt data t++r1=txt data u++r2→t=u∧r1=r2
theorem znW(sep:List UInt8):Lib.joinTail sep []=[]:=rfl
theorem zi4(sep x:List UInt8)(r:List (List UInt8)):Lib.joinTail sep (x::r)=sep++x++Lib.joinTail sep r:=by simp[Lib.joinTail]
theorem zkc(l:List (List UInt8))(r:List UInt8):Dlm (Lib.joinTail [44,32] l++41::r):=by
 cases l with
 |nil=>exact .inr ⟨41,r,rfl,.inl rfl⟩
 |cons x l=>exact .inr ⟨44,_,by rw[zi4];rfl,.inr rfl⟩
theorem zuq{data:List Dat}:∀ (ks ls:List VT) (r1 r2:List UInt8),(∀ x∈ks,zgP data x)→(∀ x∈ls,okT data x)→Lib.joinTail [44,32] (zaQ data ks)++41::r1=Lib.joinTail [44,32] (zaQ data ls)++41::r2→ks=ls∧r1=r2
 |[],[],r1,r2,_,_,h=>by simp[zaQ,znW]at h;exact⟨rfl,h⟩
 |[],b::ls,r1,r2,_,_,h=>by simp[zaQ,znW,zi4]at h
 |a::ks,[],r1,r2,_,_,h=>by simp[zaQ,znW,zi4]at h
 |a::ks,b::ls,r1,r2,hk,hl,h=>by simp only[zaQ,zi4,List.append_assoc,List.cons_append,List.nil_append,List.cons.injEq,true_and]at h;obtain⟨h1,h2⟩:=hk a (by simp) b _ _ (hl b (by simp)) (zkc _ _) (zkc _ _) h;obtain⟨h3,h4⟩:=zuq ks ls r1 r2 (λx hx=>hk x (by simp[hx])) (λx hx=>hl x (by simp[hx])) h2;exact⟨by rw[h1,h3],h4⟩
theorem zup{data:List Dat}(hD:zaE data=true)(ks ls:List VT)(r1 r2:List UInt8)(hi:∀x∈ks,zgP data x)(hk:∀x∈ks,okT data x)(hl:∀x∈ls,okT data x)(h:zb6 (zaQ data ks)++41::r1=zb6 (zaQ data ls)++41::r2):ks=ls∧r1=r2:=by
 unfold zb6 at h;cases ks with
 |nil=>
  cases ls with
  |nil=>simp[zaQ,Lib.join_nil]at h;exact⟨rfl,h⟩
  |cons b ls=>simp only[zaQ,Lib.join_nil,Lib.join_cons,List.nil_append,List.append_assoc]at h;exact absurd h.symm (zud hD (hl b (by simp)) _ _)
 |cons a ks=>
  cases ls with
  |nil=>simp only[zaQ,Lib.join_nil,Lib.join_cons,List.nil_append,List.append_assoc]at h;exact absurd h (zud hD (hk a (by simp)) _ _)
  |cons b ls=>simp only[zaQ,Lib.join_cons,List.append_assoc]at h;obtain⟨h1,h2⟩:=hi a (by simp) b _ _ (hl b (by simp)) (zkc _ _) (zkc _ _) h;obtain⟨h3,h4⟩:=zuq ks ls r1 r2 (λx hx=>hi x (by simp[hx])) (λx hx=>hl x (by simp[hx])) h2;exact⟨by rw[h1,h3],h4⟩
theorem zuo{data:List Dat}(hD:zaE data=true)(ks ls:List VT)(r1 r2:List UInt8)(hi:∀x∈ks,zgP data x)(hk:∀x∈ks,okT data x)(hl:∀x∈ls,okT data x)(h:zbS (zaQ data ks)++r1=zbS (zaQ data ls)++r2):ks=ls∧r1=r2:=by unfold zbS at h;simp only[List.cons_append,List.append_assoc,List.cons.injEq,true_and,List.nil_append]at h;exact zup hD ks ls r1 r2 hi hk hl h
theorem zwz(data:List Dat)(ks:List VT)(k:Nat):(zaQ data ks).take k=zaQ data (ks.take k):=by rw[zeq,zeq,List.map_take]
theorem zpw(data:List Dat)(ks:List VT):(zaQ data ks).length=ks.length:=by rw[zeq];simp
theorem zwc{ks:List VT}(h:1≤ks.length):∃x,ks=ks.take (ks.length-1)++[x]∧x∈ks∧∀data:List Dat,(zaQ data ks).getD ((zaQ data ks).length-1) []=txt data x:=by
 have hm:ks.length-1<ks.length:=by omega
 refine⟨ks[ks.length-1],?_,List.getElem_mem hm,λdata=>?_⟩
 ·conv=>lhs;rw[←List.take_append_drop (ks.length-1) ks]
  rw[List.drop_eq_getElem_cons hm,List.drop_eq_nil_of_le (by omega)]
 ·rw[zpw,zeq];simp[List.getD_eq_getElem?_getD,hm]
theorem zwy{data:List Dat}(hD:zaE data=true):∀ (m:Nat) (t:VT),t.nodes≤m→okT data t→zgP data t
 |0,t,h,_=>by have:=t.nodes_pos;omega
 |m+1,.mk k n ks,hm,ht=>by
  rintro⟨k',n',ls⟩ r1 r2 hu d1 d2 h;obtain⟨b,r,hb,hbk⟩:=zpv hD ht;obtain⟨b',r',hb',hbk'⟩:=zpv hD hu;have hkk:k=k':=by rw[hb,hb']at h;simp only[List.cons_append,List.cons.injEq]at h;rw[←hbk,←hbk',h.1]
  subst hkk;have kids:=zoW ht;have kidsU:=zoW hu;have ih:∀x∈ks,zgP data x:=λx hx=>zwy hD m x (by
   obtain⟨i,hi,rfl⟩:=List.mem_iff_getElem.1 hx;have:=VT.kid_lt (k:=k) (n:=n) hi;omega) (kids x hx)
  rw[txt,txt]at h;rcases zej ht with ⟨hk,hn,he⟩|⟨rfl,h0,hn,hv⟩|⟨hk,hn⟩|⟨rfl,hn,hl⟩
  ·rcases zej hu with ⟨_,hn',he'⟩ | ⟨h1,_⟩ | ⟨h1,_⟩ | ⟨h1,_⟩
   ·subst hn hn' he he';refine⟨rfl,?_⟩;rcases hk with rfl|rfl|rfl <;> simpa[zbB]using h
   all_goals omega
  ·rcases zej hu with ⟨h1,_⟩ | ⟨_,h0',hn',hv'⟩ | ⟨h1,_⟩ | ⟨h1,_⟩
   ·omega
   ·have e1:zcs data n=(data[n.toNat]).name:=by simp[zcs,List.getD_eq_getElem?_getD,hn]
    have e2:zcs data n'=(data[n'.toNat]).name:=by simp[zcs,List.getD_eq_getElem?_getD,hn']
    have s1:=(zwQ (zg7 hD hn)).2;have s2:=(zwQ (zg7 hD hn')).2;have f:∀(ls:List VT) (n:Int),zbB data 5 n (zaQ data ls)=zcs data n++(if ls=[] then [] else zbS (zaQ data ls)):=λls n=>by
     cases ls with
     |nil=>simp[zbB,zaQ]
     |cons a l=>simp[zbB,zaQ]
    rw[f,f,e1,e2,List.append_assoc,List.append_assoc]at h;have g:∀(ls:List VT) (r:List UInt8),Dlm r→∀b r',(if ls=[] then ([]:List UInt8) else zbS (zaQ data ls))++r=b::r'→bIn b=false:=λls r hd b r' e=>by
     by_cases hl:ls=[]
     ·rw[if_pos hl,List.nil_append]at e;exact zCu hd b r' e
     ·rw[if_neg hl]at e;unfold zbS at e;simp only[List.cons_append,List.cons.injEq]at e;rw[←e.1];exact zth (.inr (.inr rfl))
    obtain⟨g1,g2⟩:=zDB s1 s2 (g ks r1 d1) (g ls r2 d2) h;have hij:=zCr hD hn hn' g1;have hnn:n=n':=by omega
    subst hnn;have hlen:ks.length=ls.length:=by omega
    by_cases hks:ks=[]
    ·have hls:ls=[]:=by subst hks;exact List.eq_nil_of_length_eq_zero (by simpa using hlen.symm)
     subst hks hls;exact⟨rfl,by simpa using g2⟩
    ·have hls:ls≠[]:=λe=>hks (by subst e;exact List.eq_nil_of_length_eq_zero (by simpa using hlen));rw[if_neg hks,if_neg hls]at g2;obtain⟨q1,q2⟩:=zuo hD ks ls r1 r2 ih kids kidsU g2;exact⟨by rw[q1],q2⟩
   all_goals omega
  ·rcases zej hu with ⟨h1,_⟩ | ⟨h1,_⟩ | ⟨_,hn'⟩ | ⟨h1,_⟩
   ·omega
   ·omega
   ·subst hn hn';have hq:zbS (zaQ data ks)++r1=zbS (zaQ data ls)++r2:=by rcases hk with rfl | rfl | rfl <;> simpa[zbB]using h
    obtain⟨q1,q2⟩:=zuo hD ks ls r1 r2 ih kids kidsU hq;exact⟨by rw[q1],q2⟩
   ·omega
  ·rcases zej hu with ⟨h1,_⟩ | ⟨h1,_⟩ | ⟨h1,_⟩ | ⟨_,hn',hl'⟩
   ·omega
   ·omega
   ·omega
   ·subst hn hn';obtain⟨x,ex,hx,gx⟩:=zwc hl;obtain⟨y,ey,hy,gy⟩:=zwc hl';have f:∀ l:List (List UInt8),zbB data 9 0 l=[102,110,40]++zb6 (l.take (l.length-1))++[41,32,45,62,32]++l.getD (l.length-1) []:=λl=>by simp[zbB]
    rw[f,f,gx,gy,zpw,zpw,zwz,zwz]at h;simp only[List.append_assoc,List.cons_append,List.nil_append,List.cons.injEq,true_and]at h;obtain⟨q1,q2⟩:=zup hD _ _ _ _ (λz hz=>ih z (List.mem_of_mem_take hz)) (λz hz=>kids z (List.mem_of_mem_take hz)) (λz hz=>kidsU z (List.mem_of_mem_take hz)) h;simp only[List.cons.injEq,true_and]at q2;obtain⟨q3,q4⟩:=ih x hx y r1 r2 (kidsU y hy) d1 d2 q2;exact⟨by rw[ex,ey,q1,q3],q4⟩
theorem zFF{data:List Dat}(hD:zaE data=true){t u:VT}(ht:okT data t)(hu:okT data u)(h:txt data t=txt data u):t=u:=
 (zwy hD _ t (Nat.le_refl _) ht u [] [] hu (.inl rfl) (.inl rfl) (by simpa using h)).1
theorem zvf{data:List Dat}:∀ (m:Nat) (t:VT),t.nodes≤m→okT data t→∀ vars:Int,zaH data vars t=true
 |0,t,h,_,_=>by have:=t.nodes_pos;omega
 |m+1,.mk k n ks,hm,ht,vars=>by
  have kids:=zoW ht;have k4:(k == 4)=false:=by rcases zej ht with ⟨h,_⟩|⟨h,_⟩|⟨h,_⟩|⟨h,_⟩ <;> simp <;> omega
  unfold okT at ht;simp only[zaH,Bool.and_eq_true]at ht ⊢;refine⟨?_,?_⟩
  ·have:=ht.1;unfold zaR at this ⊢;rw[k4]at this ⊢;exact this
  ·have hL:∀l:List VT,(∀x∈l,x.nodes≤m∧okT data x)→za2 data vars l=true:=by
    intro l;induction l with
    |nil=>intro _;rfl
    |cons a l ih=>intro h;simp only[za2,Bool.and_eq_true];exact⟨zvf m a (h a (by simp)).1 (h a (by simp)).2 vars,ih λx hx=>h x (by simp[hx])⟩
   exact hL ks λx hx=>⟨by
    obtain⟨i,hi,rfl⟩:=List.mem_iff_getElem.1 hx;have:=VT.kid_lt (k:=k) (n:=n) hi;omega,kids x hx⟩
theorem zdz{data:List Dat}{t:VT}(h:zaD data 0 t=true):okT data t:=by simp[zaD]at h;exact h.2
theorem zDC{data:List Dat}(hD:zaE data=true):∀D∈data,D.name.length≤1000:=λD hd=>by obtain⟨i,hi,rfl⟩:=List.mem_iff_getElem.1 hd;have:=(zpA (zg7 hD hi)).1;omega
theorem zOS{data:List Dat}(hD:zaE data=true)(t:VT)(ht:zaD data 0 t=true)(H:zaa)(h0:H[0]?=some .nodr)(K:Kt)(hK:K (.str (txt data t)) H):
  ACalls tP zoN [.sl (data.map Dat.cs) .none,.agg t.cs] H K:=by
 refine ACalls.out (zOR λhs=>?_);have hn:=zfG ht;have hlt0:0<H.length:=(List.getElem?_eq_some_iff.1 h0).1;obtain⟨x,y,z,hvx,hx,hy,hz⟩:=zaO t;simp[zAh,hvx];rw[←hvx];refine zQl data 101 t (by omega) _ _ ?_;have hv:zaD data 101 t=true:=by have:=zvf t.nodes t (Nat.le_refl _) (zdz ht) 101;simp[zaD,this];omega
 rw[hv];simp[hvx];rw[←hvx];refine zGN hD (zDC hD) t.nodes t (Nat.le_refl _) hn (zdz ht) _ (by rw[List.getElem?_append_left hlt0];exact h0) _ ?_;exact Out.at rfl (Nat.le_refl _) hs .rfl' rfl rfl hK
end Go.Proofs.YtaifokkaaahdoaaGreatDoor
