import Derived.Test.YtaifokkaaahdoaaGreatDoorKNum
import Derived.Test.YtaifokkaaahdoaaGreatDoorProg
import Derived.KernelRfl
import Derived.Test.YtaifokkaaahdoaaGreatDoorAbsU
set_option linter.unusedSimpArgs false
set_option linter.unusedVariables false
set_option maxRecDepth 8000
namespace Go.Proofs.YtaifokkaaahdoaaGreatDoor
open Go Go.Abs
set_option maxRecDepth 100000
def zLM(_:Nat):List Bool:=[]
noncomputable def zLN:Code:=Tryz.f35.body.getD .skip
def zy8(t0 t1:AV)(H:zaa)(K:Kt):Prop:=
 zdG H λt7 H=>
 zea H λt8 H=>
 zaq [.snil,(.int .i64 0),.unk,.snil,.snil,.snil,.unk] [(0,1),(1,1),(2,1),(3,1),(4,1),(5,1),(6,1)] [(0,t0),(1,t1),(2,t7),(6,t8)] λt9=>
 zas t9 H λt10 H=>
 K t10 H
theorem zLO{t0 t1:AV}{H:zaa}{K:Kt}(h:HSc H→zy8 t0 t1 H K):ACalls tP zjB [t0,t1] H K:=
 zap (M:=zLM) Tryz.func35 (c:=zLN) (by kernel_rfl) (λhs=>Eq.mpr (by kernel_rfl) (h hs))
def zLY:Nat→List Bool
 |200007=>rl false [0,9]
 |_=>[]
noncomputable def zLZ:Code:=Tryz.f38.body.getD .skip
def zdh(t0 t8:AV)(H:zaa)(K:Kt):Prop:=
 zaI t0 λt50=>
 zaf 4 t50 λt51=>
 zae false 1 t51 H λt52=>
 zar 1 [(.bool false)] 1 [(0,(.bool false))] λt53=>
 zay zeL 1 1 t52 t53 H λt54 H=>
 zaI t0 λt55=>
 zaf 4 t55 λt56=>
 zak 1 t56 t54 H λH=>
 zaI t0 λt59=>
 zaf 5 t59 λt60=>
 zae false 1 t60 H λt61=>
 zar 1 [.snil] 1 [(0,.snil)] λt62=>
 zay zeK 1 24 t61 t62 H λt63 H=>
 zaI t0 λt64=>
 zaf 5 t64 λt65=>
 zak 1 t65 t63 H λH=>
 K t8 H
def zzc(t0 t1:AV)(H:zaa)(K:Kt):Prop:=
 zas t1 H λt3 H=>
 zab H (λK'=>K' t0 H) λt9=>
 zab H (λK'=>zaI t9 (K' · H)) λt10=>
 zab H (λK'=>zaf 0 t10 (K' · H)) λt11=>
 zab H (λK'=>zam false 1 t11 H (K' · H)) λt12=>
 zab H (λK'=>zam true 3 t3 H (K' · H)) λt13=>
 zaA H (λH K'=>ACalls tP zoN [t12,t13] H K') λt14=>
 zab H (λK'=>K' t14 H) λt5=>
 zaI t0 λt17=>
 zaf 2 t17 λt18=>
 zae false 1 t18 H λt19=>
 zdj (.int .i64 0) true t19 t5 H λt21=>
 zaG t21 0 λt22=>
 zaG t21 1 λt23=>
 zag t23
 (K t22 H)
 (zaI t0 λt27=>
 zaf 3 t27 λt28=>
 zae false 1 t28 H λt29=>
 zah 1 t29 λt30=>
 zaI t0 λt32=>
 zaf 2 t32 λt33=>
 zae false 1 t33 H λt34=>
 zcy t34 t5 t30 H λH=>
 zab H (λK'=>K' t0 H) λt37=>
 zab H (λK'=>zaI t37 (K' · H)) λt38=>
 zab H (λK'=>zaf 3 t38 (K' · H)) λt39=>
 zab H (λK'=>zam false 1 t39 H (K' · H)) λt40=>
 zab H (λK'=>zam true 3 t3 H (K' · H)) λt41=>
 zab H (λK'=>zah 1 t40 (K' · H)) λt42=>
 zab H (λK'=>zar 3 [(.int .i64 0),(.int .i64 0),.snil] 1 [(0,(.agg [(.int .i64 0),(.int .i64 0),.snil]))] (K' · H)) λt43=>
 zay zbe 3 40 t40 t43 H λt44 H=>
 (zai 3 t44 t42 λt45=>
 (zak 3 t45 t41 H λH=>
 zaI t37 λt46=>
 zaf 3 t46 λt47=>
 zak 1 t47 t44 H λH=>
 zdh t0 t30 H K)∧(zaI t37 λt46=>
 (zak 3 t45 t41 H λH=>
 zaf 3 t46 λt47=>
 zak 1 t47 t44 H λH=>
 zdh t0 t30 H K)∧(zaf 3 t46 λt47=>
 (zak 3 t45 t41 H λH=>
 zak 1 t47 t44 H λH=>
 zdh t0 t30 H K)∧(zak 1 t47 t44 H λH=>
 zak 3 t45 t41 H λH=>
 zdh t0 t30 H K))))∧(zaI t37 λt46=>
 (zai 3 t44 t42 λt45=>
 (zak 3 t45 t41 H λH=>
 zaf 3 t46 λt47=>
 zak 1 t47 t44 H λH=>
 zdh t0 t30 H K)∧(zaf 3 t46 λt47=>
 (zak 3 t45 t41 H λH=>
 zak 1 t47 t44 H λH=>
 zdh t0 t30 H K)∧(zak 1 t47 t44 H λH=>
 zak 3 t45 t41 H λH=>
 zdh t0 t30 H K)))∧(zaf 3 t46 λt47=>
 (zai 3 t44 t42 λt45=>
 (zak 3 t45 t41 H λH=>
 zak 1 t47 t44 H λH=>
 zdh t0 t30 H K)∧(zak 1 t47 t44 H λH=>
 zak 3 t45 t41 H λH=>
 zdh t0 t30 H K))∧(zak 1 t47 t44 H λH=>
 zai 3 t44 t42 λt45=>
 zak 3 t45 t41 H λH=>
 zdh t0 t30 H K))))
theorem zL0{t0 t1:AV}{H:zaa}{K:Kt}(h:HSc H→zzc t0 t1 H K):ACalls tP zfz [t0,t1] H K:=
 zap (M:=zLY) Tryz.func38 (c:=zLZ) (by kernel_rfl) (λhs=>Eq.mpr (by kernel_rfl) (h hs))
def zku:Nat→List Bool
 |3=>rl false [0,1,4,1,2,3,11]
 |_=>[]
noncomputable def zpQ:Code:=Tryz.f109.body.getD .skip
noncomputable def zGD:List ResultVar:=Tryz.f109.results.toList
def zkv(t0 t5 t8 t9 t10:AV):List AV:=t0::ux 4 (t5::ux 2 (t8::t9::t10::ux 11 []))
def zGB:List Bool:=zku 3
noncomputable def zGz:Code:=zat [1,1,0,1,0,0] zpQ
def zGy(K:Kt):AExit→List AV→zaa→Prop:=zau tP zku [1,1,0,1,0] zpQ (zaz tP zGD K)
def zpR(t0 t5 t8 t9 t10:AV)(H:zaa)(K:Kt):Prop:=ALoop tP zGz (zGy K) (zkv t0 t5 t8 t9 t10) H
def zpP(t0 t5 t8 t9 t10:AV)(H:zaa)(K:Kt)(Kb3:Lt):Prop:=
 zac .lss false t10 t9 λt11=>
 zag t11
 (zai 3 t8 t10 λt12=>
 zae true 3 t12 H λt13=>
 zaw [(.int .i64 0),(.int .i64 0),.snil] H λt7 H=>
 zak 3 t7 t13 H λH=>
 zae true 3 t7 H λt16=>
 ACalls tP zfz [t0,t16] H λt17 H=>
 zar 1 [(.int .i64 0)] 1 [(0,t17)] λt18=>
 zay zcL 1 8 t5 t18 H λt19 H=>
 zac .add false t10 (.int .i64 1) λt20=>
 Kb3 (zkv t0 t19 t8 t9 t20) H)
 (K t5 H)
def zw9(t0 t1:AV)(H:zaa)(K:Kt):Prop:=
 zah 1 t1 λt9=>
 zpR t0 .snil t1 t9 (.int .i64 0) H K
theorem zGA{t0 t5 t8 t9 t10:AV}{H:zaa}{K:Kt}(Inv:Nat→AV→AV→zaa→Prop)(n:Nat)(h0:HSc H→Inv n t5 t10 H)(round:Rd2 (λt5=>λt10=>zkv t0 t5 t8 t9 t10) (λt5=>λt10=>λH Kb3=>zpP t0 t5 t8 t9 t10 H K Kb3) H Inv):zpR t0 t5 t8 t9 t10 H K:=
 lp2 (M:=zku) zGB t5 t10 (by kernel_rfl) Inv n h0 round
theorem zGC{t0 t1:AV}{H:zaa}{K:Kt}(h:HSc H→zw9 t0 t1 H K):ACalls tP zje [t0,t1] H K:=
 zap (M:=zku) Tryz.func109 (c:=zpQ) (by kernel_rfl) (λhs=>Eq.mpr (by kernel_rfl) (h hs))
def zmz:Nat→List Bool
 |12=>rl false [0,2,3,2,52,2,30]
 |_=>[]
noncomputable def zr8:Code:=Tryz.f76.body.getD .skip
noncomputable def zOL:List ResultVar:=Tryz.f76.results.toList
def zr9(t0 t1 t6:AV)(H:zaa)(K:Kt):Prop:=
 zaI t0 λt84=>
 zaf 5 t84 λt85=>
 zae false 1 t85 H λt86=>
 zai 1 t86 t1 λt89=>
 zak 1 t89 t6 H λH=>
 K t6 H
def zgN(t0 t1 t6:AV)(H:zaa)(K:Kt):Prop:=
 zr9 t0 t1 t6 H K
def zit(t0 t1 t5 t6 t59 t60:AV):List AV:=t0::t1::ux 3 (t5::t6::ux 52 (t59::t60::ux 30 []))
def zOJ:List Bool:=zmz 12
noncomputable def zOH:Code:=zat [1,1,1,1,1,0,1,0,1,1,1,0,1,0,0] zr8
def zOG(K:Kt):AExit→List AV→zaa→Prop:=zau tP zmz [1,1,1,1,1,0,1,0,1,1,1,0,1,0] zr8 (zaz tP zOL K)
def zsb(t0 t1 t5 t6 t59 t60:AV)(H:zaa)(K:Kt):Prop:=ALoop tP zOH (zOG K) (zit t0 t1 t5 t6 t59 t60) H
def zsa(t0 t1 t5 t6 t59 t60:AV)(H:zaa)(K:Kt)(Kb12:Lt):Prop:=
 zac .add false t60 (.int .i64 1) λt82=>
 Kb12 (zit t0 t1 t5 t6 t59 t82) H
def zmA(t0 t1 t5 t6 t59 t60:AV)(H:zaa)(K:Kt)(Kb12:Lt):Prop:=
 zsa t0 t1 t5 t6 t59 t60 H K Kb12
def zr7(t0 t1 t5 t6 t59 t60:AV)(H:zaa)(K:Kt)(Kb12:Lt):Prop:=
 zac .lss false t60 t59 λt61=>
 zag t61
 (zab H (λK'=>K' t0 H) λt64=>
 zab H (λK'=>zaI t64 (K' · H)) λt65=>
 zab H (λK'=>zaf 0 t65 (K' · H)) λt66=>
 zab H (λK'=>zam false 1 t66 H (K' · H)) λt67=>
 zab H (λK'=>zam true 3 t5 H (K' · H)) λt68=>
 zab H (λK'=>K' t60 H) λt69=>
 zaA H (λH K'=>ACalls tP zjR [t67,t68,t69] H K') λt70=>
 zab H (λK'=>K' t70 H) λt63=>
 zab H (λK'=>zaG t63 0 (K' · H)) λt71=>
 zab H (λK'=>zaG t63 1 (K' · H)) λt72=>
 zab H (λK'=>K' t71 H) λt8=>
 zab H (λK'=>K' t72 H) λt9=>
 zag t9
 (ACalls tP zje [t0,t8] H λt78 H=>
 zaq [(.int .i64 0),.snil] [(0,1),(1,1)] [(0,t60),(1,t78)] λt79=>
 zar 2 [(.int .i64 0),.snil] 1 [(0,t79)] λt80=>
 zay ziU 2 32 t6 t80 H λt81 H=>
 zmA t0 t1 t5 t81 t59 t60 H K Kb12)
 (zmA t0 t1 t5 t6 t59 t60 H K Kb12))
 (zgN t0 t1 t6 H K)
def zfT(t0 t1 t5 t6 t38 t39:AV)(H:zaa)(K:Kt):Prop:=
 zag t39
 (zaf 2 t5 λt43=>
 zae false 1 t43 H λt44=>
 ACalls tP zje [t0,t44] H λt45 H=>
 zaq [(.int .i64 0),.snil] [(0,1),(1,1)] [(1,t45)] λt46=>
 zar 2 [(.int .i64 0),.snil] 1 [(0,t46)] λt47=>
 zgN t0 t1 t47 H K)
 (zac .eql false t38 (.int .i64 5) λt49=>
 zag t49
 (zab H (λK'=>K' t0 H) λt50=>
 zab H (λK'=>zaI t50 (K' · H)) λt51=>
 zab H (λK'=>zaf 0 t51 (K' · H)) λt52=>
 zab H (λK'=>zam false 1 t52 H (K' · H)) λt53=>
 zab H (λK'=>zaf 1 t5 (K' · H)) λt54=>
 zab H (λK'=>zam false 1 t54 H (K' · H)) λt55=>
 zab H (λK'=>zai 3 t53 t55 (K' · H)) λt56=>
 zab H (λK'=>zaf 2 t56 (K' · H)) λt57=>
 zab H (λK'=>zam false 1 t57 H (K' · H)) λt58=>
 zab H (λK'=>zah 1 t58 (K' · H)) λt59=>
 zab H (λK'=>K' (.int .i64 0) H) λt60=>
 zsb t0 t1 t5 t6 t59 t60 H K)
 (zgN t0 t1 t6 H K))
def zAf(t0 t1:AV)(H:zaa)(K:Kt):Prop:=
 zaI t0 λt11=>
 zaf 4 t11 λt12=>
 zae false 1 t12 H λt13=>
 zai 1 t13 t1 λt15=>
 zae false 1 t15 H λt16=>
 zag t16
 (zaI t0 λt18=>
 zaf 5 t18 λt19=>
 zae false 1 t19 H λt20=>
 zai 1 t20 t1 λt22=>
 zae false 1 t22 H λt23=>
 K t23 H)
 (zaI t0 λt25=>
 zaf 4 t25 λt26=>
 zae false 1 t26 H λt27=>
 zai 1 t27 t1 λt29=>
 zak 1 t29 (.bool true) H λH=>
 zaI t0 λt31=>
 zaf 3 t31 λt32=>
 zae false 1 t32 H λt33=>
 zai 3 t33 t1 λt35=>
 zae true 3 t35 H λt36=>
 zaw [(.int .i64 0),(.int .i64 0),.snil] H λt5 H=>
 zak 3 t5 t36 H λH=>
 zaf 0 t5 λt37=>
 zae false 1 t37 H λt38=>
 zac .eql false t38 (.int .i64 6) λt40=>
 zag t40
 (zfT t0 t1 t5 .snil t38 t40 H K)
 (zac .eql false t38 (.int .i64 8) λt41=>
 zfT t0 t1 t5 .snil t38 t41 H K))
theorem zOI{t0 t1 t5 t6 t59 t60:AV}{H:zaa}{K:Kt}(Inv:Nat→AV→AV→zaa→Prop)(n:Nat)(h0:HSc H→Inv n t6 t60 H)(round:Rd2 (λt6=>λt60=>zit t0 t1 t5 t6 t59 t60) (λt6=>λt60=>λH Kb12=>zr7 t0 t1 t5 t6 t59 t60 H K Kb12) H Inv):zsb t0 t1 t5 t6 t59 t60 H K:=
 lp2 (M:=zmz) zOJ t6 t60 (by kernel_rfl) Inv n h0 round
theorem zOK{t0 t1:AV}{H:zaa}{K:Kt}(h:HSc H→zAf t0 t1 H K):ACalls tP zhG [t0,t1] H K:=
 zap (M:=zmz) Tryz.func76 (c:=zr8) (by kernel_rfl) (λhs=>Eq.mpr (by kernel_rfl) (h hs))
def zOv(_:Nat):List Bool:=[]
noncomputable def zOw:Code:=Tryz.f74.body.getD .skip
def zmv(t0 t4:AV)(H:zaa)(K:Kt):Prop:=
 ACalls tP zeV [t0] H λt8 H=>
 zak 3 t4 t8 H λH=>
 zae true 3 t4 H λr0=>
 K r0 H
def zz8(t0 t1:AV)(H:zaa)(K:Kt):Prop:=
 zaw [(.bool false),.snil,.snil] H λt4 H=>
 zac .neq false t1 (.int .i64 1) λt6=>
 zag t6
 (zmv (.int .i64 0) t4 H K)
 (zmv t0 t4 H K)
theorem zOx{t0 t1:AV}{H:zaa}{K:Kt}(h:HSc H→zz8 t0 t1 H K):ACalls tP zgn [t0,t1] H K:=
 zap (M:=zOv) Tryz.func74 (c:=zOw) (by kernel_rfl) (λhs=>Eq.mpr (by kernel_rfl) (h hs))
end Go.Proofs.YtaifokkaaahdoaaGreatDoor
namespace Go.Abs
open Go Go.RowKit
variable {P:Program} {B:Nat} {w:World} {G:Gh} {H:zaa}
theorem WkA.vrel{v:Value}{a b:AV}(h:WkA a b)(hr:VRel w G v a):VRel w G v b:=by
 cases h with
 |refl=>exact hr
 |sl es t=>exact VRel.of_a (WkA.arel (.sl es t) hr)
 |snil=>exact VRel.of_a (WkA.arel .snil hr)
theorem zBv{kvs kvs':List ((Int×Int)×AV)}(h:All2 (λp q=>p.1=q.1∧WkA p.2 q.2) kvs kvs'):∀{es:List MapEntry},All2 (ERelP w G) es kvs→All2 (ERelP w G) es kvs':=by
 induction kvs generalizing kvs' with
 |nil=>
  intro es hr;cases kvs' with
  |nil=>exact hr
  |cons b bs=>exact h.elim
 |cons a asx ih=>
  intro es hr;cases kvs' with
  |nil=>exact h.elim
  |cons b bs=>
   cases es with
   |nil=>exact hr.elim
   |cons e es=>exact⟨⟨by rw[hr.1.1,h.1.1],h.1.2.vrel hr.1.2⟩,ih h.2 hr.2⟩
inductive BWk:AB→AB→Prop
 |refl (b:AB):BWk b b
 |cells {cs ds:List AV} (h:All2 WkA cs ds):BWk (.cells cs) (.cells ds)
 |vec {e s n:Nat} {cs ds:List AV} (h:All2 WkA cs ds):BWk (.vec e s n cs) (.vec e s n ds)
 |mapP {kvs kvs':List ((Int×Int)×AV)} (h:All2 (λp q=>p.1=q.1∧WkA p.2 q.2) kvs kvs'):BWk (.mapP kvs) (.mapP kvs')
theorem BWk.ok{a b:AB}{gi:GI}(h:BWk a b)(hk:BlkOK B w G a gi):BlkOK B w G b gi:=by
 cases h with
 |refl=>exact hk
 |cells h=>
  cases gi with
  |blk b=>obtain⟨h1,h2,vs,e,h3,h4⟩:=hk;exact⟨h1,h2,vs,e,h3,h.wk h4⟩
  |own v s n=>exact hk.elim
  |gap=>exact hk.elim
 |mapP h=>
  cases gi with
  |blk b=>obtain⟨h1,h2,es,clk,h3,h4⟩:=hk;exact⟨h1,h2,es,clk,h3,zBv h h4⟩
  |own v s n=>exact hk.elim
  |gap=>exact hk.elim
 |vec h=>
  cases gi with
  |blk b=>exact hk.elim
  |own v s n=>obtain⟨h1,h2,⟨xs,h3,h4⟩,h5⟩:=hk;exact⟨h1,h2,⟨xs,h3,h.wk h4⟩,h5⟩
  |gap=>exact hk.elim
theorem HRel.weak{H':zaa}(h:HRel B w G H)(hl:H'.length=H.length)(hw:∀(i:Nat) (a b:AB),H[i]?=some a→H'[i]?=some b→BWk a b):HRel B w G H':=by
 refine⟨by rw[hl];exact h.len,λid ab gi h1 h2=>?_,h.dist,h.fresh,h.lt,h.base⟩;have hlt:id<H.length:=by rw[←hl];exact(List.getElem?_eq_some_iff.1 h1).1
 exact(hw id _ _ (List.getElem?_eq_getElem hlt) h1).ok (h.ok id _ gi (List.getElem?_eq_getElem hlt) h2)
def zeA(n:Nat)(K:AV→zaa→Prop)(r:AV)(H':zaa):Prop:=∃r2 H1 H2 J,H'=H1++J∧H2.length=H1.length∧(∀(i:Nat) (a b:AB),H1[i]?=some a→H2[i]?=some b→BWk a b)∧n≤H2.length∧HSc H2∧OutT H' H2.length r r2∧K r2 H2
theorem ACalls.outH{f:FuncId}{args:List AV}{K:AV→zaa→Prop}(h:ACalls P f args H (zeA H.length K)):ACalls P f args H K:=by
 intro B w G vs hH hv;refine(h B w G vs hH hv).mono λe w' ⟨v,r,H',G',h1,h2,h3,h4,h5⟩=>?_;obtain⟨r2,H1,H2,J,hJ,hl,hw,hn,hsc,ho,hk⟩:=h5;subst hJ;have h3':HRel B w' G' (H2++J):=h3.weak (by simp[hl]) λi a b ha hb=>by
  by_cases hi:i<H1.length
  ·rw[List.getElem?_append_left hi]at ha;rw[List.getElem?_append_left (by omega)]at hb;exact hw i a b ha hb
  ·rw[List.getElem?_append_right (by omega)]at ha;rw[List.getElem?_append_right (by omega),hl]at hb;rw[ha]at hb;cases hb;exact .refl _
 refine⟨v,r2,H2,G'.cut w' H2.length,h1,znA h3' h2 (by rw[hH.len];exact hn),h3'.cut hsc,?_,hk⟩;cases ho with
 |one ho=>exact TRel.of_v (ho.vrel h3 h4)
 |tup ho=>obtain⟨us,hu,hr⟩:=h4;exact⟨us,hu,zvn h3 ho hr⟩
theorem Out.toH{n:Nat}{K:AV→zaa→Prop}{r:AV}(h:Out n K r H):zeA n K r H:=by obtain⟨r2,H2,J,hJ,hn,hsc,ho,hk⟩:=h;exact⟨r2,H2,H2,J,hJ,rfl,λi a b ha hb=>by rw[ha]at hb;cases hb;exact .refl _,hn,hsc,ho,hk⟩
end Go.Abs
namespace Go.Proofs.YtaifokkaaahdoaaGreatDoor
open Go Go.Abs
set_option maxRecDepth 100000
def zMy(_:Nat):List Bool:=[]
noncomputable def zMz:Code:=Tryz.f46.body.getD .skip
def zzs(t0:AV)(H:zaa)(K:Kt):Prop:=
 zaw [(.bool false),.snil,.snil] H λt2 H=>
 zac .lss false t0 (.int .i64 0) λt4=>
 ACalls tP zoP [t0] H λt6 H=>
 zar 1 [(.int .u32 0)] 1 [(0,(.int .u32 1))] λt7=>
 zaq [(.bool false),.snil,.snil] [(0,1),(1,1),(2,1)] [(0,t4),(1,t6),(2,t7)] λt8=>
 ACalls tP zgm [t8] H λt9 H=>
 zak 3 t2 t9 H λH=>
 zae true 3 t2 H λr0=>
 K r0 H
theorem zMA{t0:AV}{H:zaa}{K:Kt}(h:HSc H→zzs t0 H K):ACalls tP zeV [t0] H K:=
 zap (M:=zMy) Tryz.func46 (c:=zMz) (by kernel_rfl) (λhs=>Eq.mpr (by kernel_rfl) (h hs))
def zPq(_:Nat):List Bool:=[]
noncomputable def zPr:Code:=Tryz.f86.body.getD .skip
def zAw(t0 t1:AV)(H:zaa)(K:Kt):Prop:=
 zas t0 H λt2 H=>
 zas t1 H λt3 H=>
 zaw [(.bool false),.snil,.snil] H λt4 H=>
 zab H (λK'=>zam true 3 t2 H (K' · H)) λt7=>
 zaA H (λH K'=>ACalls tP zdr [t7] H K') λt8=>
 zab H (λK'=>zam true 3 t3 H (K' · H)) λt9=>
 zaA H (λH K'=>ACalls tP zdr [t9] H K') λt10=>
 zaw [(.bool false),.snil,.snil] H λt5 H=>
 zaw [(.bool false),.snil,.snil] H λt6 H=>
 zak 3 t5 t8 H λH=>
 zak 3 t6 t10 H λH=>
 zab H (λK'=>zaf 0 t5 (K' · H)) λt11=>
 zab H (λK'=>zam false 1 t11 H (K' · H)) λt12=>
 zab H (λK'=>zaf 0 t6 (K' · H)) λt13=>
 zab H (λK'=>zam false 1 t13 H (K' · H)) λt14=>
 zab H (λK'=>zac .neq true t12 t14 (K' · H)) λt15=>
 zab H (λK'=>zaf 1 t5 (K' · H)) λt16=>
 zab H (λK'=>zam false 1 t16 H (K' · H)) λt17=>
 zab H (λK'=>zaf 1 t6 (K' · H)) λt18=>
 zab H (λK'=>zam false 1 t18 H (K' · H)) λt19=>
 zaA H (λH K'=>ACalls tP zcC [t17,t19] H K') λt20=>
 zab H (λK'=>zaf 2 t5 (K' · H)) λt21=>
 zab H (λK'=>zam false 1 t21 H (K' · H)) λt22=>
 zab H (λK'=>zaf 2 t6 (K' · H)) λt23=>
 zab H (λK'=>zam false 1 t23 H (K' · H)) λt24=>
 zaA H (λH K'=>ACalls tP zcC [t22,t24] H K') λt25=>
 zab H (λK'=>zaq [(.bool false),.snil,.snil] [(0,1),(1,1),(2,1)] [(0,t15),(1,t20),(2,t25)] (K' · H)) λt26=>
 zaA H (λH K'=>ACalls tP zgm [t26] H K') λt27=>
 zak 3 t4 t27 H λH=>
 zae true 3 t4 H λr0=>
 K r0 H
theorem zPs{t0 t1:AV}{H:zaa}{K:Kt}(h:HSc H→zAw t0 t1 H K):ACalls tP zjM [t0,t1] H K:=
 zap (M:=zPq) Tryz.func86 (c:=zPr) (by kernel_rfl) (λhs=>Eq.mpr (by kernel_rfl) (h hs))
def zOM(_:Nat):List Bool:=[]
noncomputable def zON:Code:=Tryz.f77.body.getD .skip
def zAg(t0 t1:AV)(H:zaa)(K:Kt):Prop:=
 zas t0 H λt2 H=>
 zas t1 H λt3 H=>
 zaw [(.bool false),.snil,.snil] H λt4 H=>
 zab H (λK'=>zam true 3 t2 H (K' · H)) λt5=>
 zaA H (λH K'=>ACalls tP zdr [t5] H K') λt6=>
 zab H (λK'=>zam true 3 t3 H (K' · H)) λt7=>
 zaA H (λH K'=>ACalls tP zdr [t7] H K') λt8=>
 zaA H (λH K'=>ACalls tP zod [t6,t8] H K') λt9=>
 zaA H (λH K'=>ACalls tP zgm [t9] H K') λt10=>
 zak 3 t4 t10 H λH=>
 zae true 3 t4 H λr0=>
 K r0 H
theorem zOO{t0 t1:AV}{H:zaa}{K:Kt}(h:HSc H→zAg t0 t1 H K):ACalls tP zhH [t0,t1] H K:=
 zap (M:=zOM) Tryz.func77 (c:=zON) (by kernel_rfl) (λhs=>Eq.mpr (by kernel_rfl) (h hs))
def zPt(_:Nat):List Bool:=[]
noncomputable def zPu:Code:=Tryz.f87.body.getD .skip
def zAy(t0:AV)(H:zaa)(K:Kt):Prop:=
 zac .lss false t0 (.int .i64 0) λt4=>
 zag t4
 (za9 .u64 t0 λt6=>
 aUn .neg t6 λt7=>
 ACalls tP zjg [t7] H λt8 H=>
 K t8 H)
 (za9 .u64 t0 λt10=>
 ACalls tP zjg [t10] H λt11 H=>
 K t11 H)
theorem zPv{t0:AV}{H:zaa}{K:Kt}(h:HSc H→zAy t0 H K):ACalls tP zoP [t0] H K:=
 zap (M:=zPt) Tryz.func87 (c:=zPu) (by kernel_rfl) (λhs=>Eq.mpr (by kernel_rfl) (h hs))
def zOs(_:Nat):List Bool:=[]
noncomputable def zOt:Code:=Tryz.f73.body.getD .skip
def zz7(t0:AV)(H:zaa)(K:Kt):Prop:=
 zas t0 H λt1 H=>
 zaw [(.bool false),.snil,.snil] H λt2 H=>
 zae true 3 t1 H λt4=>
 ACalls tP zoc [t4] H λt5 H=>
 zaw [(.bool false),.snil,.snil] H λt3 H=>
 zak 3 t3 t5 H λH=>
 zaf 0 t3 λt6=>
 zae false 1 t6 H λt7=>
 zaf 1 t3 λt8=>
 zae false 1 t8 H λt9=>
 zaf 2 t3 λt10=>
 zae false 1 t10 H λt11=>
 zaq [(.bool false),.snil,.snil] [(0,1),(1,1),(2,1)] [(0,t7),(1,t9),(2,t11)] λt12=>
 zak 3 t2 t12 H λH=>
 zae true 3 t2 H λr0=>
 K r0 H
theorem zOu{t0:AV}{H:zaa}{K:Kt}(h:HSc H→zz7 t0 H K):ACalls tP zgm [t0] H K:=
 zap (M:=zOs) Tryz.func73 (c:=zOt) (by kernel_rfl) (λhs=>Eq.mpr (by kernel_rfl) (h hs))
def zOq(_:Nat):List Bool:=[]
noncomputable def zOr:Code:=Tryz.f72.body.getD .skip
def zr2(t0:AV)(H:zaa)(K:Kt):Prop:=
 zas t0 H λt1 H=>
 zaw [(.bool false),.snil,.snil] H λt2 H=>
 zab H (λK'=>zaf 1 t1 (K' · H)) λt5=>
 zab H (λK'=>zam false 1 t5 H (K' · H)) λt6=>
 zaA H (λH K'=>ACalls tP zhq [t6] H K') λt7=>
 zab H (λK'=>zaf 2 t1 (K' · H)) λt8=>
 zab H (λK'=>zam false 1 t8 H (K' · H)) λt9=>
 zaA H (λH K'=>ACalls tP zhq [t9] H K') λt10=>
 zab H (λK'=>K' t7 H) λt3=>
 zab H (λK'=>K' t10 H) λt4=>
 zah 1 t3 λt12=>
 zac .eql false t12 (.int .i64 0) λt13=>
 zad t13 false H (λK'=>K' t4 H) λt15 H=>
 zad t13 false H (λK'=>zah 1 t15 (K' · H)) λt16 H=>
 zad t13 false H (λK'=>zac .eql false t16 (.int .i64 0) (K' · H)) λt17 H=>
 zao t13 (.bool true) t17 λt18=>
 zag t18
 (zar 1 [(.int .u32 0)] 1 [(0,(.int .u32 1))] λt19=>
 zaq [(.bool false),.snil,.snil] [(0,1),(1,1),(2,1)] [(2,t19)] λt20=>
 zak 3 t2 t20 H λH=>
 zae true 3 t2 H λr0=>
 K r0 H)
 (zaf 0 t1 λt21=>
 zae false 1 t21 H λt22=>
 zaq [(.bool false),.snil,.snil] [(0,1),(1,1),(2,1)] [(0,t22),(1,t3),(2,t4)] λt25=>
 zak 3 t2 t25 H λH=>
 zae true 3 t2 H λr0=>
 K r0 H)
theorem zz6{t0:AV}{H:zaa}{K:Kt}(h:HSc H→zr2 t0 H K):ACalls tP zdr [t0] H K:=
 zap (M:=zOq) Tryz.func72 (c:=zOr) (by kernel_rfl) (λhs=>Eq.mpr (by kernel_rfl) (h hs))
def zfU:Nat→List Bool
 |5=>rl false [0,2,3,1,19,2,50]
 |9=>rl false [0,2,3,3,17,2,3,2,45]
 |_=>[]
noncomputable def zsj:Code:=Tryz.f84.body.getD .skip
noncomputable def zPm:List ResultVar:=Tryz.f84.results.toList
def zmK(t0 t1 t5 t25 t26:AV):List AV:=t0::t1::ux 3 (t5::ux 19 (t25::t26::ux 50 []))
def zAu:List Bool:=zfU 5
noncomputable def zsk:Code:=zat [1,1,1,0,1,0,0] zsj
def zAr(K:Kt):AExit→List AV→zaa→Prop:=zau tP zfU [1,1,1,0,1,0] zsj (zaz tP zPm K)
def zAs(t0 t1 t5 t25 t26:AV)(H:zaa)(K:Kt):Prop:=ALoop tP zsk (zAr K) (zmK t0 t1 t5 t25 t26) H
def ziw(t0 t1 t5 t6 t7 t25 t26 t30 t31:AV):List AV:=t0::t1::ux 3 (t5::t6::t7::ux 17 (t25::t26::ux 3 (t30::t31::ux 45 [])))
def zPk:List Bool:=zfU 9
noncomputable def zPh:Code:=zat [1,1,0,0,1,1,0,1,0,0] zsk
def zPg(K:Kt)(Kb5:Lt):AExit→List AV→zaa→Prop:=zau tP zfU [1,1,0,0,1,1,0,1,0] zsk (zb1 zAu Kb5 (zAr K))
def zAt(t0 t1 t5 t6 t7 t25 t26 t30 t31:AV)(H:zaa)(K:Kt)(Kb5:Lt):Prop:=ALoop tP zPh (zPg K Kb5) (ziw t0 t1 t5 t6 t7 t25 t26 t30 t31) H
def zsi(t0 t1 t5 t6 t7 t25 t26 t30 t31:AV)(H:zaa)(K:Kt)(Kb5:Lt)(Kb9:Lt):Prop:=
 zac .lss false t31 t30 λt32=>
 zag t32
 (zab H (λK'=>K' t0 H) λt34=>
 zab H (λK'=>K' t6 H) λt35=>
 zab H (λK'=>zai 1 t34 t35 (K' · H)) λt36=>
 zab H (λK'=>zam false 1 t36 H (K' · H)) λt37=>
 zab H (λK'=>za9 .u64 t37 (K' · H)) λt38=>
 zab H (λK'=>K' t1 H) λt39=>
 zab H (λK'=>K' t31 H) λt40=>
 zab H (λK'=>zai 1 t39 t40 (K' · H)) λt41=>
 zab H (λK'=>zam false 1 t41 H (K' · H)) λt42=>
 zab H (λK'=>za9 .u64 t42 (K' · H)) λt43=>
 zab H (λK'=>zac .mul false t38 t43 (K' · H)) λt44=>
 zab H (λK'=>K' t5 H) λt45=>
 zab H (λK'=>K' t6 H) λt46=>
 zab H (λK'=>K' t31 H) λt47=>
 zab H (λK'=>zac .add false t46 t47 (K' · H)) λt48=>
 zab H (λK'=>zai 1 t45 t48 (K' · H)) λt49=>
 zab H (λK'=>zam false 1 t49 H (K' · H)) λt50=>
 zab H (λK'=>za9 .u64 t50 (K' · H)) λt51=>
 zab H (λK'=>zac .add false t44 t51 (K' · H)) λt52=>
 zab H (λK'=>K' t7 H) λt53=>
 zab H (λK'=>zac .add false t52 t53 (K' · H)) λt54=>
 zab H (λK'=>K' t54 H) λt9=>
 zac .add false t6 t31 λt58=>
 zac .rem false t9 (.int .u64 1000000000) λt60=>
 za9 .u32 t60 λt61=>
 zai 1 t5 t58 λt62=>
 zak 1 t62 t61 H λH=>
 zac .quo false t9 (.int .u64 1000000000) λt64=>
 zac .add false t31 (.int .i64 1) λt65=>
 Kb9 (ziw t0 t1 t5 t6 t64 t25 t26 t30 t65) H)
 (zah 1 t1 λt69=>
 zac .add false t6 t69 λt70=>
 za9 .u32 t7 λt72=>
 zai 1 t5 t70 λt73=>
 zak 1 t73 t72 H λH=>
 zac .add false t26 (.int .i64 1) λt74=>
 Kb5 (zmK t0 t1 t5 t25 t74) H)
def zsh(t0 t1 t5 t25 t26:AV)(H:zaa)(K:Kt)(Kb5:Lt):Prop:=
 zac .lss false t26 t25 λt27=>
 zag t27
 (zah 1 t1 λt30=>
 zAt t0 t1 t5 t26 (.int .u64 0) t25 t26 t30 (.int .i64 0) H K Kb5)
 (ACalls tP zgj [t5] H λt76 H=>
 K t76 H)
def zmJ(t0 t1:AV)(H:zaa)(K:Kt):Prop:=
 zah 1 t0 λt11=>
 zac .eql false t11 (.int .i64 0) λt12=>
 zad t12 false H (λK'=>K' t1 H) λt14 H=>
 zad t12 false H (λK'=>zah 1 t14 (K' · H)) λt15 H=>
 zad t12 false H (λK'=>zac .eql false t15 (.int .i64 0) (K' · H)) λt16 H=>
 zao t12 (.bool true) t16 λt17=>
 zag t17
 (K .snil H)
 (zah 1 t0 λt19=>
 zah 1 t1 λt21=>
 zac .add false t19 t21 λt22=>
 zba 4 [(.int .u32 0)] t22 t22 H λt23 H=>
 zah 1 t0 λt25=>
 zAs t0 t1 t23 t25 (.int .i64 0) H K)
theorem zPj{t0 t1 t5 t6 t7 t25 t26 t30 t31:AV}{H:zaa}{K:Kt}{Kb5:Lt}(Inv:Nat→AV→AV→zaa→Prop)(n:Nat)(h0:HSc H→Inv n t7 t31 H)(round:Rd2 (λt7=>λt31=>ziw t0 t1 t5 t6 t7 t25 t26 t30 t31) (λt7=>λt31=>λH Kb9=>zsi t0 t1 t5 t6 t7 t25 t26 t30 t31 H K Kb5 Kb9) H Inv):zAt t0 t1 t5 t6 t7 t25 t26 t30 t31 H K Kb5:=
 lp2 (M:=zfU) zPk t7 t31 (by kernel_rfl) Inv n h0 round
theorem zPi{t0 t1 t5 t25 t26:AV}{H:zaa}{K:Kt}(Inv:Nat→AV→zaa→Prop)(n:Nat)(h0:HSc H→Inv n t26 H)(round:Rd1 (λt26=>zmK t0 t1 t5 t25 t26) (λt26=>λH Kb5=>zsh t0 t1 t5 t25 t26 H K Kb5) H Inv):zAs t0 t1 t5 t25 t26 H K:=
 lp1 (M:=zfU) zAu t26 (by kernel_rfl) Inv n h0 round
theorem zPl{t0 t1:AV}{H:zaa}{K:Kt}(h:HSc H→zmJ t0 t1 H K):ACalls tP zcC [t0,t1] H K:=
 zap (M:=zfU) Tryz.func84 (c:=zsj) (by kernel_rfl) (λhs=>Eq.mpr (by kernel_rfl) (h hs))
def zGE(_:Nat):List Bool:=[]
noncomputable def zGF:Code:=Tryz.f110.body.getD .skip
def zxa(t0 t1:AV)(H:zaa)(K:Kt):Prop:=
 zas t0 H λt2 H=>
 zas t1 H λt3 H=>
 zaw [(.bool false),.snil,.snil] H λt4 H=>
 zab H (λK'=>zaf 1 t2 (K' · H)) λt8=>
 zab H (λK'=>zam false 1 t8 H (K' · H)) λt9=>
 zab H (λK'=>zaf 2 t3 (K' · H)) λt10=>
 zab H (λK'=>zam false 1 t10 H (K' · H)) λt11=>
 zaA H (λH K'=>ACalls tP zcC [t9,t11] H K') λt12=>
 zab H (λK'=>zaf 1 t3 (K' · H)) λt13=>
 zab H (λK'=>zam false 1 t13 H (K' · H)) λt14=>
 zab H (λK'=>zaf 2 t2 (K' · H)) λt15=>
 zab H (λK'=>zam false 1 t15 H (K' · H)) λt16=>
 zaA H (λH K'=>ACalls tP zcC [t14,t16] H K') λt17=>
 zab H (λK'=>K' t12 H) λt5=>
 zab H (λK'=>K' t17 H) λt6=>
 zaf 2 t2 λt18=>
 zae false 1 t18 H λt19=>
 zaf 2 t3 λt20=>
 zae false 1 t20 H λt21=>
 ACalls tP zcC [t19,t21] H λt22 H=>
 zaf 0 t2 λt23=>
 zae false 1 t23 H λt24=>
 zaf 0 t3 λt25=>
 zae false 1 t25 H λt26=>
 zac .eql true t24 t26 λt27=>
 zag t27
 (zab H (λK'=>zaf 0 t2 (K' · H)) λt28=>
 zab H (λK'=>zam false 1 t28 H (K' · H)) λt29=>
 zab H (λK'=>K' t5 H) λt30=>
 zab H (λK'=>K' t6 H) λt31=>
 zaA H (λH K'=>ACalls tP zop [t30,t31] H K') λt32=>
 zab H (λK'=>K' t22 H) λt33=>
 zab H (λK'=>zaq [(.bool false),.snil,.snil] [(0,1),(1,1),(2,1)] [(0,t29),(1,t32),(2,t33)] (K' · H)) λt34=>
 zak 3 t4 t34 H λH=>
 zae true 3 t4 H λr0=>
 K r0 H)
 (ACalls tP zhJ [t5,t6] H λt37 H=>
 zac .geq false t37 (.int .i64 0) λt38=>
 zag t38
 (zab H (λK'=>zaf 0 t2 (K' · H)) λt39=>
 zab H (λK'=>zam false 1 t39 H (K' · H)) λt40=>
 zab H (λK'=>K' t5 H) λt41=>
 zab H (λK'=>K' t6 H) λt42=>
 zaA H (λH K'=>ACalls tP zu2 [t41,t42] H K') λt43=>
 zab H (λK'=>K' t22 H) λt44=>
 zab H (λK'=>zaq [(.bool false),.snil,.snil] [(0,1),(1,1),(2,1)] [(0,t40),(1,t43),(2,t44)] (K' · H)) λt45=>
 zak 3 t4 t45 H λH=>
 zae true 3 t4 H λr0=>
 K r0 H)
 (zab H (λK'=>zaf 0 t3 (K' · H)) λt46=>
 zab H (λK'=>zam false 1 t46 H (K' · H)) λt47=>
 zab H (λK'=>K' t6 H) λt48=>
 zab H (λK'=>K' t5 H) λt49=>
 zaA H (λH K'=>ACalls tP zu2 [t48,t49] H K') λt50=>
 zab H (λK'=>K' t22 H) λt51=>
 zab H (λK'=>zaq [(.bool false),.snil,.snil] [(0,1),(1,1),(2,1)] [(0,t47),(1,t50),(2,t51)] (K' · H)) λt52=>
 zak 3 t4 t52 H λH=>
 zae true 3 t4 H λr0=>
 K r0 H))
theorem zGG{t0 t1:AV}{H:zaa}{K:Kt}(h:HSc H→zxa t0 t1 H K):ACalls tP zod [t0,t1] H K:=
 zap (M:=zGE) Tryz.func110 (c:=zGF) (by kernel_rfl) (λhs=>Eq.mpr (by kernel_rfl) (h hs))
def zO7(_:Nat):List Bool:=[]
noncomputable def zO8:Code:=Tryz.f82.body.getD .skip
def zsf(t0:AV)(H:zaa)(K:Kt):Prop:=
 zas t0 H λt1 H=>
 zaf 1 t1 λt4=>
 zae false 1 t4 H λt5=>
 zah 1 t5 λt6=>
 zac .eql false t6 (.int .i64 0) λt7=>
 zag t7
 (K (.int .i64 0) H)
 (zaf 0 t1 λt9=>
 zae false 1 t9 H λt10=>
 zag t10
 (K (.int .i64 (-1)) H)
 (K (.int .i64 1) H))
theorem zO9{t0:AV}{H:zaa}{K:Kt}(h:HSc H→zsf t0 H K):ACalls tP zhI [t0] H K:=
 zap (M:=zO7) Tryz.func82 (c:=zO8) (by kernel_rfl) (λhs=>Eq.mpr (by kernel_rfl) (h hs))
def zmH:Nat→List Bool
 |6=>rl false [0,2,3,1,37]
 |_=>[]
noncomputable def zsg:Code:=Tryz.f83.body.getD .skip
noncomputable def zPf:List ResultVar:=Tryz.f83.results.toList
def zmI(t0 t1 t5:AV):List AV:=t0::t1::ux 3 (t5::ux 37 [])
def zPd:List Bool:=zmH 6
noncomputable def zPb:Code:=zat [1,1,0,1,0,0] zsg
def zPa(K:Kt):AExit→List AV→zaa→Prop:=zau tP zmH [1,1,0,1,0] zsg (zaz tP zPf K)
def zAq(t0 t1 t5:AV)(H:zaa)(K:Kt):Prop:=ALoop tP zPb (zPa K) (zmI t0 t1 t5) H
def ziv(t0 t1 t5:AV)(H:zaa)(K:Kt)(Kb6:Lt):Prop:=
 zac .geq false t5 (.int .i64 0) λt20=>
 zag t20
 (zab H (λK'=>K' t0 H) λt24=>
 zab H (λK'=>K' t5 H) λt25=>
 zab H (λK'=>zai 1 t24 t25 (K' · H)) λt26=>
 zab H (λK'=>zam false 1 t26 H (K' · H)) λt27=>
 zab H (λK'=>K' t1 H) λt28=>
 zab H (λK'=>K' t5 H) λt29=>
 zab H (λK'=>zai 1 t28 t29 (K' · H)) λt30=>
 zab H (λK'=>zam false 1 t30 H (K' · H)) λt31=>
 zab H (λK'=>zac .lss false t27 t31 (K' · H)) λt32=>
 zab H (λK'=>K' t32 H) λt23=>
 zag t23
 (K (.int .i64 (-1)) H)
 (zab H (λK'=>K' t0 H) λt34=>
 zab H (λK'=>K' t5 H) λt35=>
 zab H (λK'=>zai 1 t34 t35 (K' · H)) λt36=>
 zab H (λK'=>zam false 1 t36 H (K' · H)) λt37=>
 zab H (λK'=>K' t1 H) λt38=>
 zab H (λK'=>K' t5 H) λt39=>
 zab H (λK'=>zai 1 t38 t39 (K' · H)) λt40=>
 zab H (λK'=>zam false 1 t40 H (K' · H)) λt41=>
 zab H (λK'=>zac .gtr false t37 t41 (K' · H)) λt42=>
 zab H (λK'=>K' t42 H) λt33=>
 zag t33
 (K (.int .i64 1) H)
 (zac .sub false t5 (.int .i64 1) λt22=>
 Kb6 (zmI t0 t1 t22) H)))
 (K (.int .i64 0) H)
def zmG(t0 t1:AV)(H:zaa)(K:Kt):Prop:=
 zah 1 t0 λt7=>
 zah 1 t1 λt9=>
 zac .neq false t7 t9 λt10=>
 zag t10
 (zah 1 t0 λt12=>
 zah 1 t1 λt14=>
 zac .lss false t12 t14 λt15=>
 zag t15
 (K (.int .i64 (-1)) H)
 (K (.int .i64 1) H))
 (zah 1 t0 λt17=>
 zac .sub false t17 (.int .i64 1) λt18=>
 zAq t0 t1 t18 H K)
theorem zPc{t0 t1 t5:AV}{H:zaa}{K:Kt}(Inv:Nat→AV→zaa→Prop)(n:Nat)(h0:HSc H→Inv n t5 H)(round:Rd1 (λt5=>zmI t0 t1 t5) (λt5=>λH Kb6=>ziv t0 t1 t5 H K Kb6) H Inv):zAq t0 t1 t5 H K:=
 lp1 (M:=zmH) zPd t5 (by kernel_rfl) Inv n h0 round
theorem zPe{t0 t1:AV}{H:zaa}{K:Kt}(h:HSc H→zmG t0 t1 H K):ACalls tP zhJ [t0,t1] H K:=
 zap (M:=zmH) Tryz.func83 (c:=zsg) (by kernel_rfl) (λhs=>Eq.mpr (by kernel_rfl) (h hs))
def zkE:Nat→List Bool
 |2=>rl false [0,1,2,1,11]
 |_=>[]
noncomputable def zpZ:Code:=Tryz.f117.body.getD .skip
noncomputable def zG6:List ResultVar:=Tryz.f117.results.toList
def zkF(t0 t3:AV):List AV:=t0::ux 2 (t3::ux 11 [])
def zG4:List Bool:=zkE 2
noncomputable def zG2:Code:=zat [1,1,0,0,0] zpZ
def zG1(K:Kt):AExit→List AV→zaa→Prop:=zau tP zkE [1,1,0,0] zpZ (zaz tP zG6 K)
def zkG(t0 t3:AV)(H:zaa)(K:Kt):Prop:=ALoop tP zG2 (zG1 K) (zkF t0 t3) H
def zpY(t0 t3:AV)(H:zaa)(K:Kt)(Kb2:Lt):Prop:=
 zac .gtr false t0 (.int .u64 0) λt5=>
 zag t5
 (zac .rem false t0 (.int .u64 1000000000) λt10=>
 za9 .u32 t10 λt11=>
 zar 1 [(.int .u32 0)] 1 [(0,t11)] λt12=>
 zay za8 1 4 t3 t12 H λt13 H=>
 zac .quo false t0 (.int .u64 1000000000) λt7=>
 Kb2 (zkF t7 t13) H)
 (K t3 H)
def zxg(t0:AV)(H:zaa)(K:Kt):Prop:=
 zkG t0 .snil H K
theorem zG3{t0 t3:AV}{H:zaa}{K:Kt}(Inv:Nat→AV→AV→zaa→Prop)(n:Nat)(h0:HSc H→Inv n t0 t3 H)(round:Rd2 (λt0=>λt3=>zkF t0 t3) (λt0=>λt3=>λH Kb2=>zpY t0 t3 H K Kb2) H Inv):zkG t0 t3 H K:=
 lp2 (M:=zkE) zG4 t0 t3 (by kernel_rfl) Inv n h0 round
theorem zG5{t0:AV}{H:zaa}{K:Kt}(h:HSc H→zxg t0 H K):ACalls tP zjg [t0] H K:=
 zap (M:=zkE) Tryz.func117 (c:=zpZ) (by kernel_rfl) (λhs=>Eq.mpr (by kernel_rfl) (h hs))
def zGv(_:Nat):List Bool:=[]
noncomputable def zGw:Code:=Tryz.f108.body.getD .skip
def zpO(t0:AV)(H:zaa)(K:Kt):Prop:=
 zas t0 H λt1 H=>
 zaw [(.bool false),.snil,.snil] H λt2 H=>
 zaf 1 t1 λt8=>
 zae false 1 t8 H λt9=>
 zah 1 t9 λt10=>
 zac .eql false t10 (.int .i64 0) λt11=>
 zag t11
 (zar 1 [(.int .u32 0)] 1 [(0,(.int .u32 1))] λt12=>
 zaq [(.bool false),.snil,.snil] [(0,1),(1,1),(2,1)] [(2,t12)] λt13=>
 zak 3 t2 t13 H λH=>
 zae true 3 t2 H λr0=>
 K r0 H)
 (zaf 2 t1 λt14=>
 zae false 1 t14 H λt15=>
 ACalls tP zjo [t15] H λt16 H=>
 zag t16
 (zae true 3 t1 H λt17=>
 zak 3 t2 t17 H λH=>
 zae true 3 t2 H λr0=>
 K r0 H)
 (zaf 1 t1 λt18=>
 zae false 1 t18 H λt19=>
 zaf 2 t1 λt20=>
 zae false 1 t20 H λt21=>
 ACalls tP zDs [t19,t21] H λt22 H=>
 ACalls tP zjo [t22] H λt24 H=>
 zag t24
 (zae true 3 t1 H λt25=>
 zak 3 t2 t25 H λH=>
 zae true 3 t2 H λr0=>
 K r0 H)
 (zaf 1 t1 λt27=>
 zae false 1 t27 H λt28=>
 ACalls tP zu1 [t28,t22] H λt30 H=>
 zaG t30 0 λt31=>
 zaG t30 1 λt32=>
 zaf 2 t1 λt34=>
 zae false 1 t34 H λt35=>
 ACalls tP zu1 [t35,t22] H λt37 H=>
 zaG t37 0 λt38=>
 zaG t37 1 λt39=>
 zaf 0 t1 λt40=>
 zae false 1 t40 H λt41=>
 zaq [(.bool false),.snil,.snil] [(0,1),(1,1),(2,1)] [(0,t41),(1,t31),(2,t38)] λt44=>
 zak 3 t2 t44 H λH=>
 zae true 3 t2 H λr0=>
 K r0 H)))
theorem zGx{t0:AV}{H:zaa}{K:Kt}(h:HSc H→zpO t0 H K):ACalls tP zoc [t0] H K:=
 zap (M:=zGv) Tryz.func108 (c:=zGw) (by kernel_rfl) (λhs=>Eq.mpr (by kernel_rfl) (h hs))
def zkq:Nat→List Bool
 |300000=>rl false [0,1]
 |300001=>rl false [0,1]
 |300002=>rl false [0,1]
 |300003=>rl false [0,1]
 |4=>rl false [0,1,2,2,7,2,27]
 |_=>[]
noncomputable def zpN:Code:=Tryz.f107.body.getD .skip
noncomputable def zGu:List ResultVar:=Tryz.f107.results.toList
def zks(t0 t3 t4 t12 t13:AV):List AV:=t0::ux 2 (t3::t4::ux 7 (t12::t13::ux 27 []))
def zGs:List Bool:=zkq 4
noncomputable def zGq:Code:=zat [1,1,1,0,1,0,0] zpN
def zGp(K:Kt):AExit→List AV→zaa→Prop:=zau tP zkq [1,1,1,0,1,0] zpN (zaz tP zGu K)
def zw8(t0 t3 t4 t12 t13:AV)(H:zaa)(K:Kt):Prop:=ALoop tP zGq (zGp K) (zks t0 t3 t4 t12 t13) H
def zkt(t3:AV)(H:zaa)(K:Kt):Prop:=
 ACalls tP zgj [t3] H λt40 H=>
 K t40 H
def zkr(t0 t3 t4 t12 t13:AV)(H:zaa)(K:Kt)(Kb4:Lt):Prop:=
 zac .lss false t13 t12 λt14=>
 zag t14
 (zai 1 t0 t13 λt18=>
 zae false 1 t18 H λt19=>
 za9 .u64 t19 λt20=>
 zac .add false t20 t4 λt22=>
 zac .rem false t22 (.int .u64 1000000000) λt25=>
 za9 .u32 t25 λt26=>
 zar 1 [(.int .u32 0)] 1 [(0,t26)] λt27=>
 zay za8 1 4 t3 t27 H λt28 H=>
 zac .quo false t22 (.int .u64 1000000000) λt30=>
 zac .add false t13 (.int .i64 1) λt31=>
 Kb4 (zks t0 t28 t30 t12 t31) H)
 (zac .gtr false t4 (.int .u64 0) λt33=>
 zag t33
 (za9 .u32 t4 λt36=>
 zar 1 [(.int .u32 0)] 1 [(0,t36)] λt37=>
 zay za8 1 4 t3 t37 H λt38 H=>
 zkt t38 H K)
 (zkt t3 H K))
def zw7(t0:AV)(H:zaa)(K:Kt):Prop:=
 zah 1 t0 λt8=>
 zac .add false t8 (.int .i64 1) λt9=>
 zd9 za8 1 4 t9 H λt10 H=>
 zah 1 t0 λt12=>
 zw8 t0 t10 (.int .u64 0) t12 (.int .i64 0) H K
theorem zGr{t0 t3 t4 t12 t13:AV}{H:zaa}{K:Kt}(Inv:Nat→AV→AV→AV→zaa→Prop)(n:Nat)(h0:HSc H→Inv n t3 t4 t13 H)(round:Rd3 (λt3=>λt4=>λt13=>zks t0 t3 t4 t12 t13) (λt3=>λt4=>λt13=>λH Kb4=>zkr t0 t3 t4 t12 t13 H K Kb4) H Inv):zw8 t0 t3 t4 t12 t13 H K:=
 lp3 (M:=zkq) zGs t3 t4 t13 (by kernel_rfl) Inv n h0 round
theorem zGt{t0:AV}{H:zaa}{K:Kt}(h:HSc H→zw7 t0 H K):ACalls tP zhq [t0] H K:=
 zap (M:=zkq) Tryz.func107 (c:=zpN) (by kernel_rfl) (λhs=>Eq.mpr (by kernel_rfl) (h hs))
def zkB:Nat→List Bool
 |2=>rl false [0,1,2,1,17]
 |_=>[]
noncomputable def zpX:Code:=Tryz.f116.body.getD .skip
noncomputable def zG0:List ResultVar:=Tryz.f116.results.toList
def zkD(t0 t3:AV):List AV:=t0::ux 2 (t3::ux 17 [])
def zGY:List Bool:=zkB 2
noncomputable def zGW:Code:=zat [1,1,0,0,0] zpX
def zGV(K:Kt):AExit→List AV→zaa→Prop:=zau tP zkB [1,1,0,0] zpX (zaz tP zG0 K)
def zxf(t0 t3:AV)(H:zaa)(K:Kt):Prop:=ALoop tP zGW (zGV K) (zkD t0 t3) H
def zkC(t0 t3:AV)(H:zaa)(K:Kt)(Kb2:Lt):Prop:=
 zac .gtr false t3 (.int .i64 0) λt7=>
 zad t7 true H (λK'=>K' t0 H) λt9 H=>
 zad t7 true H (λK'=>K' t3 H) λt10 H=>
 zad t7 true H (λK'=>zac .sub false t10 (.int .i64 1) (K' · H)) λt11 H=>
 zad t7 true H (λK'=>zai 1 t9 t11 (K' · H)) λt12 H=>
 zad t7 true H (λK'=>zae false 1 t12 H (K' · H)) λt13 H=>
 zad t7 true H (λK'=>zac .eql false t13 (.int .u32 0) (K' · H)) λt14 H=>
 zao t7 t14 (.bool false) λt15=>
 zag t15
 (zac .sub false t3 (.int .i64 1) λt17=>
 Kb2 (zkD t0 t17) H)
 (zbp 1 1 t0 none (some t3) λt20=>
 K t20 H)
def zxe(t0:AV)(H:zaa)(K:Kt):Prop:=
 zah 1 t0 λt5=>
 zxf t0 t5 H K
theorem zGX{t0 t3:AV}{H:zaa}{K:Kt}(Inv:Nat→AV→zaa→Prop)(n:Nat)(h0:HSc H→Inv n t3 H)(round:Rd1 (λt3=>zkD t0 t3) (λt3=>λH Kb2=>zkC t0 t3 H K Kb2) H Inv):zxf t0 t3 H K:=
 lp1 (M:=zkB) zGY t3 (by kernel_rfl) Inv n h0 round
theorem zGZ{t0:AV}{H:zaa}{K:Kt}(h:HSc H→zxe t0 H K):ACalls tP zgj [t0] H K:=
 zap (M:=zkB) Tryz.func116 (c:=zpX) (by kernel_rfl) (λhs=>Eq.mpr (by kernel_rfl) (h hs))
def zla:Nat→List Bool
 |300000=>rl false [0,1]
 |300001=>rl false [0,1]
 |300002=>rl false [0,1]
 |300003=>rl false [0,1]
 |300004=>rl false [0,1]
 |6=>rl false [0,2,3,2,14,2,33]
 |_=>[]
noncomputable def zqI:Code:=Tryz.f156.body.getD .skip
noncomputable def zJi:List ResultVar:=Tryz.f156.results.toList
def zlb(t0 t1 t5 t6 t21 t22:AV):List AV:=t0::t1::ux 3 (t5::t6::ux 14 (t21::t22::ux 33 []))
def zJg:List Bool:=zla 6
noncomputable def zJe:Code:=zat [1,1,1,1,0,1,0,0] zqI
def zJd(K:Kt):AExit→List AV→zaa→Prop:=zau tP zla [1,1,1,1,0,1,0] zqI (zaz tP zJi K)
def zyf(t0 t1 t5 t6 t21 t22:AV)(H:zaa)(K:Kt):Prop:=ALoop tP zJe (zJd K) (zlb t0 t1 t5 t6 t21 t22) H
def zld(t0 t1 t5 t8 t21 t22:AV)(H:zaa)(K:Kt)(Kb6:Lt):Prop:=
 zac .quo false t8 (.int .u32 1000000000) λt42=>
 zac .rem false t8 (.int .u32 1000000000) λt45=>
 zar 1 [(.int .u32 0)] 1 [(0,t45)] λt46=>
 zay za8 1 4 t5 t46 H λt47 H=>
 zac .add false t22 (.int .i64 1) λt48=>
 Kb6 (zlb t0 t1 t47 t42 t21 t48) H
def zle(t5:AV)(H:zaa)(K:Kt):Prop:=
 K t5 H
def zic(t0 t1 t5 t6 t21 t22:AV)(H:zaa)(K:Kt)(Kb6:Lt):Prop:=
 zac .lss false t22 t21 λt23=>
 zag t23
 (zai 1 t0 t22 λt27=>
 zae false 1 t27 H λt28=>
 zac .add false t28 t6 λt30=>
 zah 1 t1 λt33=>
 zac .lss false t22 t33 λt34=>
 zag t34
 (zai 1 t1 t22 λt38=>
 zae false 1 t38 H λt39=>
 zac .add false t30 t39 λt40=>
 zld t0 t1 t5 t40 t21 t22 H K Kb6)
 (zld t0 t1 t5 t30 t21 t22 H K Kb6))
 (zac .gtr false t6 (.int .u32 0) λt50=>
 zag t50
 (zar 1 [(.int .u32 0)] 1 [(0,t6)] λt53=>
 zay za8 1 4 t5 t53 H λt54 H=>
 zle t54 H K)
 (zle t5 H K))
def zlc(t0 t1:AV)(H:zaa)(K:Kt):Prop:=
 zah 1 t0 λt17=>
 zac .add false t17 (.int .i64 1) λt18=>
 zd9 za8 1 4 t18 H λt19 H=>
 zah 1 t0 λt21=>
 zyf t0 t1 t19 (.int .u32 0) t21 (.int .i64 0) H K
def zqH(t0 t1:AV)(H:zaa)(K:Kt):Prop:=
 zah 1 t0 λt10=>
 zah 1 t1 λt12=>
 zac .lss false t10 t12 λt13=>
 zag t13
 (zlc t1 t0 H K)
 (zlc t0 t1 H K)
theorem zJf{t0 t1 t5 t6 t21 t22:AV}{H:zaa}{K:Kt}(Inv:Nat→AV→AV→AV→zaa→Prop)(n:Nat)(h0:HSc H→Inv n t5 t6 t22 H)(round:Rd3 (λt5=>λt6=>λt22=>zlb t0 t1 t5 t6 t21 t22) (λt5=>λt6=>λt22=>λH Kb6=>zic t0 t1 t5 t6 t21 t22 H K Kb6) H Inv):zyf t0 t1 t5 t6 t21 t22 H K:=
 lp3 (M:=zla) zJg t5 t6 t22 (by kernel_rfl) Inv n h0 round
theorem zJh{t0 t1:AV}{H:zaa}{K:Kt}(h:HSc H→zqH t0 t1 H K):ACalls tP zop [t0,t1] H K:=
 zap (M:=zla) Tryz.func156 (c:=zqI) (by kernel_rfl) (λhs=>Eq.mpr (by kernel_rfl) (h hs))
def zJa(_:Nat):List Bool:=[]
noncomputable def zJb:Code:=Tryz.f153.body.getD .skip
def zk9(t0:AV)(H:zaa)(K:Kt):Prop:=
 zah 1 t0 λt4=>
 zac .eql false t4 (.int .i64 1) λt5=>
 zad t5 true H (λK'=>K' t0 H) λt7 H=>
 zad t5 true H (λK'=>zai 1 t7 (.int .i64 0) (K' · H)) λt8 H=>
 zad t5 true H (λK'=>zae false 1 t8 H (K' · H)) λt9 H=>
 zad t5 true H (λK'=>zac .eql false t9 (.int .u32 1) (K' · H)) λt10 H=>
 zao t5 t10 (.bool false) λt11=>
 K t11 H
theorem zJc{t0:AV}{H:zaa}{K:Kt}(h:HSc H→zk9 t0 H K):ACalls tP zjo [t0] H K:=
 zap (M:=zJa) Tryz.func153 (c:=zJb) (by kernel_rfl) (λhs=>Eq.mpr (by kernel_rfl) (h hs))
def zPn(_:Nat):List Bool:=[]
noncomputable def zPo:Code:=Tryz.f85.body.getD .skip
def zAv(t0:AV)(H:zaa)(K:Kt):Prop:=
 zas t0 H λt1 H=>
 zae true 3 t1 H λt3=>
 ACalls tP zdr [t3] H λt4 H=>
 ACalls tP zhI [t4] H λt5 H=>
 K t5 H
theorem zPp{t0:AV}{H:zaa}{K:Kt}(h:HSc H→zAv t0 H K):ACalls tP zeW [t0] H K:=
 zap (M:=zPn) Tryz.func85 (c:=zPo) (by kernel_rfl) (λhs=>Eq.mpr (by kernel_rfl) (h hs))
end Go.Proofs.YtaifokkaaahdoaaGreatDoor

namespace Go.Proofs.YtaifokkaaahdoaaGreatDoor
open Go Go.Abs
set_option maxRecDepth 100000
def zJH(_:Nat):List Bool:=[]
noncomputable def zJI:Code:=Tryz.f18.body.getD .skip
def zyj(t0:AV)(H:zaa)(K:Kt):Prop:=
 zaw [(.bool false),.snil,.snil] H λt2 H=>
 zac .lss false t0 (.int .i64 0) λt4=>
 zag t4
 (zac .add false t0 (.int .i64 1) λt6=>
 aUn .neg t6 λt7=>
 za9 .u64 t7 λt8=>
 zac .add false t8 (.int .u64 1) λt9=>
 ACalls tP zhB [t9] H λt10 H=>
 zar 1 [(.int .u32 0)] 1 [(0,(.int .u32 1))] λt11=>
 ACalls tP zc9 [(.bool true),t10,t11] H λt12 H=>
 zak 3 t2 t12 H λH=>
 zae true 3 t2 H λr0=>
 K r0 H)
 (za9 .u64 t0 λt14=>
 ACalls tP zhB [t14] H λt15 H=>
 zar 1 [(.int .u32 0)] 1 [(0,(.int .u32 1))] λt16=>
 ACalls tP zc9 [(.bool false),t15,t16] H λt17 H=>
 zak 3 t2 t17 H λH=>
 zae true 3 t2 H λr0=>
 K r0 H)
theorem zJJ{t0:AV}{H:zaa}{K:Kt}(h:HSc H→zyj t0 H K):ACalls tP zhu [t0] H K:=
 zap (M:=zJH) Tryz.func18 (c:=zJI) (by kernel_rfl) (λhs=>Eq.mpr (by kernel_rfl) (h hs))
def zJ8(_:Nat):List Bool:=[]
noncomputable def zJ9:Code:=Tryz.f20.body.getD .skip
def zyr(t0 t1:AV)(H:zaa)(K:Kt):Prop:=
 zas t0 H λt2 H=>
 zas t1 H λt3 H=>
 zaw [(.bool false),.snil,.snil] H λt4 H=>
 zab H (λK'=>zam true 3 t2 H (K' · H)) λt5=>
 zaA H (λH K'=>ACalls tP zfA [t5] H K') λt6=>
 zab H (λK'=>zam true 3 t3 H (K' · H)) λt7=>
 zaA H (λH K'=>ACalls tP zfA [t7] H K') λt8=>
 zak 3 t2 t6 H λH=>
 zak 3 t3 t8 H λH=>
 zab H (λK'=>zaf 0 t2 (K' · H)) λt9=>
 zab H (λK'=>zam false 1 t9 H (K' · H)) λt10=>
 zab H (λK'=>zaf 0 t3 (K' · H)) λt11=>
 zab H (λK'=>zam false 1 t11 H (K' · H)) λt12=>
 zab H (λK'=>zac .neq true t10 t12 (K' · H)) λt13=>
 zab H (λK'=>zaf 1 t2 (K' · H)) λt14=>
 zab H (λK'=>zam false 1 t14 H (K' · H)) λt15=>
 zab H (λK'=>zaf 1 t3 (K' · H)) λt16=>
 zab H (λK'=>zam false 1 t16 H (K' · H)) λt17=>
 zaA H (λH K'=>ACalls tP zdS [t15,t17] H K') λt18=>
 zab H (λK'=>zaf 2 t2 (K' · H)) λt19=>
 zab H (λK'=>zam false 1 t19 H (K' · H)) λt20=>
 zab H (λK'=>zaf 2 t3 (K' · H)) λt21=>
 zab H (λK'=>zam false 1 t21 H (K' · H)) λt22=>
 zaA H (λH K'=>ACalls tP zdS [t20,t22] H K') λt23=>
 zaA H (λH K'=>ACalls tP zc9 [t13,t18,t23] H K') λt24=>
 zak 3 t4 t24 H λH=>
 zae true 3 t4 H λr0=>
 K r0 H
theorem zKa{t0 t1:AV}{H:zaa}{K:Kt}(h:HSc H→zyr t0 t1 H K):ACalls tP zos [t0,t1] H K:=
 zap (M:=zJ8) Tryz.func20 (c:=zJ9) (by kernel_rfl) (λhs=>Eq.mpr (by kernel_rfl) (h hs))
def zJM(_:Nat):List Bool:=[]
noncomputable def zJN:Code:=Tryz.f19.body.getD .skip
def zyo(t0 t1:AV)(H:zaa)(K:Kt):Prop:=
 zas t0 H λt2 H=>
 zas t1 H λt3 H=>
 zaw [(.bool false),.snil,.snil] H λt4 H=>
 zab H (λK'=>zam true 3 t2 H (K' · H)) λt8=>
 zaA H (λH K'=>ACalls tP zfA [t8] H K') λt9=>
 zab H (λK'=>zam true 3 t3 H (K' · H)) λt10=>
 zaA H (λH K'=>ACalls tP zfA [t10] H K') λt11=>
 zak 3 t2 t9 H λH=>
 zak 3 t3 t11 H λH=>
 zab H (λK'=>zaf 1 t2 (K' · H)) λt12=>
 zab H (λK'=>zam false 1 t12 H (K' · H)) λt13=>
 zab H (λK'=>zaf 2 t3 (K' · H)) λt14=>
 zab H (λK'=>zam false 1 t14 H (K' · H)) λt15=>
 zaA H (λH K'=>ACalls tP zdS [t13,t15] H K') λt16=>
 zab H (λK'=>zaf 1 t3 (K' · H)) λt17=>
 zab H (λK'=>zam false 1 t17 H (K' · H)) λt18=>
 zab H (λK'=>zaf 2 t2 (K' · H)) λt19=>
 zab H (λK'=>zam false 1 t19 H (K' · H)) λt20=>
 zaA H (λH K'=>ACalls tP zdS [t18,t20] H K') λt21=>
 zab H (λK'=>K' t16 H) λt5=>
 zab H (λK'=>K' t21 H) λt6=>
 zaf 2 t2 λt22=>
 zae false 1 t22 H λt23=>
 zaf 2 t3 λt24=>
 zae false 1 t24 H λt25=>
 ACalls tP zdS [t23,t25] H λt26 H=>
 zaf 0 t2 λt27=>
 zae false 1 t27 H λt28=>
 zaf 0 t3 λt29=>
 zae false 1 t29 H λt30=>
 zac .eql true t28 t30 λt31=>
 zag t31
 (zab H (λK'=>zaf 0 t2 (K' · H)) λt32=>
 zab H (λK'=>zam false 1 t32 H (K' · H)) λt33=>
 zab H (λK'=>K' t5 H) λt34=>
 zab H (λK'=>K' t6 H) λt35=>
 zaA H (λH K'=>ACalls tP zoL [t34,t35] H K') λt36=>
 zab H (λK'=>K' t26 H) λt37=>
 zaA H (λH K'=>ACalls tP zc9 [t33,t36,t37] H K') λt38=>
 zak 3 t4 t38 H λH=>
 zae true 3 t4 H λr0=>
 K r0 H)
 (ACalls tP zjE [t5,t6] H λt41 H=>
 zac .geq false t41 (.int .i64 0) λt42=>
 zag t42
 (zab H (λK'=>zaf 0 t2 (K' · H)) λt43=>
 zab H (λK'=>zam false 1 t43 H (K' · H)) λt44=>
 zab H (λK'=>K' t5 H) λt45=>
 zab H (λK'=>K' t6 H) λt46=>
 zaA H (λH K'=>ACalls tP zhC [t45,t46] H K') λt47=>
 zab H (λK'=>K' t26 H) λt48=>
 zaA H (λH K'=>ACalls tP zc9 [t44,t47,t48] H K') λt49=>
 zak 3 t4 t49 H λH=>
 zae true 3 t4 H λr0=>
 K r0 H)
 (zab H (λK'=>zaf 0 t3 (K' · H)) λt50=>
 zab H (λK'=>zam false 1 t50 H (K' · H)) λt51=>
 zab H (λK'=>K' t6 H) λt52=>
 zab H (λK'=>K' t5 H) λt53=>
 zaA H (λH K'=>ACalls tP zhC [t52,t53] H K') λt54=>
 zab H (λK'=>K' t26 H) λt55=>
 zaA H (λH K'=>ACalls tP zc9 [t51,t54,t55] H K') λt56=>
 zak 3 t4 t56 H λH=>
 zae true 3 t4 H λr0=>
 K r0 H))
theorem zJO{t0 t1:AV}{H:zaa}{K:Kt}(h:HSc H→zyo t0 t1 H K):ACalls tP zjq [t0,t1] H K:=
 zap (M:=zJM) Tryz.func19 (c:=zJN) (by kernel_rfl) (λhs=>Eq.mpr (by kernel_rfl) (h hs))
def zl3:Nat→List Bool
 |2=>rl false [0,1,2,1,11]
 |_=>[]
noncomputable def zrE:Code:=Tryz.f52.body.getD .skip
noncomputable def zM4:List ResultVar:=Tryz.f52.results.toList
def zl4(t0 t3:AV):List AV:=t0::ux 2 (t3::ux 11 [])
def zM2:List Bool:=zl3 2
noncomputable def zM0:Code:=zat [1,1,0,0,0] zrE
def zMZ(K:Kt):AExit→List AV→zaa→Prop:=zau tP zl3 [1,1,0,0] zrE (zaz tP zM4 K)
def zl5(t0 t3:AV)(H:zaa)(K:Kt):Prop:=ALoop tP zM0 (zMZ K) (zl4 t0 t3) H
def zrD(t0 t3:AV)(H:zaa)(K:Kt)(Kb2:Lt):Prop:=
 zac .gtr false t0 (.int .u64 0) λt5=>
 zag t5
 (zac .rem false t0 (.int .u64 1000000000) λt8=>
 za9 .u32 t8 λt9=>
 zar 1 [(.int .u32 0)] 1 [(0,t9)] λt10=>
 zay za8 1 4 t3 t10 H λt11 H=>
 zac .quo false t0 (.int .u64 1000000000) λt13=>
 Kb2 (zl4 t13 t11) H)
 (K t3 H)
def zzB(t0:AV)(H:zaa)(K:Kt):Prop:=
 zl5 t0 .snil H K
theorem zM1{t0 t3:AV}{H:zaa}{K:Kt}(Inv:Nat→AV→AV→zaa→Prop)(n:Nat)(h0:HSc H→Inv n t0 t3 H)(round:Rd2 (λt0=>λt3=>zl4 t0 t3) (λt0=>λt3=>λH Kb2=>zrD t0 t3 H K Kb2) H Inv):zl5 t0 t3 H K:=
 lp2 (M:=zl3) zM2 t0 t3 (by kernel_rfl) Inv n h0 round
theorem zM3{t0:AV}{H:zaa}{K:Kt}(h:HSc H→zzB t0 H K):ACalls tP zhB [t0] H K:=
 zap (M:=zl3) Tryz.func52 (c:=zrE) (by kernel_rfl) (λhs=>Eq.mpr (by kernel_rfl) (h hs))
def zM5(_:Nat):List Bool:=[]
noncomputable def zM6:Code:=Tryz.f53.body.getD .skip
def zzD(t0:AV)(H:zaa)(K:Kt):Prop:=
 zas t0 H λt1 H=>
 zaw [(.bool false),.snil,.snil] H λt2 H=>
 zaf 0 t1 λt3=>
 zae false 1 t3 H λt4=>
 zaf 1 t1 λt5=>
 zae false 1 t5 H λt6=>
 zaf 2 t1 λt7=>
 zae false 1 t7 H λt8=>
 ACalls tP zc9 [t4,t6,t8] H λt9 H=>
 zak 3 t2 t9 H λH=>
 zae true 3 t2 H λr0=>
 K r0 H
theorem zM7{t0:AV}{H:zaa}{K:Kt}(h:HSc H→zzD t0 H K):ACalls tP zfA [t0] H K:=
 zap (M:=zM5) Tryz.func53 (c:=zM6) (by kernel_rfl) (λhs=>Eq.mpr (by kernel_rfl) (h hs))
def zfQ:Nat→List Bool
 |3=>rl false [0,2,3,2,63]
 |7=>rl false [0,2,3,4,61]
 |_=>[]
noncomputable def zrG:Code:=Tryz.f54.body.getD .skip
noncomputable def zNe:List ResultVar:=Tryz.f54.results.toList
def zl7(t0 t1 t5 t6:AV):List AV:=t0::t1::ux 3 (t5::t6::ux 63 [])
def zzI:List Bool:=zfQ 3
noncomputable def zrH:Code:=zat [1,1,0,1,0,0] zrG
def zzF(K:Kt):AExit→List AV→zaa→Prop:=zau tP zfQ [1,1,0,1,0] zrG (zaz tP zNe K)
def zzG(t0 t1 t5 t6:AV)(H:zaa)(K:Kt):Prop:=ALoop tP zrH (zzF K) (zl7 t0 t1 t5 t6) H
def zl8(t0 t1 t5 t6 t7 t8:AV):List AV:=t0::t1::ux 3 (t5::t6::t7::t8::ux 61 [])
def zNc:List Bool:=zfQ 7
noncomputable def zM9:Code:=zat [1,0,0,1,1,0,0] zrH
def zM8(K:Kt)(Kb3:Lt):AExit→List AV→zaa→Prop:=zau tP zfQ [1,0,0,1,1,0] zrH (zb1 zzI Kb3 (zzF K))
def zzH(t0 t1 t5 t6 t7 t8:AV)(H:zaa)(K:Kt)(Kb3:Lt):Prop:=ALoop tP zM9 (zM8 K Kb3) (zl8 t0 t1 t5 t6 t7 t8) H
def zl9(t0 t1 t5 t6 t7 t8:AV)(H:zaa)(K:Kt)(Kb3:Lt)(Kb7:Lt):Prop:=
 zac .add false t6 t8 λt61=>
 zac .rem false t7 (.int .u64 1000000000) λt63=>
 za9 .u32 t63 λt64=>
 zai 1 t5 t61 λt65=>
 zak 1 t65 t64 H λH=>
 zac .quo false t7 (.int .u64 1000000000) λt67=>
 zac .add false t8 (.int .i64 1) λt31=>
 Kb7 (zl8 t0 t1 t5 t6 t67 t31) H
def zl6(t0 t1 t5 t6 t7 t8:AV)(H:zaa)(K:Kt)(Kb3:Lt)(Kb7:Lt):Prop:=
 zah 1 t1 λt24=>
 zac .lss false t8 t24 λt25=>
 zad t25 false H (λK'=>K' t7 H) λt27 H=>
 zad t25 false H (λK'=>zac .gtr false t27 (.int .u64 0) (K' · H)) λt28 H=>
 zao t25 (.bool true) t28 λt29=>
 zag t29
 (zac .add false t6 t8 λt36=>
 zai 1 t5 t36 λt37=>
 zae false 1 t37 H λt38=>
 za9 .u64 t38 λt39=>
 zac .add false t7 t39 λt40=>
 zah 1 t1 λt43=>
 zac .lss false t8 t43 λt44=>
 zag t44
 (zab H (λK'=>K' t40 H) λt45=>
 zab H (λK'=>K' t0 H) λt46=>
 zab H (λK'=>K' t6 H) λt47=>
 zab H (λK'=>zai 1 t46 t47 (K' · H)) λt48=>
 zab H (λK'=>zam false 1 t48 H (K' · H)) λt49=>
 zab H (λK'=>za9 .u64 t49 (K' · H)) λt50=>
 zab H (λK'=>K' t1 H) λt51=>
 zab H (λK'=>K' t8 H) λt52=>
 zab H (λK'=>zai 1 t51 t52 (K' · H)) λt53=>
 zab H (λK'=>zam false 1 t53 H (K' · H)) λt54=>
 zab H (λK'=>za9 .u64 t54 (K' · H)) λt55=>
 zab H (λK'=>zac .mul false t50 t55 (K' · H)) λt56=>
 zab H (λK'=>zac .add false t45 t56 (K' · H)) λt57=>
 zab H (λK'=>K' t57 H) λt7=>
 zl9 t0 t1 t5 t6 t7 t8 H K Kb3 Kb7)
 (zl9 t0 t1 t5 t6 t40 t8 H K Kb3 Kb7))
 (zac .add false t6 (.int .i64 1) λt21=>
 Kb3 (zl7 t0 t1 t5 t21) H)
def zrF(t0 t1 t5 t6:AV)(H:zaa)(K:Kt)(Kb3:Lt):Prop:=
 zah 1 t0 λt18=>
 zac .lss false t6 t18 λt19=>
 zag t19
 (zzH t0 t1 t5 t6 (.int .u64 0) (.int .i64 0) H K Kb3)
 (ACalls tP zeX [t5] H λt69 H=>
 K t69 H)
def zzE(t0 t1:AV)(H:zaa)(K:Kt):Prop:=
 zah 1 t0 λt10=>
 zah 1 t1 λt12=>
 zac .add false t10 t12 λt13=>
 zac .add false t13 (.int .i64 1) λt14=>
 zba 4 [(.int .u32 0)] t14 t14 H λt15 H=>
 zzG t0 t1 t15 (.int .i64 0) H K
theorem zNb{t0 t1 t5 t6 t7 t8:AV}{H:zaa}{K:Kt}{Kb3:Lt}(Inv:Nat→AV→AV→zaa→Prop)(n:Nat)(h0:HSc H→Inv n t7 t8 H)(round:Rd2 (λt7=>λt8=>zl8 t0 t1 t5 t6 t7 t8) (λt7=>λt8=>λH Kb7=>zl6 t0 t1 t5 t6 t7 t8 H K Kb3 Kb7) H Inv):zzH t0 t1 t5 t6 t7 t8 H K Kb3:=
 lp2 (M:=zfQ) zNc t7 t8 (by kernel_rfl) Inv n h0 round
theorem zNa{t0 t1 t5 t6:AV}{H:zaa}{K:Kt}(Inv:Nat→AV→zaa→Prop)(n:Nat)(h0:HSc H→Inv n t6 H)(round:Rd1 (λt6=>zl7 t0 t1 t5 t6) (λt6=>λH Kb3=>zrF t0 t1 t5 t6 H K Kb3) H Inv):zzG t0 t1 t5 t6 H K:=
 lp1 (M:=zfQ) zzI t6 (by kernel_rfl) Inv n h0 round
theorem zNd{t0 t1:AV}{H:zaa}{K:Kt}(h:HSc H→zzE t0 t1 H K):ACalls tP zdS [t0,t1] H K:=
 zap (M:=zfQ) Tryz.func54 (c:=zrG) (by kernel_rfl) (λhs=>Eq.mpr (by kernel_rfl) (h hs))
def zma:Nat→List Bool
 |4=>rl false [0,2,3,3,46]
 |_=>[]
noncomputable def zrI:Code:=Tryz.f55.body.getD .skip
noncomputable def zNl:List ResultVar:=Tryz.f55.results.toList
def zmb(t0 t1 t5 t6 t7:AV):List AV:=t0::t1::ux 3 (t5::t6::t7::ux 46 [])
def zNj:List Bool:=zma 4
noncomputable def zNh:Code:=zat [1,1,1,0,1,0,0] zrI
def zNg(K:Kt):AExit→List AV→zaa→Prop:=zau tP zma [1,1,1,0,1,0] zrI (zaz tP zNl K)
def zmd(t0 t1 t5 t6 t7:AV)(H:zaa)(K:Kt):Prop:=ALoop tP zNh (zNg K) (zmb t0 t1 t5 t6 t7) H
def zmc(t0 t1 t5 t7 t8:AV)(H:zaa)(K:Kt)(Kb4:Lt):Prop:=
 zac .quo false t8 (.int .u32 1000000000) λt47=>
 zac .rem false t8 (.int .u32 1000000000) λt50=>
 zar 1 [(.int .u32 0)] 1 [(0,t50)] λt51=>
 zay za8 1 4 t5 t51 H λt52 H=>
 zac .add false t7 (.int .i64 1) λt24=>
 Kb4 (zmb t0 t1 t52 t47 t24) H
def zgM(t0 t1 t5 t7 t8:AV)(H:zaa)(K:Kt)(Kb4:Lt):Prop:=
 zah 1 t1 λt38=>
 zac .lss false t7 t38 λt39=>
 zag t39
 (zai 1 t1 t7 λt43=>
 zae false 1 t43 H λt44=>
 zac .add false t8 t44 λt45=>
 zmc t0 t1 t5 t7 t45 H K Kb4)
 (zmc t0 t1 t5 t7 t8 H K Kb4)
def zgL(t0 t1 t5 t6 t7:AV)(H:zaa)(K:Kt)(Kb4:Lt):Prop:=
 zah 1 t0 λt11=>
 zac .lss false t7 t11 λt12=>
 zad t12 false H (λK'=>K' t7 H) λt14 H=>
 zad t12 false H (λK'=>K' t1 H) λt15 H=>
 zad t12 false H (λK'=>zah 1 t15 (K' · H)) λt16 H=>
 zad t12 false H (λK'=>zac .lss false t14 t16 (K' · H)) λt17 H=>
 zao t12 (.bool true) t17 λt18=>
 zad t18 false H (λK'=>K' t6 H) λt20 H=>
 zad t18 false H (λK'=>zac .gtr false t20 (.int .u32 0) (K' · H)) λt21 H=>
 zao t18 (.bool true) t21 λt22=>
 zag t22
 (zah 1 t0 λt28=>
 zac .lss false t7 t28 λt29=>
 zag t29
 (zai 1 t0 t7 λt33=>
 zae false 1 t33 H λt34=>
 zac .add false t6 t34 λt35=>
 zgM t0 t1 t5 t7 t35 H K Kb4)
 (zgM t0 t1 t5 t7 t6 H K Kb4))
 (K t5 H)
def zzJ(t0 t1:AV)(H:zaa)(K:Kt):Prop:=
 zmd t0 t1 .snil (.int .u32 0) (.int .i64 0) H K
theorem zNi{t0 t1 t5 t6 t7:AV}{H:zaa}{K:Kt}(Inv:Nat→AV→AV→AV→zaa→Prop)(n:Nat)(h0:HSc H→Inv n t5 t6 t7 H)(round:Rd3 (λt5=>λt6=>λt7=>zmb t0 t1 t5 t6 t7) (λt5=>λt6=>λt7=>λH Kb4=>zgL t0 t1 t5 t6 t7 H K Kb4) H Inv):zmd t0 t1 t5 t6 t7 H K:=
 lp3 (M:=zma) zNj t5 t6 t7 (by kernel_rfl) Inv n h0 round
theorem zNk{t0 t1:AV}{H:zaa}{K:Kt}(h:HSc H→zzJ t0 t1 H K):ACalls tP zoL [t0,t1] H K:=
 zap (M:=zma) Tryz.func55 (c:=zrI) (by kernel_rfl) (λhs=>Eq.mpr (by kernel_rfl) (h hs))
def zmf:Nat→List Bool
 |6=>rl false [0,2,3,1,35]
 |_=>[]
noncomputable def zrJ:Code:=Tryz.f56.body.getD .skip
noncomputable def zNs:List ResultVar:=Tryz.f56.results.toList
def zmg(t0 t1 t5:AV):List AV:=t0::t1::ux 3 (t5::ux 35 [])
def zNq:List Bool:=zmf 6
noncomputable def zNo:Code:=zat [1,1,0,1,0,0] zrJ
def zNn(K:Kt):AExit→List AV→zaa→Prop:=zau tP zmf [1,1,0,1,0] zrJ (zaz tP zNs K)
def zzK(t0 t1 t5:AV)(H:zaa)(K:Kt):Prop:=ALoop tP zNo (zNn K) (zmg t0 t1 t5) H
def zio(t0 t1 t5:AV)(H:zaa)(K:Kt)(Kb6:Lt):Prop:=
 zac .geq false t5 (.int .i64 0) λt20=>
 zag t20
 (zab H (λK'=>K' t0 H) λt23=>
 zab H (λK'=>K' t5 H) λt24=>
 zab H (λK'=>zai 1 t23 t24 (K' · H)) λt25=>
 zab H (λK'=>zam false 1 t25 H (K' · H)) λt26=>
 zab H (λK'=>K' t1 H) λt27=>
 zab H (λK'=>K' t5 H) λt28=>
 zab H (λK'=>zai 1 t27 t28 (K' · H)) λt29=>
 zab H (λK'=>zam false 1 t29 H (K' · H)) λt30=>
 zab H (λK'=>zac .lss false t26 t30 (K' · H)) λt31=>
 zag t31
 (K (.int .i64 (-1)) H)
 (zab H (λK'=>K' t0 H) λt32=>
 zab H (λK'=>K' t5 H) λt33=>
 zab H (λK'=>zai 1 t32 t33 (K' · H)) λt34=>
 zab H (λK'=>zam false 1 t34 H (K' · H)) λt35=>
 zab H (λK'=>K' t1 H) λt36=>
 zab H (λK'=>K' t5 H) λt37=>
 zab H (λK'=>zai 1 t36 t37 (K' · H)) λt38=>
 zab H (λK'=>zam false 1 t38 H (K' · H)) λt39=>
 zab H (λK'=>zac .gtr false t35 t39 (K' · H)) λt40=>
 zag t40
 (K (.int .i64 1) H)
 (zac .sub false t5 (.int .i64 1) λt22=>
 Kb6 (zmg t0 t1 t22) H)))
 (K (.int .i64 0) H)
def zme(t0 t1:AV)(H:zaa)(K:Kt):Prop:=
 zah 1 t0 λt7=>
 zah 1 t1 λt9=>
 zac .neq false t7 t9 λt10=>
 zag t10
 (zah 1 t0 λt12=>
 zah 1 t1 λt14=>
 zac .lss false t12 t14 λt15=>
 zag t15
 (K (.int .i64 (-1)) H)
 (K (.int .i64 1) H))
 (zah 1 t0 λt17=>
 zac .sub false t17 (.int .i64 1) λt18=>
 zzK t0 t1 t18 H K)
theorem zNp{t0 t1 t5:AV}{H:zaa}{K:Kt}(Inv:Nat→AV→zaa→Prop)(n:Nat)(h0:HSc H→Inv n t5 H)(round:Rd1 (λt5=>zmg t0 t1 t5) (λt5=>λH Kb6=>zio t0 t1 t5 H K Kb6) H Inv):zzK t0 t1 t5 H K:=
 lp1 (M:=zmf) zNq t5 (by kernel_rfl) Inv n h0 round
theorem zNr{t0 t1:AV}{H:zaa}{K:Kt}(h:HSc H→zme t0 t1 H K):ACalls tP zjE [t0,t1] H K:=
 zap (M:=zmf) Tryz.func56 (c:=zrJ) (by kernel_rfl) (λhs=>Eq.mpr (by kernel_rfl) (h hs))
def zmh:Nat→List Bool
 |4=>rl false [0,2,3,3,48]
 |_=>[]
noncomputable def zrK:Code:=Tryz.f57.body.getD .skip
noncomputable def zNy:List ResultVar:=Tryz.f57.results.toList
def zip(t0 t1 t5 t6 t7:AV):List AV:=t0::t1::ux 3 (t5::t6::t7::ux 48 [])
def zNw:List Bool:=zmh 4
noncomputable def zNu:Code:=zat [1,1,1,0,1,0,0] zrK
def zNt(K:Kt):AExit→List AV→zaa→Prop:=zau tP zmh [1,1,1,0,1,0] zrK (zaz tP zNy K)
def zzN(t0 t1 t5 t6 t7:AV)(H:zaa)(K:Kt):Prop:=ALoop tP zNu (zNt K) (zip t0 t1 t5 t6 t7) H
def zrL(t0 t1 t5 t6 t7:AV)(H:zaa)(K:Kt)(Kb4:Lt):Prop:=
 zac .add false t7 (.int .i64 1) λt17=>
 Kb4 (zip t0 t1 t5 t6 t17) H
def zmj(t0 t1 t5 t6 t7:AV)(H:zaa)(K:Kt)(Kb4:Lt):Prop:=
 zrL t0 t1 t5 t6 t7 H K Kb4
def ziq(t0 t1 t5 t7 t8:AV)(H:zaa)(K:Kt)(Kb4:Lt):Prop:=
 zai 1 t0 t7 λt31=>
 zae false 1 t31 H λt32=>
 zac .geq false t32 t8 λt34=>
 zag t34
 (zai 1 t0 t7 λt39=>
 zae false 1 t39 H λt40=>
 zac .sub false t40 t8 λt42=>
 zai 1 t5 t7 λt43=>
 zak 1 t43 t42 H λH=>
 zmj t0 t1 t5 (.int .u32 0) t7 H K Kb4)
 (zai 1 t0 t7 λt48=>
 zae false 1 t48 H λt49=>
 zac .add false t49 (.int .u32 1000000000) λt50=>
 zac .sub false t50 t8 λt52=>
 zai 1 t5 t7 λt53=>
 zak 1 t53 t52 H λH=>
 zmj t0 t1 t5 (.int .u32 1) t7 H K Kb4)
def zmi(t0 t1 t5 t6 t7:AV)(H:zaa)(K:Kt)(Kb4:Lt):Prop:=
 zah 1 t0 λt14=>
 zac .lss false t7 t14 λt15=>
 zag t15
 (zah 1 t1 λt21=>
 zac .lss false t7 t21 λt22=>
 zag t22
 (zai 1 t1 t7 λt26=>
 zae false 1 t26 H λt27=>
 zac .add false t6 t27 λt28=>
 ziq t0 t1 t5 t7 t28 H K Kb4)
 (ziq t0 t1 t5 t7 t6 H K Kb4))
 (ACalls tP zeX [t5] H λt55 H=>
 K t55 H)
def zzM(t0 t1:AV)(H:zaa)(K:Kt):Prop:=
 zah 1 t0 λt10=>
 zba 4 [(.int .u32 0)] t10 t10 H λt11 H=>
 zzN t0 t1 t11 (.int .u32 0) (.int .i64 0) H K
theorem zNv{t0 t1 t5 t6 t7:AV}{H:zaa}{K:Kt}(Inv:Nat→AV→AV→zaa→Prop)(n:Nat)(h0:HSc H→Inv n t6 t7 H)(round:Rd2 (λt6=>λt7=>zip t0 t1 t5 t6 t7) (λt6=>λt7=>λH Kb4=>zmi t0 t1 t5 t6 t7 H K Kb4) H Inv):zzN t0 t1 t5 t6 t7 H K:=
 lp2 (M:=zmh) zNw t6 t7 (by kernel_rfl) Inv n h0 round
theorem zNx{t0 t1:AV}{H:zaa}{K:Kt}(h:HSc H→zzM t0 t1 H K):ACalls tP zhC [t0,t1] H K:=
 zap (M:=zmh) Tryz.func57 (c:=zrK) (by kernel_rfl) (λhs=>Eq.mpr (by kernel_rfl) (h hs))
def zL1(_:Nat):List Bool:=[]
noncomputable def zL2:Code:=Tryz.f41.body.getD .skip
def zzd(t0:AV)(H:zaa)(K:Kt):Prop:=
 zas t0 H λt1 H=>
 zae true 3 t1 H λt3=>
 ACalls tP zfA [t3] H λt4 H=>
 zak 3 t1 t4 H λH=>
 zaf 1 t1 λt6=>
 zae false 1 t6 H λt7=>
 zah 1 t7 λt8=>
 zac .eql false t8 (.int .i64 0) λt9=>
 zag t9
 (K (.int .i64 0) H)
 (zaf 0 t1 λt11=>
 zae false 1 t11 H λt12=>
 zag t12
 (K (.int .i64 (-1)) H)
 (K (.int .i64 1) H))
theorem zL3{t0:AV}{H:zaa}{K:Kt}(h:HSc H→zzd t0 H K):ACalls tP zoF [t0] H K:=
 zap (M:=zL1) Tryz.func41 (c:=zL2) (by kernel_rfl) (λhs=>Eq.mpr (by kernel_rfl) (h hs))
def zMb(_:Nat):List Bool:=[]
noncomputable def zMc:Code:=Tryz.f42.body.getD .skip
def zzf(t0 t1:AV)(H:zaa)(K:Kt):Prop:=
 zas t0 H λt2 H=>
 zas t1 H λt3 H=>
 zaw [(.bool false),.snil,.snil] H λt4 H=>
 zab H (λK'=>zam true 3 t2 H (K' · H)) λt5=>
 zab H (λK'=>zam true 3 t3 H (K' · H)) λt6=>
 zaA H (λH K'=>ACalls tP zoO [t6] H K') λt7=>
 zaA H (λH K'=>ACalls tP zjq [t5,t7] H K') λt8=>
 zak 3 t4 t8 H λH=>
 zae true 3 t4 H λr0=>
 K r0 H
theorem zMd{t0 t1:AV}{H:zaa}{K:Kt}(h:HSc H→zzf t0 t1 H K):ACalls tP zoH [t0,t1] H K:=
 zap (M:=zMb) Tryz.func42 (c:=zMc) (by kernel_rfl) (λhs=>Eq.mpr (by kernel_rfl) (h hs))
def zmR:Nat→List Bool
 |4=>rl false [0,1,2,3,30]
 |_=>[]
noncomputable def zsz:Code:=Tryz.f92.body.getD .skip
noncomputable def zPV:List ResultVar:=Tryz.f92.results.toList
def zmT(t0 t3 t4 t5:AV):List AV:=t0::ux 2 (t3::t4::t5::ux 30 [])
def zPT:List Bool:=zmR 4
noncomputable def zPR:Code:=zat [1,1,1,0,1,0,0] zsz
def zPQ(K:Kt):AExit→List AV→zaa→Prop:=zau tP zmR [1,1,1,0,1,0] zsz (zaz tP zPV K)
def zmV(t0 t3 t4 t5:AV)(H:zaa)(K:Kt):Prop:=ALoop tP zPR (zPQ K) (zmT t0 t3 t4 t5) H
def zmU(t3:AV)(H:zaa)(K:Kt):Prop:=
 ACalls tP zeX [t3] H λt35 H=>
 K t35 H
def zmS(t0 t3 t4 t5:AV)(H:zaa)(K:Kt)(Kb4:Lt):Prop:=
 zah 1 t0 λt8=>
 zac .lss false t5 t8 λt9=>
 zag t9
 (zai 1 t0 t5 λt15=>
 zae false 1 t15 H λt16=>
 za9 .u64 t16 λt17=>
 zac .add false t4 t17 λt18=>
 zac .rem false t18 (.int .u64 1000000000) λt21=>
 za9 .u32 t21 λt22=>
 zar 1 [(.int .u32 0)] 1 [(0,t22)] λt23=>
 zay za8 1 4 t3 t23 H λt24 H=>
 zac .quo false t18 (.int .u64 1000000000) λt26=>
 zac .add false t5 (.int .i64 1) λt11=>
 Kb4 (zmT t0 t24 t26 t11) H)
 (zac .gtr false t4 (.int .u64 0) λt28=>
 zag t28
 (za9 .u32 t4 λt31=>
 zar 1 [(.int .u32 0)] 1 [(0,t31)] λt32=>
 zay za8 1 4 t3 t32 H λt33 H=>
 zmU t33 H K)
 (zmU t3 H K))
def zAI(t0:AV)(H:zaa)(K:Kt):Prop:=
 zmV t0 .snil (.int .u64 0) (.int .i64 0) H K
theorem zPS{t0 t3 t4 t5:AV}{H:zaa}{K:Kt}(Inv:Nat→AV→AV→AV→zaa→Prop)(n:Nat)(h0:HSc H→Inv n t3 t4 t5 H)(round:Rd3 (λt3=>λt4=>λt5=>zmT t0 t3 t4 t5) (λt3=>λt4=>λt5=>λH Kb4=>zmS t0 t3 t4 t5 H K Kb4) H Inv):zmV t0 t3 t4 t5 H K:=
 lp3 (M:=zmR) zPT t3 t4 t5 (by kernel_rfl) Inv n h0 round
theorem zPU{t0:AV}{H:zaa}{K:Kt}(h:HSc H→zAI t0 H K):ACalls tP zjP [t0] H K:=
 zap (M:=zmR) Tryz.func92 (c:=zsz) (by kernel_rfl) (λhs=>Eq.mpr (by kernel_rfl) (h hs))
def zmW:Nat→List Bool
 |1=>rl false [0,2,17]
 |_=>[]
noncomputable def zsB:Code:=Tryz.f93.body.getD .skip
noncomputable def zP1:List ResultVar:=Tryz.f93.results.toList
def zmX(t0 t1:AV):List AV:=t0::t1::ux 17 []
def zPZ:List Bool:=zmW 1
noncomputable def zPX:Code:=zat [1,0,0,0] zsB
def zPW(K:Kt):AExit→List AV→zaa→Prop:=zau tP zmW [1,0,0] zsB (zaz tP zP1 K)
def zAL(t0 t1:AV)(H:zaa)(K:Kt):Prop:=ALoop tP zPX (zPW K) (zmX t0 t1) H
def zsA(t0 t1:AV)(H:zaa)(K:Kt)(Kb1:Lt):Prop:=
 zah 1 t1 λt8=>
 zac .gtr false t8 (.int .i64 0) λt9=>
 zag t9
 (ACalls tP zhK [t0,t1] H λt13 H=>
 zaG t13 0 λt14=>
 zaG t13 1 λt15=>
 Kb1 (zmX t1 t15) H)
 (K t0 H)
def zAK(t0 t1:AV)(H:zaa)(K:Kt):Prop:=
 zAL t0 t1 H K
theorem zPY{t0 t1:AV}{H:zaa}{K:Kt}(Inv:Nat→AV→AV→zaa→Prop)(n:Nat)(h0:HSc H→Inv n t0 t1 H)(round:Rd2 (λt0=>λt1=>zmX t0 t1) (λt0=>λt1=>λH Kb1=>zsA t0 t1 H K Kb1) H Inv):zAL t0 t1 H K:=
 lp2 (M:=zmW) zPZ t0 t1 (by kernel_rfl) Inv n h0 round
theorem zP0{t0 t1:AV}{H:zaa}{K:Kt}(h:HSc H→zAK t0 t1 H K):ACalls tP zoQ [t0,t1] H K:=
 zap (M:=zmW) Tryz.func93 (c:=zsB) (by kernel_rfl) (λhs=>Eq.mpr (by kernel_rfl) (h hs))
def zmY:Nat→List Bool
 |2=>rl false [0,1,2,1,18]
 |_=>[]
noncomputable def zsE:Code:=Tryz.f95.body.getD .skip
noncomputable def zQe:List ResultVar:=Tryz.f95.results.toList
def zm0(t0 t3:AV):List AV:=t0::ux 2 (t3::ux 18 [])
def zQc:List Bool:=zmY 2
noncomputable def zQa:Code:=zat [1,1,0,0,0] zsE
def zP9(K:Kt):AExit→List AV→zaa→Prop:=zau tP zmY [1,1,0,0] zsE (zaz tP zQe K)
def zAP(t0 t3:AV)(H:zaa)(K:Kt):Prop:=ALoop tP zQa (zP9 K) (zm0 t0 t3) H
def zmZ(t0 t3:AV)(H:zaa)(K:Kt)(Kb2:Lt):Prop:=
 zac .gtr false t3 (.int .i64 0) λt7=>
 zad t7 true H (λK'=>K' t0 H) λt9 H=>
 zad t7 true H (λK'=>K' t3 H) λt10 H=>
 zad t7 true H (λK'=>zac .sub false t10 (.int .i64 1) (K' · H)) λt11 H=>
 zad t7 true H (λK'=>zai 1 t9 t11 (K' · H)) λt12 H=>
 zad t7 true H (λK'=>zae false 1 t12 H (K' · H)) λt13 H=>
 zad t7 true H (λK'=>zac .eql false t13 (.int .u32 0) (K' · H)) λt14 H=>
 zao t7 t14 (.bool false) λt15=>
 zag t15
 (zac .sub false t3 (.int .i64 1) λt17=>
 Kb2 (zm0 t0 t17) H)
 (zbp 1 1 t0 none (some t3) λt20=>
 zay za8 1 4 .snil t20 H λt21 H=>
 K t21 H)
def zAO(t0:AV)(H:zaa)(K:Kt):Prop:=
 zah 1 t0 λt5=>
 zAP t0 t5 H K
theorem zQb{t0 t3:AV}{H:zaa}{K:Kt}(Inv:Nat→AV→zaa→Prop)(n:Nat)(h0:HSc H→Inv n t3 H)(round:Rd1 (λt3=>zm0 t0 t3) (λt3=>λH Kb2=>zmZ t0 t3 H K Kb2) H Inv):zAP t0 t3 H K:=
 lp1 (M:=zmY) zQc t3 (by kernel_rfl) Inv n h0 round
theorem zQd{t0:AV}{H:zaa}{K:Kt}(h:HSc H→zAO t0 H K):ACalls tP zeX [t0] H K:=
 zap (M:=zmY) Tryz.func95 (c:=zsE) (by kernel_rfl) (λhs=>Eq.mpr (by kernel_rfl) (h hs))
def zkK:Nat→List Bool
 |4=>rl false [0,2,4,3,31]
 |_=>[]
noncomputable def zp5:Code:=Tryz.f129.body.getD .skip
noncomputable def zHk:List ResultVar:=Tryz.f129.results.toList
def zkL(t0 t1 t6 t7 t8:AV):List AV:=t0::t1::ux 4 (t6::t7::t8::ux 31 [])
def zHi:List Bool:=zkK 4
noncomputable def zHg:Code:=zat [1,1,1,0,1,0,0] zp5
def zHf(K:Kt):AExit→List AV→zaa→Prop:=zau tP zkK [1,1,1,0,1,0] zp5 (zaz tP zHk K)
def zxm(t0 t1 t6 t7 t8:AV)(H:zaa)(K:Kt):Prop:=ALoop tP zHg (zHf K) (zkL t0 t1 t6 t7 t8) H
def zp4(t0 t1 t6 t7 t8:AV)(H:zaa)(K:Kt)(Kb4:Lt):Prop:=
 zac .geq false t8 (.int .i64 0) λt16=>
 zag t16
 (zac .mul false t7 (.int .u64 1000000000) λt20=>
 zai 1 t0 t8 λt23=>
 zae false 1 t23 H λt24=>
 za9 .u64 t24 λt25=>
 zac .add false t20 t25 λt26=>
 zac .quo false t26 t1 λt31=>
 za9 .u32 t31 λt32=>
 zai 1 t6 t8 λt33=>
 zak 1 t33 t32 H λH=>
 zac .rem false t26 t1 λt36=>
 zac .sub false t8 (.int .i64 1) λt18=>
 Kb4 (zkL t0 t1 t6 t36 t18) H)
 (ACalls tP zeX [t6] H λt38 H=>
 zbf [t38,t7] (K · H))
def zxl(t0 t1:AV)(H:zaa)(K:Kt):Prop:=
 zah 1 t0 λt10=>
 zba 4 [(.int .u32 0)] t10 t10 H λt11 H=>
 zah 1 t0 λt13=>
 zac .sub false t13 (.int .i64 1) λt14=>
 zxm t0 t1 t11 (.int .u64 0) t14 H K
theorem zHh{t0 t1 t6 t7 t8:AV}{H:zaa}{K:Kt}(Inv:Nat→AV→AV→zaa→Prop)(n:Nat)(h0:HSc H→Inv n t7 t8 H)(round:Rd2 (λt7=>λt8=>zkL t0 t1 t6 t7 t8) (λt7=>λt8=>λH Kb4=>zp4 t0 t1 t6 t7 t8 H K Kb4) H Inv):zxm t0 t1 t6 t7 t8 H K:=
 lp2 (M:=zkK) zHi t7 t8 (by kernel_rfl) Inv n h0 round
theorem zHj{t0 t1:AV}{H:zaa}{K:Kt}(h:HSc H→zxl t0 t1 H K):ACalls tP zoe [t0,t1] H K:=
 zap (M:=zkK) Tryz.func129 (c:=zp5) (by kernel_rfl) (λhs=>Eq.mpr (by kernel_rfl) (h hs))
def zOT(_:Nat):List Bool:=[]
noncomputable def zOU:Code:=Tryz.f81.body.getD .skip
def zAi(t0:AV)(H:zaa)(K:Kt):Prop:=
 zas t0 H λt1 H=>
 zaw [(.bool false),.snil,.snil] H λt2 H=>
 zaf 0 t1 λt3=>
 zae false 1 t3 H λt4=>
 aUn .not t4 λt5=>
 zaf 1 t1 λt6=>
 zae false 1 t6 H λt7=>
 zaf 2 t1 λt8=>
 zae false 1 t8 H λt9=>
 ACalls tP zc9 [t5,t7,t9] H λt10 H=>
 zak 3 t2 t10 H λH=>
 zae true 3 t2 H λr0=>
 K r0 H
theorem zOV{t0:AV}{H:zaa}{K:Kt}(h:HSc H→zAi t0 H K):ACalls tP zoO [t0] H K:=
 zap (M:=zOT) Tryz.func81 (c:=zOU) (by kernel_rfl) (λhs=>Eq.mpr (by kernel_rfl) (h hs))
def zMP(_:Nat):List Bool:=[]
noncomputable def zMQ:Code:=Tryz.f51.body.getD .skip
def zl1(t0 t1 t2 t6:AV)(H:zaa)(K:Kt):Prop:=
 zaq [(.bool false),.snil,.snil] [(0,1),(1,1),(2,1)] [(0,t0),(1,t1),(2,t2)] λt49=>
 zak 3 t6 t49 H λH=>
 zae true 3 t6 H λr0=>
 K r0 H
def zzz(t0 t1 t2:AV)(H:zaa)(K:Kt):Prop:=
 zaw [(.bool false),.snil,.snil] H λt6 H=>
 ACalls tP zjP [t1] H λt9 H=>
 ACalls tP zjP [t2] H λt11 H=>
 zah 1 t9 λt13=>
 zac .eql false t13 (.int .i64 0) λt14=>
 zad t14 false H (λK'=>K' t11 H) λt16 H=>
 zad t14 false H (λK'=>zah 1 t16 (K' · H)) λt17 H=>
 zad t14 false H (λK'=>zac .eql false t17 (.int .i64 0) (K' · H)) λt18 H=>
 zao t14 (.bool true) t18 λt19=>
 zag t19
 (zar 1 [(.int .u32 0)] 1 [(0,(.int .u32 1))] λt20=>
 zaq [(.bool false),.snil,.snil] [(0,1),(1,1),(2,1)] [(2,t20)] λt21=>
 zak 3 t6 t21 H λH=>
 zae true 3 t6 H λr0=>
 K r0 H)
 (ACalls tP zoQ [t9,t11] H λt24 H=>
 zah 1 t24 λt26=>
 zac .neq false t26 (.int .i64 1) λt27=>
 zad t27 false H (λK'=>K' t24 H) λt29 H=>
 zad t27 false H (λK'=>zai 1 t29 (.int .i64 0) (K' · H)) λt30 H=>
 zad t27 false H (λK'=>zae false 1 t30 H (K' · H)) λt31 H=>
 zad t27 false H (λK'=>zac .neq false t31 (.int .u32 1) (K' · H)) λt32 H=>
 zao t27 (.bool true) t32 λt33=>
 zag t33
 (ACalls tP zhK [t9,t24] H λt37 H=>
 zaG t37 0 λt38=>
 zaG t37 1 λt39=>
 ACalls tP zhK [t11,t24] H λt43 H=>
 zaG t43 0 λt44=>
 zaG t43 1 λt45=>
 zl1 t0 t38 t44 t6 H K)
 (zl1 t0 t9 t11 t6 H K))
theorem zMR{t0 t1 t2:AV}{H:zaa}{K:Kt}(h:HSc H→zzz t0 t1 t2 H K):ACalls tP zc9 [t0,t1,t2] H K:=
 zap (M:=zMP) Tryz.func51 (c:=zMQ) (by kernel_rfl) (λhs=>Eq.mpr (by kernel_rfl) (h hs))
def zAN:Nat→List Bool
 |9=>rl false [0,2,6,3,79]
 |13=>rl false [0,2,6,4,78]
 |16=>rl false [0,2,6,4,78]
 |_=>[]
noncomputable def zsC:Code:=Tryz.f94.body.getD .skip
noncomputable def zP8:List ResultVar:=Tryz.f94.results.toList
def zP5(t0 t1 t8 t9 t10:AV):List AV:=t0::t1::ux 6 (t8::t9::t10::ux 79 [])
noncomputable def zP4:Code:=zat [1,1,1,1,1,0,1,0,0] zsC
def zP3(K:Kt):AExit→List AV→zaa→Prop:=zau tP zAN [1,1,1,1,1,0,1,0] zsC (zaz tP zP8 K)
def zP6(t0 t1 t8 t9 t10:AV)(H:zaa)(K:Kt):Prop:=ALoop tP zP4 (zP3 K) (zP5 t0 t1 t8 t9 t10) H
def zAM(t0 t1:AV)(H:zaa)(K:Kt):Prop:=
 ACalls tP zjE [t0,t1] H λt14 H=>
 zac .lss false t14 (.int .i64 0) λt15=>
 zag t15
 (ACalls tP zeX [t0] H λt17 H=>
 zbf [.snil,t17] (K · H))
 (zah 1 t1 λt19=>
 zac .eql false t19 (.int .i64 1) λt20=>
 zag t20
 (zai 1 t1 (.int .i64 0) λt24=>
 zae false 1 t24 H λt25=>
 za9 .u64 t25 λt26=>
 ACalls tP zoe [t0,t26] H λt27 H=>
 zaG t27 0 λt28=>
 zaG t27 1 λt29=>
 ACalls tP zhB [t29] H λt32 H=>
 zbf [t28,t32] (K · H))
 (zah 1 t0 λt34=>
 zba 4 [(.int .u32 0)] t34 t34 H λt35 H=>
 zah 1 t0 λt37=>
 zac .sub false t37 (.int .i64 1) λt38=>
 zP6 t0 t1 t35 .snil t38 H K))
theorem zP7{t0 t1:AV}{H:zaa}{K:Kt}(h:HSc H→zAM t0 t1 H K):ACalls tP zhK [t0,t1] H K:=
 zap (M:=zAN) Tryz.func94 (c:=zsC) (by kernel_rfl) (λhs=>Eq.mpr (by kernel_rfl) (h hs))
end Go.Proofs.YtaifokkaaahdoaaGreatDoor

