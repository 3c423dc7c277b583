import Derived.Test.YtdmamdnkcefmmaaGreatDoorKGJ
import Derived.Test.YtdmamdnkcefmmaaGreatDoorKNum
import Derived.Test.YtdmamdnkcefmmaaGreatDoorProg
import Derived.KernelRfl
import Derived.Test.YtdmamdnkcefmmaaGreatDoorAbsQ1
import Derived.Lib.AppendStr
import Derived.Lib.UnsafeStr
import Derived.Test.YtdmamdnkcefmmaaGreatDoorVO
import Derived.Sort.Grow
import Derived.Deep.Draws
import Derived.Test.YtdmamdnkcefmmaaGreatDoorIT
import Derived.Test.YtdmamdnkcefmmaaGreatDoorKGT
import Derived.Shelf.SlSortCmp.NoneTotal
set_option linter.unusedSimpArgs false
set_option linter.unusedVariables false
set_option maxRecDepth 100000
namespace Go.Proofs.YtdmamdnkcefmmaaGreatDoor
def zbS (l:List Bool):List (List AV):=l.map λb=>[.bool b]
theorem zCM (aa:List Dat) (d:Nat) (c:Nat) (hd:d<aa.length) (hc:c<(aa[d]).cons.length) (hl:aa.length≤1000000) (bP:(aa[d]).cons.length≤1000000) (dX:((aa[d]).cons[c]).args.length≤1000000)
  (hb:∀ x∈((aa[d]).cons[c]).args,x.nodes≤1000000) (H:zaa) (K:Kt)
  (hK:K (.sl (zbS (zcy d aa[d] (aa[d]).cons[c])) .none) H) :
  ACalls tP zgt [.sl (aa.map Dat.cs) .none,.int .i64 d,.int .i64 c] H K:=by
 refine ACalls.out (zQV λhs=>?_);have e1:(aa.map Dat.cs)[d]?=some (aa[d]).cs:=by simp[hd]
 have e2:((aa[d]).cons.map Con.cs)[c]?=some ((aa[d]).cons[c]).cs:=by simp[hc]
 generalize hD:aa[d]=D at *;generalize hA:D.cons[c]=C at *;have h1:¬ (d:Int)<0:=by omega
 have h2:¬ (aa.length:Int)≤d:=by omega
 have h3:¬ (c:Int)<0:=by omega
 have h4:¬ (D.cons.length:Int)≤c:=by omega
 simp[zCL,h1,h2,h3,h4,e1,e2,Dat.cs,Con.cs,hd,hD,hc,hA];unfold zmW;refine ALoop.own 7 zgj 1 rfl ?_;show zmW (.sl (aa.map Dat.cs) .none) (.int .i64 d) (.sl [] (.own H.length)) (.sl (VT.css C.args) .none) (.int .i64 C.args.length) (.int .i64 0) (H++[.perm zgj 1 0]) (Out H.length K);have aI:∀ n,HSc (H++[.perm zgj 1 n]):=λn=>hs.append rfl;refine zQT (Inv:=λq t7 t42 H'=>∃ i:Nat,i≤C.args.length∧q=C.args.length-i∧t42=.int .i64 i∧t7=.sl (zbS ((zcy d D C).take i)) (.own H.length)∧H'=H++[.perm zgj 1 i]) C.args.length ?_ ?_
 ·intro _;exact⟨0,by omega,by omega,rfl,rfl,rfl⟩
 ·rintro q t7 t42 H' ⟨i,hi,rfl,rfl,rfl,rfl⟩ hsc am aM Kb au;have fk:(zcy d D C).length=C.args.length:=by simp[zcy]
  by_cases ak:i<C.args.length
  ·obtain⟨x,y,z,aC,hx,hy,hz⟩:=zbs C.args[i];have gb:=hb _ (List.getElem_mem ak);simp[ztQ,ak,aC,Nat.add_assoc,e1,hd,hD,Dat.cs];rw[←aC];refine⟨⟨hx,hy,hz⟩,?_⟩;refine zaB (.bool (zb4 d D.vars C.args[i])) (λJ=>zv6 _ _ _ gb _ _ ⟨rfl,rfl⟩) ?_;simp[zau,zaQ,plain,AV.pd,zav,zaM,zaJ,zbS];have cn:min i (zcy d D C).length=i:=by omega
   rw[cn];refine⟨rfl,⟨by omega,by omega⟩,?_⟩;rw[zaw (by omega) (by omega)];have aR:List.take i (List.map (λb=>[AV.bool b]) (zcy d D C))++[[AV.bool (zb4 (↑d) D.vars C.args[i])]]=zbS ((zcy d D C).take (i+1)):=by rw[List.take_succ_eq_append_getElem (by omega)];simp[zbS,zcy]
   rw[aR];refine au _ _ ⟨C.args.length-(i+1),by omega,Back.at (J:=[.cells C.args[i].cs]) (H2:=H++[.perm zgj 1 (i+1)]) (by simp) (by simp) (aI _) ?_ ⟨_,_,rfl,i+1,by omega,rfl,by simp,rfl,rfl⟩⟩;simp[zmV,AV.sc,AV.scV,AV.scA,AV.scB]
  ·obtain rfl:i=C.args.length:=by omega
   rw[List.take_of_length_le (by omega)];simp[ztQ];exact Out.at rfl (Nat.le_refl _) hs (.atom (.sl _ _)) rfl (by simp[zbS,AV.scV,AV.scA,AV.scB]) hK
section
variable (t0 t1 t3 t4 t5 t6 t8 t15 t16 t17 t18 t19 t20 t21 t31 t32 t33 t38 t39 t40 t45 t46 t47 t48:AV) (H:zaa) (K:Kt) (Kb5 Kb6 Kb11:Lt)
def zLO (_:Nat):List Bool:=[]
noncomputable def zLP:Code:=Tryz.f122.body.getD .skip
def zA1:Prop:=zat t0 H λt1 H=>zaf 0 t1 λt3=>zae false 1 t3 H λt4=>ACalls tP zqr [t4] H λt5 H=>zad t5 true H (λK'=>zae true 4 t1 H (K' · H)) λt7 H=>zad t5 true H (λK'=>ACalls tP zqs [t7] H K') λt8 H=>zam t5 t8 (.bool false) λt9=>zad t9 true H (λK'=>zae true 4 t1 H (K' · H)) λt11 H=>zad t9 true H (λK'=>ACalls tP zqt [t11] H K') λt12 H=>zam t9 t12 (.bool false) λt13=>zad t13 true H (λK'=>zae true 4 t1 H (K' · H)) λt15 H=>zad t13 true H (λK'=>ACalls tP zqu [t15] H K') λt16 H=>zam t13 t16 (.bool false) λt17=>zad t17 true H (λK'=>zae true 4 t1 H (K' · H)) λt19 H=>zad t17 true H (λK'=>ACalls tP zqv [t19] H K') λt20 H=>zam t17 t20 (.bool false) λt21=>zad t21 true H (λK'=>zae true 4 t1 H (K' · H)) λt23 H=>zad t21 true H (λK'=>ACalls tP zqw [t23] H K') λt24 H=>zam t21 t24 (.bool false) λt25=>zad t25 true H (λK'=>zae true 4 t1 H (K' · H)) λt27 H=>zad t25 true H (λK'=>ACalls tP zqx [t27] H K') λt28 H=>zam t25 t28 (.bool false) λt29=>K t29 H
def zOB (_:Nat):List Bool:=[]
noncomputable def zOC:Code:=Tryz.f160.body.getD .skip
def zBN:Prop:=zat t0 H λt1 H=>zaf 2 t1 λt3=>zae false 1 t3 H λt4=>zah 1 t4 λt5=>zac .leq false t5 (.int .i64 3000) λt6=>zad t6 true H (λK'=>zaf 2 t1 (K' · H)) λt8 H=>zad t6 true H (λK'=>zae false 1 t8 H (K' · H)) λt9 H=>zad t6 true H (λK'=>zcE zyj [t1] (K' · H)) λt10 H=>zad t6 true H (λK'=>ACalls tP zfz [t9,t10] H K') λt11 H=>zad t6 true H (λK'=>aUn .not t11 (K' · H)) λt12 H=>zam t6 t12 (.bool false) λt13=>K t13 H
def zmm:Nat→List Bool | 6=>rl false [1,1,1,2,14,3,59] | _=>[]
noncomputable def ztf:Code:=Tryz.f161.body.getD .skip
noncomputable def zOJ:List ResultVar:=Tryz.f161.results.toList
def ztg:List AV:=ux 1 (t1::ux 1 (t3::t4::ux 14 (t19::t20::t21::ux 59 [])))
def zOH:List Bool:=zmm 6
noncomputable def zOF:Code:=zar [1,1,1,1,0,1,0,0] ztf
def zOE:AExit→List AV→zaa→Prop:=zas tP zmm [1,1,1,1,0,1,0] ztf (zaz tP zOJ K)
def zBR:Prop:=ALoop tP zOF (zOE K) (ztg t1 t3 t4 t19 t20 t21) H
def zBQ:Prop:=zaf 0 t6 λt42=>zae false 1 t42 H λt43=>zcW t3 t43 (.bool true) H λH=>zaf 1 t6 λt44=>zae false 1 t44 H λt45=>zah 1 t45 λt46=>zac .gtr false t46 (.int .i64 6) λt47=>zad t47 false H (λK'=>zaf 0 t1 (K' · H)) λt49 H=>zad t47 false H (λK'=>zae false 1 t49 H (K' · H)) λt50 H=>zad t47 false H (λK'=>zaf 3 t6 (K' · H)) λt51 H=>zad t47 false H (λK'=>zae true 3 t51 H (K' · H)) λt52 H=>zad t47 false H (λK'=>ACalls tP zhM [t50,t52,(.int .i64 0)] H K') λt53 H=>zad t47 false H (λK'=>aUn .not t53 (K' · H)) λt54 H=>zam t47 (.bool true) t54 λt55=>zag t55 (K (.bool false) H) (zab H (λK'=>zaf 6 t6 (K' · H)) λt56=>zab H (λK'=>zaj false 1 t56 H (K' · H)) λt57=>zab H (λK'=>zac .lss false t57 (.int .i64 0) (K' · H)) λt58=>zab H (λK'=>K' t58 H) λt59=>zad t59 false H (λK'=>zab H (λK''=>zaf 6 t6 (K'' · H)) (K' · H)) λt60 H=>zad t59 false H (λK'=>zab H (λK''=>zaj false 1 t60 H (K'' · H)) (K' · H)) λt61 H=>zad t59 false H (λK'=>zab H (λK''=>zaf 3 t1 (K'' · H)) (K' · H)) λt62 H=>zad t59 false H (λK'=>zab H (λK''=>zaj false 1 t62 H (K'' · H)) (K' · H)) λt63 H=>zad t59 false H (λK'=>zab H (λK''=>zah 1 t63 (K'' · H)) (K' · H)) λt64 H=>zad t59 false H (λK'=>zab H (λK''=>zac .geq false t61 t64 (K'' · H)) (K' · H)) λt65 H=>zab H (λK'=>zam t59 (.bool true) t65 (K' · H)) λt66=>zab H (λK'=>K' t66 H) λt67=>zad t67 false H (λK'=>zab H (λK''=>zaf 3 t1 (K'' · H)) (K' · H)) λt68 H=>zad t67 false H (λK'=>zab H (λK''=>zaj false 1 t68 H (K'' · H)) (K' · H)) λt69 H=>zad t67 false H (λK'=>zab H (λK''=>zaf 6 t6 (K'' · H)) (K' · H)) λt70 H=>zad t67 false H (λK'=>zab H (λK''=>zaj false 1 t70 H (K'' · H)) (K' · H)) λt71 H=>zad t67 false H (λK'=>zab H (λK''=>zak 8 t69 t71 (K'' · H)) (K' · H)) λt72 H=>zad t67 false H (λK'=>zab H (λK''=>zaf 5 t72 (K'' · H)) (K' · H)) λt73 H=>zad t67 false H (λK'=>zab H (λK''=>zaj true 3 t73 H (K'' · H)) (K' · H)) λt74 H=>zad t67 false H (λK'=>zab H (λK''=>zaf 3 t6 (K'' · H)) (K' · H)) λt75 H=>zad t67 false H (λK'=>zab H (λK''=>zaj true 3 t75 H (K'' · H)) (K' · H)) λt76 H=>zad t67 false H (λK'=>zaA H (λH K''=>ACalls tP zHy [t74,t76] H K'') (K' · H)) λt77 H=>zad t67 false H (λK'=>zab H (λK''=>aUn .not t77 (K'' · H)) (K' · H)) λt78 H=>zab H (λK'=>zam t67 (.bool true) t78 (K' · H)) λt79=>zag t79 (K (.bool false) H) (zac .add false t21 (.int .i64 1) λt80=>Kb6 (ztg t1 t3 t4 t19 t20 t80) H))
def zBP:Prop:=zac .lss false t21 t20 λt22=>zag t22 (zak 7 t19 t21 λt23=>zae true 7 t23 H λt24=>zay [(.str []),.snil,.snil,(.int .i64 0),(.int .i64 0),.snil,(.int .i64 0)] H λt6 H=>zao 7 t6 t24 H λH=>zaf 0 t6 λt25=>zae false 1 t25 H λt26=>zac .eql false t26 (.str []) λt27=>zag t27 (zBQ t1 t3 (.bool true) t6 t19 t20 t21 H K Kb6) (zad t4 false H (λK'=>K' t3 H) λt30 H=>zad t4 false H (λK'=>zaf 0 t6 (K' · H)) λt31 H=>zad t4 false H (λK'=>zae false 1 t31 H (K' · H)) λt32 H=>zad t4 false H (λK'=>zdK (.bool false) false t30 t32 H (K' · H)) λt33 H=>zam t4 (.bool true) t33 λt34=>zad t34 false H (λK'=>zaf 2 t6 (K' · H)) λt36 H=>zad t34 false H (λK'=>zae false 1 t36 H (K' · H)) λt37 H=>zad t34 false H (λK'=>zah 1 t37 (K' · H)) λt38 H=>zad t34 false H (λK'=>zac .gtr false t38 (.int .i64 0) (K' · H)) λt39 H=>zam t34 (.bool true) t39 λt40=>zag t40 (K (.bool false) H) (zBQ t1 t3 t4 t6 t19 t20 t21 H K Kb6))) (K (.bool true) H)
def zBO:Prop:=zat t0 H λt1 H=>zaf 1 t1 λt7=>zae false 1 t7 H λt8=>zah 1 t8 λt9=>zac .gtr false t9 (.int .i64 64) λt10=>zad t10 false H (λK'=>zaf 3 t1 (K' · H)) λt12 H=>zad t10 false H (λK'=>zae false 1 t12 H (K' · H)) λt13 H=>zad t10 false H (λK'=>zah 1 t13 (K' · H)) λt14 H=>zad t10 false H (λK'=>zac .gtr false t14 (.int .i64 3000) (K' · H)) λt15 H=>zam t10 (.bool true) t15 λt16=>zag t16 (K (.bool false) H) (zdZ H λt17 H=>zaf 1 t1 λt18=>zae false 1 t18 H λt19=>zah 1 t19 λt20=>zBR t1 t17 (.bool false) t19 t20 (.int .i64 0) H K)
def ze8:Nat→List Bool | 5=>rl false [1,1,2,2,12,3,54] | 11=>rl false [1,1,2,2,25,3,41] | 16=>rl false [1,1,2,2,2,1,22,3,12,3,26] | _=>[]
noncomputable def ziB:Code:=Tryz.f162.body.getD .skip
noncomputable def zB0:List ResultVar:=Tryz.f162.results.toList
def zti:List AV:=ux 1 (t1::ux 2 (t4::t5::ux 12 (t18::t19::t20::ux 54 [])))
def zOS:List Bool:=ze8 5
noncomputable def zON:Code:=zar [1,1,1,1,0,1,0,0] ziB
def zOL:AExit→List AV→zaa→Prop:=zas tP ze8 [1,1,1,1,0,1,0] ziB (zaz tP zB0 K)
def zBY:Prop:=ALoop tP zON (zOL K) (zti t1 t4 t5 t18 t19 t20) H
def zBW:List AV:=ux 1 (t1::ux 2 (t4::t5::ux 25 (t31::t32::t33::ux 41 [])))
def zBZ:List Bool:=ze8 11
noncomputable def zth:Code:=zar [1,1,1,1,1,0,1,0,0] ziB
def zBT:AExit→List AV→zaa→Prop:=zas tP ze8 [1,1,1,1,1,0,1,0] ziB (zaz tP zB0 K)
def zBX:Prop:=ALoop tP zth (zBT K) (zBW t1 t4 t5 t31 t32 t33) H
def zOO:List AV:=ux 1 (t1::ux 2 (t4::t5::ux 2 (t8::ux 22 (t31::t32::t33::ux 12 (t46::t47::t48::ux 26 [])))))
noncomputable def zOM:Code:=zar [1,1,0,0,1,1,1,0,0] zth
def zOK:AExit→List AV→zaa→Prop:=zas tP ze8 [1,1,0,0,1,1,1,0] zth (zbL zBZ Kb11 (zBT K))
def zOP:Prop:=ALoop tP zOM (zOK K Kb11) (zOO t1 t4 t5 t8 t31 t32 t33 t46 t47 t48) H
def zBU:Prop:=zac .lss false t33 t32 λt34=>zag t34 (zak 8 t31 t33 λt36=>zae true 8 t36 H λt37=>zay [(.int .i64 0),(.int .i64 0),.snil,.snil,.snil,(.int .i64 0),(.int .i64 0),.snil] H λt9 H=>zao 8 t9 t37 H λH=>zaf 3 t9 λt38=>zae false 1 t38 H λt39=>zah 1 t39 λt40=>zaf 4 t9 λt41=>zae false 1 t41 H λt42=>zah 1 t42 λt43=>zac .neq false t40 t43 λt44=>zag t44 (K (.bool false) H) (zaf 4 t9 λt45=>zae false 1 t45 H λt46=>zah 1 t46 λt47=>zOP t1 t4 t5 t33 t31 t32 t33 t46 t47 (.int .i64 0) H K Kb11)) (zae false 1 t4 H λt70=>zaf 3 t1 λt71=>zae false 1 t71 H λt72=>zah 1 t72 λt73=>zac .eql false t70 t73 λt74=>K t74 H)
def zBV:Prop:=zac .lss false t20 t19 λt21=>zag t21 (zak 7 t18 t20 λt22=>zae true 7 t22 H λt23=>zay [(.str []),.snil,.snil,(.int .i64 0),(.int .i64 0),.snil,(.int .i64 0)] H λt7 H=>zao 7 t7 t23 H λH=>zaf 6 t7 λt25=>zae false 1 t25 H λt26=>aCallV tP t5 [t26] H λt27 H=>aUn .not t27 λt28=>zag t28 (K (.bool false) H) (zac .add false t20 (.int .i64 1) λt29=>Kb5 (zti t1 t4 t5 t18 t19 t29) H)) (zaf 3 t1 λt30=>zae false 1 t30 H λt31=>zah 1 t31 λt32=>zBX t1 t4 t5 t31 t32 (.int .i64 0) H K)
def zBS:Prop:=zat t0 H λt1 H=>zaf 3 t1 λt12=>zae false 1 t12 H λt13=>zah 1 t13 λt14=>zbe 1 [(.bool false)] t14 t14 H λt15 H=>zay [.snil] H λt3 H=>zao 1 t3 t15 H λH=>zay [(.int .i64 0)] H λt4 H=>zao 1 t4 (.int .i64 0) H λH=>zcE zHz [t3,t4] λt16=>zaf 1 t1 λt17=>zae false 1 t17 H λt18=>zah 1 t18 λt19=>zBY t1 t4 t16 t18 t19 (.int .i64 0) H K
def ze9:Nat→List Bool | 5=>rl false [1,1,2,2,12,3,41] | 11=>rl false [1,1,2,2,32,3,21] | 14=>rl false [1,1,2,2,32,3,4,3,14] | _=>[]
noncomputable def ziC:Code:=Tryz.f163.body.getD .skip
noncomputable def zB9:List ResultVar:=Tryz.f163.results.toList
def ztk:List AV:=ux 1 (t1::ux 2 (t4::t5::ux 12 (t18::t19::t20::ux 41 [])))
def zO2:List Bool:=ze9 5
noncomputable def zOX:Code:=zar [1,1,1,1,0,1,0,0] ziC
def zOV:AExit→List AV→zaa→Prop:=zas tP ze9 [1,1,1,1,0,1,0] ziC (zaz tP zB9 K)
def zB7:Prop:=ALoop tP zOX (zOV K) (ztk t1 t4 t5 t18 t19 t20) H
def zB5:List AV:=ux 1 (t1::ux 2 (t4::t5::ux 32 (t38::t39::t40::ux 21 [])))
def zB8:List Bool:=ze9 11
noncomputable def ztj:Code:=zar [1,1,1,1,1,0,1,0,0] ziC
def zB2:AExit→List AV→zaa→Prop:=zas tP ze9 [1,1,1,1,1,0,1,0] ziC (zaz tP zB9 K)
def zB6:Prop:=ALoop tP ztj (zB2 K) (zB5 t1 t4 t5 t38 t39 t40) H
def zOY:List AV:=ux 1 (t1::ux 2 (t4::t5::ux 32 (t38::t39::t40::ux 4 (t45::t46::t47::ux 14 []))))
noncomputable def zOW:Code:=zar [1,1,0,0,1,1,0,0] ztj
def zOU:AExit→List AV→zaa→Prop:=zas tP ze9 [1,1,0,0,1,1,0] ztj (zbL zB8 Kb11 (zB2 K))
def zOZ:Prop:=ALoop tP zOW (zOU K Kb11) (zOY t1 t4 t5 t38 t39 t40 t45 t46 t47) H
def zB3:Prop:=zac .lss false t40 t39 λt41=>zag t41 (zak 8 t38 t40 λt42=>zae true 8 t42 H λt43=>zay [(.int .i64 0),(.int .i64 0),.snil,.snil,.snil,(.int .i64 0),(.int .i64 0),.snil] H λt9 H=>zao 8 t9 t43 H λH=>zaf 3 t9 λt44=>zae false 1 t44 H λt45=>zah 1 t45 λt46=>zOZ t1 t4 t5 t38 t39 t40 t45 t46 (.int .i64 0) H K Kb11) (zae false 1 t4 H λt57=>zaf 2 t1 λt58=>zae false 1 t58 H λt59=>zah 1 t59 λt60=>zac .eql false t57 t60 λt61=>K t61 H)
def zB4:Prop:=zac .lss false t20 t19 λt21=>zag t21 (zak 7 t18 t20 λt22=>zae true 7 t22 H λt23=>zay [(.str []),.snil,.snil,(.int .i64 0),(.int .i64 0),.snil,(.int .i64 0)] H λt7 H=>zao 7 t7 t23 H λH=>zaf 1 t7 λt25=>zae false 1 t25 H λt26=>aCallV tP t5 [t26] H λt27 H=>aUn .not t27 λt28=>zad t28 false H (λK'=>K' t5 H) λt30 H=>zad t28 false H (λK'=>zaf 2 t7 (K' · H)) λt31 H=>zad t28 false H (λK'=>zae false 1 t31 H (K' · H)) λt32 H=>zad t28 false H (λK'=>aCallV tP t30 [t32] H K') λt33 H=>zad t28 false H (λK'=>aUn .not t33 (K' · H)) λt34 H=>zam t28 (.bool true) t34 λt35=>zag t35 (K (.bool false) H) (zac .add false t20 (.int .i64 1) λt36=>Kb5 (ztk t1 t4 t5 t18 t19 t36) H)) (zaf 3 t1 λt37=>zae false 1 t37 H λt38=>zah 1 t38 λt39=>zB6 t1 t4 t5 t38 t39 (.int .i64 0) H K)
def zB1:Prop:=zat t0 H λt1 H=>zaf 2 t1 λt12=>zae false 1 t12 H λt13=>zah 1 t13 λt14=>zbe 1 [(.bool false)] t14 t14 H λt15 H=>zay [.snil] H λt3 H=>zao 1 t3 t15 H λH=>zay [(.int .i64 0)] H λt4 H=>zao 1 t4 (.int .i64 0) H λH=>zcE zHA [t3,t4] λt16=>zaf 1 t1 λt17=>zae false 1 t17 H λt18=>zah 1 t18 λt19=>zB7 t1 t4 t16 t18 t19 (.int .i64 0) H K
def zmn:Nat→List Bool | 6=>rl false [4,2,9,3,25] | _=>[]
noncomputable def ztl:Code:=Tryz.f164.body.getD .skip
noncomputable def zO9:List ResultVar:=Tryz.f164.results.toList
def ztm:List AV:=ux 4 (t4::t5::ux 9 (t15::t16::t17::ux 25 []))
def zO7:List Bool:=zmn 6
noncomputable def zO5:Code:=zar [1,1,1,1,1,0,1,0,0] ztl
def zO4:AExit→List AV→zaa→Prop:=zas tP zmn [1,1,1,1,1,0,1,0] ztl (zaz tP zO9 K)
def zCc:Prop:=ALoop tP zO5 (zO4 K) (ztm t4 t5 t15 t16 t17) H
def zCb:Prop:=zac .lss false t17 t16 λt18=>zag t18 (zak 7 t15 t17 λt19=>zae true 7 t19 H λt20=>zay [(.str []),.snil,.snil,(.int .i64 0),(.int .i64 0),.snil,(.int .i64 0)] H λt7 H=>zao 7 t7 t20 H λH=>zae false 1 t4 H λt21=>zaf 1 t7 λt22=>zae false 1 t22 H λt23=>aCallV tP t21 [t23,(.bool true)] H λt24 H=>zae false 1 t4 H λt25=>zaf 2 t7 λt26=>zae false 1 t26 H λt27=>aCallV tP t25 [t27,(.bool true)] H λt28 H=>zae false 1 t5 H λt29=>zaf 6 t7 λt30=>zae false 1 t30 H λt31=>aCallV tP t29 [t31] H λt32 H=>aUn .not t32 λt33=>zag t33 (K (.bool false) H) (zae false 1 t4 H λt34=>zaf 1 t7 λt35=>zae false 1 t35 H λt36=>aCallV tP t34 [t36,(.bool false)] H λt37 H=>zae false 1 t4 H λt38=>zaf 2 t7 λt39=>zae false 1 t39 H λt40=>aCallV tP t38 [t40,(.bool false)] H λt41 H=>zac .add false t17 (.int .i64 1) λt42=>Kb6 (ztm t4 t5 t15 t16 t42) H)) (K (.bool true) H)
def zCa:Prop:=zat t0 H λt1 H=>zaf 2 t1 λt8=>zae false 1 t8 H λt9=>zah 1 t9 λt10=>zbe 1 [(.bool false)] t10 t10 H λt11 H=>zay [.snil] H λt3 H=>zao 1 t3 t11 H λH=>zcE zHB [t3] λt12=>zay [.nilfn] H λt4 H=>zao 1 t4 t12 H λH=>zay [.nilfn] H λt5 H=>zcE zHC [t1,t3,t4,t5] λt13=>zao 1 t5 t13 H λH=>zaf 1 t1 λt14=>zae false 1 t14 H λt15=>zah 1 t15 λt16=>zCc t4 t5 t15 t16 (.int .i64 0) H K
variable {t0 t1 t3 t4 t5 t6 t8 t15 t16 t17 t18 t19 t20 t21 t31 t32 t33 t38 t39 t40 t45 t46 t47 t48} {H} {K} {Kb5 Kb6 Kb11}
theorem zLR (h:HSc H→zA1 t0 H K):ACalls tP zqa [t0] H K:=
 acb zLO Tryz.func122 zLP (by kernel_rfl) (by kernel_rfl) h
theorem zOD (h:HSc H→zBN t0 H K):ACalls tP zqs [t0] H K:=
 acb zOB Tryz.func160 zOC (by kernel_rfl) (by kernel_rfl) h
theorem zOG (Inv:Nat→AV→AV→zaa→Prop) (n:Nat) (h0:HSc H→Inv n t4 t21 H)
  (ac:Rd2 (λt4=>λt21=>ztg t1 t3 t4 t19 t20 t21) (λt4=>λt21=>λH Kb6=>zBP t1 t3 t4 t19 t20 t21 H K Kb6) H Inv):zBR t1 t3 t4 t19 t20 t21 H K:=
 lp2 (M:=zmm) zOH t4 t21 (by kernel_rfl) Inv n h0 ac
theorem zOI (h:HSc H→zBO t0 H K):ACalls tP zqt [t0] H K:=
 acb zmm Tryz.func161 ztf (by kernel_rfl) (by kernel_rfl) h
theorem zOQ (Inv:Nat→AV→zaa→Prop) (n:Nat) (h0:HSc H→Inv n t33 H)
  (ac:Rd1 (λt33=>zBW t1 t4 t5 t31 t32 t33) (λt33=>λH Kb11=>zBU t1 t4 t5 t31 t32 t33 H K Kb11) H Inv):zBX t1 t4 t5 t31 t32 t33 H K:=
 lp1 (M:=ze8) zBZ t33 (by kernel_rfl) Inv n h0 ac
theorem zOR (Inv:Nat→AV→zaa→Prop) (n:Nat) (h0:HSc H→Inv n t20 H)
  (ac:Rd1 (λt20=>zti t1 t4 t5 t18 t19 t20) (λt20=>λH Kb5=>zBV t1 t4 t5 t18 t19 t20 H K Kb5) H Inv):zBY t1 t4 t5 t18 t19 t20 H K:=
 lp1 (M:=ze8) zOS t20 (by kernel_rfl) Inv n h0 ac
theorem zOT (h:HSc H→zBS t0 H K):ACalls tP zqu [t0] H K:=
 acb ze8 Tryz.func162 ziB (by kernel_rfl) (by kernel_rfl) h
theorem zO0 (Inv:Nat→AV→zaa→Prop) (n:Nat) (h0:HSc H→Inv n t40 H)
  (ac:Rd1 (λt40=>zB5 t1 t4 t5 t38 t39 t40) (λt40=>λH Kb11=>zB3 t1 t4 t5 t38 t39 t40 H K Kb11) H Inv):zB6 t1 t4 t5 t38 t39 t40 H K:=
 lp1 (M:=ze9) zB8 t40 (by kernel_rfl) Inv n h0 ac
theorem zO1 (Inv:Nat→AV→zaa→Prop) (n:Nat) (h0:HSc H→Inv n t20 H)
  (ac:Rd1 (λt20=>ztk t1 t4 t5 t18 t19 t20) (λt20=>λH Kb5=>zB4 t1 t4 t5 t18 t19 t20 H K Kb5) H Inv):zB7 t1 t4 t5 t18 t19 t20 H K:=
 lp1 (M:=ze9) zO2 t20 (by kernel_rfl) Inv n h0 ac
theorem zO3 (h:HSc H→zB1 t0 H K):ACalls tP zqv [t0] H K:=
 acb ze9 Tryz.func163 ziC (by kernel_rfl) (by kernel_rfl) h
theorem zO6 (Inv:Nat→AV→zaa→Prop) (n:Nat) (h0:HSc H→Inv n t17 H)
  (ac:Rd1 (λt17=>ztm t4 t5 t15 t16 t17) (λt17=>λH Kb6=>zCb t4 t5 t15 t16 t17 H K Kb6) H Inv):zCc t4 t5 t15 t16 t17 H K:=
 lp1 (M:=zmn) zO7 t17 (by kernel_rfl) Inv n h0 ac
theorem zO8 (h:HSc H→zCa t0 H K):ACalls tP zqw [t0] H K:=
 acb zmn Tryz.func164 ztl (by kernel_rfl) (by kernel_rfl) h
end
section
variable (t0 t1 t3 t16 t17 t18 t28 t29 t30:AV) (H:zaa) (K:Kt) (Kb3 Kb9:Lt)
def zfT:Nat→List Bool | 3=>rl false [1,1,1,1,12,3,30] | 9=>rl false [3,1,24,3,18] | _=>[]
noncomputable def ziD:Code:=Tryz.f165.body.getD .skip
noncomputable def zCi:List ResultVar:=Tryz.f165.results.toList
def ztn:List AV:=ux 1 (t1::ux 1 (t3::ux 12 (t16::t17::t18::ux 30 [])))
def zPg:List Bool:=zfT 3
noncomputable def zPc:Code:=zar [1,1,0,1,0,0] ziD
def zPa:AExit→List AV→zaa→Prop:=zas tP zfT [1,1,0,1,0] ziD (zaz tP zCi K)
def zCg:Prop:=ALoop tP zPc (zPa K) (ztn t1 t3 t16 t17 t18) H
def zto:List AV:=ux 3 (t3::ux 24 (t28::t29::t30::ux 18 []))
def zPh:List Bool:=zfT 9
noncomputable def zPd:Code:=zar [1,1,1,0,1,0,0] ziD
def zPb:AExit→List AV→zaa→Prop:=zas tP zfT [1,1,1,0,1,0] ziD (zaz tP zCi K)
def zCh:Prop:=ALoop tP zPd (zPb K) (zto t3 t28 t29 t30) H
def zCf:Prop:=zac .lss false t30 t29 λt31=>zag t31 (zak 7 t28 t30 λt33=>zae true 7 t33 H λt34=>zay [(.str []),.snil,.snil,(.int .i64 0),(.int .i64 0),.snil,(.int .i64 0)] H λt7 H=>zao 7 t7 t34 H λH=>zaf 0 t7 λt35=>zae false 1 t35 H λt36=>zac .eql false t36 (.str []) λt37=>zad t37 true H (λK'=>K' t3 H) λt39 H=>zad t37 true H (λK'=>za7 t39 (K' · H)) λt40 H=>zad t37 true H (λK'=>zaf 4 t40 (K' · H)) λt41 H=>zad t37 true H (λK'=>zae false 1 t41 H (K' · H)) λt42 H=>zad t37 true H (λK'=>K' t30 H) λt43 H=>zad t37 true H (λK'=>zak 1 t42 t43 (K' · H)) λt44 H=>zad t37 true H (λK'=>zae false 1 t44 H (K' · H)) λt45 H=>zad t37 true H (λK'=>zac .neq false t45 (.int .i64 1) (K' · H)) λt46 H=>zam t37 t46 (.bool false) λt47=>zag t47 (K (.bool false) H) (zac .add false t30 (.int .i64 1) λt48=>Kb9 (zto t3 t28 t29 t48) H)) (K (.bool true) H)
def zCe:Prop:=zac .lss false t18 t17 λt19=>zag t19 (zak 8 t16 t18 λt20=>zae true 8 t20 H λt21=>zay [(.int .i64 0),(.int .i64 0),.snil,.snil,.snil,(.int .i64 0),(.int .i64 0),.snil] H λt5 H=>zao 8 t5 t21 H λH=>zae true 8 t5 H λt23=>ACalls tP zHD [t3,t23] H λt24 H=>aUn .not t24 λt25=>zag t25 (K (.bool false) H) (zac .add false t18 (.int .i64 1) λt26=>Kb3 (ztn t1 t3 t16 t17 t26) H)) (zaf 1 t1 λt27=>zae false 1 t27 H λt28=>zah 1 t28 λt29=>zCh t3 t28 t29 (.int .i64 0) H K)
def zCd:Prop:=zat t0 H λt1 H=>zab H (λK'=>zaj true 4 t1 H (K' · H)) λt8=>zab H (λK'=>zaf 1 t1 (K' · H)) λt9=>zab H (λK'=>zaj false 1 t9 H (K' · H)) λt10=>zab H (λK'=>zah 1 t10 (K' · H)) λt11=>zbe 8 [(.int .i64 0)] t11 t11 H λt12 H=>zab H (λK'=>zaq [.snil,.snil,.snil,.snil,.snil] [(0,4),(4,1)] [(0,t8),(1,t12)] (K' · H)) λt13=>zat t13 H λt14 H=>zab H (λK'=>K' t14 H) λt3=>zaf 3 t1 λt15=>zae false 1 t15 H λt16=>zah 1 t16 λt17=>zCg t1 t3 t16 t17 (.int .i64 0) H K
variable {t0 t1 t3 t16 t17 t18 t28 t29 t30} {H} {K} {Kb3 Kb9}
theorem zPf (Inv:Nat→AV→zaa→Prop) (n:Nat) (h0:HSc H→Inv n t30 H)
  (ac:Rd1 (λt30=>zto t3 t28 t29 t30) (λt30=>λH Kb9=>zCf t3 t28 t29 t30 H K Kb9) H Inv):zCh t3 t28 t29 t30 H K:=
 lp1 (M:=zfT) zPh t30 (by kernel_rfl) Inv n h0 ac
theorem zPe (Inv:Nat→AV→zaa→Prop) (n:Nat) (h0:HSc H→Inv n t18 H)
  (ac:Rd1 (λt18=>ztn t1 t3 t16 t17 t18) (λt18=>λH Kb3=>zCe t1 t3 t16 t17 t18 H K Kb3) H Inv):zCg t1 t3 t16 t17 t18 H K:=
 lp1 (M:=zfT) zPg t18 (by kernel_rfl) Inv n h0 ac
theorem zPi (h:HSc H→zCd t0 H K):ACalls tP zqx [t0] H K:=
 acb zfT Tryz.func165 ziD (by kernel_rfl) (by kernel_rfl) h
end
section
variable (t0 t1 t2 t4 t5 t7 t10 t117:AV) (H:zaa) (K:Kt) (Kb4 Kb21:Lt)
def znS:Nat→List Bool | 21=>rl false [0,1,3,2,1,1,2,1,174] | _=>[]
noncomputable def zu1:Code:=Tryz.f51.body.getD .skip
noncomputable def zUT:List ResultVar:=Tryz.f51.results.toList
def znT:List AV:=t0::ux 3 (t4::t5::ux 1 (t7::ux 2 (t10::ux 174 [])))
def zUR:List Bool:=znS 21
noncomputable def zUP:Code:=zar [1,1,0,1,0,1,1,1,1,1,1,1,1,1,1,1,0,1,0,1,0,0] zu1
def zUO:AExit→List AV→zaa→Prop:=zas tP znS [1,1,0,1,0,1,1,1,1,1,1,1,1,1,1,1,0,1,0,1,0] zu1 (zaz tP zUT K)
def zu2:Prop:=ALoop tP zUP (zUO K) (znT t0 t4 t5 t7 t10) H
def zu0:Prop:=zac .lss false t10 t7 λt153=>zag t153 (zab H (λK'=>K' t0 H) λt156=>zab H (λK'=>zaf 2 t4 (K' · H)) λt157=>zab H (λK'=>zaj false 1 t157 H (K' · H)) λt158=>zab H (λK'=>K' t10 H) λt159=>zab H (λK'=>zak 3 t158 t159 (K' · H)) λt160=>zab H (λK'=>zaj true 3 t160 H (K' · H)) λt161=>zab H (λK'=>zaf 2 t5 (K' · H)) λt162=>zab H (λK'=>zaj false 1 t162 H (K' · H)) λt163=>zab H (λK'=>zak 3 t163 (.int .i64 0) (K' · H)) λt164=>zab H (λK'=>zaj true 3 t164 H (K' · H)) λt165=>zaA H (λH K'=>ACalls tP zj3 [t156,t161,t165] H K') λt166=>zab H (λK'=>aUn .not t166 (K' · H)) λt167=>zag t167 (K (.bool false) H) (zac .add false t10 (.int .i64 1) λt155=>Kb21 (znT t0 t4 t5 t7 t155) H)) (K (.bool true) H)
def ziR:Prop:=zag t117 (zaf 0 t5 λt120=>zae false 1 t120 H λt121=>zac .eql false t121 (.int .i64 7) λt122=>zad t122 true H (λK'=>zaf 0 t4 (K' · H)) λt124 H=>zad t122 true H (λK'=>zae false 1 t124 H (K' · H)) λt125 H=>zad t122 true H (λK'=>zac .neq false t125 (.int .i64 6) (K' · H)) λt126 H=>zad t122 true H (λK'=>K' t126 H) λt127 H=>zad t127 false H (λK'=>K' t7 H) λt128 H=>zad t127 false H (λK'=>zac .gtr false t128 (.int .i64 4096) (K' · H)) λt129 H=>zad t122 true H (λK'=>zam t127 (.bool true) t129 (K' · H)) λt130 H=>zam t122 t130 (.bool false) λt131=>zad t131 false H (λK'=>zaf 0 t5 (K' · H)) λt133 H=>zad t131 false H (λK'=>zae false 1 t133 H (K' · H)) λt134 H=>zad t131 false H (λK'=>zac .eql false t134 (.int .i64 8) (K' · H)) λt135 H=>zad t131 false H (λK'=>K' t135 H) λt136 H=>zad t136 true H (λK'=>zaf 0 t4 (K' · H)) λt137 H=>zad t136 true H (λK'=>zae false 1 t137 H (K' · H)) λt138 H=>zad t136 true H (λK'=>zac .neq false t138 (.int .i64 7) (K' · H)) λt139 H=>zad t136 true H (λK'=>K' t139 H) λt140 H=>zad t140 false H (λK'=>K' t7 H) λt141 H=>zad t140 false H (λK'=>zac .neq false t141 (.int .i64 1) (K' · H)) λt142 H=>zad t136 true H (λK'=>zam t140 (.bool true) t142 (K' · H)) λt143 H=>zad t131 false H (λK'=>zam t136 t143 (.bool false) (K' · H)) λt144 H=>zam t131 (.bool true) t144 λt145=>zad t145 false H (λK'=>zaf 1 t4 (K' · H)) λt147 H=>zad t145 false H (λK'=>zae false 1 t147 H (K' · H)) λt148 H=>zad t145 false H (λK'=>zac .neq false t148 (.int .i64 0) (K' · H)) λt149 H=>zam t145 (.bool true) t149 λt150=>zag t150 (K (.bool false) H) (zu2 t0 t4 t5 t7 (.int .i64 0) H K)) (zaf 0 t4 λt168=>zae false 1 t168 H λt169=>zac .eql false t169 (.int .i64 8) λt170=>zad t170 true H (λK'=>zaf 1 t4 (K' · H)) λt172 H=>zad t170 true H (λK'=>zae false 1 t172 H (K' · H)) λt173 H=>zad t170 true H (λK'=>zac .geq false t173 (.int .i64 0) (K' · H)) λt174 H=>zam t170 t174 (.bool false) λt175=>zad t175 true H (λK'=>zaf 1 t4 (K' · H)) λt177 H=>zad t175 true H (λK'=>zae false 1 t177 H (K' · H)) λt178 H=>zad t175 true H (λK'=>zac .lss false t178 (.int .i64 64) (K' · H)) λt179 H=>zam t175 t179 (.bool false) λt180=>zad t180 true H (λK'=>K' t7 H) λt182 H=>zad t180 true H (λK'=>zac .eql false t182 (.int .i64 0) (K' · H)) λt183 H=>zam t180 t183 (.bool false) λt184=>K t184 H)
def zeE:Prop:=zat t1 H λt4 H=>zat t2 H λt5 H=>zaf 2 t4 λt11=>zae false 1 t11 H λt12=>zah 1 t12 λt13=>zaf 0 t5 λt14=>zae false 1 t14 H λt15=>zac .eql false t15 (.int .i64 3) λt17=>zag t17 (zaf 0 t4 λt18=>zae false 1 t18 H λt19=>zac .eql false t19 (.int .i64 1) λt20=>zad t20 true H (λK'=>zaf 1 t4 (K' · H)) λt22 H=>zad t20 true H (λK'=>zae false 1 t22 H (K' · H)) λt23 H=>zad t20 true H (λK'=>zac .eql false t23 (.int .i64 0) (K' · H)) λt24 H=>zam t20 t24 (.bool false) λt25=>zad t25 true H (λK'=>K' t13 H) λt27 H=>zad t25 true H (λK'=>zac .eql false t27 (.int .i64 0) (K' · H)) λt28 H=>zam t25 t28 (.bool false) λt29=>K t29 H) (zac .eql false t15 (.int .i64 2) λt31=>zag t31 (zaf 0 t4 λt32=>zae false 1 t32 H λt33=>zac .eql false t33 (.int .i64 2) λt34=>zad t34 true H (λK'=>zaf 1 t4 (K' · H)) λt36 H=>zad t34 true H (λK'=>zae false 1 t36 H (K' · H)) λt37 H=>zad t34 true H (λK'=>zac .eql false t37 (.int .i64 0) (K' · H)) λt38 H=>zad t34 true H (λK'=>K' t38 H) λt39 H=>zad t39 false H (λK'=>zaf 1 t4 (K' · H)) λt40 H=>zad t39 false H (λK'=>zae false 1 t40 H (K' · H)) λt41 H=>zad t39 false H (λK'=>zac .eql false t41 (.int .i64 1) (K' · H)) λt42 H=>zad t34 true H (λK'=>zam t39 (.bool true) t42 (K' · H)) λt43 H=>zam t34 t43 (.bool false) λt44=>zad t44 true H (λK'=>K' t13 H) λt46 H=>zad t44 true H (λK'=>zac .eql false t46 (.int .i64 0) (K' · H)) λt47 H=>zam t44 t47 (.bool false) λt48=>K t48 H) (zac .eql false t15 (.int .i64 1) λt50=>zag t50 (zaf 0 t4 λt51=>zae false 1 t51 H λt52=>zac .eql false t52 (.int .i64 3) λt53=>zad t53 true H (λK'=>zaf 1 t4 (K' · H)) λt55 H=>zad t53 true H (λK'=>zae false 1 t55 H (K' · H)) λt56 H=>zad t53 true H (λK'=>zac .geq false t56 (.int .i64 (-1099511627776)) (K' · H)) λt57 H=>zam t53 t57 (.bool false) λt58=>zad t58 true H (λK'=>zaf 1 t4 (K' · H)) λt60 H=>zad t58 true H (λK'=>zae false 1 t60 H (K' · H)) λt61 H=>zad t58 true H (λK'=>zac .leq false t61 (.int .i64 1099511627776) (K' · H)) λt62 H=>zam t58 t62 (.bool false) λt63=>zad t63 true H (λK'=>K' t13 H) λt65 H=>zad t63 true H (λK'=>zac .eql false t65 (.int .i64 0) (K' · H)) λt66 H=>zam t63 t66 (.bool false) λt67=>K t67 H) (zac .eql false t15 (.int .i64 6) λt69=>zag t69 (zaf 0 t4 λt70=>zae false 1 t70 H λt71=>zac .eql false t71 (.int .i64 4) λt72=>zad t72 true H (λK'=>zaf 1 t4 (K' · H)) λt74 H=>zad t72 true H (λK'=>zae false 1 t74 H (K' · H)) λt75 H=>zad t72 true H (λK'=>zac .eql false t75 (.int .i64 0) (K' · H)) λt76 H=>zam t72 t76 (.bool false) λt77=>zad t77 true H (λK'=>K' t0 H) λt79 H=>zad t77 true H (λK'=>zaf 2 t4 (K' · H)) λt80 H=>zad t77 true H (λK'=>zae false 1 t80 H (K' · H)) λt81 H=>zad t77 true H (λK'=>zaf 2 t5 (K' · H)) λt82 H=>zad t77 true H (λK'=>zae false 1 t82 H (K' · H)) λt83 H=>zad t77 true H (λK'=>ACalls tP zkg [t79,t81,t83] H K') λt84 H=>zam t77 t84 (.bool false) λt85=>K t85 H) (zac .eql false t15 (.int .i64 5) λt87=>zag t87 (zaf 0 t4 λt88=>zae false 1 t88 H λt89=>zac .neq false t89 (.int .i64 5) λt90=>zad t90 false H (λK'=>zaf 1 t4 (K' · H)) λt92 H=>zad t90 false H (λK'=>zae false 1 t92 H (K' · H)) λt93 H=>zad t90 false H (λK'=>zac .lss false t93 (.int .i64 0) (K' · H)) λt94 H=>zam t90 (.bool true) t94 λt95=>zad t95 false H (λK'=>zaf 1 t4 (K' · H)) λt97 H=>zad t95 false H (λK'=>zae false 1 t97 H (K' · H)) λt98 H=>zad t95 false H (λK'=>zac .geq false t98 (.int .i64 8) (K' · H)) λt99 H=>zam t95 (.bool true) t99 λt100=>zag t100 (K (.bool false) H) (zae true 3 t5 H λt103=>zaf 1 t4 λt104=>zae false 1 t104 H λt105=>ACalls tP zh4 [t0,t103,t105] H λt106 H=>zaC t106 0 λt107=>zaC t106 1 λt108=>zad t108 true H (λK'=>K' t0 H) λt111 H=>zad t108 true H (λK'=>zaf 2 t4 (K' · H)) λt112 H=>zad t108 true H (λK'=>zae false 1 t112 H (K' · H)) λt113 H=>zad t108 true H (λK'=>K' t107 H) λt114 H=>zad t108 true H (λK'=>ACalls tP zkg [t111,t113,t114] H K') λt115 H=>zam t108 t115 (.bool false) λt116=>K t116 H)) (zac .eql false t15 (.int .i64 7) λt118=>zag t118 (ziR t0 t4 t5 t13 t118 H K) (zac .eql false t15 (.int .i64 8) λt119=>ziR t0 t4 t5 t13 t119 H K))))))
def zoO:Nat→List Bool | 4=>rl false [0,3,4,1,22] | _=>[]
noncomputable def zv0:Code:=Tryz.f97.body.getD .skip
noncomputable def zYf:List ResultVar:=Tryz.f97.results.toList
def zoP:List AV:=t0::t1::t2::ux 4 (t7::ux 22 [])
def zYd:List Bool:=zoO 4
noncomputable def zYb:Code:=zar [1,1,0,1,0,0] zv0
def zYa:AExit→List AV→zaa→Prop:=zas tP zoO [1,1,0,1,0] zv0 (zaz tP zYf K)
def zFg:Prop:=ALoop tP zYb (zYa K) (zoP t0 t1 t2 t7) H
def zvZ:Prop:=zah 1 t1 λt15=>zac .lss false t7 t15 λt16=>zag t16 (zab H (λK'=>K' t0 H) λt19=>zab H (λK'=>K' t1 H) λt20=>zab H (λK'=>K' t7 H) λt21=>zab H (λK'=>zak 3 t20 t21 (K' · H)) λt22=>zab H (λK'=>zaj true 3 t22 H (K' · H)) λt23=>zab H (λK'=>K' t2 H) λt24=>zab H (λK'=>K' t7 H) λt25=>zab H (λK'=>zak 3 t24 t25 (K' · H)) λt26=>zab H (λK'=>zaj true 3 t26 H (K' · H)) λt27=>zaA H (λH K'=>ACalls tP zj3 [t19,t23,t27] H K') λt28=>zab H (λK'=>aUn .not t28 (K' · H)) λt29=>zag t29 (K (.bool false) H) (zac .add false t7 (.int .i64 1) λt18=>Kb4 (zoP t0 t1 t2 t18) H)) (K (.bool true) H)
def zvY:Prop:=zah 1 t1 λt9=>zah 1 t2 λt11=>zac .neq false t9 t11 λt12=>zag t12 (K (.bool false) H) (zFg t0 t1 t2 (.int .i64 0) H K)
variable {t0 t1 t2 t4 t5 t7 t10 t117} {H} {K} {Kb4 Kb21}
theorem zUQ (Inv:Nat→AV→zaa→Prop) (n:Nat) (h0:HSc H→Inv n t10 H)
  (ac:Rd1 (λt10=>znT t0 t4 t5 t7 t10) (λt10=>λH Kb21=>zu0 t0 t4 t5 t7 t10 H K Kb21) H Inv):zu2 t0 t4 t5 t7 t10 H K:=
 lp1 (M:=znS) zUR t10 (by kernel_rfl) Inv n h0 ac
theorem zUS (h:HSc H→zeE t0 t1 t2 H K):ACalls tP zj3 [t0,t1,t2] H K:=
 acb znS Tryz.func51 zu1 (by kernel_rfl) (by kernel_rfl) h
theorem zYc (Inv:Nat→AV→zaa→Prop) (n:Nat) (h0:HSc H→Inv n t7 H)
  (ac:Rd1 (λt7=>zoP t0 t1 t2 t7) (λt7=>λH Kb4=>zvZ t0 t1 t2 t7 H K Kb4) H Inv):zFg t0 t1 t2 t7 H K:=
 lp1 (M:=zoO) zYd t7 (by kernel_rfl) Inv n h0 ac
theorem zYe (h:HSc H→zvY t0 t1 t2 H K):ACalls tP zkg [t0,t1,t2] H K:=
 acb zoO Tryz.func97 zv0 (by kernel_rfl) (by kernel_rfl) h
end
def d4 (aa:List Dat):AV:=.agg [.sl (aa.map Dat.cs) .none,.snil,.snil,.snil]
section
variable {H:zaa} {K:Kt} (aa:List Dat)
theorem zJ5 (hK:K (.bool true) H):ACalls tP zqs [d4 aa] H K:=by refine ACalls.out (zOD λhs=>?_);simp[zBN,d4];refine⟨rfl,ACalls.wk (args':=[.sl (VT.css []) .none,.fn zyj [.ptr H.length 0]]) ?_ ⟨.atom .snil,.atom (.refl _),trivial⟩⟩;refine zpr [] (by simp) _ _ _ (by simp[AV.sc,AV.scV,AV.scA,AV.scB]) (λ_ H'=>H'=H++[.cells [.sl (aa.map Dat.cs) .none,.snil,.snil,.snil]]) rfl (λi h=>by simp at h) ?_;rintro H' rfl;simp;exact Out.bool rfl (Nat.le_refl _) hs hK
theorem zGn (hK:K (.bool true) H):ACalls tP zqt [d4 aa] H K:=by refine ACalls.out (zOI λhs=>?_);simp[zBO,d4];refine zOG (Inv:=λ_ _ t H'=>t=.int .i64 0∧H'=_) 0 (λ_=>⟨rfl,rfl⟩) ?_;rintro q t4 t H' ⟨rfl,rfl⟩ _ _ _ Kb au;simp[zBP];exact Out.bool rfl (Nat.le_refl _) hs hK
theorem zJY (hK:K (.bool true) H):ACalls tP zqu [d4 aa] H K:=by refine ACalls.out (zOT λhs=>?_);simp[zBS,d4,zbe];refine⟨⟨rfl,rfl⟩,zOR (Inv:=λ_ t H'=>t=.int .i64 0∧H'=_) 0 (λ_=>⟨rfl,rfl⟩) ?_⟩;rintro q t H' ⟨rfl,rfl⟩ _ _ _ Kb au;simp[zBV];refine zOQ (Inv:=λ_ t H'=>t=.int .i64 0∧H'=_) 0 (λ_=>⟨rfl,rfl⟩) ?_;rintro q t H' ⟨rfl,rfl⟩ _ _ _ Kb2 bB;simp[zBU,Nat.add_assoc];exact Out.bool rfl (Nat.le_refl _) hs hK
theorem zF9 (hK:K (.bool true) H):ACalls tP zqv [d4 aa] H K:=by refine ACalls.out (zO3 λhs=>?_);simp[zB1,d4,zbe];refine⟨⟨rfl,rfl⟩,zO1 (Inv:=λ_ t H'=>t=.int .i64 0∧H'=_) 0 (λ_=>⟨rfl,rfl⟩) ?_⟩;rintro q t H' ⟨rfl,rfl⟩ _ _ _ Kb au;simp[zB4];refine zO0 (Inv:=λ_ t H'=>t=.int .i64 0∧H'=_) 0 (λ_=>⟨rfl,rfl⟩) ?_;rintro q t H' ⟨rfl,rfl⟩ _ _ _ Kb2 bB;simp[zB3,Nat.add_assoc];exact Out.bool rfl (Nat.le_refl _) hs hK
theorem zID (hK:K (.bool true) H):ACalls tP zqw [d4 aa] H K:=by refine ACalls.out (zO8 λhs=>?_);simp[zCa,d4,zbe];refine⟨rfl,⟨rfl,rfl,rfl,rfl⟩,zO6 (Inv:=λ_ t H'=>t=.int .i64 0∧H'=_) 0 (λ_=>⟨rfl,rfl⟩) ?_⟩;rintro q t H' ⟨rfl,rfl⟩ _ _ _ Kb au;simp[zCb];exact Out.bool rfl (Nat.le_refl _) hs hK
theorem zGL (hK:K (.bool true) H):ACalls tP zqx [d4 aa] H K:=by refine ACalls.out (zPi λhs=>?_);simp[zCd,d4,zbe,zaq,zaI];refine zPe (Inv:=λ_ t H'=>t=.int .i64 0∧H'=_) 0 (λ_=>⟨rfl,rfl⟩) ?_;rintro q t H' ⟨rfl,rfl⟩ _ _ _ Kb au;simp[zCe];refine zPf (Inv:=λ_ t H'=>t=.int .i64 0∧H'=_) 0 (λ_=>⟨rfl,rfl⟩) ?_;rintro q t H' ⟨rfl,rfl⟩ _ _ _ Kb2 bB;simp[zCf];exact Out.bool rfl (Nat.le_refl _) hs hK
theorem zLQ (hB:zg5 aa) (hl:aa.length≤1000000) (hK:K (.bool (zbq aa)) H):ACalls tP zqa [d4 aa] H K:=by
 refine ACalls.out (zLR λhs=>?_);simp[zA1,d4];refine zOA aa hB hl _ _ ?_;cases hd:zbq aa with
 | false=>rw[hd]at hK;simp;exact Out.bool rfl (Nat.le_refl _) hs hK
 | true=>rw[hd]at hK;simp;refine zJ5 aa ?_;simp;refine zGn aa ?_;simp;refine zJY aa ?_;simp;refine zF9 aa ?_;simp;refine zID aa ?_;simp;refine zGL aa ?_;exact Out.bool rfl (Nat.le_refl _) hs hK
def zbY (aa:List Dat) (t:VT):Bool:=zbq aa && zaV aa 0 t
end
theorem zpH (aa:List Dat):∀ vs ts:List VT,zcG aa vs ts=zcQ (zaU aa) vs ts
 | [],[]=>by simp[zcG,zcQ]
 | [],_::_=>by simp[zcG,zcQ]
 | _::_,[]=>by simp[zcG,zcQ]
 | v::vs,t::ts=>by simp[zcG,zcQ,zpH aa vs ts]
theorem zJ2 {aa:List Dat} {k n:Int} {ks:List VT} (h:za4 aa 0 (.mk k n ks)=true):(k=1∧ks=[])∨(k=2∧ks=[])∨(k=3∧ks=[])∨k=5∨(k=6∧2≤ks.length)∨(k=7∧ks.length=1)∨(k=8∧ks.length=1)∨(k=9∧1≤ks.length):=by
 rw[za4,Bool.and_eq_true]at h;have h:=h.1;unfold zbk at h;by_cases h1:k=1
 ·subst h1;simp at h;simp[h.2]
 by_cases h2:k=2
 ·subst h2;simp at h;simp[h.2]
 by_cases h3:k=3
 ·subst h3;simp at h;simp[h.2]
 by_cases h4:k=4
 ·subst h4;simp at h;omega
 by_cases h5:k=5
 ·subst h5;simp
 by_cases h6:k=6
 ·subst h6;simp at h;simp;omega
 by_cases h7:k=7
 ·subst h7;simp at h;simp;omega
 by_cases h8:k=8
 ·subst h8;simp at h;simp;omega
 by_cases h9:k=9
 ·subst h9;simp at h;simp;omega
 simp[h1,h2,h3,h4,h5,h6,h7,h8,h9]at h
structure DOk (aa:List Dat):Prop where
 ok:zbq aa=true
 k:zbv aa
theorem DOk.small {aa:List Dat} (h:DOk aa):zg5 aa:=λD hD=>by obtain⟨_,h2⟩:=h.k;obtain⟨_,h3,h4⟩:=h2 D hD;refine⟨by omega,λc hc=>?_⟩;obtain⟨_,h5,h6⟩:=h4 c hc;exact⟨by omega,λx hx=>by have:=h6 x hx;omega⟩
theorem zfs {aa:List Dat} (h:zbv aa):aa.length≤1000000∧(∀ d∈aa,∀ c∈d.cons,c.args.length≤1000∧∀ x∈c.args,x.nodes≤1000)∧∀ d∈aa,d.cons.length≤1000000:=by
 obtain⟨h1,h2⟩:=h;refine⟨by omega,λD hD c hc=>?_,λD hD=>?_⟩
 ·obtain⟨_,h3,h4⟩:=h2 D hD;obtain⟨_,h5,h6⟩:=h4 c hc;exact⟨by omega,λx hx=>by have:=h6 x hx;omega⟩
 ·obtain⟨_,h3,h4⟩:=h2 D hD;omega
section
variable {aa:List Dat} (hD:DOk aa)
theorem i0 (n:Nat):((n:Int) == 0)=(n == 0):=by rw[Bool.eq_iff_iff];simp
theorem zGT {ks:List VT} (h:0<ks.length):ks.getD 0 (.mk 0 0 [])=ks[0]:=by simp[List.getD_eq_getElem?_getD,h]
theorem zGX {aa:List Dat} {t:VT} {vs:List VT} {i:Nat} (h:i<vs.length):zdL aa (vs.drop i) t=(zaU aa vs[i] t && zdL aa (vs.drop (i+1)) t):=by rw[List.drop_eq_getElem_cons h,zdL]
include hD in
end
theorem zyN:∀ (a:List VT) (b:List Bool) (x:VT) (y:Bool),a.length=b.length→pick (a++[x]) (b++[y])=pick a b++(if y then [] else [x])
 | [],[],x,y,_=>by cases y <;> rfl
 | [],_::_,_,_,h=>by cases h
 | _::_,[],_,_,h=>by cases h
 | c::a,d::b,x,y,h=>by have:=zyN a b x y (by simpa using h);cases d <;> simp[pick,this]
theorem zre {l:List VT} {bs:List Bool} {i:Nat} (h:l.length=bs.length) (hi:i<l.length):pick (l.take (i+1)) (bs.take (i+1))=pick (l.take i) (bs.take i)++(if bs[i]'(by omega) then [] else [l[i]]):=by rw[List.take_succ_eq_append_getElem hi,List.take_succ_eq_append_getElem (by omega:i<bs.length)];exact zyN _ _ _ _ (by simp;omega)
theorem zh9:∀ (a:List VT) (b:List Bool),(pick a b).length≤a.length
 | [],b=>by simp[pick]
 | _::_,[]=>by simp[pick]
 | c::a,d::b=>by have:=zh9 a b;cases d <;> simp[pick] <;> omega
theorem zhf {l:List Bool} {i:Nat} (h:i<(zbS l).length):(zbS l)[i]=[.bool (l[i]'(by simpa[zbS]using h))]:=by simp[zbS]
theorem zeM (l:List Bool):(zbS l).length=l.length:=by simp[zbS]
theorem zyL {aa:List Dat} {k n:Int} {ks:List VT} {c:Int} {l:List VT} (hk:zbv aa) (hf:zbj aa (.mk k n ks) c=some l) :
  ∃ bs,l.length=bs.length∧l.length≤8∧za9 aa (.mk k n ks) c=some (pick l bs)∧(∀ x∈l,x.nodes≤200)∧k=5 ∧
   (∀ H K,K (.sl (zbS bs) .none) H→ACalls tP zfx [.sl (aa.map Dat.cs) .none,.int .i64 n,.int .i64 c] H K) ∧
   (∀ H K,K (.sl (zbS bs) .none) H→ACalls tP zgt [.sl (aa.map Dat.cs) .none,.int .i64 n,.int .i64 c] H K):=by
 obtain⟨k5,n0,c0,hn,hc,hv,rfl,cj⟩:=zho hf;obtain⟨f1,f2,f3⟩:=zfs hk;have hd:=List.getElem_mem hn;have bO:=List.getElem_mem hc;obtain⟨g1,g2⟩:=f2 _ hd _ bO;have g3:=f3 _ hd;have h8:=((hk.2 _ hd).2.2 _ bO).2.1;refine⟨zcy n.toNat aa[n.toNat] (aa[n.toNat]).cons[c.toNat],by simp[zcy],by simpa using h8,?_,cj,k5,λH K hK=>?_,λH K hK=>?_⟩
 ·simp[za9,hf,zdT,hn,hc,List.getD_eq_getElem?_getD,VT.num]
 ·have:=ztB aa n.toNat c.toNat hn hc f1 g3 (by omega) (λx hx=>by have:=g2 x hx;omega) H K (by simpa[zbS,zcy,Function.comp_def]using hK);rwa [Int.toNat_of_nonneg n0,Int.toNat_of_nonneg c0]at this
 ·have:=zCM aa n.toNat c.toNat hn hc f1 g3 (by omega) (λx hx=>by have:=g2 x hx;omega) H K hK;rwa [Int.toNat_of_nonneg n0,Int.toNat_of_nonneg c0]at this
theorem zyK {aa:List Dat} {t:VT} {c:Int} (hf:zbj aa t c=none):za9 aa t c=none:=by simp[za9,hf]
theorem zL7 (aa:List Dat) (hk:zbv aa) (t:VT) (ht:t.nodes≤1000) (c:Int) (H:zaa) (K:Kt) (hK:K (zcF (za9 aa t c)) H) :
  ACalls tP zqb [.sl (aa.map Dat.cs) .none,.agg t.cs,.int .i64 c] H K:=by
 refine ACalls.out (zL5 λhs=>?_);obtain⟨f1,f2,f3⟩:=zfs hk;obtain⟨k,n,ks⟩:=t;simp[zA6,VT.cs,Nat.add_assoc];refine zCq aa f1 f2 f3 (.mk k n ks) ht c _ _ ?_;cases hf:zbj aa (.mk k n ks) c with
 | none=>rw[zyK hf]at hK;simp[zcF];refine⟨⟨rfl,rfl⟩,?_⟩;exact Out.tup (bs:=[.sl [] .none,.bool false]) hs hK ⟨zdE,zaY rfl rfl,trivial⟩
 | some l=>
  obtain⟨bs,cv,jN,cz,cj,k5,hsc,_⟩:=zyL hk hf;rw[cz]at hK;simp[zcF];refine hsc _ _ ?_;simp[zeM];unfold zlv;refine ALoop.own 10 za1 3 rfl ?_;have dG:(H++[AB.cells [AV.int IntKind.i64 k,AV.int IntKind.i64 n,AV.sl (VT.css ks) Tok.none]]).length=H.length+1:=by simp
  rw[dG];show zlv (.sl (VT.css l) .none) (.sl [] (.own (H.length+1))) (.sl (zbS bs) .none) (.int .i64 bs.length) (.int .i64 0) (H++[.cells [.int .i64 k,.int .i64 n,.sl (VT.css ks) .none]]++[.perm za1 3 0]) (Out H.length K);have aI:∀ m,HSc (H++[.cells [.int .i64 k,.int .i64 n,.sl (VT.css ks) .none],.perm za1 3 m]):=λm=>hs.append (by simp[AB.sc,AV.scA,AV.scB]);refine zL3 (Inv:=λq t10 t28 H'=>∃ i:Nat,i≤bs.length∧q=bs.length-i∧t28=.int .i64 i∧t10=.sl (VT.css (pick (l.take i) (bs.take i))) (.own (H.length+1))∧H'=H++[.cells [.int .i64 k,.int .i64 n,.sl (VT.css ks) .none],.perm za1 3 (pick (l.take i) (bs.take i)).length]) bs.length ?_ ?_
  ·intro _;exact⟨0,by omega,by omega,rfl,by simp[pick,VT.css],by simp[pick]⟩
  ·rintro q t10 t28 H' ⟨i,hi,rfl,rfl,rfl,rfl⟩ aJ am aM Kb au;by_cases ak:i<bs.length
   ·have dB:=zre cv (by omega:i<l.length);have bH:=zh9 (l.take i) (bs.take i);rw[List.length_take]at bH;have aX:∀ J,zlu (.sl (VT.css l) .none) (.sl (VT.css (pick (l.take (i+1)) (bs.take (i+1)))) (.own (H.length+1))) (.sl (zbS bs) .none) (.int .i64 bs.length) (.int .i64 i)
      (H++.cells [.int .i64 k,.int .i64 n,.sl (VT.css ks) .none]::.perm za1 3 (pick (l.take (i+1)) (bs.take (i+1))).length::J) (Out H.length K) Kb:=by
     intro J;simp[zlu,zA7];rw[zaw (by omega) (by omega)];refine au _ _ ⟨bs.length-(i+1),by omega,Back.at (J:=J) (H2:=H++[.cells [.int .i64 k,.int .i64 n,.sl (VT.css ks) .none],.perm za1 3 (pick (l.take (i+1)) (bs.take (i+1))).length]) (by simp) (by simp) (aI _) ?_ ⟨_,_,rfl,i+1,by omega,rfl,by simp,rfl,rfl⟩⟩;simp[zlt,AV.sc,AV.scV,AV.scA,AV.scB]
    simp[zsv,zeM,ak,zhf];cases fM:bs[i] with
    | true=>rw[fM]at dB;simp at dB;simp;have:=aX [];rw[dB]at this;exact this
    | false=>rw[fM]at dB;simp only[Bool.false_eq_true,if_false]at dB;simp[show i<l.length by omega];rw[zfm];simp[zav,zaM,zaJ];have:=aX [];rw[dB]at this;rw[show VT.css (pick (l.take i) (bs.take i)++[l[i]])=VT.css (pick (l.take i) (bs.take i))++[l[i].cs] by simp[VT.css_map],show (pick (l.take i) (bs.take i)++[l[i]]).length=(pick (l.take i) (bs.take i)).length+1 by simp]at this;exact⟨⟨by omega,by omega⟩,this⟩
   ·obtain rfl:i=bs.length:=by omega
    rw[List.take_of_length_le (by omega),List.take_length]at *;simp[zsv];refine⟨⟨rfl,rfl⟩,?_⟩;exact Out.tup (bs:=[.sl (VT.css (pick l bs)) .none,.bool true]) hs hK ⟨slV,zaY rfl rfl,trivial⟩
def pos (v:Bool) (bs:List Bool) (i:Nat):List Nat:=(List.range i).filter λj=>bs.getD j false == v
def zb0 (l:List Nat):List (List AV):=l.map λ(n:Nat)=>[AV.int .i64 (Int.ofNat n)]
theorem zri (v:Bool) (bs:List Bool) (i:Nat) (h:i<bs.length):pos v bs (i+1)=pos v bs i++(if bs[i] == v then [i] else []):=by unfold pos;rw[List.range_succ,List.filter_append];congr 1;simp[List.filter_cons,List.getD_eq_getElem?_getD,h]
theorem zrh (v:Bool) (bs:List Bool) (i:Nat):(pos v bs i).length≤i:=by have:=List.length_filter_le (λj=>bs.getD j false == v) (List.range i);simpa[pos]using this
theorem zIb {v:Bool} {bs:List Bool} {i j:Nat} (h:j∈pos v bs i):j<i:=by simp[pos]at h;exact h.1
theorem zyM {l:List VT} {bs:List Bool} (h:l.length=bs.length) (d:VT):∀ i,i≤l.length→pick (l.take i) (bs.take i)=(pos false bs i).map λj=>l.getD j d
 | 0,_=>by simp[pick,pos]
 | i+1,hi=>by rw[zre h (by omega),zri false bs i (by omega),List.map_append,zyM h d i (by omega)];congr 1;cases hb:bs[i]'(by omega) <;> simp[List.getD_eq_getElem?_getD,show i<l.length by omega]
theorem zh5 (l:List Nat):(zb0 l).length=l.length:=by simp[zb0]
theorem zHE {l:List Nat} {i:Nat} (h:i<(zb0 l).length):(zb0 l)[i]=[.int .i64 ((l[i]'(by simpa[zb0]using h):Nat):Int)]:=by simp[zb0]
theorem zyo (l m:List Nat):zb0 (l++m)=zb0 l++zb0 m:=by simp[zb0]
theorem zNR (aa:List Dat) (hk:zbv aa) (k n:Int) (ks:List VT) (ht:(VT.mk k n ks).nodes≤1000) (c:Int) {l:List VT} {bs:List Bool} (hf:zbj aa (.mk k n ks) c=some l)
  (cv:l.length=bs.length) (jN:l.length≤8) (eE:∀ H K,K (.sl (zbS bs) .none) H→ACalls tP zgt [.sl (aa.map Dat.cs) .none,.int .i64 n,.int .i64 c] H K) (H:zaa) (K:Kt)
  (hK:K (.tup [.sl (zb0 (pos false bs bs.length)) .none,.sl (zb0 (pos true bs bs.length)) .none,.bool true]) H) :
  ACalls tP zqo [.sl (aa.map Dat.cs) .none,.agg (VT.mk k n ks).cs,.int .i64 c] H K:=by
 refine ACalls.out (zNP λhs=>?_);obtain⟨f1,f2,f3⟩:=zfs hk;simp[zBx,VT.cs,Nat.add_assoc];refine zv3 aa f1 f2 f3 (.mk k n ks) ht c _ _ ?_;rw[hf];simp[zcF];refine eE _ _ ?_;simp[zeM];unfold zl4;refine ALoop.own 11 zcP 1 rfl ?_;refine ALoop.own 12 zcP 1 rfl ?_;have dG:(H++[AB.cells [AV.int IntKind.i64 k,AV.int IntKind.i64 n,AV.sl (VT.css ks) Tok.none]]).length=H.length+1:=by simp
 have eW:(H++[AB.cells [AV.int IntKind.i64 k,AV.int IntKind.i64 n,AV.sl (VT.css ks) Tok.none]]++[AB.perm zcP 1 0]).length=H.length+2:=by simp
 rw[dG,eW];show zl4 (.sl [] (.own (H.length+1))) (.sl [] (.own (H.length+2))) (.sl (zbS bs) .none) (.int .i64 bs.length) (.int .i64 0) (H++[.cells [.int .i64 k,.int .i64 n,.sl (VT.css ks) .none]]++[.perm zcP 1 0]++[.perm zcP 1 0]) (Out H.length K);have aI:∀ m m2,HSc (H++[.cells [.int .i64 k,.int .i64 n,.sl (VT.css ks) .none],.perm zcP 1 m,.perm zcP 1 m2]):=λm m2=>hs.append (by simp[AB.sc,AV.scA,AV.scB]);refine zNN (Inv:=λq t11 t12 t30 H'=>∃ i:Nat,i≤bs.length∧q=bs.length-i∧t30=.int .i64 i∧t11=.sl (zb0 (pos false bs i)) (.own (H.length+1))∧t12=.sl (zb0 (pos true bs i)) (.own (H.length+2)) ∧
  H'=H++[.cells [.int .i64 k,.int .i64 n,.sl (VT.css ks) .none],.perm zcP 1 (pos false bs i).length,.perm zcP 1 (pos true bs i).length]) bs.length ?_ ?_
 ·intro _;exact⟨0,by omega,by omega,rfl,by simp[pos,zb0],by simp[pos,zb0],by simp[pos]⟩
 ·rintro q t11 t12 t30 H' ⟨i,hi,rfl,rfl,rfl,rfl,rfl⟩ aJ am aM Kb au;by_cases ak:i<bs.length
  ·have eJ:=zri false bs i ak;have gJ:=zri true bs i ak;have ek:=zrh false bs i;have gE:=zrh true bs i;have aX:zl3 (.sl (zb0 (pos false bs (i+1))) (.own (H.length+1))) (.sl (zb0 (pos true bs (i+1))) (.own (H.length+2))) (.sl (zbS bs) .none) (.int .i64 bs.length) (.int .i64 i)
     (H++[.cells [.int .i64 k,.int .i64 n,.sl (VT.css ks) .none],.perm zcP 1 (pos false bs (i+1)).length,.perm zcP 1 (pos true bs (i+1)).length]) (Out H.length K) Kb:=by
    simp[zl3,zBy];rw[zaw (by omega) (by omega)];refine au _ _ ⟨bs.length-(i+1),by omega,Back.at (J:=[]) (H2:=H++[.cells [.int .i64 k,.int .i64 n,.sl (VT.css ks) .none],.perm zcP 1 (pos false bs (i+1)).length,.perm zcP 1 (pos true bs (i+1)).length]) (by simp) (by simp) (aI _ _) ?_ ⟨_,_,_,rfl,i+1,by omega,rfl,by simp,rfl,rfl,rfl⟩⟩;simp[zl2,AV.sc,AV.scV,AV.scA,AV.scB]
   cases fM:bs[i] with
   | true=>rw[fM]at eJ gJ;simp at eJ gJ;rw[eJ,gJ]at aX;simp[zl1,zeM,ak,zhf,fM,zau,zaQ,plain,AV.pd,zav,zaM,zaJ,zh5];refine⟨⟨by omega,by omega⟩,?_⟩;simpa[zyo,zb0]using aX
   | false=>rw[fM]at eJ gJ;simp at eJ gJ;rw[eJ,gJ]at aX;simp[zl1,zeM,ak,zhf,fM,zau,zaQ,plain,AV.pd,zav,zaM,zaJ,zh5];refine⟨⟨by omega,by omega⟩,?_⟩;simpa[zyo,zb0]using aX
  ·obtain rfl:i=bs.length:=by omega
   simp[zl1];refine⟨⟨rfl,rfl,rfl⟩,?_⟩;exact Out.tup (bs:=[.sl (zb0 (pos false bs bs.length)) .none,.sl (zb0 (pos true bs bs.length)) .none,.bool true]) hs hK ⟨slV,slV,zaY rfl rfl,trivial⟩
section
open Go.RowKit
variable {P:Program} {B:Nat} {w:World} {G:Gh} {H:zaa}
theorem HRel.frz (h:HRel B w G H) {id:Nat} {cs:List AV} (hH:H[id]?=some (.cells cs)) :
  ∃ G',Ext B w G w G'∧HRel B w G' (H.set id .dead)∧∃ b,G.μ[id]?=some (.blk b)∧G'.L b=cs.length∧∃ (vs:Array Value) (e:TypeId),w.heap[b]?=some (.cells vs e (0,0))∧All2 (ARel w G) vs.toList cs:=by
 have ak:id<G.μ.length:=by rw[h.len];exact (List.getElem?_eq_some_iff.1 hH).1
 obtain⟨gi,cD⟩:∃ gi,G.μ[id]?=some gi:=⟨_,List.getElem?_eq_getElem ak⟩;have az:=h.ok id _ _ hH cD;cases gi with
 | gap=>exact az.elim
 | own v s n=>exact az.elim
 | blk b=>
  obtain⟨hB,hL,vs,e,hw,aN⟩:=az;have hl:vs.size=cs.length:=by simpa using aN.length
  have he:Ext B w G w ⟨λx=>if x=b then cs.length else G.L x,G.μ⟩:=
   ⟨Nat.le_refl _,Below.refl _ _,λx=>by by_cases hx:x=b <;> simp[hx,hL],λ_ _ _=>rfl,λ_ gi h=>⟨gi,h,gi.le_refl⟩⟩
  refine⟨_,he,⟨by simp[h.len],?_,h.dist,λx hx=>?_,h.lt,h.base⟩,b,cD,by simp,vs,e,hw,aN⟩
  ·intro id' ab gi h1 h2;by_cases ap:id'=id
   ·subst ap;rw[List.getElem?_set_self (List.getElem?_eq_some_iff.1 hH).1]at h1;cases h1;have h2:G.μ[id']?=some gi:=h2;rw[cD]at h2;cases h2;exact⟨vs,e,(0,0),hw,by simp[hl]⟩
   ·rw[List.getElem?_set_ne (λh=>ap h.symm)]at h1;refine (h.ok id' ab gi h1 h2).keep he (λx hx=>⟨rfl,?_⟩);have:¬ x=b:=λdx=>ap (h.dist id' id gi _ b h2 cD (by rw[hx,dx]) rfl);simp[this]
  ·have:=h.lt id _ b cD rfl;have h3:¬ x=b:=by omega
   simp[h3,h.fresh x hx]
inductive FzA (id off len cap:Nat) (es:List (List AV)):AV→AV→Prop
 | refl (a:AV):FzA id off len cap es a a
 | ms:FzA id off len cap es (.ms id off len cap) (.sl es .none)
inductive FzT (id off len cap:Nat) (es:List (List AV)):AV→AV→Prop
 | one {a b:AV} (h:FzA id off len cap es a b):FzT id off len cap es a b
 | agg {asx bs:List AV} (h:All2 (FzA id off len cap es) asx bs):FzT id off len cap es (.agg asx) (.agg bs)
theorem FzA.rel {id off len cap size:Nat} {cs:List AV} {es:List (List AV)} (bc:off+len*size≤cs.length)
  (hp:plain ((cs.drop off).take (len*size))=some es.flatten) (am:es.length=len) (aD:∀ c∈es,c.length=size) (aL:len≤cap) {G':Gh} (hE:Ext B w G w G') {b:Nat} (hμ:G.μ[id]?=some (.blk b)) (gL:G'.L b=cs.length)
  {vs0:Array Value} {e:TypeId} (hw:w.heap[b]?=some (.cells vs0 e (0,0))) (aN:All2 (ARel w G) vs0.toList cs) {v:Value} {a b':AV} (bb:FzA id off len cap es a b') (hr:ARel w G v a):ARel w G' v b':=by
 cases bb with
 | refl a=>exact hE.arel hr
 | ms=>
  obtain⟨b2,bq,rfl⟩:=hr;rw[hμ]at bq;cases bq;show DRel w G'.L _ _;subst am;by_cases aB:es=[]
  ·subst aB;exact .slE _ _
  ·have hl:=aN.length;have hd:=zdB ((aN.drop off).take (es.length*size)) hp;refine DRel.of_flat_at (zs:=(vs0.toList.drop off).take (es.length*size)) aD aB aL (by rw[gL];exact bc) (hd.mono λ_ _=>hE.drel) ?_;intro j u hj;rw[List.getElem?_take]at hj;split at hj
   ·simp only[World.cell?,hw];simpa using hj
   ·cases hj
theorem zpa {R R':Value→AV→Prop} {S:AV→AV→Prop} (h:∀ v a b,S a b→R v a→R' v b) {vs:List Value} {asx bs:List AV} (hr:All2 R vs asx) (hs:All2 S asx bs):All2 R' vs bs:=
 All2.of_get (hr.length.trans hs.length) λi x y hx hy=>by obtain⟨a,ha,eZ⟩:=All2.get' hr hx;obtain⟨y',dQ,hY⟩:=All2.get' hs ha;rw[hy]at dQ;cases dQ;exact h _ _ _ hY eZ
theorem ACalls.frz {f:FuncId} {args args':List AV} {K:Kt} (id off len cap size:Nat) (cs:List AV) (es:List (List AV)) (hH:H[id]?=some (.cells cs)) (bc:off+len*size≤cs.length)
  (hp:plain ((cs.drop off).take (len*size))=some es.flatten) (am:es.length=len) (aD:∀ c∈es,c.length=size) (aL:len≤cap) (ha:All2 (FzT id off len cap es) args args')
  (h:ACalls P f args' (H.set id .dead) K):ACalls P f args H K:=by
 intro B w G vs hR hv;obtain⟨G',hE,fA,b,hμ,gL,vs0,e,hw,aN⟩:=hR.frz hH;have h1:∀ v a b,FzA id off len cap es a b→ARel w G v a→ARel w G' v b:=λv a b' bb hr=>FzA.rel bc hp am aD aL hE hμ gL hw aN bb hr;have h2:∀ v a b,FzT id off len cap es a b→TRel w G v a→TRel w G' v b:=by
  intro v a b' bb hr;cases bb with
  | one bb=>
   cases bb with
   | refl a=>exact hE.trel hr
   | ms=>exact TRel.of_v (VRel.of_a (h1 _ _ _ .ms hr))
  | agg bb=>obtain⟨us,hu,hr⟩:=hr;exact⟨us,hu,zpa h1 hr bb⟩
 refine (h B w G' vs fA (zpa h2 hv ha)).mono λe w' ⟨v,r,H',G'',k1,k2,k3,k4,k5⟩=>⟨v,r,H',G'',k1,hE.trans k2,k3,k4,k5⟩
theorem AWp.frz {c:Code} {Q:AExit→List AV→zaa→Prop} {F:List AV} (id off len cap size:Nat) (cs:List AV) (es:List (List AV)) (id2:Nat) (cs2 cs2':List AV) (hH:H[id]?=some (.cells cs)) (bc:off+len*size≤cs.length)
  (hp:plain ((cs.drop off).take (len*size))=some es.flatten) (am:es.length=len) (aD:∀ c∈es,c.length=size) (aL:len≤cap) (aB:id≠id2) (cE:H[id2]?=some (.cells cs2)) (ha:All2 (FzA id off len cap es) cs2 cs2')
  (h:AWp P c Q F ((H.set id .dead).set id2 (.cells cs2'))):AWp P c Q F H:=by
 intro B w G a hR hF hd;obtain⟨G',hE,fA,b,hμ,gL,vs0,e,hw,aN⟩:=hR.frz hH;have h1:∀ v a b,FzA id off len cap es a b→ARel w G v a→ARel w G' v b:=λv a b' bb hr=>FzA.rel bc hp am aD aL hE hμ gL hw aN bb hr;have aY:id2<G.μ.length:=by rw[hR.len];exact (List.getElem?_eq_some_iff.1 cE).1
 have hH2':(H.set id .dead)[id2]?=some (.cells cs2):=by rw[List.getElem?_set_ne aB];exact cE
 have cw:HRel B w G' ((H.set id .dead).set id2 (.cells cs2')):=by
  refine⟨by simp[fA.len],?_,fA.dist,fA.fresh,fA.lt,fA.base⟩;intro i ab gi k1 k2;by_cases hi:i=id2
  ·subst hi;rw[List.getElem?_set_self (List.getElem?_eq_some_iff.1 hH2').1]at k1;cases k1;have az:=fA.ok i _ _ hH2' k2;have cD:G.μ[i]?=some gi:=by
    obtain⟨gi0,ji⟩:∃ gi0,G.μ[i]?=some gi0:=⟨_,List.getElem?_eq_getElem aY⟩;have ia:=hR.ok i _ _ cE ji;obtain⟨gi1,f8,aS⟩:=hE.ids i gi0 ji;rw[k2]at f8;cases f8;cases gi0 with
    | blk x=>cases gi with
     | blk y=>obtain rfl:x=y:=aS;exact ji
     | own v s n=>exact aS.elim
     | gap=>exact aS.elim
    | own v s n=>exact ia.elim
    | gap=>exact ia.elim
   have ia:=hR.ok i _ _ cE cD;cases gi with
   | blk x=>obtain⟨k3,k4,vs,e',k5,k6⟩:=az;obtain⟨_,_,vs1,e1,k7,k8⟩:=ia;rw[k5]at k7;cases k7;exact⟨k3,k4,vs,e',k5,zpa h1 k8 ha⟩
   | own v s n=>exact az.elim
   | gap=>exact az.elim
  ·rw[List.getElem?_set_ne (λh=>hi h.symm)]at k1;exact fA.ok i ab gi k1 k2
 refine wp_mono (h B w G' a cw (hF.ext hE) hd) λe a' w' hp=>?_;obtain⟨F',H',G'',e',rfl,k1,k2,k3,k4,k5⟩:=hp;exact⟨F',H',G'',e',rfl,hE.trans k1,k2,k3,k4,k5⟩
end
section
open Go.RowKit
variable {P:Program} {B:Nat} {w:World} {G:Gh} {H:zaa}
inductive OutW (H:zaa) (n:Nat):AV→AV→Prop
 | one {a b:AV} (h:OutV H n a b):OutW H n a b
 | rows (id e m:Nat) (cs:List AV) (rs:List (List (List AV))) (ap:n≤id) (hH:H[id]?=some (.vec e 1 m cs)) (hm:rs.length=m)
   (aO:All2 (OutV H n) cs (rs.map λr=>.sl r .none)):OutW H n (.ov id m) (.sl (rs.map λr=>[.sl r .none]) .none)
theorem OutW.vrel (hH:HRel B w G H) {n:Nat} {v:Value} {a b:AV} (h:OutW H n a b) (hr:TRel w G v a):VRel w (G.cut w n) v b:=by
 cases h with
 | one h=>exact h.vrel hH hr
 | rows id e m cs rs ap cG hm aO=>
  obtain⟨⟨a,cap0,rfl,_⟩,v',s0,n',hμ,_,heq⟩:=hr;obtain⟨rfl,rfl,⟨xs,ar,aN⟩,_⟩:=hH.ok id _ _ cG hμ;obtain rfl:=heq rfl;subst hm;show DRel w (G.cut w n).L _ _;by_cases aB:rs=[]
  ·subst aB;exact .slE _ _
  ·have bX:=ar;obtain⟨hl,bi⟩:=bX;have hd:All2 (DRel w (G.cut w n).L) xs (rs.map λr=>AV.sl r .none):=All2.of_get (aN.length.trans aO.length) λi x y hx hy=>by
    obtain⟨a,ha,eZ⟩:=All2.get' aN hx;obtain⟨y',dQ,hY⟩:=All2.get' aO ha;rw[hy]at dQ;cases dQ;obtain⟨r,hr,rfl⟩:∃ r,rs[i]?=some r∧AV.sl r .none=y:=by simpa using hy
    exact hY.vrel hH (TRel.of_v (VRel.of_a eZ))
   rcases bi with ⟨h1,h2⟩ | ⟨g,cap,cur,h1,h2,h3,h4,h5,h6,h7⟩
   ·cases rs <;> simp_all
   ·simp at h1;obtain⟨rfl,rfl⟩:=h1;obtain⟨_,_,_,aH⟩:=zdA ar;have bn:∀ l:List (List (List AV)),(l.map λr=>[AV.sl r .none]).flatten=l.map λr=>AV.sl r .none:=by
     intro l;induction l with
     | nil=>rfl
     | cons r l ih=>simp[ih]
    have:=DRel.of_flat_at (w:=w) (L:=(G.cut w n).L) (g:=g) (off:=0) (size:=1) (cap:=cap0) (es:=rs.map λr=>[AV.sl r .none]) (zs:=xs) (by simp) (by simpa using aB) (by simpa using h4) ?_ (by rw[bn rs];exact hd) ?_
    ·simpa using this
    ·have:(G.cut w n).L g=cur.size:=by simp only[Gh.cut];rw[if_pos (cut_dropped.2 ⟨id,_,ap,hμ,rfl⟩),h3]
     rw[this,h6];simpa using h4
    ·intro j u hj;rw[Nat.zero_add,aH j (by rw[←hl];exact (List.getElem?_eq_some_iff.1 hj).1)];exact hj
inductive OutT2 (H:zaa) (n:Nat):AV→AV→Prop
 | one {a b:AV} (h:OutW H n a b):OutT2 H n a b
 | tup {asx bs:List AV} (h:All2 (OutW H n) asx bs):OutT2 H n (.tup asx) (.tup bs)
def zFs (n:Nat) (K:AV→zaa→Prop) (r:AV) (H':zaa):Prop:=∃ r2 H2 J,H'=H2++J∧n≤H2.length∧HSc H2∧OutT2 H' H2.length r r2∧K r2 H2
theorem Out.two {n:Nat} {K:AV→zaa→Prop} {r:AV} (h:Out n K r H):zFs n K r H:=by
 obtain⟨r2,H2,J,hJ,hn,hsc,ho,hk⟩:=h;refine⟨r2,H2,J,hJ,hn,hsc,?_,hk⟩;cases ho with
 | one h=>exact .one (.one h)
 | tup h=>exact .tup (All2.of_get h.length λi x y hx hy=>by
   obtain⟨y',dQ,hY⟩:=All2.get' h hx;rw[hy]at dQ;cases dQ;exact .one hY)
end
section
open Go.Lib
open Go.RowKit
variable {P:Program} {B:Nat} {w:World}
theorem zHY {t u ty e:TypeId} {i:TypeInfo} (ht:P.underlying t=some (.slice e)) (hu:P.underlying u=some .string) (hi:P.info? e=some i) (hz:i.zero=some (.int .u8 0)) (bV:i.size=1) (bt:i.bytes=1) {v:Value} {n:Nat} {xs:List Value}
  (ar:w.ownsRow B e 1 v n xs) (s:ByteArray) (hm:0<s.size) (iR:n+s.size≤maxLen) (ch:n+s.size≤140737488355328) (dT:B≤w.heap.size) :
  ∃ v' w',(Builtin.append_ #[t,u] ty #[v,.string s]).run P w=.ok v' w'∧w'.ownsRow B e 1 v' (n+s.size) (xs++strCells s) ∧
   ((∃ g,v.ownBlock=some g∧v'.ownBlock=some g∧GrB w w' (some g))∨(v'.ownBlock=some w.heap.size∧GrB w w' none)):=by
 have bZ:xs.length=n:=by simpa using ar.1
 have am:(xs++strCells s).length=(n+s.size)*1:=by rw[List.length_append,bZ,strCells_length,Nat.mul_one]
 have grown:∀ (old:Nat),old<n+s.size →
   (w.drew.alloc (.cells (xs.toArray++(strCells s).toArray++Builtin.zeroCells (Value.int .u8 0).cells (grownCap w (n+s.size) old e-(n+s.size))) e)).ownsRow B e 1
    (.slice (some ⟨w.heap.size,0,none⟩) (n+s.size) (grownCap w (n+s.size) old e)) (n+s.size) (xs++strCells s) ∧
   GrB w (w.drew.alloc (.cells (xs.toArray++(strCells s).toArray++Builtin.zeroCells (Value.int .u8 0).cells (grownCap w (n+s.size) old e-(n+s.size))) e)) none:=by
  intro old ho;have cF:=grownCap_ge w (n+s.size) old e;have bO:grownCap w (n+s.size) old e≤maxLen:=grownCap_le_maxLen w (n+s.size) old e iR;refine⟨⟨am,.inr ⟨w.heap.size,_,_,rfl,dT,zds (w:=w.drew) _,cF,bO,?_,?_⟩⟩,⟨zpA w _,rfl,rfl,rfl,by simp,λk hk _=>zcN (w:=w.drew) hk⟩⟩
  ·have md:(Value.int IntKind.u8 0).cells.size=1:=rfl;simp only[Array.size_append,List.size_toArray,size_zeroCells,md,bZ,strCells_length];omega
  ·simp only[Array.toList_append,List.append_assoc];rw[←List.append_assoc,←am];exact List.take_left
 rcases ar.2 with ⟨rfl,rfl⟩ | ⟨g,cap,cur,rfl,cW,hg,iQ,bO,aN,bp⟩
 ·have hx:xs=[]:=List.eq_nil_of_length_eq_zero bZ;subst hx;have hr:=run_append_nil_string (P:=P) w t u ty e i (.int .u8 0) ht hu hi hz s hm (by omega) (by rw[bt];omega);have bu:=grown 0 (by omega);simp only[Nat.zero_add,List.nil_append,Array.empty_append]at bu ⊢;have e1:(s.data.map λb=>Value.int .u8 b.toNat)=(strCells s).toArray:=by apply Array.ext';simp[strCells]
  rw[e1]at hr;exact⟨_,_,hr,bu.1,.inr ⟨rfl,bu.2⟩⟩
 ·by_cases dq:n+s.size≤cap
  ·have hcs':cur.size=cap:=by simpa using aN
   have hr:=run_append_room_string (P:=P) w t u ty e i ht hu hi bV g n cap cur hg s dq (by omega);refine⟨_,_,hr,⟨am,.inr ⟨g,cap,_,rfl,cW,setRow_heap w g cur _ e _ hg,dq,bO,?_,?_⟩⟩,.inl ⟨g,rfl,rfl,⟨Nat.le_refl _,rfl,rfl,rfl,by simp,λk _ hk=>setRow_other w g k _ (λe=>hk (by simp[e]))⟩⟩⟩
   ·simp only[List.size_toArray,List.length_append,List.length_take,List.length_drop,Array.length_toList,strCells_length];omega
   ·have ht':cur.toList.take n=xs:=by simpa using bp
    rw[ht',←am];exact List.take_left
  ·have holds:∀ j u,xs[j]?=some u→w.cell? ((⟨g,0,none⟩:Addr).add j)=some u:=ar.cells (g:=g) rfl;have hr:=run_append_grow_string (P:=P) w t u ty e i (.int .u8 0) ht hu hi hz ⟨g,0,none⟩ n cap xs (by rw[bV];simpa using bZ) holds s (by omega) (by omega) (by rw[bt];exact growslice_fits (by omega) (by omega));have bu:=grown cap (by omega);exact⟨_,_,hr,bu.1,.inr ⟨rfl,bu.2⟩⟩
theorem zHZ {t u ty e:TypeId} {i:TypeInfo} (ht:P.underlying t=some (.slice e)) (hu:P.underlying u=some .string) (hi:P.info? e=some i) (bV:i.size=1) {v:Value} {n:Nat} {xs:List Value}
  (ar:w.ownsRow B e 1 v n xs) (s:ByteArray) (hm:s.size=0):(Builtin.append_ #[t,u] ty #[v,.string s]).run P w=.ok v w:=by
 have hn:strCells s=[]:=List.eq_nil_of_length_eq_zero (by rw[strCells_length];exact hm);have hf:=run_firstCells_string (P:=P) w 1 s;rw[hm,hn]at hf;have aR:∀ x,(storeCells x [] 0).run P w=.ok () w:=λx=>rfl;rcases ar.2 with ⟨rfl,rfl⟩ | ⟨g,cap,cur,rfl,cW,hg,iQ,bO,aN,bp⟩
 ·simp[Builtin.append_,run_underlying ht,run_underlying hu,sizeOf,typeInfo,hi,bV,Builtin.lenOf,hm,hf]
 ·simp[Builtin.append_,run_underlying ht,run_underlying hu,sizeOf,typeInfo,hi,bV,Builtin.lenOf,hm,hf,iQ,aR]
theorem wpList_append_str {aj:Array Oper} {rest:List Oper} {o:Oper} {a:Act} {Q:Exit→Act→World→Prop} (jj:o.guard=none) (sl x:Operand) (t u:TypeId)
  (ho:o.op=.call { callee:=.builtin .append,args:=#[sl,x],argTypes:=#[t,u] }) {v v':Value} {w':World} {s:ByteArray} (hs:a.eval sl=v) (hx:a.eval x=.string s)
  (hr:∀ ty,(Builtin.append_ #[t,u] ty #[v,.string s]).run P w=.ok v' w') (h:wpList P aj Q rest (a.put o.dst v') w'):wpList P aj Q (o::rest) a w:=by
 refine wpList_plain jj λK hK=>?_;unfold Oper.wp execOp;simp only[ho,resolve,invoke,builtin,Sem.run_bind,Sem.run_pure,Result.andThen_ok,List.map_toArray,List.map_cons,List.map_nil,hs,hx,hr];exact hK _ _ h
end
section
open Go.Lib
open Go.RowKit
variable {P:Program} {B:Nat} {w:World} {G:Gh} {H:zaa}
theorem HRel.storeB (h:HRel B w G H) {id b:Nat} {t:TypeId} {cs cs':List AV} {vs vs':Array Value} (hH:H[id]?=some (.bld t cs)) (hμ:G.μ[id]?=some (.blk b))
  (hw:w.heap[b]?=some (.cells vs t (0,0))) (hc:All2 (ARel w G) vs'.toList cs') :
  Ext B w G (w.setRow b vs') G∧HRel B (w.setRow b vs') G (H.set id (.bld t cs')):=by
 obtain⟨hB,hL,_⟩:=h.ok id _ _ hH hμ;have aD:(w.setRow b vs').heap.size=w.heap.size:=by simp[World.setRow]
 have he:Ext B w G (w.setRow b vs') G:=by
  refine⟨Nat.le_refl _,⟨rfl,rfl,rfl,by rw[aD];exact Nat.le_refl _,λk hk=>zeo _ (by omega)⟩,λ_=>Nat.le_refl _,λx off ho=>?_,λ_ gi h=>⟨gi,h,gi.le_refl⟩⟩;have:x≠b:=by intro hx;subst hx;omega
  exact zfn (zeo _ this)
 refine⟨he,by simp[h.len],?_,h.dist,by rw[aD];exact h.fresh,by rw[aD];exact h.lt,by rw[aD];exact h.base⟩;intro id' ab gi h1 h2;by_cases ap:id'=id
 ·subst ap;rw[hμ]at h2;cases h2;have ak:id'<H.length:=(List.getElem?_eq_some_iff.1 hH).1;rw[List.getElem?_set_self ak]at h1;cases h1;exact⟨hB,hL,vs',setRow_heap w b vs vs' t _ hw,hc.mono λ_ _=>he.arel⟩
 ·rw[List.getElem?_set_ne (λh=>ap h.symm)]at h1;refine (h.ok id' ab gi h1 h2).keep he (λx hx=>⟨zeo _ ?_,rfl⟩);intro dx;subst dx;exact ap (h.dist id' id gi _ x h2 hμ hx rfl)
theorem HRel.reCellB (h:HRel B w G H) {id:Nat} {t:TypeId} {cs cs':List AV} (ap:H[id]?=some (.bld t cs)) (hc:∀ vs:List Value,All2 (ARel w G) vs cs→All2 (ARel w G) vs cs'):HRel B w G (H.set id (.bld t cs')):=by
 refine⟨by simp[h.len],?_,h.dist,h.fresh,h.lt,h.base⟩;intro i ab gi h1 h2;by_cases hi:i=id
 ·subst hi;rw[List.getElem?_set_self (List.getElem?_eq_some_iff.1 ap).1]at h1;cases h1;have az:=h.ok i _ _ ap h2;cases gi with
  | blk b=>obtain⟨k1,k2,vs,k3,k4⟩:=az;exact⟨k1,k2,vs,k3,hc _ k4⟩
  | own v s n=>exact az.elim
  | gap=>exact az.elim
 ·rw[List.getElem?_set_ne (λh=>hi h.symm)]at h1;exact h.ok i ab gi h1 h2
theorem HRel.ownCellB (h:HRel B w G H) {id:Nat} {t:TypeId} {p:AV} (e size:Nat) (ap:H[id]?=some (.bld t [p,.snil])) :
  ∃ G',Ext B w G w G'∧HRel B w G' (H.set id (.bld t [p,.sl [] (.own H.length)])++[.perm e size 0]):=by
 obtain⟨hE,aV⟩:=h.newOwn e size;refine⟨_,hE,?_⟩;have ak:=(List.getElem?_eq_some_iff.1 ap).1;have:=aV.reCellB (id:=id) (t:=t) (cs:=[p,.snil]) (cs':=[p,.sl [] (.own H.length)]) (by rw[List.getElem?_append_left ak];exact ap) (λvs iZ=>by
  match vs,iZ with
  | [v1,v2],⟨h1,h2,_⟩=>
   have h2:v2=.slice none 0 0:=h2;subst h2;refine⟨h1,⟨.slE _ _,.slice none 0 0,size,0,?_,Nat.le_refl _,λ_=>⟨rfl,by simp⟩⟩,trivial⟩;rw[←h.len];simp)
 rwa [List.set_append_left _ _ ak]at this
theorem ACalls.ownB {f:FuncId} {args:List AV} {K:AV→zaa→Prop} {id:Nat} {t:TypeId} {p:AV} (e size:Nat) (ap:H[id]?=some (.bld t [p,.snil]))
  (h:ACalls P f args (H.set id (.bld t [p,.sl [] (.own H.length)])++[.perm e size 0]) K):ACalls P f args H K:=by
 intro B w G vs hH hv;obtain⟨G',hE,aV⟩:=hH.ownCellB e size ap;refine (h B w G' vs aV (hv.mono λ_ _=>hE.trel)).mono λe' w' hp=>?_;obtain⟨v,r,H',G'',h1,h2,h3⟩:=hp;exact⟨v,r,H',G'',h1,hE.trans h2,h3⟩
def bcs (l:List UInt8):List (List AV):=l.map λb=>[.int .u8 b.toNat]
theorem zek (l:List UInt8):(bcs l).length=l.length:=by simp[bcs]
theorem zwQ (l m:List UInt8):bcs l++bcs m=bcs (l++m):=by simp[bcs]
theorem zfl (l:List UInt8):∀ c∈bcs l,c.length=1:=by intro c hc;simp only[bcs,List.mem_map]at hc;obtain⟨b,_,rfl⟩:=hc;rfl
theorem zF5 (l:List UInt8):All2 (DRel w G.L) (strCells ⟨l.toArray⟩) (bcs l).flatten:=by
 have:strCells ⟨l.toArray⟩=l.map λb=>Value.int .u8 b.toNat:=by simp[strCells]
 rw[this];induction l with
 | nil=>trivial
 | cons b l ih=>exact⟨.int _ _,ih (by simp[strCells])⟩
theorem HRel.freezeG (h:HRel B w G H) {id g n cap e:Nat} (hH:H[id]?=some (.frz e 1 n)) (hμ:G.μ[id]?=some (.own (.slice (some ⟨g,0,none⟩) n cap) 1 n)) (k:Nat) :
  Ext B w G (w.freeze ⟨g,0,none⟩ k) G∧HRel B (w.freeze ⟨g,0,none⟩ k) G H:=by
 obtain⟨g',cap',cur,fr0,_,_,hv,hg,fc,fg,bG,c7,d7⟩:=h.ok id _ _ hH hμ;cases hv;have de:∀ b,b≠g→(w.freeze ⟨g,0,none⟩ k).heap[b]?=w.heap[b]?:=by
  intro b hb;unfold World.freeze;split
  ·rfl
  ·simp only[Array.getElem?_modify];rw[if_neg (λh=>hb h.symm)]
 have hgg:∃ fr,(w.freeze ⟨g,0,none⟩ k).heap[g]?=some (.cells cur e fr):=by
  unfold World.freeze;split
  ·exact⟨fr0,hg⟩
  ·simp only[Array.getElem?_modify,hg];exact⟨_,rfl⟩
 obtain⟨fr,hgf⟩:=hgg;have aD:(w.freeze ⟨g,0,none⟩ k).heap.size=w.heap.size:=by
  unfold World.freeze;split
  ·rfl
  ·simp
 have hbelow:Below B w (w.freeze ⟨g,0,none⟩ k):=below_freeze (Below.refl B w) (p:=⟨g,0,none⟩) fc k;have he:Ext B w G (w.freeze ⟨g,0,none⟩ k) G:=by
  refine⟨by unfold World.freeze;split <;> exact Nat.le_refl _,hbelow,λ_=>Nat.le_refl _,λx off ho=>?_,λ_ gi h=>⟨gi,h,gi.le_refl⟩⟩;by_cases hx:x=g
  ·subst hx;simp[World.cell?,hgf,hg]
  ·exact zfn (de x hx)
 refine⟨he,h.len,?_,h.dist,by rw[aD];exact h.fresh,by rw[aD];exact h.lt,by rw[aD];exact h.base⟩;intro id' ab gi h1 h2;by_cases ap:id'=id
 ·subst ap;rw[hμ]at h2;cases h2;rw[hH]at h1;cases h1;exact⟨g,cap,cur,fr,rfl,rfl,rfl,hgf,fc,fg,bG,c7,d7⟩
 ·refine (h.ok id' ab gi h1 h2).keep he (λx hx=>⟨de x ?_,rfl⟩);intro dx;subst dx;exact ap (h.dist id' id gi _ x h2 hμ hx rfl)
theorem HRel.dead (h:HRel B w G H) {id e s n:Nat} (hH:H[id]?=some (.perm e s n)):HRel B w G (H.set id .dead):=by
 refine⟨by simp[h.len],?_,h.dist,h.fresh,h.lt,h.base⟩;intro i ab gi h1 h2;by_cases hi:i=id
 ·subst hi;rw[List.getElem?_set_self (List.getElem?_eq_some_iff.1 hH).1]at h1;cases h1;have az:=h.ok i _ _ hH h2;cases gi with
  | blk b=>exact az.elim
  | gap=>exact az.elim
  | own v s' n'=>
   obtain⟨rfl,rfl,⟨xs,hl,⟨rfl,_⟩ | ⟨g,cap,cur,rfl,k1,k2,k3,k4,k5,k6⟩⟩,hL⟩:=az
   ·intro b hb;cases hb
   ·intro b hb;simp[Value.ownBlock]at hb;subst hb;exact⟨cur,e,_,k2,by rw[hL g rfl,k5];exact Nat.mul_le_mul_right _ k3⟩
 ·rw[List.getElem?_set_ne (λh=>hi h.symm)]at h1;exact h.ok i ab gi h1 h2
theorem HRel.other (h:HRel B w G H) (o:Obj):Ext B w G (w.alloc o) G∧HRel B (w.alloc o) G H:=by have he:=Ext.alloc h o G.L (λ_ _=>rfl) [];simp only[List.append_nil]at he;refine⟨he,h.keep he rfl (λid gi b h1 h2=>⟨zcN (h.lt id gi b h1 h2),rfl⟩) (λb hb=>?_)⟩;rw[zb7]at hb;exact h.fresh b (by omega)
end
section
open Go.RowKit
open Go.Sort
variable {P:Program} {B:Nat} {w:World} {G:Gh} {H:zaa}
end
section
open Go.RowKit
variable {P:Program} {B:Nat} {w:World} {G:Gh} {H:zaa}
theorem HRel.newVec (h:HRel B w G H) (e size:Nat):Ext B w G w ⟨G.L,G.μ++[.own (.slice none 0 0) size 0]⟩∧HRel B w ⟨G.L,G.μ++[.own (.slice none 0 0) size 0]⟩ (H++[.vec e size 0 []]):=by
 obtain⟨hE,hH⟩:=h.newOwn e size;refine⟨hE,by simpa using hH.len,λid ab gi h1 h2=>?_,hH.dist,hH.fresh,hH.lt,hH.base⟩;by_cases ak:id<H.length
 ·rw[List.getElem?_append_left ak]at h1;exact hH.ok id ab gi (by rw[List.getElem?_append_left ak];exact h1) h2
 ·have aY:=(List.getElem?_eq_some_iff.1 h2).1;simp[h.len]at aY;obtain rfl:id=H.length:=by omega
  simp at h1;have h2:(G.μ++[GI.own (.slice none 0 0) size 0])[H.length]?=some gi:=h2;rw[←h.len]at h2;simp at h2;subst h1 h2;exact⟨rfl,rfl,⟨[],World.ownsRow_nil w B e size,trivial⟩,λb hb=>by simp[Value.ownBlock]at hb⟩
theorem HRel.ovCell (h:HRel B w G H) {id j:Nat} {cs:List AV} (e size:Nat) (ap:H[id]?=some (.cells cs)) (hj:cs[j]?=some .snil) :
  ∃ G',Ext B w G w G'∧HRel B w G' (H.set id (.cells (cs.set j (.ov H.length 0)))++[.vec e size 0 []]):=by
 obtain⟨hE,aV⟩:=h.newVec e size;refine⟨_,hE,?_⟩;have ak:=(List.getElem?_eq_some_iff.1 ap).1;have:=aV.reCell (id:=id) (cs:=cs) (cs':=cs.set j (.ov H.length 0)) (by rw[List.getElem?_append_left ak];exact ap) (λvs iZ=>by
  obtain⟨v,h1,h2⟩:=All2.get iZ hj;have h2:v=.slice none 0 0:=h2;subst h2;have aW:vs=vs.set j (.slice none 0 0):=by
   apply List.ext_getElem?;intro k;by_cases hk:k=j
   ·subst hk;rw[List.getElem?_set_self (List.getElem?_eq_some_iff.1 h1).1];exact h1
   ·rw[List.getElem?_set_ne (λh=>hk h.symm)]
  rw[aW];refine All2.set j iZ ?_;refine⟨⟨none,0,rfl,λh=>absurd h (by omega),Nat.le_refl _⟩,.slice none 0 0,size,0,?_,Nat.le_refl _,λ_=>rfl⟩;rw[←h.len];simp)
 rwa [List.set_append_left _ _ ak]at this
theorem ACalls.ovC {f:FuncId} {args:List AV} {K:AV→zaa→Prop} {id j:Nat} {cs:List AV} (e size:Nat) (ap:H[id]?=some (.cells cs)) (hj:cs[j]?=some .snil)
  (h:ACalls P f args (H.set id (.cells (cs.set j (.ov H.length 0)))++[.vec e size 0 []]) K):ACalls P f args H K:=by
 intro B w G vs hH hv;obtain⟨G',hE,aV⟩:=hH.ovCell e size ap hj;refine (h B w G' vs aV (hv.mono λ_ _=>hE.trel)).mono λe' w' hp=>?_;obtain⟨v,r,H',G'',h1,h2,h3⟩:=hp;exact⟨v,r,H',G'',h1,hE.trans h2,h3⟩
end
section
open Go.RowKit
variable {P:Program} {B:Nat} {w:World} {G:Gh} {H:zaa}
theorem zyI (h:HRel B w G H) (e size:Nat):TRel w ⟨G.L,G.μ++[.own (.slice none 0 0) size 0]⟩ (.slice none 0 0) (.ov H.length 0):=by refine⟨⟨none,0,rfl,λh=>absurd h (by omega),Nat.le_refl _⟩,.slice none 0 0,size,0,?_,Nat.le_refl _,λ_=>rfl⟩;rw[←h.len];simp
theorem ALoop.vec {c:Code} {Q:AExit→List AV→zaa→Prop} {F:List AV} (i e size:Nat) (hi:F[i]?=some .snil)
  (h:ALoop P c Q (F.set i (.ov H.length 0)) (H++[.vec e size 0 []])):ALoop P c Q F H:=by
 intro B w G a hH hF hd;obtain⟨hE,aV⟩:=hH.newVec e size;have iC:FRel w ⟨G.L,G.μ++[.own (.slice none 0 0) size 0]⟩ a.tmps (F.set i (.ov H.length 0)):=by
  unfold FRel;obtain⟨v,h1,h2⟩:=All2.get hF hi;have h2:v=.slice none 0 0:=h2;subst h2;have aW:a.tmps.toList=a.tmps.toList.set i (.slice none 0 0):=by
   apply List.ext_getElem?;intro k;by_cases hk:k=i
   ·subst hk;rw[List.getElem?_set_self (List.getElem?_eq_some_iff.1 h1).1];exact h1
   ·rw[List.getElem?_set_ne (λh=>hk h.symm)]
  rw[aW];exact All2.set i (hF.ext hE) (zyI hH e size)
 refine wp_mono (h B w _ a aV iC hd) λe a' w' hp=>?_;obtain⟨F'',H'',G'',e'',rfl,k1,k2,k3,k4,k5⟩:=hp;exact⟨F'',H'',G'',e'',rfl,hE.trans k1,k2,k3,k4,k5⟩
theorem zrY {vs:List Value}:∀ {cs cs':List AV},All2 WkA cs cs'→∀ {vs:List Value},All2 (ARel w G) vs cs→All2 (ARel w G) vs cs'
 | [],[],_,_,hv=>hv
 | x::cs,x'::cs',hw,[],hv=>hv.elim
 | x::cs,x'::cs',hw,v::vs,hv=>⟨hw.1.arel hv.1,zrY (vs:=[]) hw.2 hv.2⟩
 | [],_::_,hw,_,_=>hw.elim
 | _::_,[],hw,_,_=>hw.elim
theorem ALoop.reCell {c:Code} {Q:AExit→List AV→zaa→Prop} {F:List AV} {id:Nat} {cs:List AV} (cs':List AV) (ap:H[id]?=some (.cells cs)) (hw:All2 WkA cs cs') (h:ALoop P c Q F (H.set id (.cells cs'))):ALoop P c Q F H:=by intro B w G a hH hF hd;exact h B w G a (hH.reCell ap λvs hv=>zrY (vs:=[]) hw hv) hF hd
theorem HRel.frzV (h:HRel B w G H) {id e size n:Nat} {cs:List AV} (hH:H[id]?=some (.vec e size n cs)) {es:List (List AV)} (hp:plain cs=some es.flatten) (am:es.length=n) (aD:∀ c∈es,c.length=size) :
  ∃ G',Ext B w G w G'∧HRel B w G' (H.set id .dead)∧∀ v,ARel w G v (.ov id n)→DRel w G'.L v (.sl es .none):=by
 have ak:id<G.μ.length:=by rw[h.len];exact (List.getElem?_eq_some_iff.1 hH).1
 obtain⟨gi,cD⟩:∃ gi,G.μ[id]?=some gi:=⟨_,List.getElem?_eq_getElem ak⟩;have az:=h.ok id _ _ hH cD;cases gi with
 | gap=>exact az.elim
 | blk b=>exact az.elim
 | own v0 s0 n0=>
  obtain⟨rfl,rfl,⟨xs,ar,aN⟩,eO⟩:=az;have bX:=ar;obtain⟨hl,bi⟩:=bX;rcases bi with ⟨h1,h2⟩ | ⟨g,cap,cur,h1,hB,hw,aL,bO,fV,bk⟩
  ·subst h1;refine⟨G,Ext.refl _ _ _,⟨by simp[h.len],?_,h.dist,h.fresh,h.lt,h.base⟩,?_⟩
   ·intro id' ab gi k1 k2;by_cases ap:id'=id
    ·subst ap;rw[List.getElem?_set_self (List.getElem?_eq_some_iff.1 hH).1]at k1;cases k1;rw[cD]at k2;cases k2;exact λb hb=>by simp[Value.ownBlock]at hb
    ·rw[List.getElem?_set_ne (λh=>ap h.symm)]at k1;exact h.ok id' ab gi k1 k2
   ·intro v hv;obtain⟨⟨a,cap0,rfl,_⟩,v',s',n',hμ,_,heq⟩:=hv;have aZ:es=[]:=List.eq_nil_of_length_eq_zero (by omega);subst aZ;subst am;exact .slE _ _
  ·subst h1;have fg:G.L g=0:=eO g rfl;have he:Ext B w G w ⟨λx=>if x=g then cur.size else G.L x,G.μ⟩:=
    ⟨Nat.le_refl _,Below.refl _ _,λx=>by by_cases hx:x=g <;> simp[hx,fg],λ_ _ _=>rfl,λ_ gi h=>⟨gi,h,gi.le_refl⟩⟩
   refine⟨_,he,⟨by simp[h.len],?_,h.dist,λx hx=>?_,h.lt,h.base⟩,?_⟩
   ·intro id' ab gi k1 k2;by_cases ap:id'=id
    ·subst ap;rw[List.getElem?_set_self (List.getElem?_eq_some_iff.1 hH).1]at k1;cases k1;have k2:G.μ[id']?=some gi:=k2;rw[cD]at k2;cases k2;intro b hb;simp[Value.ownBlock]at hb;subst hb;exact⟨cur,e,_,hw,by simp⟩
    ·rw[List.getElem?_set_ne (λh=>ap h.symm)]at k1;refine (h.ok id' ab gi k1 k2).keep he (λx hx=>⟨rfl,?_⟩);have:¬ x=g:=λdx=>ap (h.dist id' id gi _ g k2 cD (by rw[hx,dx]) rfl);simp[this]
   ·have:=h.lt id _ g cD rfl;have h3:¬ x=g:=by omega
    simp[h3,h.fresh x hx]
   ·intro v hv;obtain⟨⟨a,cap0,rfl,_⟩,v',s',n',hμ,_,heq⟩:=hv;rw[cD]at hμ;simp only[Option.some.injEq,GI.own.injEq]at hμ;obtain⟨rfl,rfl,rfl⟩:=hμ;have kQ:=heq rfl;simp only[Value.slice.injEq,true_and]at kQ;obtain⟨rfl,rfl⟩:=kQ;subst am;by_cases aZ:es=[]
    ·subst aZ;exact .slE _ _
    ·obtain⟨_,_,_,aH⟩:=zdA ar;refine DRel.of_flat_at (zs:=xs) aD aZ aL ?_ ((zdB aN hp).mono λ_ _=>he.drel) ?_
     ·simp only[if_true];rw[fV,Nat.zero_add];exact Nat.mul_le_mul_right _ aL
     ·intro j u hj;rw[Nat.zero_add,aH j (by rw[←hl];exact (List.getElem?_eq_some_iff.1 hj).1)];exact hj
theorem ACalls.frzV {f:FuncId} {x:AV} {K:Kt} (id e size n:Nat) (cs:List AV) (es:List (List AV)) (hH:H[id]?=some (.vec e size n cs)) (hp:plain cs=some es.flatten) (am:es.length=n) (aD:∀ c∈es,c.length=size)
  (h:ACalls P f [.agg [x,.sl es .none]] (H.set id .dead) K):ACalls P f [.agg [x,.ov id n]] H K:=by
 intro B w G vs hR hv;obtain⟨G',hE,fA,hd⟩:=hR.frzV hH hp am aD;refine (h B w G' vs fA ?_).mono λe w' ⟨v,r,H',G'',k1,k2,k3,k4,k5⟩=>⟨v,r,H',G'',k1,hE.trans k2,k3,k4,k5⟩;generalize vs.toList=l at *
 match l,hv with
 | [v],⟨⟨us,hu,h1⟩,_⟩=>
  refine⟨⟨us,hu,?_⟩,trivial⟩;generalize us.toList=m at *
  match m,h1 with
  | [a,b],⟨h2,h3,_⟩=>exact⟨hE.arel h2,hd b h3,trivial⟩
end
def zIn (r:List IT):List AV:=(IT.css r).flatten
def CellR (H:zaa) (lo id:Nat) (c:AV) (r:List IT):Prop:=
 (r=[]∧c=.sl [] .none)∨(r≠[]∧∃ b,c=.ov b r.length∧lo≤b∧b≠id∧H[b]?=some (.vec zbf 2 r.length (zIn r)))
theorem CellR.keep {H H':zaa} {lo id lo' id':Nat} {c:AV} {r:List IT} (h:CellR H lo id c r) (d9:lo'≤lo) (ap:∀ b,lo≤b→b≠id→b<H.length→b≠id'∧H'[b]?=H[b]?):CellR H' lo' id' c r:=by
 rcases h with h | ⟨h0,b,rfl,h1,h2,h3⟩
 ·exact .inl h
 ·have:=ap b h1 h2 (List.getElem?_eq_some_iff.1 h3).1;exact .inr ⟨h0,b,rfl,by omega,this.1,by rw[this.2];exact h3⟩
theorem CellR.sc {H:zaa} {lo id:Nat} {c:AV} {r:List IT} (h:CellR H lo id c r):c.scA H.length=true∧c.known=true:=by
 rcases h with ⟨_,rfl⟩ | ⟨h0,b,rfl,h1,h2,h3⟩
 ·exact⟨rfl,rfl⟩
 ·have:=(List.getElem?_eq_some_iff.1 h3).1;exact⟨by simpa[AV.scA,AV.scB]using this,rfl⟩
theorem RowA.pre {H X:zaa} {a:AV} {n:Nat} {ds:List AV} (h:RowA H a n ds) (hp:H <+: X):RowA X a n ds:=by obtain⟨J,rfl⟩:=hp;exact h.app
theorem zAz (aa:List Dat) (hk:zbv aa) (t:VT) (ht:t.nodes≤1000) (c:Int) (H:zaa) (K:Kt) (hK:K (zcF (za9 aa t c)) H) :
  ACalls tP zjt [.sl (aa.map Dat.cs) .none,.agg t.cs,.int .i64 c] H K:=by
 refine ACalls.out (zKt λhs=>?_);obtain⟨f1,f2,f3⟩:=zfs hk;obtain⟨k,n,ks⟩:=t;simp[zAy,VT.cs,Nat.add_assoc];refine zv3 aa f1 f2 f3 (.mk k n ks) ht c _ _ ?_;cases hf:zbj aa (.mk k n ks) c with
 | none=>rw[zyK hf]at hK;simp[zcF];refine⟨⟨rfl,rfl⟩,?_⟩;exact Out.tup (bs:=[.sl [] .none,.bool false]) hs hK ⟨zdE,zaY rfl rfl,trivial⟩
 | some l=>
  obtain⟨bs,cv,jN,cz,cj,k5,_,eE⟩:=zyL hk hf;rw[cz]at hK;simp[zcF];refine zNR aa hk k n ks ht c hf cv jN eE _ _ ?_;simp[zh5];unfold zkY;refine ALoop.own 13 za1 3 rfl ?_;have dG:(H++[AB.cells [AV.int IntKind.i64 k,AV.int IntKind.i64 n,AV.sl (VT.css ks) Tok.none]]).length=H.length+1:=by simp
  rw[dG];have hpp:=zyM cv (.mk 0 0 []) l.length (Nat.le_refl _);rw[List.take_length,cv,List.take_length]at hpp;rw[hpp]at hK;have hpt:∀ j∈pos false bs bs.length,j<l.length:=λj hj=>by have:=zIb hj;omega
  have hp8:=zrh false bs bs.length;generalize pos false bs bs.length=P at *;show zkY (.sl (VT.css l) .none) (.sl [] (.own (H.length+1))) (.sl (zb0 P) .none) (.int .i64 P.length) (.int .i64 0) (H++[.cells [.int .i64 k,.int .i64 n,.sl (VT.css ks) .none]]++[.perm za1 3 0]) (Out H.length K);have aI:∀ m,HSc (H++[.cells [.int .i64 k,.int .i64 n,.sl (VT.css ks) .none],.perm za1 3 m]):=λm=>hs.append (by simp[AB.sc,AV.scA,AV.scB]);refine zKr (Inv:=λq t13 t35 H'=>∃ i:Nat,i≤P.length∧q=P.length-i∧t35=.int .i64 i∧t13=.sl (VT.css ((P.take i).map λj=>l.getD j (.mk 0 0 []))) (.own (H.length+1))∧H'=H++[.cells [.int .i64 k,.int .i64 n,.sl (VT.css ks) .none],.perm za1 3 i]) P.length ?_ ?_
  ·intro _;exact⟨0,by omega,by omega,rfl,by simp[VT.css],by simp⟩
  ·rintro q t13 t35 H' ⟨i,hi,rfl,rfl,rfl,rfl⟩ aJ am aM Kb au;by_cases ak:i<P.length
   ·have hj:=hpt _ (List.getElem_mem ak);simp[zr3,zh5,zHE,ak,hj];rw[zfm];simp[zav,zaM,zaJ,Nat.min_eq_left hi];refine⟨⟨by omega,by omega⟩,?_⟩;rw[zaw (by omega) (by omega)];have aR:VT.css (List.take i (List.map (λj=>l[j]?.getD (VT.mk 0 0 [])) P))++[(l[P[i]]'hj).cs]=VT.css ((P.take (i+1)).map λj=>l.getD j (.mk 0 0 [])):=by rw[List.take_succ_eq_append_getElem ak,VT.css_map,VT.css_map,List.map_append,List.map_append,List.map_take];simp[List.getD_eq_getElem?_getD,hj]
    rw[aR];refine au _ _ ⟨P.length-(i+1),by omega,Back.at (J:=[]) (H2:=H++[.cells [.int .i64 k,.int .i64 n,.sl (VT.css ks) .none],.perm za1 3 (i+1)]) (by simp) (by simp) (aI _) ?_ ⟨_,_,rfl,i+1,by omega,rfl,by simp,rfl,rfl⟩⟩;simp[zkX,AV.sc,AV.scV,AV.scA,AV.scB]
   ·obtain rfl:i=P.length:=by omega
    rw[List.take_length]at *;simp[zr3,zh5];refine⟨⟨rfl,rfl⟩,?_⟩;exact Out.tup (bs:=[.sl (VT.css (P.map λj=>l.getD j (.mk 0 0 []))) .none,.bool true]) hs hK ⟨slV,zaY rfl rfl,trivial⟩
theorem it2 (v:IT):∃ a b,v.cs=[a,b]∧a.known=true∧b.known=true:=by obtain⟨n,ks⟩:=v;exact⟨_,_,rfl,rfl,rfl⟩
theorem zx2 {aa:List Dat} (h8:∀ D∈aa,D.cons.length≤8) (v:IT) (t:VT) (h:(zcl aa v t).2=true):0≤(zcl aa v t).1∧(zcl aa v t).1≤6:=by obtain⟨e1,e2,e3⟩:=(zhb h8 v t).1 h;omega
theorem zx1 {aa:List Dat} (h8:∀ D∈aa,D.cons.length≤8):∀ (vs:List IT) (ts:List VT) (a:Int),0≤a→0≤(zbZ aa vs ts a).1∧(zbZ aa vs ts a).1≤a+6*vs.length
 | [],ts,a,h=>by simp[zbZ];omega
 | v::vs,[],a,h=>by simp[zbZ];omega
 | v::vs,t::ts,a,h=>by
  simp only[zbZ];split
  ·rename_i hb;have:=zx2 h8 v t hb;have:=zx1 h8 vs ts (a+(zcl aa v t).1) (by omega);simp only[List.length_cons];omega
  ·simp;omega
theorem zgz {x:VT}:∀ {l:List VT} {bs:List Bool},x∈pick l bs→x∈l
 | [],_,h=>by simp[pick]at h
 | _::_,[],h=>by simp[pick]at h
 | c::l,b::bs,h=>by
  cases b with
  | true=>simp[pick]at h;exact List.mem_cons_of_mem _ (zgz h)
  | false=>
   simp[pick]at h;rcases h with rfl | h
   ·exact List.mem_cons_self
   ·exact List.mem_cons_of_mem _ (zgz h)
theorem zyJ {aa:List Dat} {t:VT} {c:Int} {ps:List VT} (h:za9 aa t c=some ps):∀ x∈ps,x.nodes≤1000:=by
 unfold za9 at h;obtain⟨k,n,ks⟩:=t;cases hf:zbj aa (.mk k n ks) c with
 | none=>rw[hf]at h;cases h
 | some l=>rw[hf]at h;obtain⟨_,_,_,_,_,_,_,h2⟩:=zho hf;simp at h;subst h;exact λx hx=>by have:=h2 x (zgz hx);omega
theorem zHl (aa:List Dat) (n:Int) (ks:List IT) (tk tn:Int) (tks:List VT):zcl aa (.mk n ks) (.mk tk tn tks) =
  if tk=6 then (if n=0 then (if tks.length=ks.length then zbZ aa ks tks 0 else (0,false)) else (0,false))
  else if tk=7 then (n,decide (0≤n) && decide (n≤6) && decide (ks.length=0))
  else if tk=5 then (if n=0 then zc1 aa ks (.mk tk tn tks) 0 else (0,false))
  else (0,decide (n=0) && decide (ks.length=0)):=by
 rw[zcl];rfl
def zcV (aa:List Dat) (vs:List IT) (ts:List VT):Int × Bool:=if ts.length=vs.length then zbZ aa vs ts 0 else (0,false)
def zi2 (aa:List Dat) (v:IT):Prop:=∀ t:VT,t.nodes≤1000→∀ (H:zaa) (K:Kt),K (.tup [.int .i64 (zcl aa v t).1,.bool (zcl aa v t).2]) H→ACalls tP zj5 [.sl (aa.map Dat.cs) .none,.agg t.cs,.agg v.cs] H K
theorem zc9 {H:zaa} {K:Kt} {a:Int} {b:Bool} (hs:HSc H) (h:K (.tup [.int .i64 a,.bool b]) H) (J:zaa):Out H.length K (.tup [.int .i64 a,.bool b]) (H++J):=Out.tup hs h ⟨zaY rfl rfl,zaY rfl rfl,trivial⟩
theorem zA5 {aa:List Dat} (h8:∀ D∈aa,D.cons.length≤8) (vs:List IT) (hv:vs.length≤1000) (dy:∀ v∈vs,zi2 aa v) (ts:List VT) (ht:∀ t∈ts,t.nodes≤1000) (H:zaa) (K:Kt)
  (hK:K (.tup [.int .i64 (zcV aa vs ts).1,.bool (zcV aa vs ts).2]) H):ACalls tP zjx [.sl (aa.map Dat.cs) .none,.sl (VT.css ts) .none,.sl (IT.css vs) .none] H K:=by
 refine ACalls.out (zLZ λhs=>?_);have h0:∀ b J,zcV aa vs ts=(0,b)→Out H.length K (.tup [.int .i64 0,.bool b]) (H++J):=λb J h=>by rw[h]at hK;exact zc9 hs hK J
 by_cases hl:ts.length=vs.length;case neg=>
  have:((ts.length:Int) != (vs.length:Int))=true:=by simp[bne];omega
  simp[zss,this];refine⟨⟨rfl,rfl⟩,?_⟩;simpa using h0 false [] (by simp[zcV,hl])
 have gh:zcV aa vs ts=zbZ aa vs ts 0:=by simp[zcV,hl]
 rw[gh]at hK h0;simp[zss,hl];refine zLX (Inv:=λq t8 t20 H'=>∃ (i:Nat) (a:Int),i≤vs.length∧q=vs.length-i∧t20=.int .i64 i∧t8=.int .i64 a∧0≤a∧a≤6*i∧zbZ aa (vs.drop i) (ts.drop i) a=zbZ aa vs ts 0∧H'=H) vs.length ?_ ?_
 ·intro _;exact⟨0,0,by omega,by omega,rfl,rfl,by omega,by omega,by simp,rfl⟩
 ·rintro q t8 t20 H' ⟨i,a,hi,rfl,rfl,rfl,iH,lh,ho,rfl⟩ aJ am aM Kb au;by_cases ak:i<vs.length
  ·have aG:i<ts.length:=by omega
   rw[List.drop_eq_getElem_cons ak,List.drop_eq_getElem_cons aG]at ho;simp only[zbZ]at ho;obtain⟨x,y,z,aC,hx,hy,hz⟩:=zbs ts[i];obtain⟨x2,y2,aP,bg,fB⟩:=it2 vs[i];have me:=ht _ (List.getElem_mem aG);have mf:=dy _ (List.getElem_mem ak);simp[zst,hl,ak,aG,aC,aP,Nat.add_assoc];refine⟨⟨hx,hy,hz⟩,?_⟩;rw[←aC,←aP];refine zaB (.tup [.int .i64 (zcl aa vs[i] ts[i]).1,.bool (zcl aa vs[i] ts[i]).2]) (λJ=>mf _ me _ _ ⟨rfl,rfl⟩) ?_;cases hb:(zcl aa vs[i] ts[i]).2 with
   | false=>rw[hb]at ho;simp at ho;simp;exact⟨⟨rfl,rfl⟩,h0 _ _ ho.symm⟩
   | true=>rw[hb]at ho;simp at ho;have mg:=zx2 h8 _ _ hb;simp;rw[zaw (by omega) (by omega),zaw (by omega) (by omega)];refine au _ _ ⟨vs.length-(i+1),by omega,Back.at (J:=[_]) rfl (Nat.le_refl _) hs ?_ ⟨_,_,rfl,i+1,_,by omega,rfl,by simp,rfl,by omega,by simp;omega,ho,rfl⟩⟩;simp[zlr,AV.sc,AV.scV,AV.scA,AV.scB]
  ·obtain rfl:i=vs.length:=by omega
   rw[List.drop_length]at ho;simp only[zbZ]at ho;rw[←ho]at hK;simp[zst,hl];refine⟨⟨rfl,rfl⟩,?_⟩;have:=zc9 hs hK [];simpa using this
theorem zV8 {aa:List Dat} (hk:zbv aa) (h8:∀ D∈aa,D.cons.length≤8):∀ (m:Nat) (v:IT),v.nodes≤m→v.nodes≤900→zi2 aa v:=by
 intro m;induction m with
 | zero=>intro v h;have:=v.nodes_pos;omega
 | succ m ih=>
  intro v hv hb t ht H K hK;obtain⟨n,ks⟩:=v;obtain⟨tk,tn,tks⟩:=t;have cc:IT.nodesL ks+1≤900:=by simpa[IT.nodes]using hb
  have bm:=IT.len_le ks;have cS:∀ v∈ks,zi2 aa v:=λv ib=>by obtain⟨i,hi,rfl⟩:=List.getElem_of_mem ib;have:=IT.kid_lt (n:=n) hi;exact ih _ (by omega) (by omega)
  refine ACalls.out (zV6 λhs=>?_);rw[zHl]at hK;by_cases h6:tk=6
  ·subst h6;by_cases hn:n=0
   ·subst hn;simp[zdI,VT.cs,IT.cs,Nat.add_assoc];have bk:∀ t∈tks,t.nodes≤1000:=λt mh=>by obtain⟨i,hi,rfl⟩:=List.getElem_of_mem mh;have:=VT.kid_lt (k:=6) (n:=tn) hi;omega
    refine zA5 h8 ks (by omega) cS tks bk _ _ ?_;simp;refine⟨⟨rfl,rfl⟩,?_⟩;exact zc9 hs (by simpa[zcV]using hK) _
   ·have:(n != 0)=true:=by simp[bne,hn]
    simp[zdI,VT.cs,IT.cs,Nat.add_assoc,this];simp[hn]at hK;exact⟨⟨rfl,rfl⟩,zc9 hs hK _⟩
  have dI:(tk == 6)=false:=by simp[h6]
  rw[if_neg h6]at hK;by_cases h7:tk=7
  ·subst h7;simp only[if_true]at hK;by_cases g1:0≤n
   ·by_cases g2:n≤6
    ·by_cases g3:ks.length=0
     ·simp[zdI,VT.cs,IT.cs,Nat.add_assoc,g1,g2,g3];simp[g1,g2,g3]at hK;exact⟨⟨rfl,rfl⟩,zc9 hs hK _⟩
     ·have g3':((ks.length:Int) == 0)=false:=by simp;exact λh=>g3 (by simp[h])
      simp[zdI,VT.cs,IT.cs,Nat.add_assoc,g1,g2,g3,g3'];simp[g1,g2,g3]at hK;exact⟨⟨rfl,rfl⟩,zc9 hs hK _⟩
    ·simp[zdI,VT.cs,IT.cs,Nat.add_assoc,g1,g2];simp[g1,g2]at hK;exact⟨⟨rfl,rfl⟩,zc9 hs hK _⟩
   ·simp[zdI,VT.cs,IT.cs,Nat.add_assoc,g1];simp[g1]at hK;exact⟨⟨rfl,rfl⟩,zc9 hs hK _⟩
  have jk:(tk == 7)=false:=by simp[h7]
  rw[if_neg h7]at hK;by_cases h5:tk=5;case neg=>
   have ga:(tk == 5)=false:=by simp[h5]
   rw[if_neg h5]at hK;by_cases g1:n=0
   ·by_cases g2:ks.length=0
    ·simp[zdI,VT.cs,IT.cs,Nat.add_assoc,dI,jk,ga,g1,g2,zab];simp[g1,g2]at hK;exact⟨⟨rfl,rfl⟩,zc9 hs hK _⟩
    ·have g2':((ks.length:Int) == 0)=false:=by simp;exact λh=>g2 (by simp[h])
     simp[zdI,VT.cs,IT.cs,Nat.add_assoc,dI,jk,ga,g1,g2,g2',zab];simp[g1,g2]at hK;exact⟨⟨rfl,rfl⟩,zc9 hs hK _⟩
   ·have g1':(n == 0)=false:=by simp[g1]
    simp[zdI,VT.cs,IT.cs,Nat.add_assoc,dI,jk,ga,g1,g1',zab];simp[g1]at hK;exact⟨⟨rfl,rfl⟩,zc9 hs hK _⟩
  subst h5;simp only[if_true]at hK;by_cases hn:n=0;case neg=>
   have:(n != 0)=true:=by simp[bne,hn]
   simp[zdI,VT.cs,IT.cs,Nat.add_assoc,this];simp[hn]at hK;exact⟨⟨rfl,rfl⟩,zc9 hs hK _⟩
  subst hn;simp only[if_true]at hK;simp[zdI,VT.cs,IT.cs,Nat.add_assoc];have hT:(VT.mk 5 tn tks).nodes≤1000:=ht;have kr:(VT.mk 5 tn tks).cs=[.int .i64 5,.int .i64 tn,.sl (VT.css tks) .none]:=rfl;generalize hTg:VT.mk 5 tn tks=T at *;have ck:HSc (H++[.cells [.int .i64 5,.int .i64 tn,.sl (VT.css tks) .none],.cells [.int .i64 0,.sl (IT.css ks) .none]]):=hs.append (by simp[AB.sc,AV.scA,AV.scB]);have hF:zc1 aa ks T 0=(0,false)→∀ J,Out H.length K (.tup [.int .i64 0,.bool false]) (H++J):=λh J=>zc9 hs (by rw[h]at hK;exact hK) J;refine zV4 (Inv:=λq t8 t55 H'=>∃ (i:Nat) (a:Int),i≤ks.length∧q=ks.length-i∧t55=.int .i64 i∧t8=.int .i64 a∧0≤a∧a≤6∧zc1 aa (ks.drop i) T a=zc1 aa ks T 0 ∧
   H'=H++[.cells [.int .i64 5,.int .i64 tn,.sl (VT.css tks) .none],.cells [.int .i64 0,.sl (IT.css ks) .none]]) ks.length ?_ ?_
  ·intro _;exact⟨0,0,by omega,by omega,rfl,rfl,by omega,by omega,by simp,rfl⟩
  ·rintro q t8 t55 H' ⟨i,a,hi,rfl,rfl,rfl,iH,lh,ho,rfl⟩ aJ am aM Kb au;by_cases ak:i<ks.length
   ·rw[List.drop_eq_getElem_cons ak]at ho;have cI:=IT.kid_lt (n:=0) ak;obtain⟨c,es,hx⟩:∃ c es,ks[i]=IT.mk c es:=by cases h:ks[i] with | mk a b=>exact⟨a,b,rfl⟩
    rw[hx]at ho cI;have hesl:=IT.len_le es;have hen:IT.nodesL es+1≤900:=by
     have:(IT.mk c es).nodes=IT.nodesL es+1:=by simp[IT.nodes]
     have:(IT.mk 0 ks).nodes=IT.nodesL ks+1:=by simp[IT.nodes]
     omega
    have aZ:∀ v∈es,zi2 aa v:=λv ib=>by obtain⟨j,hj,rfl⟩:=List.getElem_of_mem ib;have:=IT.kid_lt (n:=c) hj;exact ih _ (by omega) (by omega)
    simp only[zc1]at ho;simp[zvj,ak,hx,IT.cs,Nat.add_assoc];rw[←kr];refine zL7 aa hk T hT c _ _ ?_;cases hp:za9 aa T c with
    | none=>rw[hp]at ho;simp only at ho;simp[zcF];exact⟨⟨rfl,rfl⟩,hF ho.symm _⟩
    | some ps=>
     rw[hp]at ho;simp only at ho;simp[zcF];have mi:∀ t∈ps,t.nodes≤1000:=zyJ hp;refine zA5 h8 es (by omega) aZ ps mi _ _ ?_;have htb:0≤(zcV aa es ps).1∧(zcV aa es ps).1≤6*es.length:=by
      unfold zcV;split
      ·have:=zx1 h8 es ps 0 (by omega);omega
      ·simp;omega
     have cq:(if (zcV aa es ps).2 && decide (a+(1+(zcV aa es ps).1)≤6) then zc1 aa (ks.drop (i+1)) T (a+(1+(zcV aa es ps).1)) else (0,false))=zc1 aa ks T 0:=by
      rw[←ho];unfold zcV;by_cases hl:ps.length=es.length
      ·simp only[hl,if_true]
      ·simp only[hl,if_false];rfl
     generalize zcV aa es ps=w at *;obtain⟨w1,w2⟩:=w;simp only at htb cq;simp;have q1:IntKind.i64.wrap (1+w1)=1+w1:=zaw (by omega) (by omega);have q2:IntKind.i64.wrap (a+(1+w1))=a+(1+w1):=zaw (by omega) (by omega);rw[q1,q2];cases w2 with
     | false=>simp at cq ⊢;exact⟨⟨rfl,rfl⟩,hF cq.symm _⟩
     | true=>
      by_cases hh:a+(1+w1)≤6
      ·have mj:¬ (6:Int)<a+(1+w1):=by omega
       simp[hh]at cq;simp[mj];rw[zaw (by omega) (by omega)];refine au _ _ ⟨ks.length-(i+1),by omega,Back.at (J:=[.cells [.int .i64 c,.sl (IT.css es) .none]]) (H2:=H++[.cells [.int .i64 5,.int .i64 tn,.sl (VT.css tks) .none],.cells [.int .i64 0,.sl (IT.css ks) .none]]) (by simp[kr]) (by simp) ck ?_ ⟨_,_,rfl,i+1,_,by omega,rfl,by simp,rfl,by omega,by omega,cq,rfl⟩⟩;simp[zoe,AV.sc,AV.scV,AV.scA,AV.scB]
      ·have mj:(6:Int)<a+(1+w1):=by omega
       simp[hh]at cq;simp[mj];exact⟨⟨rfl,rfl⟩,hF cq.symm _⟩
   ·obtain rfl:i=ks.length:=by omega
    rw[List.drop_length]at ho;simp only[zc1]at ho;rw[←ho]at hK;simp[zvj];exact⟨⟨rfl,rfl⟩,zc9 hs hK _⟩
theorem zyY (aa:List Dat) (n:Int) (ks:List IT) (tk tn:Int) (tks:List VT):rdV aa (.mk n ks) (.mk tk tn tks) =
  if tk=6 then (if n=0 then (if tks.length=ks.length then rdA aa ks tks 0 else -1) else -1)
  else if tk=7 then (if 0≤n∧n≤6∧ks.length=0 then n else -1)
  else if tk=5 then (if n=0∧ks.length≤6 then rdE aa ks (.mk tk tn tks) 0 else -1)
  else (if n=0∧ks.length=0 then 0 else -1):=by
 rw[rdV];rfl
theorem zwE {m:Int × Bool} {r:Int} (h:agr m r):-1≤r∧r≤6:=by
 obtain⟨h1,h2⟩:=h;cases hb:m.2 with
 | true=>have:=h1 hb;omega
 | false=>have:=h2 hb;omega
def zcU (aa:List Dat) (vs:List IT) (ts:List VT):Int:=if ts.length=vs.length then rdA aa vs ts 0 else -1
theorem zJX {aa:List Dat} (h8:∀ D∈aa,D.cons.length≤8) (vs:List IT) (ts:List VT):-1≤zcU aa vs ts∧zcU aa vs ts≤6:=by
 unfold zcU;split
 ·exact zwE ((zi9 h8 vs ts 0 (by omega)).1 (by omega))
 ·omega
def ziY (aa:List Dat) (v:IT):Prop:=∀ t:VT,t.nodes≤1000→∀ (H:zaa) (K:Kt),K (.int .i64 (rdV aa v t)) H→ACalls tP zhY [.sl (aa.map Dat.cs) .none,.agg t.cs,.agg v.cs] H K
theorem zAO {aa:List Dat} (h8:∀ D∈aa,D.cons.length≤8) (vs:List IT) (hv:vs.length≤1000) (dy:∀ v∈vs,ziY aa v) (ts:List VT) (ht:∀ t∈ts,t.nodes≤1000) (H:zaa) (K:Kt)
  (hK:K (.int .i64 (zcU aa vs ts)) H):ACalls tP zjw [.sl (aa.map Dat.cs) .none,.sl (VT.css ts) .none,.sl (IT.css vs) .none] H K:=by
 refine ACalls.out (zLi λhs=>?_);have hO:∀ r J,zcU aa vs ts=r→Out H.length K (.int .i64 r) (H++J):=λr J h=>by subst h;exact Out.int rfl (Nat.le_refl _) hs hK
 have iI:∀ r,zcU aa vs ts=r→Out H.length K (.int .i64 r) H:=λr h=>by simpa using hO r [] h
 by_cases hl:ts.length=vs.length;case neg=>
  have:((ts.length:Int) != (vs.length:Int))=true:=by simp[bne];omega
  simp[zsg,this];exact iI _ (by simp[zcU,hl])
 have gh:zcU aa vs ts=rdA aa vs ts 0:=by simp[zcU,hl]
 simp[zsg,hl];refine zLg (Inv:=λq t7 t17 H'=>∃ (i:Nat) (a:Int),i≤vs.length∧q=vs.length-i∧t17=.int .i64 i∧t7=.int .i64 a∧0≤a∧a≤6∧rdA aa (vs.drop i) (ts.drop i) a=zcU aa vs ts∧H'=H) vs.length ?_ ?_
 ·intro _;exact⟨0,0,by omega,by omega,rfl,rfl,by omega,by omega,by simp[gh],rfl⟩
 ·rintro q t7 t17 H' ⟨i,a,hi,rfl,rfl,rfl,iH,lh,ho,rfl⟩ aJ am aM Kb au;by_cases ak:i<vs.length
  ·have aG:i<ts.length:=by omega
   rw[List.drop_eq_getElem_cons ak,List.drop_eq_getElem_cons aG]at ho;simp only[rdA]at ho;have me:=ht _ (List.getElem_mem aG);have mf:=dy _ (List.getElem_mem ak);have mg:=zwE (zhb h8 vs[i] ts[i]);simp[zsh,hl,ak,aG,Nat.add_assoc];refine zaB (.int .i64 (rdV aa vs[i] ts[i])) (λJ=>mf _ me _ _ ⟨rfl,rfl⟩) ?_;generalize rdV aa vs[i] ts[i]=r at *;by_cases hr:r<0
   ·rw[if_pos (.inl hr)]at ho;simp[hr];exact iI _ ho.symm
   ·have q1:IntKind.i64.wrap (a+r)=a+r:=zaw (by omega) (by omega);by_cases h6:a+r>6
    ·rw[if_pos (.inr h6)]at ho;simp[hr,q1,h6];exact iI _ ho.symm
    ·rw[if_neg (by omega)]at ho;simp[hr,q1,h6];rw[zaw (by omega) (by omega)];refine au _ _ ⟨vs.length-(i+1),by omega,Back.at (J:=[]) (by simp) (Nat.le_refl _) hs ?_ ⟨_,_,rfl,i+1,_,by omega,rfl,by simp,rfl,by omega,by omega,ho,rfl⟩⟩;simp[zlk,AV.sc,AV.scV,AV.scA,AV.scB]
  ·obtain rfl:i=vs.length:=by omega
   rw[List.drop_length]at ho;simp only[rdA]at ho;simp[zsh,hl];exact iI _ ho.symm
theorem zTH:∀ (m:Nat) (v:IT),v.nodes≤m→∀ (left:Int),left≤1000000→-1≤left→∀ (H:zaa) (id:Nat),H[id]?=some (.cells [.int .i64 left])→∀ (K:AV→zaa→Prop),
  ((v.nodes:Int)≤left→K (.bool true) (H.set id (.cells [.int .i64 (left-v.nodes)])))→(¬ (v.nodes:Int)≤left→∀ l',K (.bool false) (H.set id (.cells [.int .i64 l']))) →
  ACalls tP zjZ [.agg v.cs,.ptr id 0] H K:=by
 intro m;induction m with
 | zero=>intro v h;have:=v.nodes_pos;omega
 | succ m ih=>
  intro v hv left dG dc H id ap K hK hF;obtain⟨n,ks⟩:=v;have ak:=zbr ap;have dU:(IT.mk n ks).nodes=IT.nodesL ks+1:=by simp[IT.nodes]
  refine ACalls.out (zTF λhs=>?_);have aA:(H++[AB.cells [.int .i64 n,.sl (IT.css ks) .none]])[id]?=some (.cells [.int .i64 left]):=zb8 ap;have bad:(¬ ((IT.mk n ks).nodes:Int)≤left)→∀ l' H',H'=H.set id (.cells [.int .i64 l'])++[.cells [.int .i64 n,.sl (IT.css ks) .none]]→Out H.length K (.bool false) H':=by intro h l' H' he;exact Out.bool he (by simp) (hs.set rfl) (hF h l')
  simp[zDG,IT.cs,aA,AV.known];rw[zaw (by omega) (by omega),zej _ ap,zb8 (zdC _ ap)];by_cases h0:left-1<0
  ·simp[h0];exact bad (by omega) _ _ rfl
  ·simp[h0];refine zTD (Inv:=λq t5 H'=>∃ i:Nat,i≤ks.length∧q=ks.length-i∧t5=.int .i64 i∧((IT.nodesL (ks.take i):Int)+1≤left)∧H'=H.set id (.cells [.int .i64 (left-1-IT.nodesL (ks.take i))])++[.cells [.int .i64 n,.sl (IT.css ks) .none]]) ks.length ?_ ?_
   ·intro _;exact⟨0,by omega,by omega,rfl,by simp[IT.nodesL];omega,by simp[IT.nodesL]⟩
   ·rintro q t5 H' ⟨i,hi,rfl,rfl,hb,rfl⟩ hsc am aM Kb au;by_cases be:i<ks.length
    ·have bl:=IT.kid_lt (n:=n) be;have h1:=IT.nodesL_take be;have h2:=IT.nodesL_take_le ks (i+1);have bm:=IT.len_le (ks.take i);simp only[List.length_take]at bm;have cF:(H.set id (.cells [.int .i64 (left-1-IT.nodesL (ks.take i))])++[AB.cells [.int .i64 n,.sl (IT.css ks) .none]])[id]?=some (.cells [.int .i64 (left-1-IT.nodesL (ks.take i))]):=zb8 (zdC _ ap);simp[zuy,be];refine ih ks[i] (by omega) (left-1-IT.nodesL (ks.take i)) (by omega) (by omega) _ id cF _ ?_ ?_
     ·intro aS;rw[zej _ (zdC _ ap),List.set_set];simp;rw[zaw (by omega) (by omega)];refine au _ _ ⟨ks.length-(i+1),by omega,Back.here (by simp) ((hs.set rfl).snoc rfl) ?_ ⟨_,rfl,i+1,by omega,rfl,by simp,by omega,?_⟩⟩
      ·simp[znp,AV.sc,AV.scV,AV.scA,AV.scB];omega
      ·rw[h1];congr 5;omega
     ·intro aS l';rw[zej _ (zdC _ ap),List.set_set];simp;exact bad (by omega) _ _ rfl
    ·obtain rfl:i=ks.length:=by omega
     rw[List.take_length]at hb ⊢;simp[zuy];refine Out.bool rfl (by simp) (hs.set rfl) ?_;have:=hK (by omega);rw[dU]at this;rw[show left-1-(IT.nodesL ks:Int)=left-((IT.nodesL ks+1:Nat):Int) by omega];exact this
theorem zFj (v:IT) (H:zaa) (K:Kt) (hK:∀ b,(b=true→v.nodes≤40)→K (.bool b) H):ACalls tP zkc [.agg v.cs] H K:=by
 refine ACalls.out (zYo λhs=>?_);simp[zq9,AV.known];refine zTH _ v (Nat.le_refl _) 40 (by omega) (by omega) _ (H.length+1) (by simp) _ ?_ ?_
 ·intro h;exact Out.bool (J:=[_,_]) (by simp;exact⟨rfl,rfl⟩) (Nat.le_refl _) hs (hK true λ_=>by omega)
 ·intro h l';exact Out.bool (J:=[_,_]) (by simp;exact⟨rfl,rfl⟩) (Nat.le_refl _) hs (hK false λh=>by cases h)
theorem zEg {aa:List Dat} (hk:zbv aa) (h8:∀ D∈aa,D.cons.length≤8):∀ (m:Nat) (v:IT),v.nodes≤m→v.nodes≤900→ziY aa v:=by
 intro m;induction m with
 | zero=>intro v h;have:=v.nodes_pos;omega
 | succ m ih=>
  intro v hv hb t ht H K hK;obtain⟨n,ks⟩:=v;obtain⟨tk,tn,tks⟩:=t;have cc:IT.nodesL ks+1≤900:=by simpa[IT.nodes]using hb
  have bm:=IT.len_le ks;have cS:∀ v∈ks,ziY aa v:=λv ib=>by obtain⟨i,hi,rfl⟩:=List.getElem_of_mem ib;have:=IT.kid_lt (n:=n) hi;exact ih _ (by omega) (by omega)
  refine ACalls.out (zVr λhs=>?_);rw[zyY]at hK;have hO:∀ r J,K (.int .i64 r) H→Out H.length K (.int .i64 r) (H++J):=λr J h=>Out.int rfl (Nat.le_refl _) hs h;by_cases h6:tk=6
  ·subst h6;rw[if_pos rfl]at hK;by_cases hn:n=0
   ·subst hn;rw[if_pos rfl]at hK;simp[zdl,VT.cs,IT.cs,Nat.add_assoc];have bk:∀ t∈tks,t.nodes≤1000:=λt mh=>by obtain⟨i,hi,rfl⟩:=List.getElem_of_mem mh;have:=VT.kid_lt (k:=6) (n:=tn) hi;omega
    refine zAO h8 ks (by omega) cS tks bk _ _ ?_;exact hO _ _ hK
   ·have:(n != 0)=true:=by simp[bne,hn]
    rw[if_neg hn]at hK;simp[zdl,VT.cs,IT.cs,Nat.add_assoc,this];exact hO _ _ hK
  have dI:(tk == 6)=false:=by simp[h6]
  rw[if_neg h6]at hK;by_cases h7:tk=7
  ·subst h7;rw[if_pos rfl]at hK;by_cases g1:n<0
   ·rw[if_neg (by omega)]at hK;simp[zdl,VT.cs,IT.cs,Nat.add_assoc,g1];exact hO _ _ hK
   ·by_cases g2:n>6
    ·rw[if_neg (by omega)]at hK;simp[zdl,VT.cs,IT.cs,Nat.add_assoc,g1,g2];exact hO _ _ hK
    ·by_cases g3:0<ks.length
     ·rw[if_neg (by omega)]at hK;have g3':(0:Int)<ks.length:=by omega
      simp[zdl,VT.cs,IT.cs,Nat.add_assoc,g1,g2,g3,g3'];exact hO _ _ hK
     ·rw[if_pos (by omega)]at hK;have g3':¬ (0:Int)<ks.length:=by omega
      simp[zdl,VT.cs,IT.cs,Nat.add_assoc,g1,g2,g3,g3'];exact hO _ _ hK
  have jk:(tk == 7)=false:=by simp[h7]
  rw[if_neg h7]at hK;by_cases h5:tk=5;case neg=>
   have ga:(tk == 5)=false:=by simp[h5]
   rw[if_neg h5]at hK;by_cases g1:n=0
   ·subst g1;by_cases g2:0<ks.length
    ·have g2':(0:Int)<ks.length:=by omega
     rw[if_neg (by omega)]at hK;simp[zdl,VT.cs,IT.cs,Nat.add_assoc,dI,jk,ga,g2,g2'];exact hO _ _ hK
    ·have g2':¬ (0:Int)<ks.length:=by omega
     rw[if_pos (by omega)]at hK;simp[zdl,VT.cs,IT.cs,Nat.add_assoc,dI,jk,ga,g2,g2'];exact hO _ _ hK
   ·have g1':(n != 0)=true:=by simp[bne,g1]
    rw[if_neg (by omega)]at hK;simp[zdl,VT.cs,IT.cs,Nat.add_assoc,dI,jk,ga,g1,g1'];exact hO _ _ hK
  subst h5;rw[if_pos rfl]at hK;by_cases hn:n=0;case neg=>
   have:(n != 0)=true:=by simp[bne,hn]
   rw[if_neg (by omega)]at hK;simp[zdl,VT.cs,IT.cs,Nat.add_assoc,this];exact hO _ _ hK
  subst hn;by_cases hl6:ks.length>6
  ·rw[if_neg (by omega)]at hK;have:(6:Int)<ks.length:=by omega
   simp[zdl,VT.cs,IT.cs,Nat.add_assoc,this];exact hO _ _ hK
  have hl6':¬ (6:Int)<ks.length:=by omega
  rw[if_pos (by omega)]at hK;simp[zdl,VT.cs,IT.cs,Nat.add_assoc,hl6'];have hT:(VT.mk 5 tn tks).nodes≤1000:=ht;have kr:(VT.mk 5 tn tks).cs=[.int .i64 5,.int .i64 tn,.sl (VT.css tks) .none]:=rfl;generalize hTg:VT.mk 5 tn tks=T at *;have ck:HSc (H++[.cells [.int .i64 5,.int .i64 tn,.sl (VT.css tks) .none],.cells [.int .i64 0,.sl (IT.css ks) .none]]):=hs.append (by simp[AB.sc,AV.scA,AV.scB]);have hF:∀ r,r=rdE aa ks T 0→∀ J,Out H.length K (.int .i64 r) (H++J):=λr h J=>hO _ _ (by rw[h];exact hK);refine zVp (Inv:=λq t7 t58 H'=>∃ (i:Nat) (a:Int),i≤ks.length∧q=ks.length-i∧t58=.int .i64 i∧t7=.int .i64 a∧0≤a∧a≤6∧rdE aa (ks.drop i) T a=rdE aa ks T 0 ∧
   H'=H++[.cells [.int .i64 5,.int .i64 tn,.sl (VT.css tks) .none],.cells [.int .i64 0,.sl (IT.css ks) .none]]) ks.length ?_ ?_
  ·intro _;exact⟨0,0,by omega,by omega,rfl,rfl,by omega,by omega,by simp,rfl⟩
  ·rintro q t7 t58 H' ⟨i,a,hi,rfl,rfl,rfl,iH,lh,ho,rfl⟩ aJ am aM Kb au;by_cases ak:i<ks.length
   ·rw[List.drop_eq_getElem_cons ak]at ho;have cI:=IT.kid_lt (n:=0) ak;obtain⟨c,es,hx⟩:∃ c es,ks[i]=IT.mk c es:=by cases h:ks[i] with | mk a b=>exact⟨a,b,rfl⟩
    rw[hx]at ho cI;have hesl:=IT.len_le es;have hen:IT.nodesL es+1≤900:=by
     have:(IT.mk c es).nodes=IT.nodesL es+1:=by simp[IT.nodes]
     have:(IT.mk 0 ks).nodes=IT.nodesL ks+1:=by simp[IT.nodes]
     omega
    have aZ:∀ v∈es,ziY aa v:=λv ib=>by obtain⟨j,hj,rfl⟩:=List.getElem_of_mem ib;have:=IT.kid_lt (n:=c) hj;exact ih _ (by omega) (by omega)
    simp only[rdE]at ho;by_cases c1:c<0
    ·rw[if_pos (.inl c1)]at ho;simp[ziS,ak,hx,IT.cs,Nat.add_assoc,c1];exact hF _ ho _
    by_cases c2:8≤c
    ·rw[if_pos (.inr c2)]at ho;simp[ziS,ak,hx,IT.cs,Nat.add_assoc,c1,c2];exact hF _ ho _
    rw[if_neg (by omega)]at ho;simp[ziS,ak,hx,IT.cs,Nat.add_assoc,c1,c2];rw[←kr];refine zAz aa hk T hT c _ _ ?_;cases hp:za9 aa T c with
    | none=>rw[hp]at ho;simp only at ho;simp[zcF];exact hF _ ho _
    | some ps=>
     rw[hp]at ho;simp only at ho;simp[zcF];have mi:∀ t∈ps,t.nodes≤1000:=zyJ hp;refine zAO h8 es (by omega) aZ ps mi _ _ ?_;have htb:=zJX h8 es ps;have cq:(if zcU aa es ps<0∨a+1+zcU aa es ps>6 then -1 else rdE aa (ks.drop (i+1)) T (a+(1+zcU aa es ps)))=rdE aa ks T 0:=by
      rw[←ho];unfold zcU;by_cases hl:ps.length=es.length
      ·simp only[hl,if_true]
      ·simp only[hl,if_false];rfl
     generalize zcU aa es ps=w at *;by_cases w0:w<0
     ·rw[if_pos (.inl w0)]at cq;simp[w0];exact hF _ cq _
     ·have q1:IntKind.i64.wrap (a+1)=a+1:=zaw (by omega) (by omega);have q2:IntKind.i64.wrap (a+1+w)=a+1+w:=zaw (by omega) (by omega);have q3:IntKind.i64.wrap (1+w)=1+w:=zaw (by omega) (by omega);have q4:IntKind.i64.wrap (a+(1+w))=a+(1+w):=zaw (by omega) (by omega);by_cases hh:a+1+w>6
      ·rw[if_pos (.inr hh)]at cq;simp[w0,q1,q2,hh];exact hF _ cq _
      ·rw[if_neg (by omega)]at cq;simp[w0,q1,q2,hh,q3,q4];rw[zaw (by omega) (by omega)];refine au _ _ ⟨ks.length-(i+1),by omega,Back.at (J:=[.cells [.int .i64 c,.sl (IT.css es) .none]]) (H2:=H++[.cells [.int .i64 5,.int .i64 tn,.sl (VT.css tks) .none],.cells [.int .i64 0,.sl (IT.css ks) .none]]) (by simp[kr]) (by simp) ck ?_ ⟨_,_,rfl,i+1,_,by omega,rfl,by simp,rfl,by omega,by omega,cq,rfl⟩⟩;simp[zn2,AV.sc,AV.scV,AV.scA,AV.scB]
   ·obtain rfl:i=ks.length:=by omega
    rw[List.drop_length]at ho;simp only[rdE]at ho;simp[ziS];exact hF _ ho _
section
variable {aa:List Dat} (hD:DOk aa)
def zoV (aa:List Dat) (v:VT):Prop:=∀ (t:VT),zaV aa 0 t=true→∀ (H:zaa) (K:AV→zaa→Prop),K (.bool (zaU aa v t)) H→ACalls tP zj3 [.sl (aa.map Dat.cs) .none,.agg v.cs,.agg t.cs] H K
theorem zGK {f:VT→VT→Bool} {x y:List VT} {i:Nat} (h:i<x.length) (h':i<y.length):zcQ f (x.drop i) (y.drop i)=(f x[i] y[i] && zcQ f (x.drop (i+1)) (y.drop (i+1))):=by rw[List.drop_eq_getElem_cons h,List.drop_eq_getElem_cons h',zcQ]
theorem zFh (vs ts:List VT) (hl:vs.length≤1000000) (hv:∀ v∈vs,zoV aa v) (ht:∀ t∈ts,zaV aa 0 t=true) (H:zaa) (K:AV→zaa→Prop) (hK:K (.bool (zcG aa vs ts)) H) :
  ACalls tP zkg [.sl (aa.map Dat.cs) .none,.sl (VT.css vs) .none,.sl (VT.css ts) .none] H K:=by
 refine ACalls.out (zYe λhs=>?_);rw[zpH]at hK;have hO:∀ b,zcQ (zaU aa) vs ts=b→Out H.length K (.bool b) H:=λb h=>by have:=Out.bool (J:=[]) rfl (Nat.le_refl _) hs (h ▸ hK);simpa using this
 by_cases am:vs.length=ts.length;case neg=>
  have cC:((vs.length:Int) != ts.length)=true:=by simp;omega
  simp[zvY,cC];exact hO _ (zpB am)
 simp[zvY,am];refine zYc (Inv:=λq t H'=>∃ i:Nat,i≤vs.length∧q=vs.length-i∧t=.int .i64 i∧zcQ (zaU aa) (vs.drop i) (ts.drop i)=zcQ (zaU aa) vs ts∧H=H') vs.length ?_ ?_
 ·intro _;exact⟨0,by omega,by omega,rfl,by simp,rfl⟩
 rintro q t H' ⟨i,hi,rfl,rfl,ho,rfl⟩ hsc aS aM Kb au;by_cases ak:i<vs.length
 ·have aG:i<ts.length:=by omega
  have aY:(i:Int)<ts.length:=by omega
  rw[zGK ak aG]at ho;obtain⟨x,y,z,aC,hx,hy,hz⟩:=zbs vs[i];obtain⟨x2,y2,z2,aP,bg,fB,ml⟩:=zbs ts[i];simp[zvZ,ak,aG,aY,aC,aP];rw[←aC,←aP];refine zaB (.bool (zaU aa vs[i] ts[i])) (λJ=>hv _ (List.getElem_mem ak) _ (ht _ (List.getElem_mem aG)) _ _ ⟨rfl,rfl⟩) ?_;cases hb:zaU aa vs[i] ts[i] with
  | false=>rw[hb,Bool.false_and]at ho;simp;exact hO _ ho.symm
  | true=>rw[hb,Bool.true_and]at ho;simp;rw[zaw (by omega) (by omega)];refine au _ _ ⟨vs.length-(i+1),by omega,Back.here (Nat.le_refl _) hs ?_ ⟨_,rfl,i+1,by omega,rfl,by simp,ho,rfl⟩⟩;simp[zoP,AV.sc,AV.scV,AV.scA,AV.scB]
 ·obtain rfl:i=vs.length:=by omega
  rw[List.drop_length,am,List.drop_length,zcQ]at ho;simp[zvZ,am];exact hO _ ho.symm
theorem zGY {aa:List Dat} {vks ks:List VT} (h1:vks.length=1) (h2:ks.length=1):zcG aa vks ks=zdL aa vks (ks[0]'(by omega)):=by
 match vks,ks,h1,h2 with
 | [v],[k],_,_=>simp[zcG,zdL]
include hD in
theorem ycl:∀ (m:Nat) (v:VT),v.nodes≤m→v.nodes≤1000000→zoV aa v:=by
 intro m;induction m with
 | zero=>intro v h;have:=v.nodes_pos;omega
 | succ m ih=>
  intro v hm hb t ht H K hK;obtain⟨vk,vn,vks⟩:=v;obtain⟨k,n,ks⟩:=t;refine ACalls.out (zUS λhs=>?_);have hO:∀ b J,zaU aa (.mk vk vn vks) (.mk k n ks)=b→Out H.length K (.bool b) (H++J):=λb J h=>Out.bool rfl (Nat.le_refl _) hs (h ▸ hK);have bm:=VT.len_le vks;have dU:(VT.mk vk vn vks).nodes=VT.nodesL vks+1:=by simp[VT.nodes]
  have cS:∀ x∈vks,zoV aa x:=λx hx=>ih x (by have:=zjl (k:=vk) (n:=vn) x hx;omega) (by have:=zhx (k:=vk) (n:=vn) x hx;omega);have bk:=zrR ht;have hto:za4 aa 0 (.mk k n ks)=true:=by rw[zaV,Bool.and_eq_true]at ht;exact ht.2
  have dR:(VT.mk k n ks).nodes≤200:=by rw[zaV,Bool.and_eq_true]at ht;exact of_decide_eq_true ht.1
  obtain⟨f1,f2,f3⟩:=zfs hD.k;have loop:∀ (hk:ks.length=1) ,zaU aa (.mk vk vn vks) (.mk k n ks)=zdL aa vks (ks[0]'(by omega)) →
    zu2 (.sl (aa.map Dat.cs) .none) (.ptr H.length 0) (.ptr (H.length+1) 0) (.int .i64 vks.length) (.int .i64 0) (H++[.cells [.int .i64 vk,.int .i64 vn,.sl (VT.css vks) .none],.cells [.int .i64 k,.int .i64 n,.sl (VT.css ks) .none]]) (Out H.length K):=by
   intro hk e;have df:0<ks.length:=by omega
   refine zUQ (Inv:=λq t10 H'=>∃ i:Nat,i≤vks.length∧q=vks.length-i∧t10=.int .i64 i∧zdL aa (vks.drop i) ks[0]=zdL aa vks ks[0]∧H'=H++[.cells [.int .i64 vk,.int .i64 vn,.sl (VT.css vks) .none],.cells [.int .i64 k,.int .i64 n,.sl (VT.css ks) .none]]) vks.length ?_ ?_
   ·intro _;exact⟨0,by omega,by omega,rfl,by simp,rfl⟩
   rintro q t10 H' ⟨i,hi,rfl,rfl,ho,rfl⟩ hsc aS aM Kb au;by_cases ak:i<vks.length
   ·rw[zGX ak]at ho;obtain⟨x,y,z,aC,hx,hy,hz⟩:=zbs vks[i];obtain⟨x2,y2,z2,aP,bg,fB,ml⟩:=zbs ks[0];simp[zu0,ak,aC,df,aP];rw[←aC,←aP];refine zaB (.bool (zaU aa vks[i] ks[0])) (λJ=>cS _ (List.getElem_mem ak) ks[0] (bk _ (List.getElem_mem df)) _ _ ⟨rfl,rfl⟩) ?_;cases bq:zaU aa vks[i] ks[0] with
    | false=>rw[bq,Bool.false_and]at ho;simp;exact hO _ _ (e.trans ho.symm)
    | true=>rw[bq,Bool.true_and]at ho;simp;rw[zaw (by omega) (by omega)];refine au _ _ ⟨vks.length-(i+1),by omega,Back.here (by simp) hsc ?_ ⟨_,rfl,i+1,by omega,rfl,by simp,ho,rfl⟩⟩;simp[znT,AV.sc,AV.scV,AV.scA,AV.scB]
   ·obtain rfl:i=vks.length:=by omega
    rw[List.drop_length,zdL]at ho;simp[zu0];exact hO _ _ (e.trans ho.symm)
  rcases zJ2 hto with ⟨rfl,rfl⟩ | ⟨rfl,rfl⟩ | ⟨rfl,rfl⟩ | rfl | ⟨rfl,hk⟩ | ⟨rfl,hk⟩ | ⟨rfl,hk⟩ | ⟨rfl,hk⟩
  ·simp[zeE,VT.cs,Nat.add_assoc];cases h1:(vk == 3) <;> simp
   ·exact hO _ _ (by simp[zaU,h1])
   by_cases h2:-1099511627776≤vn <;> simp[h2]
   ·by_cases h3:vn≤1099511627776 <;> simp[h3]
    ·exact hO _ _ (by simp[zaU,h1,h2,h3,i0])
    ·exact hO _ _ (by simp[zaU,h1,h2,h3])
   ·exact hO _ _ (by simp[zaU,h1,h2])
  ·simp[zeE,VT.cs,Nat.add_assoc];cases h1:(vk == 2) <;> simp
   ·exact hO _ _ (by simp[zaU,h1])
   cases h2:(vn == 0) <;> simp
   ·cases h3:(vn == 1) <;> simp
    ·exact hO _ _ (by simp[zaU,h1,h2,h3])
    ·exact hO _ _ (by simp[zaU,h1,h2,h3,i0])
   ·exact hO _ _ (by simp[zaU,h1,h2,i0])
  ·simp[zeE,VT.cs,Nat.add_assoc];cases h1:(vk == 1) <;> simp
   ·exact hO _ _ (by simp[zaU,h1])
   cases h2:(vn == 0) <;> simp
   ·exact hO _ _ (by simp[zaU,h1,h2])
   ·exact hO _ _ (by simp[zaU,h1,h2,i0])
  ·-- a aa type
   simp[zeE,VT.cs,Nat.add_assoc];cases h1:(vk == 5) with
   | false=>
    have:(vk != 5)=true:=by simp[bne,h1]
    simp[this];exact hO _ _ (by simp[zaU,h1])
   | true=>
   have cu:(vk != 5)=false:=by simp[bne,h1]
   by_cases h2:vn<0
   ·simp[cu,h2];exact hO _ _ (by simp[zaU,h1];omega)
   by_cases h3:8≤vn
   ·simp[cu,h2,h3];exact hO _ _ (by simp[zaU,h1];omega)
   simp[cu,h2,h3,Nat.add_assoc];have e:∀ o,zbj aa (.mk 5 n ks) vn=o→zaU aa (.mk vk vn vks) (.mk 5 n ks)=zfr aa vks o:=λo ho=>by
    have q1:0≤vn:=by omega
    have q2:vn<8:=by omega
    simp[zaU,h1,q1,q2,ho]
   have aN:(VT.mk 5 n ks).cs=[.int .i64 5,.int .i64 n,.sl (VT.css ks) .none]:=rfl;rw[←aN];refine zv3 aa f1 f2 f3 (.mk 5 n ks) (by omega) vn _ _ ?_;cases hf:zbj aa (.mk 5 n ks) vn with
   | none=>simp[zcF];exact hO _ _ (by rw[e _ hf,zGZ])
   | some l=>simp[zcF,aN];refine zFh vks l (by omega) cS (zpC hD.ok hto hf) _ _ ?_;exact hO _ _ (by rw[e _ hf,zG0])
  ·simp[zeE,VT.cs,Nat.add_assoc];cases h1:(vk == 4) <;> simp
   ·exact hO _ _ (by simp[zaU,h1])
   cases h2:(vn == 0) <;> simp
   ·exact hO _ _ (by simp[zaU,h1,h2])
   refine zFh vks ks (by omega) cS bk _ _ ?_;exact hO _ _ (by simp[zaU,h1,h2])
  ·-- an array
   simp[zeE,ziR,VT.cs,Nat.add_assoc];have df:0<ks.length:=by omega
   cases h1:(vk == 6) with
   | false=>
    have:(vk != 6)=true:=by simp[bne,h1]
    simp[this];exact hO _ _ (by simp[zaU,h1])
   | true=>
   have cu:(vk != 6)=false:=by simp[bne,h1]
   by_cases h3:vks.length≤4096;case neg=>
    have ic:(4096:Int)<vks.length:=by omega
    simp[cu,ic];exact hO _ _ (by simp[zaU,h1,h3])
   have ic:¬ (4096:Int)<vks.length:=by omega
   cases h2:(vn == 0) with
   | false=>
    have:(vn != 0)=true:=by simp[bne,h2]
    simp[cu,ic,this];exact hO _ _ (by simp[zaU,h1,h2])
   | true=>
   have jT:(vn != 0)=false:=by simp[bne,h2]
   simp[cu,ic,jT];exact loop hk (by have:=zGT df;simp[zaU,h1,h2,h3,this,df])
  ·simp[zeE,ziR,VT.cs,Nat.add_assoc];have df:0<ks.length:=by omega
   cases h1:(vk == 7) with
   | false=>
    have:(vk != 7)=true:=by simp[bne,h1]
    simp[this];exact hO _ _ (by simp[zaU,h1])
   | true=>
   have cu:(vk != 7)=false:=by simp[bne,h1]
   by_cases h3:vks.length=1;case neg=>
    have ic:((vks.length:Int) != 1)=true:=by simp;omega
    simp[cu,ic];refine hO _ _ ?_;have:zcG aa vks ks=false:=by rw[zpH];exact zpB (by omega)
    simp[zaU,h1,this]
   have ic:((vks.length:Int) != 1)=false:=by simp;omega
   cases h2:(vn == 0) with
   | false=>
    have:(vn != 0)=true:=by simp[bne,h2]
    simp[cu,ic,this];exact hO _ _ (by simp[zaU,h1,h2])
   | true=>
   have jT:(vn != 0)=false:=by simp[bne,h2]
   simp[cu,ic,jT];exact loop hk (by rw[←zGY h3 hk];simp[zaU,h1,h2])
  ·simp[zeE,ziR,VT.cs,Nat.add_assoc];cases h1:(vk == 8) <;> simp
   ·exact hO _ _ (by simp[zaU,h1])
   by_cases h2:0≤vn <;> simp[h2]
   ·by_cases h3:vn<64 <;> simp[h3]
    ·exact hO _ _ (by simp[zaU,h1,h2,h3,i0])
    ·exact hO _ _ (by simp[zaU,h1,h2,h3])
   ·exact hO _ _ (by simp[zaU,h1,h2])
end
theorem zHb {aa:List Dat} (h:zbv aa):zg5 aa:=λD hD=>by obtain⟨_,h2⟩:=h;obtain⟨_,h3,h4⟩:=h2 D hD;refine⟨by omega,λc hc=>?_⟩;obtain⟨_,h5,h6⟩:=h4 c hc;exact⟨by omega,λx hx=>by have:=h6 x hx;omega⟩
theorem zxi {aa:List Dat}:∀ {l:List Dat} {d:Nat},zcZ aa l d=true→∀ D∈l,D.cons.length≤8
 | [],_,_,D,h=>by cases h
 | E::l,d,h,D,hD=>by
  simp only[zcZ,Bool.and_eq_true]at h;rcases List.mem_cons.1 hD with rfl | hD
  ·have:=h.1;simp only[zcO,Bool.and_eq_true,decide_eq_true_eq]at this;exact this.1.2
  ·exact zxi h.2 D hD
theorem zhp {aa:List Dat} {t:VT} (h:zbY aa t=true):∀ D∈aa,D.cons.length≤8:=by simp only[zbY,zbq,Bool.and_eq_true]at h;exact zxi h.1.1.1.2
def zbc (aa:List Dat) (t:VT) (v:IT):Int:=if zbY aa t then rdV aa v t else -1
theorem zV1 (aa:List Dat) (hk:zbv aa) (t:VT) (ht:t.nodes≤1000000) (H:zaa) (K:Kt) (hK:K (.bool (zbY aa t)) H):ACalls tP zqX [.sl (aa.map Dat.cs) .none,.agg t.cs] H K:=by
 refine ACalls.out (zV0 λhs=>?_);obtain⟨x,y,z,aC,hx,hy,hz⟩:=zbs t;simp[zEs,zaq,zaI,aC,Nat.add_assoc];refine zLQ aa (zHb hk) (by have:=hk.1;omega) ?_;unfold zbY at hK;cases hd:zbq aa with
 | false=>rw[hd]at hK;simp;exact Out.bool rfl (Nat.le_refl _) hs hK
 | true=>rw[hd,Bool.true_and]at hK;simp;rw[←aC];refine zA3 aa 0 t (by omega) _ _ ?_;exact Out.bool rfl (Nat.le_refl _) hs hK
theorem zUX (aa:List Dat) (hk:zbv aa) (t:VT) (ht:t.nodes≤1000000) (H:zaa) (K:Kt) (hK:K (.bool (zbY aa t)) H):ACalls tP zqU [.sl (aa.map Dat.cs) .none,.agg t.cs] H K:=by
 refine ACalls.out (zUW λhs=>?_);obtain⟨x,y,z,aC,hx,hy,hz⟩:=zbs t;simp[zD3,aC,Nat.add_assoc];refine zUK aa hk _ _ λb hb=>?_;have mg:b=zbq aa:=by rw[Bool.eq_iff_iff,hb,zGy]
 subst mg;unfold zbY at hK;cases hd:zbq aa with
 | false=>rw[hd]at hK;simp;exact Out.bool rfl (Nat.le_refl _) hs hK
 | true=>rw[hd,Bool.true_and]at hK;simp;rw[←aC];refine zD2 aa (by have:=hk.1;omega) 0 t (by omega) _ _ ?_;exact Out.bool rfl (Nat.le_refl _) hs hK
theorem zuA (aa:List Dat) (hk:zbv aa) (t:VT) (ht:t.nodes≤1000) (v:IT) (hv:v.nodes≤900) (H:zaa) (K:Kt) (hK:K (.int .i64 (zbc aa t v)) H):ACalls tP zhX [.sl (aa.map Dat.cs) .none,.agg t.cs,.agg v.cs] H K:=by
 refine ACalls.out (zTK λhs=>?_);have hO:∀ r J,zbc aa t v=r→Out H.length K (.int .i64 r) (H++J):=λr J h=>by subst h;exact Out.int rfl (Nat.le_refl _) hs hK
 obtain⟨x,y,z,aC,hx,hy,hz⟩:=zbs t;obtain⟨x2,y2,aP,bg,fB⟩:=it2 v;simp[zDI,aC,aP,Nat.add_assoc];rw[←aC];refine zV1 aa hk t (by omega) _ _ ?_;cases hf:zbY aa t with
 | false=>simp;exact hO _ _ (by simp[zbc,hf])
 | true=>
  have h8:=zhp hf;obtain⟨g1,g2⟩:=zhb h8 v t;simp[Nat.add_assoc];rw[←aP];refine zV8 hk h8 _ v (Nat.le_refl _) hv t ht _ _ ?_;cases hb:(zcl aa v t).2 with
  | false=>simp;exact hO _ _ (by simp[zbc,hf,g2 hb])
  | true=>simp;exact hO _ _ (by simp[zbc,hf,(g1 hb).1])
theorem zC6 (aa:List Dat) (hk:zbv aa) (t:VT) (ht:t.nodes≤1000) (v:IT) (hv:v.nodes≤900) (H:zaa) (K:Kt) (hK:K (.int .i64 (zbc aa t v)) H):ACalls tP zjS [.sl (aa.map Dat.cs) .none,.agg t.cs,.agg v.cs] H K:=by
 refine ACalls.out (zR3 λhs=>?_);have hO:∀ r J,zbc aa t v=r→Out H.length K (.int .i64 r) (H++J):=λr J h=>by subst h;exact Out.int rfl (Nat.le_refl _) hs hK
 obtain⟨x,y,z,aC,hx,hy,hz⟩:=zbs t;obtain⟨x2,y2,aP,bg,fB⟩:=it2 v;simp[zC4,aC,aP,Nat.add_assoc];rw[←aC];refine zUX aa hk t (by omega) _ _ ?_;cases hf:zbY aa t with
 | false=>simp;exact hO _ _ (by simp[zbc,hf])
 | true=>have h8:=zhp hf;simp[Nat.add_assoc];rw[←aP];refine zEg hk h8 _ v (Nat.le_refl _) hv t ht _ _ ?_;exact hO _ _ (by simp[zbc,hf])
theorem zfD {H:zaa} {K:AV→zaa→Prop} {r:AV} (hsc:HSc H) (hv:r.isV=true) (hr:r.scV H.length=true) (h:K r H):Out H.length K r H:=by have:=Out.same (J:=[]) rfl hsc hv hr h;simpa using this
theorem zym (a:Int) (H:zaa) (K:AV→zaa→Prop) (hK:K (.bool false) H):ACalls tP zjJ [.int .i64 a] H K:=by refine ACalls.out (zQj λhs=>?_);simp[zCB];exact zfD hs rfl rfl hK
theorem zw8 (a b:Int) (H:zaa) (K:AV→zaa→Prop) (hK:K (.int .i64 (icmp a b)) H):ACalls tP zjA [.int .i64 a,.int .i64 b] H K:=by
 refine ACalls.out (zM2 λhs=>?_);unfold zBq;refine zym _ _ _ (zym _ _ _ ?_);have hO:=zfD (K:=K) (H:=H) (r:=.int .i64 (icmp a b)) hs rfl rfl hK;by_cases h1:a<b
 ·simp[h1];simpa[icmp,h1]using hO
 ·by_cases h2:b<a
  ·simp[h1,h2];simpa[icmp,h1,h2]using hO
  ·simp[h1,h2];simpa[icmp,h1,h2]using hO
def orL:List Int→Int
 | []=>0
 | a::l=>cor a (orL l)
theorem zHS (l:List Int) (tok:Tok) (hl:l.length≤1000000) (H:zaa) (K:AV→zaa→Prop) (hK:K (.int .i64 (orL l)) H):ACalls tP zqk [.sl (l.map λx=>[.int .i64 x]) tok] H K:=by
 refine ACalls.out (zMY λhs=>?_);simp[zBo];refine zMW (Inv:=λq t8 H'=>∃ i:Nat,i≤l.length∧q=l.length-i∧t8=.int .i64 i∧orL (l.drop i)=orL l∧H'=H) l.length ?_ ?_
 ·intro _;exact⟨0,by omega,by omega,rfl,by simp,rfl⟩
 ·rintro q t8 H' ⟨i,hi,rfl,rfl,ho,rfl⟩ hsc am aM Kb au;by_cases ak:i<l.length
  ·rw[List.drop_eq_getElem_cons ak,orL]at ho;by_cases hz:l[i]=0
   ·rw[zps hz]at ho;simp[zlK,ak,hz];rw[zaw (by omega) (by omega)];refine au _ _ ⟨l.length-(i+1),by omega,Back.here (Nat.le_refl _) hs ?_ ⟨_,rfl,i+1,by omega,rfl,by simp,ho,rfl⟩⟩;simpa[zlL,AV.sc,AV.scV,AV.scA,AV.scB]using aM
   ·rw[zjf hz]at ho;have hz:(l[i] != 0)=true:=by simpa using hz
    simp[zlK,ak,hz];rw[←ho]at hK;exact zfD hs rfl rfl hK
  ·simp[zlK,ak];obtain rfl:i=l.length:=by omega
   rw[List.drop_length]at ho;rw[←ho]at hK;exact zfD hs rfl rfl hK
theorem zGl (ks ks':List IT) (he:ks.length=ks'.length) (hb:ks.length≤1000000)
  (hc:∀ (i:Nat) (h:i<ks.length) (h':i<ks'.length) (H:zaa) (K:AV→zaa→Prop),K (.int .i64 (IT.cmp ks[i] ks'[i])) H→ACalls tP zgv [.agg ks[i].cs,.agg ks'[i].cs] H K)
  (H:zaa) (K:AV→zaa→Prop) (hK:K (.int .i64 (IT.cmpL ks ks')) H):ACalls tP zql [.sl (IT.css ks) .none,.sl (IT.css ks') .none,.fn zgv []] H K:=by
 refine ACalls.out (zM7 λhs=>?_);simp[zBr];refine zM5 (Inv:=λq t13 H'=>∃ i:Nat,i≤ks.length∧q=ks.length-i∧t13=.int .i64 i∧IT.cmpL (ks.drop i) (ks'.drop i)=IT.cmpL ks ks'∧H'=H) ks.length ?_ ?_
 ·intro _;exact⟨0,by omega,by omega,rfl,by simp,rfl⟩
 ·rintro q t8 H' ⟨i,hi,rfl,rfl,ho,rfl⟩ hsc am aM Kb au;by_cases ak:i<ks.length
  ·have aG:i<ks'.length:=by omega
   have aS:¬ ks'.length≤i:=by omega
   rw[IT.cmpL_drop ak aG]at ho;simp[zsJ,ak,aG,aS];refine hc i ak aG _ _ ?_;by_cases hz:IT.cmp ks[i] ks'[i]=0
   ·rw[zps hz]at ho;simp[hz];rw[zaw (by omega) (by omega)];refine au _ _ ⟨ks.length-(i+1),by omega,Back.same (Nat.le_refl _) hs ?_ ⟨_,rfl,i+1,by omega,rfl,by simp,ho,rfl⟩⟩;simp[zlN,AV.sc,AV.scV,AV.scA,AV.scB]
   ·rw[zjf hz]at ho;have hz:(IT.cmp ks[i] ks'[i] != 0)=true:=by simpa using hz
    simp[hz];rw[←ho]at hK;exact Out.same rfl hs rfl rfl hK
  ·have cc:¬ ks.length<ks'.length:=by omega
   simp[zsJ,ak,cc];obtain rfl:i=ks.length:=by omega
   rw[List.drop_length,he,List.drop_length]at ho;rw[←ho]at hK;exact zfD hs rfl rfl hK
theorem zG4:∀ (m:Nat) (v w:IT),v.nodes≤m→v.nodes≤1000000→∀ (H:zaa) (K:AV→zaa→Prop),K (.int .i64 (IT.cmp v w)) H→ACalls tP zgv [.agg v.cs,.agg w.cs] H K:=by
 intro m;induction m with
 | zero=>intro v w h;have:=v.nodes_pos;omega
 | succ m ih=>
  intro v w hv hb H K hK;obtain⟨n,ks⟩:=v;obtain⟨n',ks'⟩:=w;have cc:IT.nodesL ks+1≤1000000:=by simpa[IT.nodes]using hb
  have bm:=IT.len_le ks;refine ACalls.out (zWV λhs=>?_);simp[IT.cs,zEL];refine zaB _ (λJ=>zw8 _ _ _ _ ⟨rfl,rfl⟩) ?_;refine zaB _ (λJ=>zw8 _ _ _ _ ⟨rfl,rfl⟩) ?_;simp[zau,zaQ,plain,List.replicate];refine zaB _ (λJ=>zHS [icmp n n',icmp ks.length ks'.length] _ (by simp) _ _ ⟨rfl,rfl⟩) ?_;by_cases hz:orL [icmp n n',icmp ks.length ks'.length]=0
  ·have g7:=hz;simp only[orL,zhi]at hz;have am:ks.length=ks'.length:=by have:=(zjj _ _).mp hz.2.1;omega
   simp[g7];refine zGl ks ks' am (by omega) (λi h h' H K hK=>?_) _ _ ?_
   ·have:=IT.kid_lt (n:=n) h;exact ih _ _ (by omega) (by omega) H K hK
   ·refine Out.same rfl hs rfl rfl ?_;simpa[IT.cmp,hz,cor]using hK
  ·have ku:(orL [icmp n n',icmp ks.length ks'.length] != 0)=true:=by simpa using hz
   simp[ku];refine Out.same rfl hs rfl rfl ?_;have e:IT.cmp (.mk n ks) (.mk n' ks')=orL [icmp n n',icmp ks.length ks'.length]:=by simp only[IT.cmp,orL,cor]at hz ⊢;split <;> (try split) <;> (try split) <;> simp_all
   rwa [e]at hK
theorem zyD (b:Bool) (H:zaa) (K:AV→zaa→Prop) (hK:K (.int .i64 (if b then -1 else 1)) H):ACalls tP zjD [.bool b] H K:=by refine ACalls.out (zN9 λhs=>?_);have hO:=zfD (K:=K) (H:=H) (r:=.int .i64 (if b then -1 else 1)) hs rfl rfl hK;cases b <;> simp[zBD] <;> simpa using hO
theorem zFW (ks ks':List IT) (hb:ks.length≤1000000)
  (hc:∀ (i:Nat) (h:i<ks.length) (h':i<ks'.length) (H:zaa) (K:AV→zaa→Prop),K (.int .i64 (IT.cmp ks[i] ks'[i])) H→ACalls tP zgn [.agg ks[i].cs,.agg ks'[i].cs] H K)
  (H:zaa) (K:AV→zaa→Prop) (hK:K (.int .i64 (cor (icmp ks.length ks'.length) (IT.cmpL ks ks'))) H):ACalls tP zqq [.sl (IT.css ks) .none,.sl (IT.css ks') .none] H K:=by
 refine ACalls.out (zOe λhs=>?_);have fin:=zfD (K:=K) (H:=H) (r:=.int .i64 (cor (icmp ks.length ks'.length) (IT.cmpL ks ks'))) hs rfl rfl hK;by_cases he:ks.length=ks'.length
 ·have e:cor (icmp ks.length ks'.length) (IT.cmpL ks ks')=IT.cmpL ks ks':=by simp[he,zxI,cor]
  rw[e]at fin;simp[zs5,he];refine zOc (Inv:=λq t13 H'=>∃ i:Nat,i≤ks.length∧q=ks.length-i∧t13=.int .i64 i∧IT.cmpL (ks.drop i) (ks'.drop i)=IT.cmpL ks ks'∧H'=H) ks.length ?_ ?_
  ·intro _;exact⟨0,by omega,by omega,rfl,by simp,rfl⟩
  ·rintro q t8 H' ⟨i,hi,rfl,rfl,ho,rfl⟩ hsc am aM Kb au;by_cases ak:i<ks.length
   ·have aG:i<ks'.length:=by omega
    rw[IT.cmpL_drop ak aG]at ho;simp[zs6,ak,aG];refine zaB _ (λJ=>hc i ak aG _ _ ⟨rfl,rfl⟩) ?_;by_cases hz:IT.cmp ks[i] ks'[i]=0
    ·rw[zps hz]at ho;simp[hz];rw[zaw (by omega) (by omega)];refine au _ _ ⟨ks.length-(i+1),by omega,Back.here (Nat.le_refl _) hs ?_ ⟨_,rfl,i+1,by omega,rfl,by simp,ho,rfl⟩⟩;simp[zmc,AV.sc,AV.scV,AV.scA,AV.scB]
    ·rw[zjf hz]at ho;have hz:(IT.cmp ks[i] ks'[i] != 0)=true:=by simpa using hz
     simp[hz];rw[ho];exact fin
   ·have aG:¬ i<ks'.length:=by omega
    simp[zs6,ak,aG];obtain rfl:i=ks.length:=by omega
    rw[List.drop_length,he,List.drop_length]at ho;simp only[IT.cmpL]at ho;rw[←ho]at fin;exact fin
 ·have hb:((ks.length:Int) != ks'.length)=true:=by simp;omega
  simp[zs5,hb];refine zyD _ _ _ ?_;have e:cor (icmp ks.length ks'.length) (IT.cmpL ks ks')=if decide (ks.length<ks'.length)=true then -1 else 1:=by rw[zxH (by omega),zjf (by split <;> omega)];simp
  rw[e]at fin;exact fin
theorem zyZ:∀ (m:Nat) (v w:IT),v.nodes≤m→v.nodes≤1000000→∀ (H:zaa) (K:AV→zaa→Prop),K (.int .i64 (IT.cmp v w)) H→ACalls tP zgn [.agg v.cs,.agg w.cs] H K:=by
 intro m;induction m with
 | zero=>intro v w h;have:=v.nodes_pos;omega
 | succ m ih=>
  intro v w hv hb H K hK;obtain⟨n,ks⟩:=v;obtain⟨n',ks'⟩:=w;have cc:IT.nodesL ks+1≤1000000:=by simpa[IT.nodes]using hb
  have bm:=IT.len_le ks;refine ACalls.out (zLu λhs=>?_);have fin:∀ J,Out H.length K (.int .i64 (IT.cmp (.mk n ks) (.mk n' ks'))) (H++J):=λJ=>Out.same rfl hs rfl rfl hK;by_cases h2:n=n'
  ·subst h2;simp[IT.cs,zsk];have e:IT.cmp (.mk n ks) (.mk n ks')=cor (icmp ks.length ks'.length) (IT.cmpL ks ks'):=by simp[IT.cmp,zxI,cor]
   rw[e]at fin;refine zFW ks ks' (by omega) (λi h h' H K hK=>?_) _ _ (fin _);have:=IT.kid_lt (n:=n) h;exact ih _ _ (by omega) (by omega) H K hK
  ·have hb:(n != n')=true:=by simpa using h2
   simp[IT.cs,zsk,hb];refine zyD _ _ _ ?_;have e:IT.cmp (.mk n ks) (.mk n' ks')=if decide (n<n')=true then -1 else 1:=by simp only[IT.cmp,cor];rw[zxH h2];split <;> simp <;> omega
   rw[e]at fin;exact fin _
section
open Go.Proofs (sortWorld ltOf CmpLays1)
open Go.RowKit
open Go.Sort (grow putRow putCells mapBlock onCells ahead SWO PermIn SortedIn Holds)
variable {P:Program} {B:Nat} {w:World} {G:Gh} {H:zaa}
theorem zGW {W w':World} (hd:W.drawn≤w'.drawn) (hb:Below W.heap.size W w'):∃ q os,w'=grow (W.drewN q) os:=by
 refine⟨w'.drawn-W.drawn,w'.heap.extract W.heap.size w'.heap.size,?_⟩;obtain⟨h1,h2,h3,h4,h5⟩:=hb;obtain⟨heap,tape,drawn,os,output⟩:=W;obtain⟨e5,tape',drawn',os',output'⟩:=w';simp only at *;subst h1 h2 h3;have e1:e5=heap++e5.extract heap.size e5.size:=by
  refine Array.ext_getElem? λi=>?_;by_cases hi:i<heap.size
  ·rw[Array.getElem?_append_left hi,h5 i hi]
  ·rw[Array.getElem?_append_right (by omega),Array.getElem?_extract];by_cases h:i<e5.size
   ·rw[if_pos (by omega),show heap.size+(i-heap.size)=i by omega]
   ·rw[if_neg (by omega),Array.getElem?_eq_none (by omega)]
 have e2:drawn'=drawn+(drawn'-drawn):=by omega
 simp only[grow,World.drewN];rw[←e1,←e2]
theorem HRel.alone (h:HRel B w G H) (o:Obj):Ext B w G (w.alloc o) G∧HRel B (w.alloc o) G H:=by have he:=Ext.alloc h o G.L (λ_ _=>rfl) [];simp only[List.append_nil]at he;refine⟨he,h.keep he rfl (λid gi b h1 h2=>⟨zcN (h.lt id gi b h1 h2),rfl⟩) (λb hb=>?_)⟩;rw[zb7]at hb;exact h.fresh b (by omega)
theorem HRel.grown:∀ (os:List Obj) {w:World},HRel B w G H→Ext B w G (grow w os.toArray) G∧HRel B (grow w os.toArray) G H
 | [],w,h=>by
  have:grow w #[]=w:=by simp[grow]
  rw[show ([]:List Obj).toArray=#[] from rfl,this];exact⟨Ext.refl _ _ _,h⟩
 | o::l,w,h=>by
  obtain⟨h1,h2⟩:=h.alone o;obtain⟨h3,h4⟩:=HRel.grown l h2;have:grow w (o::l).toArray=grow (w.alloc o) l.toArray:=by rw[Go.Sort.alloc_eq_grow,Go.Sort.grow_grow];simp
  rw[this];exact⟨h1.trans h3,h4⟩
theorem zIe {α:Type} [Inhabited α] (vals:α→Value) (d:Array α) (cur:Array Value) (h:d.size≤cur.size):(putCells vals 0 d cur).toList.take d.size=d.toList.map vals:=by refine List.ext_getElem (by simp[putCells];omega) λi h1 h2=>?_;simp at h2;simp[putCells,h2]
def Lx (w:World) (G:Gh) (blk b:Nat):Nat:=if b=blk then 0 else max (G.L b) (zct w b)
def Rd (H:zaa) (id0:Nat) (a:AV) (row:List (List AV)):Prop:=
 a=.sl row .none ∨
 (∃ id off len cap size cs,a=.ms id off len cap∧H[id]?=some (.cells cs)∧off+len*size≤cs.length∧plain ((cs.drop off).take (len*size))=some row.flatten∧row.length=len∧(∀ c∈row,c.length=size)∧len≤cap) ∨
 (∃ id e size m cs,a=.ov id m∧id≠id0∧H[id]?=some (.vec e size m cs)∧plain cs=some row.flatten∧row.length=m∧∀ c∈row,c.length=size)
theorem Rd.rel (h:HRel B w G H) {id e n g cap:Nat} {cs:List AV} (hH:H[id]?=some (.vec e 1 n cs)) (hμ:G.μ[id]?=some (.own (.slice (some ⟨g,0,none⟩) n cap) 1 n)) {a:AV} {row:List (List AV)} (hr:Rd H id a row) {v:Value} (hv:ARel w G v a) :
  DRel w (Lx w G g) v (.sl row .none):=by
 obtain⟨_,_,_,eO⟩:=h.ok id _ _ hH hμ;have fg:G.L g=0:=eO g rfl;have hlev:∀ b,G.L b≤Lx w G g b:=λb=>by
  unfold Lx;split
  ·rename_i hb;rw[hb,fg];exact Nat.le_refl _
  ·exact Nat.le_max_left _ _
 have bY:∀ {v:Value} {a:AV},DRel w G.L v a→DRel w (Lx w G g) v a:=λh=>h.mono hlev λ_ _ _=>rfl;rcases hr with rfl | ⟨i2,off,len,cap2,size,cs2,rfl,cE,bc,hp,am,aD,aL⟩ | ⟨i2,e2,size,m,cs2,rfl,aB,cE,hp,am,aD⟩
 ·exact bY hv
 ·obtain⟨b,hb,rfl⟩:=hv;obtain⟨_,_,vs,_,hw,aN⟩:=h.ok i2 _ _ cE hb;have cW:b≠g:=λcW=>by have:=h.dist i2 id _ _ b hb hμ rfl (by rw[cW];rfl);subst this;rw[hH]at cE;cases cE
  subst am;by_cases aZ:row=[]
  ·subst aZ;exact .slE _ _
  ·have hl:=aN.length;refine DRel.of_flat_at (zs:=(vs.toList.drop off).take (row.length*size)) aD aZ aL ?_ ((zdB ((aN.drop off).take _) hp).mono λ_ _=>bY) ?_
   ·unfold Lx;rw[if_neg cW];refine Nat.le_trans ?_ (Nat.le_max_right _ _);simp[zct,hw];simp at hl;omega
   ·intro j u hj;rw[List.getElem?_take]at hj;split at hj
    ·simp only[World.cell?,hw];simpa using hj
    ·cases hj
 ·obtain⟨⟨a,cap0,rfl,_⟩,v',s0,n',hμ2,_,heq⟩:=hv;obtain⟨rfl,rfl,⟨xs,ar,aN⟩,_⟩:=h.ok i2 _ _ cE hμ2;obtain rfl:=heq rfl;subst am;by_cases aZ:row=[]
  ·subst aZ;exact .slE _ _
  ·have bX:=ar;obtain⟨hl,bi⟩:=bX;rcases bi with ⟨h1,h2⟩ | ⟨g2,cap2,cur,h1,h2,h3,h4,h5,h6,h7⟩
   ·cases row <;> simp_all
   ·simp at h1;obtain⟨rfl,rfl⟩:=h1;obtain⟨_,_,_,aH⟩:=zdA ar;have cW:g2≠g:=λcW=>aB (h.dist i2 id _ _ g2 hμ2 hμ rfl (by rw[cW];rfl));refine DRel.of_flat_at (zs:=xs) aD aZ h4 ?_ ((zdB aN hp).mono λ_ _=>bY) ?_
    ·unfold Lx;rw[if_neg cW];refine Nat.le_trans ?_ (Nat.le_max_right _ _);simp only[zct,h3,h6,Nat.zero_add];exact Nat.mul_le_mul_right _ h4
    ·intro j u hj;rw[Nat.zero_add,aH j (by rw[←hl];exact (List.getElem?_eq_some_iff.1 hj).1)];exact hj
theorem zxr {α:Type} (d:Array α) {k:Nat} (h:d.size=k):d.extract 0 k=d:=by subst h;exact Array.extract_size
theorem zHH (n:Nat):((Array.ofFn λi:Fin n=>i).toList.map Fin.val)=List.range n:=
 List.ext_getElem (by simp) λi h1 h2=>by simp only[List.getElem_map,Array.getElem_toList,Array.getElem_ofFn,List.getElem_range]
theorem zI0 {α:Type} [Inhabited α] (vals:α→Value) (w:World) (g m:Nat) (d:Array α) (os:Array Obj):w.heap.size≤(sortWorld vals w g 0 m d os).heap.size:=by unfold sortWorld;simp[grow]
theorem zIZ {α:Type} [Inhabited α] (vals:α→Value) (w:World) (g m:Nat) (d:Array α) (os:Array Obj) (a:Addr) (h1:a.block≠g) (h2:a.block<w.heap.size):(sortWorld vals w g 0 m d os).cell? a=w.cell? a:=by unfold sortWorld;rw[Go.Sort.cell?_grow _ _ _ (by rw[Go.Sort.size_putRow];exact h2),Go.Sort.cell?_putRow_other vals _ g 0 d a (Or.inl h1)];rfl
end
section
open Go.RowKit
variable {P:Program} {B:Nat} {w:World} {G:Gh} {H:zaa}
def Lmx (w:World) (G:Gh) (b:Nat):Nat:=Nat.max (G.L b) (zct w b)
inductive RdA (H:zaa):AV→AV→Prop
 | sl (es:List (List AV)):RdA H (.sl es .none) (.sl es .none)
 | int (k:IntKind) (n:Int):RdA H (.int k n) (.int k n)
 | bool (b:Bool):RdA H (.bool b) (.bool b)
 | str (s:List UInt8):RdA H (.str s) (.str s)
 | ms (id off len cap size:Nat) (cs:List AV) (row:List (List AV)) (hH:H[id]?=some (.cells cs)) (bc:off+len*size≤cs.length) (hp:plain ((cs.drop off).take (len*size))=some row.flatten) (am:row.length=len)
   (aD:∀ c∈row,c.length=size) (aL:len≤cap):RdA H (.ms id off len cap) (.sl row .none)
 | ov (id e size m:Nat) (cs:List AV) (row:List (List AV)) (hH:H[id]?=some (.vec e size m cs)) (hp:plain cs=some row.flatten) (am:row.length=m) (aD:∀ c∈row,c.length=size):RdA H (.ov id m) (.sl row .none)
theorem RdA.rel (h:HRel B w G H) {a b:AV} (hr:RdA H a b) {v:Value} (hv:ARel w G v a):DRel w (Lmx w G) v b:=by
 have bY:∀ {v:Value} {a:AV},DRel w G.L v a→DRel w (Lmx w G) v a:=λh=>h.mono (λb=>Nat.le_max_left _ _) λ_ _ _=>rfl;cases hr with
 | sl es=>exact bY hv
 | int k n=>have hv:v=.int k n:=hv;subst hv;exact .int k n
 | bool b=>have hv:v=.bool b:=hv;subst hv;exact .bool b
 | str s=>have hv:v=.string ⟨s.toArray⟩:=hv;subst hv;exact .str s
 | ms i2 off len cap2 size cs2 row cE bc hp am aD aL=>
  obtain⟨b,hb,rfl⟩:=hv;obtain⟨_,_,vs,_,hw,aN⟩:=h.ok i2 _ _ cE hb;subst am;by_cases aZ:row=[]
  ·subst aZ;exact .slE _ _
  ·have hl:=aN.length;refine DRel.of_flat_at (zs:=(vs.toList.drop off).take (row.length*size)) aD aZ aL ?_ ((zdB ((aN.drop off).take _) hp).mono λ_ _=>bY) ?_
   ·refine Nat.le_trans ?_ (Nat.le_max_right _ _);simp[zct,hw];simp at hl;omega
   ·intro j u hj;rw[List.getElem?_take]at hj;split at hj
    ·simp only[World.cell?,hw];simpa using hj
    ·cases hj
 | ov i2 e2 size m cs2 row cE hp am aD=>
  obtain⟨⟨a,cap0,rfl,_⟩,v',s0,n',hμ2,_,heq⟩:=hv;obtain⟨rfl,rfl,⟨xs,ar,aN⟩,_⟩:=h.ok i2 _ _ cE hμ2;obtain rfl:=heq rfl;subst am;by_cases aZ:row=[]
  ·subst aZ;exact .slE _ _
  ·have bX:=ar;obtain⟨hl,bi⟩:=bX;rcases bi with ⟨h1,h2⟩ | ⟨g2,cap2,cur,h1,h2,h3,h4,h5,h6,h7⟩
   ·cases row <;> simp_all
   ·simp at h1;obtain⟨rfl,rfl⟩:=h1;obtain⟨_,_,_,aH⟩:=zdA ar;refine DRel.of_flat_at (zs:=xs) aD aZ h4 ?_ ((zdB aN hp).mono λ_ _=>bY) ?_
    ·refine Nat.le_trans ?_ (Nat.le_max_right _ _);simp only[zct,h3,h6,Nat.zero_add];exact Nat.mul_le_mul_right _ h4
    ·intro j u hj;rw[Nat.zero_add,aH j (by rw[←hl];exact (List.getElem?_eq_some_iff.1 hj).1)];exact hj
theorem RdA.trel (h:HRel B w G H) {a b:AV} (hr:RdA H a b) {v:Value} (hv:ARel w G v a):ARel w ⟨Lmx w G,[]⟩ v b:=by
 have hd:=hr.rel h hv;cases hr with
 | sl es=>exact hd
 | int k n=>exact hv
 | bool b=>exact hv
 | str s=>exact hv
 | ms i2 off len cap2 size cs2 row cE bc hp am aD aL=>exact hd
 | ov i2 e2 size m cs2 row cE hp am aD=>exact hd
inductive RdT (H:zaa):AV→AV→Prop
 | one {a b:AV} (h:RdA H a b):RdT H a b
 | agg {asx bs:List AV} (h:All2 (RdA H) asx bs):RdT H (.agg asx) (.agg bs)
theorem RdT.rel (h:HRel B w G H) {a b:AV} (hr:RdT H a b) {v:Value} (hv:TRel w G v a):TRel w ⟨Lmx w G,[]⟩ v b:=by
 cases hr with
 | one hr=>
  have bK:ARel w G v a:=by cases hr <;> exact hv
  exact TRel.of_v (VRel.of_a (hr.trel h bK))
 | agg hr=>
  obtain⟨us,hu,hv⟩:=hv;refine⟨us,hu,?_⟩;exact All2.of_get (hv.length.trans hr.length) λi x y hx hy=>by obtain⟨a,ha,eZ⟩:=All2.get' hv hx;obtain⟨y',dQ,hY⟩:=All2.get' hr ha;rw[hy]at dQ;cases dQ;exact hY.trel h eZ
end
def zaH:IT→List IT
 | .mk _ ks=>ks
mutual
theorem zKg:∀ t:VT,(zdG t).nodes≤t.nodes
 | .mk k n ks=>by
  have:=zAv ks;simp only[zdG,VT.nodes,IT.nodes];split
  ·omega
  ·simp[IT.nodesL]
theorem zAv:∀ ts:List VT,IT.nodesL (zcK ts)≤VT.nodesL ts
 | []=>by simp[zcK,IT.nodesL,VT.nodesL]
 | t::ts=>by have:=zKg t;have:=zAv ts;simp only[zcK,IT.nodesL,VT.nodesL];omega
end
def d0:IT:=.mk 0 []
def tz:VT:=.mk 0 0 []
theorem zid {aa:List Dat} (m n:Int) (kk:List IT) (ks:List VT):rdV aa (.mk m kk) (.mk 5 n ks)=if m=0∧kk.length≤6 then rdE aa kk (.mk 5 n ks) 0 else -1:=by simp[rdV,VT.kind]
mutual
theorem zKh {aa:List Dat}:∀ x:VT,rdV aa (zdG x) x=0
 | .mk k n ks=>by
  have hA:=zAw (aa:=aa) ks 0 (by omega) (by omega);by_cases h6:k=6
  ·subst h6;have:rdV aa (zdG (.mk 6 n ks)) (.mk 6 n ks)=rdA aa (zcK ks) ks 0:=by simp[zdG,rdV,VT.kind,VT.kids,zAu]
   rw[this,hA]
  ·by_cases h7:k=7
   ·subst h7;simp[zdG,rdV,VT.kind]
   ·by_cases h5:k=5
    ·subst h5;simp[zdG,rdV,VT.kind,rdE]
    ·simp[zdG,rdV,VT.kind,h6,h7,h5]
theorem zAw {aa:List Dat}:∀ (ts:List VT) (a:Int),0≤a→a≤6→rdA aa (zcK ts) ts a=a
 | [],a,_,_=>by simp only[zcK,rdA]
 | t::ts,a,h,h6=>by have h1:=zKh (aa:=aa) t;rw[zcK,zyX,h1,if_neg (by omega),Int.add_zero,zAw ts a h h6]
end
theorem zkv {aa:List Dat} (h8:∀ D∈aa,D.cons.length≤8) (t:VT):∀ (rs:List (List IT)) (a:Int),0≤a→a≤6→0≤rdE aa rs.flatten t a→(∀ r∈rs,0≤rdE aa r t 0)∧rdE aa rs.flatten t a=a+(rs.map λr=>rdE aa r t 0).sum
 | [],a,h,h6,_=>by simp only[List.flatten_nil,rdE];simp
 | r::rs,a,h,h6,hd=>by
  rw[List.flatten_cons,zrk h8 _ _ _ _ h h6,zkt r t a h h6]at hd ⊢;by_cases hr:rdE aa r t 0<0∨a+rdE aa r t 0>6
  ·rw[zdb hr]at hd;simp at hd
  ·rw[zfi (by omega) (by omega)]at hd ⊢;rw[if_neg (by omega)]at hd ⊢;obtain⟨g1,g2⟩:=zkv h8 t rs _ (by omega) (by omega) hd;refine⟨λx hx=>?_,by rw[g2];simp;omega⟩;rcases List.mem_cons.1 hx with rfl | hx
   ·omega
   ·exact g1 x hx
theorem zeZ {aa:List Dat}:∀ (vs:List IT) (ts:List VT) (a:Int),0≤a→vs.length=ts.length→0≤rdA aa vs ts a→(∀ k (h1:k<vs.length) (h2:k<ts.length),0≤rdV aa vs[k] ts[k])∧rdA aa vs ts a=a+(List.zipWith (rdV aa) vs ts).sum
 | [],[],a,h,_,_=>by simp only[rdA];simp
 | [],_::_,_,_,hl,_=>by simp at hl
 | _::_,[],_,_,hl,_=>by simp at hl
 | v::vs,t::ts,a,h,hl,hd=>by
  rw[zyX]at hd ⊢;by_cases hr:rdV aa v t<0∨a+rdV aa v t>6
  ·rw[if_pos hr]at hd;omega
  ·rw[if_neg hr]at hd ⊢;obtain⟨g1,g2⟩:=zeZ vs ts _ (by omega) (by simpa using hl) hd;refine⟨λk h1 h2=>?_,by rw[g2];simp;omega⟩;cases k with
   | zero=>simp;omega
   | succ k=>simpa using g1 k (by simpa using h1) (by simpa using h2)
def zcz {α:Type}:List (α→Nat)→List α→Nat
 | [],_=>1
 | _::_,[]=>0
 | w::ws,n::ns=>w n*zcz ws ns+zcz (w::ws) ns
def zfM (l:List Nat):Nat:=l.foldr (·+·) 0
@[simp] theorem yb9:zfM []=0:=rfl
@[simp] theorem zzQ (a:Nat) (l:List Nat):zfM (a::l)=a+zfM l:=rfl
theorem zIG {α:Type} (ws:List (α→Nat)) (a:α) (l:List α):zcz ws l≤zcz ws (a::l):=by cases ws <;> simp[zcz]
theorem zzk {α:Type} (w:α→Nat) (ws:List (α→Nat)):∀ l:List α,zcz (w::ws) l≤zfM (l.map w)*zcz ws l
 | []=>by simp[zcz]
 | a::l=>by have ih:=zzk w ws l;have h1:=zIG ws a l;simp only[zcz,List.map_cons,zzQ,Nat.add_mul];have h2:w a*zcz ws l≤w a*zcz ws (a::l):=Nat.mul_le_mul_left _ h1;have h3:zfM (l.map w)*zcz ws l≤zfM (l.map w)*zcz ws (a::l):=Nat.mul_le_mul_left _ h1;omega
theorem zzR {α:Type} {w:α→Nat} {b:Nat}:∀ l:List α,(∀ a∈l,w a≤b)→zfM (l.map w)≤l.length*b
 | [],_=>by simp
 | a::l,h=>by have h1:=h a (by simp);have h2:=zzR l (λx hx=>h x (by simp[hx]));simp only[List.map_cons,zzQ,List.length_cons,Nat.succ_mul];omega
def chs:Nat→Nat→Nat
 | _,0=>1
 | 0,_+1=>0
 | n+1,k+1=>chs n k+chs n (k+1)
@[simp] theorem zGk (n:Nat):chs n 0=1:=by cases n <;> rfl
theorem zhh:∀ {n k:Nat},n<k→chs n k=0
 | 0,k+1,_=>rfl
 | n+1,k+1,h=>by rw[chs,zhh (by omega),zhh (by omega)]
theorem zje:∀ (n k:Nat),(k+1)*chs n (k+1)=chs n k*(n-k)
 | 0,k=>by simp[chs]
 | n+1,0=>by have:=zje n 0;simp only[chs,zGk]at this ⊢;omega
 | n+1,k+1=>by
  have h1:=zje n k;have h2:=zje n (k+1);simp only[chs];rw[show n+1-(k+1)=n-k by omega];by_cases hk:k+1≤n
  ·obtain⟨m,rfl⟩:∃ m,n=k+1+m:=⟨n-(k+1),by omega⟩;rw[show k+1+m-k=m+1 by omega]at h1 ⊢;rw[show k+1+m-(k+1)=m by omega]at h2;grind
  ·rw[zhh (show n<k+1 by omega),zhh (show n<k+1+1 by omega),show n-k=0 by omega];simp
theorem zjd:∀ (n k:Nat),chs n k≤n ^ k
 | n,0=>by simp
 | 0,k+1=>by simp[chs]
 | n+1,k+1=>by have h1:=zjd n k;have h2:=zjd n (k+1);have h3:n ^ k≤(n+1) ^ k:=Nat.pow_le_pow_left (by omega) k;simp only[chs,Nat.pow_succ]at h2 ⊢;have h4:n ^ k*n≤(n+1) ^ k*n:=Nat.mul_le_mul_right _ h3;rw[Nat.mul_add];omega
mutual
def atV (aa:List Dat):IT→VT→VT→Nat
 | .mk n ks,t,v=>
  if t.kind=6 then atL aa ks t.kids v.kids
  else if t.kind=7 then chs v.kids.length n.toNat
  else if t.kind=5 then zcz (wtL aa ks t) (zfE (zdT aa t.num.toNat) v)
  else 1
def atL (aa:List Dat):List IT→List VT→List VT→Nat
 | [],_,_=>1
 | i::l,ts,vs=>match ts,vs with
  | t::ts,v::vs=>atV aa i t v*atL aa l ts vs
  | _,_=>1
def wtL (aa:List Dat):List IT→VT→List (VT→Nat)
 | [],_=>[]
 | e::es,t=>wtE aa e t::wtL aa es t
def wtE (aa:List Dat):IT→VT→VT→Nat
 | .mk c ks,t,n=>if n.num=c then atL aa ks ((za9 aa t c).getD []) (pick n.kids ((zdT aa t.num.toNat).getD c.toNat [])) else 0
end
mutual
theorem zF4 (aa:List Dat):∀ (t v:VT),atV aa (zdG t) t v=1
 | .mk k n ks,v=>by
  have:=zwM aa ks v.kids;unfold zdG;rw[atV];by_cases h6:k=6
  ·simp[h6,VT.kind,VT.kids];simpa[VT.kids]using this
  ·by_cases h7:k=7
   ·simp[h6,h7,VT.kind,VT.kids]
   ·simp only[h6,VT.kind,if_false,h7];split <;> simp[wtL,zcz]
theorem zwM (aa:List Dat):∀ (ts vs:List VT),atL aa (zcK ts) ts vs=1
 | [],vs=>by simp[zcK,atL]
 | t::ts,[]=>by simp[zcK,atL]
 | t::ts,v::vs=>by simp[zcK,atL,zF4 aa t v,zwM aa ts vs]
end
@[simp] theorem yaN (k:AV→Prop):zaF [] k=k (.tup []):=by simp[zaF]
theorem zJ0 {n:Nat} {H2 J H':zaa} {K:Kt} (he:H'=H2++J) (hn:n≤H2.length) (hs:HSc H2) (h:K (.tup []) H2):Out n K (.tup []) H':=by subst he;exact⟨.tup [],H2,J,rfl,hn,hs,.tup trivial,h⟩
def pw (H:zaa) (io iv:Nat) (l:List VT):zaa:=(H.set iv (.vec zGJ 3 l.length (VT.css l).flatten)).set io (.cells [.ov iv l.length])
section
variable {H J:zaa} {io iv ir is:Nat} {rs:List (List Bool)} {l l':List VT}
@[simp] theorem ybM:(pw H io iv l).length=H.length:=by simp[pw]
end
theorem zkr:∀ {a b c d:List AV},plain a=some c→plain b=some d→plain (a++b)=some (c++d)
 | [],b,c,d,h,h'=>by simp[plain]at h;subst h;simpa using h'
 | x::a,b,c,d,h,h'=>by
  simp only[plain]at h;split at h
  ·rename_i p q hp hq;cases h;simp only[List.cons_append,plain];rw[hp,zkr hq h']
  ·cases h
section
variable (t0 t1 t12 t13:AV) (H:zaa) (K:Kt) (Kb4:Lt)
def zRn (_:Nat):List Bool:=[]
noncomputable def zRo:Code:=Tryz.f21.body.getD .skip
def zCG:Prop:=zat t0 H λt2 H=>zat t1 H λt3 H=>zaf 0 t2 λt5=>zae false 1 t5 H λt6=>zaf 0 t3 λt7=>zae false 1 t7 H λt8=>zac .eql true t6 t8 λt9=>zad t9 true H (λK'=>zaf 1 t2 (K' · H)) λt11 H=>zad t9 true H (λK'=>zae false 1 t11 H (K' · H)) λt12 H=>zad t9 true H (λK'=>zaf 1 t3 (K' · H)) λt13 H=>zad t9 true H (λK'=>zae false 1 t13 H (K' · H)) λt14 H=>zad t9 true H (λK'=>ACalls tP zj4 [t12,t14] H K') λt15 H=>zam t9 t15 (.bool false) λt16=>zad t16 true H (λK'=>zaf 2 t2 (K' · H)) λt18 H=>zad t16 true H (λK'=>zae false 1 t18 H (K' · H)) λt19 H=>zad t16 true H (λK'=>zaf 2 t3 (K' · H)) λt20 H=>zad t16 true H (λK'=>zae false 1 t20 H (K' · H)) λt21 H=>zad t16 true H (λK'=>ACalls tP zj4 [t19,t21] H K') λt22 H=>zam t16 t22 (.bool false) λt23=>K t23 H
def znU:Nat→List Bool | 4=>rl false [0,2,10,2,12] | _=>[]
noncomputable def zu4:Code:=Tryz.f55.body.getD .skip
noncomputable def zU7:List ResultVar:=Tryz.f55.results.toList
def znV:List AV:=t0::t1::ux 10 (t12::t13::ux 12 [])
def zU5:List Bool:=znU 4
noncomputable def zU3:Code:=zar [1,1,0,1,0,0] zu4
def zU2:AExit→List AV→zaa→Prop:=zas tP znU [1,1,0,1,0] zu4 (zaz tP zU7 K)
def zD6:Prop:=ALoop tP zU3 (zU2 K) (znV t0 t1 t12 t13) H
def zu3:Prop:=zac .lss false t13 t12 λt14=>zag t14 (zab H (λK'=>K' t0 H) λt16=>zab H (λK'=>K' t13 H) λt17=>zab H (λK'=>zak 1 t16 t17 (K' · H)) λt18=>zab H (λK'=>zaj false 1 t18 H (K' · H)) λt19=>zab H (λK'=>K' t1 H) λt20=>zab H (λK'=>K' t13 H) λt21=>zab H (λK'=>zak 1 t20 t21 (K' · H)) λt22=>zab H (λK'=>zaj false 1 t22 H (K' · H)) λt23=>zab H (λK'=>zac .neq false t19 t23 (K' · H)) λt24=>zag t24 (K (.bool false) H) (zac .add false t13 (.int .i64 1) λt25=>Kb4 (znV t0 t1 t12 t25) H)) (K (.bool true) H)
def zD5:Prop:=zah 1 t0 λt7=>zah 1 t1 λt9=>zac .neq false t7 t9 λt10=>zag t10 (K (.bool false) H) (zah 1 t0 λt12=>zD6 t0 t1 t12 (.int .i64 0) H K)
variable {t0 t1 t12 t13} {H} {K} {Kb4}
theorem zRp (h:HSc H→zCG t0 t1 H K):ACalls tP zjM [t0,t1] H K:=
 acb zRn Tryz.func21 zRo (by kernel_rfl) (by kernel_rfl) h
theorem zU4 (Inv:Nat→AV→zaa→Prop) (n:Nat) (h0:HSc H→Inv n t13 H)
  (ac:Rd1 (λt13=>znV t0 t1 t12 t13) (λt13=>λH Kb4=>zu3 t0 t1 t12 t13 H K Kb4) H Inv):zD6 t0 t1 t12 t13 H K:=
 lp1 (M:=znU) zU5 t13 (by kernel_rfl) Inv n h0 ac
theorem zU6 (h:HSc H→zD5 t0 t1 H K):ACalls tP zj4 [t0,t1] H K:=
 acb znU Tryz.func55 zu4 (by kernel_rfl) (by kernel_rfl) h
end
section
open Go.RowKit
theorem zId (rs:List (List Bool)) (b:Nat):∀ v:VT,v.nodes≤b→∀ x∈zfE rs v,x.nodes≤b:=by
 intro v;induction hm:v.nodes using Nat.strongRecOn generalizing v with
 | _ m ih=>
  intro hb x hx;obtain⟨k,n,ks⟩:=v;have key:∀ (l:List VT) (bs:List Bool),(∀ y∈l,y.nodes<m)→∀ x∈zd4 rs l bs,x.nodes≤b:=by
   intro l;induction l with
   | nil=>intro bs _ x hx;simp[zd4]at hx
   | cons y l ihl=>
    intro bs hy x hx
    match bs with
    | []=>simp[zd4]at hx
    | c::bs=>
     simp only[zd4,List.mem_append]at hx;rcases hx with hx | hx
     ·split at hx
      ·have h1:=hy y (by simp);exact ih _ h1 y rfl (by omega) x hx
      ·simp at hx
     ·exact ihl bs (λz hz=>hy z (by simp[hz])) x hx
  simp only[zfE,List.mem_cons]at hx;rcases hx with rfl | hx
  ·omega
  ·exact key ks _ (λy hy=>by have:=zjl (k:=k) (n:=n) y hy;omega) x hx
end
theorem zrj {aa:List Dat}:∀ (l:List IT) (ts:List VT) (a:Int),0≤a→0≤rdA aa l ts a→a≤rdA aa l ts a
 | [],ts,a,_,_=>by rw[rdA];exact Int.le_refl _
 | i::l,[],a,_,h=>by simp[rdA]at h
 | i::l,t::ts,a,ha,h=>by
  simp only[rdA]at h ⊢;by_cases hc:rdV aa i t<0∨a+rdV aa i t>6
  ·rw[if_pos hc]at h;omega
  ·rw[if_neg hc]at h ⊢;have:=zrj l ts _ (by omega) h;omega
mutual
theorem zwN {aa:List Dat} {N:Nat} (hN:1≤N):∀ (i:IT) (t v:VT),v.nodes≤N→0≤rdV aa i t→atV aa i t v≤N ^ (rdV aa i t).toNat
 | .mk n ks,t,v,hv,hd=>by
  have gY:∀ x∈v.kids,x.nodes≤N:=by obtain⟨a,b,c⟩:=v;intro x hx;simp only[VT.kids]at hx;have:=zjl (k:=a) (n:=b) x hx;omega
  rw[rdV]at hd ⊢;rw[atV];by_cases h6:t.kind=6
  ·simp only[h6,if_true]at hd ⊢;by_cases hn:n=0
   ·by_cases hl:t.kids.length=ks.length
    ·simp only[hn,hl,if_true]at hd ⊢;have:=zpg hN ks t.kids v.kids 0 (by omega) gY hd;simpa using this
    ·simp[hn,hl]at hd
   ·simp[hn]at hd
  ·by_cases h7:t.kind=7
   ·simp only[h6,h7,if_false,if_true]at hd ⊢;by_cases hc:0≤n∧n≤6∧ks.length=0
    ·simp only[hc,and_self,if_true]at hd ⊢;simp;refine Nat.le_trans (zjd _ _) (Nat.pow_le_pow_left ?_ _);obtain⟨a,b,c⟩:=v;have:=VT.len_le c;simp only[VT.kids,VT.nodes]at hv ⊢;omega
    ·rw[if_neg hc]at hd;omega
   ·by_cases h5:t.kind=5
    ·simp only[h6,h7,h5,if_false,if_true]at hd ⊢;by_cases hc:n=0∧ks.length≤6
     ·simp only[hc,and_self,if_true]at hd ⊢;have bH:=zyT (zdT aa t.num.toNat) v;have:=zzl hN ks t (zfE (zdT aa t.num.toNat) v) 0 (by omega) (by omega) (zId _ N v hv) hd;simpa using this
     ·rw[if_neg hc]at hd;omega
    ·simp only[h6,h7,h5,if_false]at hd ⊢;exact Nat.pow_pos hN
theorem zpg {aa:List Dat} {N:Nat} (hN:1≤N):∀ (l:List IT) (ts vs:List VT) (a:Int),0≤a→(∀ x∈vs,x.nodes≤N)→0≤rdA aa l ts a→atL aa l ts vs≤N ^ (rdA aa l ts a-a).toNat
 | [],ts,vs,a,_,_,_=>by rw[atL];exact Nat.pow_pos hN
 | i::l,[],vs,a,_,_,_=>by simp only[atL];exact Nat.pow_pos hN
 | i::l,t::ts,[],a,_,_,_=>by simp only[atL];exact Nat.pow_pos hN
 | i::l,t::ts,v::vs,a,ha,hv,hd=>by
  simp only[rdA]at hd ⊢;by_cases hc:rdV aa i t<0∨a+rdV aa i t>6
  ·rw[if_pos hc]at hd;omega
  ·rw[if_neg hc]at hd ⊢;have h1:=zwN (aa:=aa) hN i t v (hv v (by simp)) (by omega);have h2:=zpg hN l ts vs (a+rdV aa i t) (by omega) (λx hx=>hv x (by simp[hx])) hd;have cF:=(zrj l ts (a+rdV aa i t) (by omega) hd);simp only[atL];refine Nat.le_trans (Nat.mul_le_mul h1 h2) ?_;rw[←Nat.pow_add];exact Nat.pow_le_pow_right hN (by omega)
theorem zzl {aa:List Dat} {N:Nat} (hN:1≤N):∀ (es:List IT) (t:VT) (nodes:List VT) (a:Int),0≤a→nodes.length≤N→(∀ x∈nodes,x.nodes≤N)→0≤rdE aa es t a→zcz (wtL aa es t) nodes≤N ^ (rdE aa es t a-a).toNat
 | [],t,nodes,a,_,_,_,_=>by simp only[wtL,zcz];exact Nat.pow_pos hN
 | .mk c ks::es,t,nodes,a,ha,hl,hv,hd=>by
  rw[zew]at hd ⊢;by_cases hc:c<0∨8≤c
  ·rw[if_pos hc]at hd;omega
  ·rw[if_neg hc]at hd ⊢;cases hp:za9 aa t c with
   | none=>rw[hp]at hd;simp at hd
   | some ps=>
    rw[hp]at hd;simp only at hd ⊢;by_cases am:ps.length=ks.length
    ·rw[if_pos am]at hd ⊢;by_cases hx:rdA aa ks ps 0<0∨a+1+rdA aa ks ps 0>6
     ·rw[if_pos hx]at hd;omega
     ·rw[if_neg hx]at hd ⊢;have h2:=zzl hN es t nodes (a+(1+rdA aa ks ps 0)) (by omega) hl hv hd;have hw:∀ x∈nodes,wtE aa (.mk c ks) t x≤N ^ (rdA aa ks ps 0).toNat:=by
       intro x hxm;rw[wtE];split
       ·rw[hp];have hpk:∀ y∈pick x.kids ((zdT aa t.num.toNat).getD c.toNat []),y.nodes≤N:=by intro y hy;have h3:=hv x hxm;obtain⟨p,q,r⟩:=x;have dQ:y∈r:=zgz hy;have:=zjl (k:=p) (n:=q) y dQ;omega
        have:=zpg (aa:=aa) hN ks ps (pick x.kids ((zdT aa t.num.toNat).getD c.toNat [])) 0 (by omega) hpk (by omega);simpa using this
       ·exact Nat.zero_le _
      have h3:=zzk (wtE aa (.mk c ks) t) (wtL aa es t) nodes;have h4:=zzR nodes hw;have cF:rdE aa es t (a+(1+rdA aa ks ps 0))=-1∨(a+(1+rdA aa ks ps 0))+es.length≤rdE aa es t (a+(1+rdA aa ks ps 0)):=zku es t _ (by omega);rw[wtL];refine Nat.le_trans h3 (Nat.le_trans (Nat.mul_le_mul (Nat.le_trans h4 (Nat.mul_le_mul_right _ hl)) h2) ?_);rw[show N*N ^ (rdA aa ks ps 0).toNat=N ^ ((rdA aa ks ps 0).toNat+1) by rw[Nat.pow_succ,Nat.mul_comm],←Nat.pow_add];exact Nat.pow_le_pow_right hN (by omega)
    ·rw[if_neg am]at hd;omega
end
def zaS:IT→Int
 | .mk n _=>n
def bef (e i:IT):IT:=.mk 0 (e::zaH i)
def fct:Nat→Nat
 | 0=>1
 | n+1=>(n+1)*fct n
def pcf (a b k:Nat):Nat:=if max a b≤k then fct k / (fct (k-a)*fct (k-b)*fct (a+b-k)) else 0
def zaW (a b:Nat):List (IT × Nat):=(List.range (a+b+1)).map λ(k:Nat)=>(.mk (k:Int) [],pcf a b k)
def zbD (out:List (List IT × Nat)) (ws:List (IT × Nat)):List (List IT × Nat):=ws.flatMap λw=>out.map λr=>(r.1++[w.1],r.2*w.2)
mutual
def za8 (aa:List Dat):Nat→VT→IT→IT→List (IT × Nat)
 | 0,_,_,_=>[]
 | f+1,t,i,j=>if t.kind=6 then zaD [] ((zca aa f t.kids (zaH i) (zaH j)).map λr=>(.mk 0 r.1,r.2))
  else if t.kind=7 then zaD [] (zaW (zaS i).toNat (zaS j).toNat)
  else if t.kind=5 then zaD [] (zaP aa f t (zaH i) (zaH j)) else [(.mk 0 [],1)]
def zca (aa:List Dat):Nat→List VT→List IT→List IT→List (List IT × Nat)
 | 0,_,_,_=>[]
 | f+1,ts,l,m=>(List.range ts.length).foldl (λout k=>zbD out (za8 aa f (ts.getD k tz) (l.getD k d0) (m.getD k d0))) [([],1)]
def zaP (aa:List Dat):Nat→VT→List IT→List IT→List (IT × Nat)
 | 0,_,_,_=>[]
 | f+1,t,[],m=>[(.mk 0 m,1)]
 | f+1,t,a::l,[]=>[(.mk 0 (a::l),1)]
 | f+1,t,a::l,b::m=>
  if zaS a≠zaS b then zaD (zaD [] ((zaP aa f t l (b::m)).map λw=>(bef a w.1,w.2))) ((zaP aa f t (a::l) m).map λw=>(bef b w.1,w.2))
  else zaD (zaD (zaD [] ((zaP aa f t l (b::m)).map λw=>(bef a w.1,w.2))) ((zaP aa f t (a::l) m).map λw=>(bef b w.1,w.2)))
   ((zca aa f ((za9 aa t (zaS a)).getD []) (zaH a) (zaH b)).flatMap λr=>(zaP aa f t l m).map λw=>(bef (.mk (zaS a) r.1) w.1,r.2*w.2))
end
def zbd (g:List IT→Nat) (s:List (List IT × Nat)):Nat:=(s.map λr=>r.2*g r.1).foldr (·+·) 0
@[simp] theorem yca (g:List IT→Nat):zbd g []=0:=rfl
@[simp] theorem zfN (g:List IT→Nat) (r:List IT × Nat) (s:List (List IT × Nat)):zbd g (r::s)=r.2*g r.1+zbd g s:=rfl
theorem zio (g:List IT→Nat):∀ a b,zbd g (a++b)=zbd g a+zbd g b
 | [],b=>by simp
 | p::a,b=>by simp[zio g a b];omega
theorem zgI {β:Type} (f:IT→Nat) (h:β→IT × Nat):∀ l:List β,zaG f (l.map h)=(l.map λx=>(h x).2*f (h x).1).foldr (·+·) 0
 | []=>rfl
 | x::l=>by simp[zgI f h l]
theorem zim (f g:IT→Nat) (h:IT→IT) (c:Nat) (he:∀ x,f (h x)=c*g x):∀ l:List (IT × Nat),zaG f (l.map λw=>(h w.1,w.2))=c*zaG g l
 | []=>by simp
 | w::l=>by rw[List.map_cons,zc6,zc6,zim f g h c he l,he,Nat.mul_add];simp only[Nat.mul_comm,Nat.mul_left_comm,Nat.mul_assoc]
theorem zIq (g:List IT→Nat) (g':List IT→Nat) (u:IT→Nat) (ws:List (IT × Nat)) (out:List (List IT × Nat)) (h:∀ r∈out,∀ w∈ws,g (r.1++[w.1])=g' r.1*u w.1):zbd g (zbD out ws)=zbd g' out*zaG u ws:=by
 unfold zbD;induction ws with
 | nil=>simp
 | cons w ws ih=>
  rw[List.flatMap_cons,zio,ih (λr hr x hx=>h r hr x (by simp[hx])),zc6,Nat.mul_add];congr 1;have:∀ out:List (List IT × Nat),(∀ r∈out,g (r.1++[w.1])=g' r.1*u w.1)→zbd g (out.map λr=>(r.1++[w.1],r.2*w.2))=zbd g' out*(w.2*u w.1):=by
   intro out ho;induction out with
   | nil=>simp
   | cons r out ih=>rw[List.map_cons,zfN,zfN,ih (λx hx=>ho x (by simp[hx])),ho r (by simp),Nat.add_mul];grind
  exact this out (λr hr=>h r hr w (by simp))
theorem zy9 {out:List (List IT × Nat)} {ws:List (IT × Nat)} {x:List IT × Nat} (h:x∈zbD out ws):∃ r∈out,∃ w∈ws,x=(r.1++[w.1],r.2*w.2):=by unfold zbD at h;obtain⟨w,hw,h⟩:=List.mem_flatMap.1 h;obtain⟨r,hr,rfl⟩:=List.mem_map.1 h;exact⟨r,hr,w,hw,rfl⟩
def zbU (aa:List Dat) (f:Nat) (ts:List VT) (l m:List IT) (k:Nat):List (List IT × Nat):=(List.range k).foldl (λout k=>zbD out (za8 aa f (ts.getD k tz) (l.getD k d0) (m.getD k d0))) [([],1)]
theorem zif (aa:List Dat) (f:Nat) (ts:List VT) (l m:List IT):zbU aa f ts l m 0=[([],1)]:=rfl
theorem zgE (aa:List Dat) (f:Nat) (ts:List VT) (l m:List IT) (k:Nat):zbU aa f ts l m (k+1)=zbD (zbU aa f ts l m k) (za8 aa f (ts.getD k tz) (l.getD k d0) (m.getD k d0)):=by rw[zbU,List.range_succ,List.foldl_append];rfl
theorem zhH (aa:List Dat) (f:Nat) (ts:List VT) (l m:List IT):zca aa (f+1) ts l m=zbU aa f ts l m ts.length:=by rw[zca];rfl
theorem zy4 {aa:List Dat} {f:Nat} {ts:List VT} {l m:List IT}:∀ k,∀ r∈zbU aa f ts l m k,r.1.length=k:=by
 intro k;induction k with
 | zero=>intro r hr;simp[zif]at hr;subst hr;rfl
 | succ k ih=>intro r hr;rw[zgE]at hr;obtain⟨q,hq,w,_,rfl⟩:=zy9 hr;simp[ih q hq]
def zkG (K:Nat) (f:Nat→Nat):Nat:=((List.range K).map f).foldr (·+·) 0
end Go.Proofs.YtdmamdnkcefmmaaGreatDoor
