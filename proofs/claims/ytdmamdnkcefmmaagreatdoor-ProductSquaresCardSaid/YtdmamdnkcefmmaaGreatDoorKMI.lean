import Derived.Test.YtdmamdnkcefmmaaGreatDoorKNum
import Derived.Test.YtdmamdnkcefmmaaGreatDoorProg
import Derived.KernelRfl
import Derived.Test.YtdmamdnkcefmmaaGreatDoorKGI
import Derived.Test.YtdmamdnkcefmmaaGreatDoorKZ2
import Derived.Test.YtdmamdnkcefmmaaGreatDoorIT
import Derived.Test.YtdmamdnkcefmmaaGreatDoorKGT2
import Derived.Shelf.SlSortCmp.NoneTotal
import Derived.Test.YtdmamdnkcefmmaaGreatDoorVO
set_option linter.unusedSimpArgs false
set_option linter.unusedVariables false
set_option maxRecDepth 8000
namespace Go.Proofs.YtdmamdnkcefmmaaGreatDoor
open Go Go.Abs
set_option maxRecDepth 100000
section
variable (t0 t1 t2 t7 t40 t41 t42:AV) (H:zaa) (K:Kt) (Kb5:Lt)
def zl0:Nat→List Bool | 5=>rl false [0,2,5,1,32,3,16] | _=>[]
noncomputable def zsj:Code:=Tryz.f196.body.getD .skip
noncomputable def zN0:List ResultVar:=Tryz.f196.results.toList
def zl1:List AV:=t0::t1::ux 5 (t7::ux 32 (t40::t41::t42::ux 16 []))
def zNY:List Bool:=zl0 5
noncomputable def zNW:Code:=zaq [1,1,1,0,1,0,0] zsj
def zNV:AExit→List AV→zaa→Prop:=zas tP zl0 [1,1,1,0,1,0] zsj (zay tP zN0 K)
def zl2:Prop:=ALoop tP zNW (zNV K) (zl1 t0 t1 t7 t40 t41 t42) H
def zsi:Prop:=zac .lss false t42 t41 λt43=>zag t43 (zai 3 t40 t42 λt44=>zae true 3 t44 H λt45=>zax [(.int .i64 0),(.int .i64 0),.snil] H λt9 H=>zan 3 t9 t45 H λH=>zab H (λK'=>K' t7 H) λt46=>zab H (λK'=>zak true 3 t9 H (K' · H)) λt47=>zab H (λK'=>K' t1 H) λt48=>zab H (λK'=>K' t0 H) λt49=>zab H (λK'=>K' t1 H) λt50=>zab H (λK'=>zai 3 t49 t50 (K' · H)) λt51=>zab H (λK'=>zaf 1 t51 (K' · H)) λt52=>zab H (λK'=>zak false 1 t52 H (K' · H)) λt53=>zaE H (λH K'=>ACalls tP zjt [t47,t48,t53] H K') λt54=>zab H (λK'=>zau 1 [(.bool false)] 1 [(0,t54)] (K' · H)) λt55=>zaw zfT 1 1 t46 t55 H λt56 H=>zab H (λK'=>K' t56 H) λt7=>zac .add false t42 (.int .i64 1) λt57=>Kb5 (zl1 t0 t1 t7 t40 t41 t57) H) (K t7 H)
def zAE:Prop:=zac .lss false t1 (.int .i64 0) λt11=>zad t11 false H (λK'=>K' t1 H) λt13 H=>zad t11 false H (λK'=>K' t0 H) λt14 H=>zad t11 false H (λK'=>zah 1 t14 (K' · H)) λt15 H=>zad t11 false H (λK'=>zac .geq false t13 t15 (K' · H)) λt16 H=>zaj t11 (.bool true) t16 λt17=>zad t17 false H (λK'=>K' t2 H) λt19 H=>zad t17 false H (λK'=>zac .lss false t19 (.int .i64 0) (K' · H)) λt20 H=>zaj t17 (.bool true) t20 λt21=>zad t21 false H (λK'=>K' t2 H) λt23 H=>zad t21 false H (λK'=>K' t0 H) λt24 H=>zad t21 false H (λK'=>K' t1 H) λt25 H=>zad t21 false H (λK'=>zai 3 t24 t25 (K' · H)) λt26 H=>zad t21 false H (λK'=>zaf 2 t26 (K' · H)) λt27 H=>zad t21 false H (λK'=>zae false 1 t27 H (K' · H)) λt28 H=>zad t21 false H (λK'=>zah 1 t28 (K' · H)) λt29 H=>zad t21 false H (λK'=>zac .geq false t23 t29 (K' · H)) λt30 H=>zaj t21 (.bool true) t30 λt31=>zag t31 (K .snil H) (zai 3 t0 t1 λt34=>zaf 2 t34 λt35=>zae false 1 t35 H λt36=>zai 2 t36 t2 λt38=>zaf 1 t38 λt39=>zae false 1 t39 H λt40=>zah 1 t40 λt41=>zl2 t0 t1 .snil t40 t41 (.int .i64 0) H K)
variable {t0 t1 t2 t7 t40 t41 t42} {H} {K} {Kb5}
theorem zNX (Inv:Nat→AV→AV→zaa→Prop) (n:Nat) (h0:HSc H→Inv n t7 t42 H)
  (ac:Rd2 (λt7=>λt42=>zl1 t0 t1 t7 t40 t41 t42) (λt7=>λt42=>λH Kb5=>zsi t0 t1 t7 t40 t41 t42 H K Kb5) H Inv):zl2 t0 t1 t7 t40 t41 t42 H K:=
 lp2 (M:=zl0) zNY t7 t42 (by kernel_rfl) Inv n h0 ac
theorem zNZ (h:HSc H→zAE t0 t1 t2 H K):ACalls tP zf3 [t0,t1,t2] H K:=
 acb zl0 Tryz.func196 zsj (by kernel_rfl) (by kernel_rfl) h
end
end Go.Proofs.YtdmamdnkcefmmaaGreatDoor
section


end
namespace Go.Proofs.YtdmamdnkcefmmaaGreatDoor
open Go Go.Abs
def zbP (l:List Bool):List (List AV):=l.map λb=>[.bool b]
theorem zAF (aa:List Dat) (d:Nat) (c:Nat) (hd:d<aa.length) (hc:c<(aa[d]).cons.length) (hl:aa.length≤1000000) (bo:(aa[d]).cons.length≤1000000) (dz:((aa[d]).cons[c]).args.length≤1000000)
  (hb:∀ x∈((aa[d]).cons[c]).args,x.nodes≤1000000) (H:zaa) (K:Kt)
  (hK:K (.sl (zbP (zcs d aa[d] (aa[d]).cons[c])) .none) H) :
  ACalls tP zf3 [.sl (aa.map Dat.cs) .none,.int .i64 d,.int .i64 c] H K:=by
 refine ACalls.out (zNZ λhs=>?_);have e1:(aa.map Dat.cs)[d]?=some (aa[d]).cs:=by simp[hd]
 have e2:((aa[d]).cons.map Con.cs)[c]?=some ((aa[d]).cons[c]).cs:=by simp[hc]
 generalize hD:aa[d]=D at *;generalize hA:D.cons[c]=C at *;have h1:¬ (d:Int)<0:=by omega
 have h2:¬ (aa.length:Int)≤d:=by omega
 have h3:¬ (c:Int)<0:=by omega
 have h4:¬ (D.cons.length:Int)≤c:=by omega
 simp[zAE,h1,h2,h3,h4,e1,e2,Dat.cs,Con.cs,hd,hD,hc,hA];unfold zl2;refine ALoop.own 7 zfT 1 rfl ?_;show zl2 (.sl (aa.map Dat.cs) .none) (.int .i64 d) (.sl [] (.own H.length)) (.sl (VT.css C.args) .none) (.int .i64 C.args.length) (.int .i64 0) (H++[.perm zfT 1 0]) (Out H.length K);have aH:∀ n,HSc (H++[.perm zfT 1 n]):=λn=>hs.append rfl;refine zNX (Inv:=λq t7 t42 H'=>∃ i:Nat,i≤C.args.length∧q=C.args.length-i∧t42=.int .i64 i∧t7=.sl (zbP ((zcs d D C).take i)) (.own H.length)∧H'=H++[.perm zfT 1 i]) C.args.length ?_ ?_
 ·intro _;exact⟨0,by omega,by omega,rfl,rfl,rfl⟩
 ·rintro q t7 t42 H' ⟨i,hi,rfl,rfl,rfl,rfl⟩ hsc am aP Kb ar;have eK:(zcs d D C).length=C.args.length:=by simp[zcs]
  by_cases ak:i<C.args.length
  ·obtain⟨x,y,z,az,hx,hy,hz⟩:=zbh C.args[i];have fB:=hb _ (List.getElem_mem ak);simp[zsi,ak,az,Nat.add_assoc,e1,hd,hD,Dat.cs];rw[←az];refine⟨⟨hx,hy,hz⟩,?_⟩;refine zaC (.bool (zb0 d D.vars C.args[i])) (λJ=>zuf _ _ _ fB _ _ ⟨rfl,rfl⟩) ?_;simp[zau,zaV,plain,AV.pd,zaw,zaL,zaI,zbP];have df:min i (zcs d D C).length=i:=by omega
   rw[df];refine⟨rfl,⟨by omega,by omega⟩,?_⟩;rw[zat (by omega) (by omega)];have aN:List.take i (List.map (λb=>[AV.bool b]) (zcs d D C))++[[AV.bool (zb0 (↑d) D.vars C.args[i])]]=zbP ((zcs d D C).take (i+1)):=by rw[List.take_succ_eq_append_getElem (by omega)];simp[zbP,zcs]
   rw[aN];refine ar _ _ ⟨C.args.length-(i+1),by omega,Back.at (J:=[.cells C.args[i].cs]) (H2:=H++[.perm zfT 1 (i+1)]) (by simp) (by simp) (aH _) ?_ ⟨_,_,rfl,i+1,by omega,rfl,by simp,rfl,rfl⟩⟩;simp[zl1,AV.sc,AV.scV,AV.scA,AV.scB]
  ·obtain rfl:i=C.args.length:=by omega
   rw[List.take_of_length_le (by omega)];simp[zsi];exact Out.at rfl (Nat.le_refl _) hs (.atom (.sl _ _)) rfl (by simp[zbP,AV.scV,AV.scA,AV.scB]) hK
end Go.Proofs.YtdmamdnkcefmmaaGreatDoor
namespace Go.Proofs.YtdmamdnkcefmmaaGreatDoor
open Go Go.Abs
set_option maxRecDepth 100000
section
variable (t0 t1 t3 t4 t5 t6 t8 t15 t16 t17 t18 t19 t20 t21 t31 t32 t33 t38 t39 t40 t45 t46 t47 t48:AV) (H:zaa) (K:Kt) (Kb5 Kb6 Kb11:Lt)
def zJf (_:Nat):List Bool:=[]
noncomputable def zJg:Code:=Tryz.f122.body.getD .skip
def zyZ:Prop:=zav t0 H λt1 H=>zaf 0 t1 λt3=>zae false 1 t3 H λt4=>ACalls tP zoZ [t4] H λt5 H=>zad t5 true H (λK'=>zae true 4 t1 H (K' · H)) λt7 H=>zad t5 true H (λK'=>ACalls tP zo0 [t7] H K') λt8 H=>zaj t5 t8 (.bool false) λt9=>zad t9 true H (λK'=>zae true 4 t1 H (K' · H)) λt11 H=>zad t9 true H (λK'=>ACalls tP zo1 [t11] H K') λt12 H=>zaj t9 t12 (.bool false) λt13=>zad t13 true H (λK'=>zae true 4 t1 H (K' · H)) λt15 H=>zad t13 true H (λK'=>ACalls tP zo2 [t15] H K') λt16 H=>zaj t13 t16 (.bool false) λt17=>zad t17 true H (λK'=>zae true 4 t1 H (K' · H)) λt19 H=>zad t17 true H (λK'=>ACalls tP zo3 [t19] H K') λt20 H=>zaj t17 t20 (.bool false) λt21=>zad t21 true H (λK'=>zae true 4 t1 H (K' · H)) λt23 H=>zad t21 true H (λK'=>ACalls tP zo4 [t23] H K') λt24 H=>zaj t21 t24 (.bool false) λt25=>zad t25 true H (λK'=>zae true 4 t1 H (K' · H)) λt27 H=>zad t25 true H (λK'=>ACalls tP zo5 [t27] H K') λt28 H=>zaj t25 t28 (.bool false) λt29=>K t29 H
def zLF (_:Nat):List Bool:=[]
noncomputable def zLG:Code:=Tryz.f160.body.getD .skip
def zzG:Prop:=zav t0 H λt1 H=>zaf 2 t1 λt3=>zae false 1 t3 H λt4=>zah 1 t4 λt5=>zac .leq false t5 (.int .i64 3000) λt6=>zad t6 true H (λK'=>zaf 2 t1 (K' · H)) λt8 H=>zad t6 true H (λK'=>zae false 1 t8 H (K' · H)) λt9 H=>zad t6 true H (λK'=>zcw zwk [t1] (K' · H)) λt10 H=>zad t6 true H (λK'=>ACalls tP zfe [t9,t10] H K') λt11 H=>zad t6 true H (λK'=>aUn .not t11 (K' · H)) λt12 H=>zaj t6 t12 (.bool false) λt13=>K t13 H
def zls:Nat→List Bool | 6=>rl false [1,1,1,2,14,3,59] | _=>[]
noncomputable def zrH:Code:=Tryz.f161.body.getD .skip
noncomputable def zLN:List ResultVar:=Tryz.f161.results.toList
def zrI:List AV:=ux 1 (t1::ux 1 (t3::t4::ux 14 (t19::t20::t21::ux 59 [])))
def zLL:List Bool:=zls 6
noncomputable def zLJ:Code:=zaq [1,1,1,1,0,1,0,0] zrH
def zLI:AExit→List AV→zaa→Prop:=zas tP zls [1,1,1,1,0,1,0] zrH (zay tP zLN K)
def zzK:Prop:=ALoop tP zLJ (zLI K) (zrI t1 t3 t4 t19 t20 t21) H
def zzJ:Prop:=zaf 0 t6 λt42=>zae false 1 t42 H λt43=>zcM t3 t43 (.bool true) H λH=>zaf 1 t6 λt44=>zae false 1 t44 H λt45=>zah 1 t45 λt46=>zac .gtr false t46 (.int .i64 6) λt47=>zad t47 false H (λK'=>zaf 0 t1 (K' · H)) λt49 H=>zad t47 false H (λK'=>zae false 1 t49 H (K' · H)) λt50 H=>zad t47 false H (λK'=>zaf 3 t6 (K' · H)) λt51 H=>zad t47 false H (λK'=>zae true 3 t51 H (K' · H)) λt52 H=>zad t47 false H (λK'=>ACalls tP zhd [t50,t52,(.int .i64 0)] H K') λt53 H=>zad t47 false H (λK'=>aUn .not t53 (K' · H)) λt54 H=>zaj t47 (.bool true) t54 λt55=>zag t55 (K (.bool false) H) (zab H (λK'=>zaf 6 t6 (K' · H)) λt56=>zab H (λK'=>zak false 1 t56 H (K' · H)) λt57=>zab H (λK'=>zac .lss false t57 (.int .i64 0) (K' · H)) λt58=>zab H (λK'=>K' t58 H) λt59=>zad t59 false H (λK'=>zab H (λK''=>zaf 6 t6 (K'' · H)) (K' · H)) λt60 H=>zad t59 false H (λK'=>zab H (λK''=>zak false 1 t60 H (K'' · H)) (K' · H)) λt61 H=>zad t59 false H (λK'=>zab H (λK''=>zaf 3 t1 (K'' · H)) (K' · H)) λt62 H=>zad t59 false H (λK'=>zab H (λK''=>zak false 1 t62 H (K'' · H)) (K' · H)) λt63 H=>zad t59 false H (λK'=>zab H (λK''=>zah 1 t63 (K'' · H)) (K' · H)) λt64 H=>zad t59 false H (λK'=>zab H (λK''=>zac .geq false t61 t64 (K'' · H)) (K' · H)) λt65 H=>zab H (λK'=>zaj t59 (.bool true) t65 (K' · H)) λt66=>zab H (λK'=>K' t66 H) λt67=>zad t67 false H (λK'=>zab H (λK''=>zaf 3 t1 (K'' · H)) (K' · H)) λt68 H=>zad t67 false H (λK'=>zab H (λK''=>zak false 1 t68 H (K'' · H)) (K' · H)) λt69 H=>zad t67 false H (λK'=>zab H (λK''=>zaf 6 t6 (K'' · H)) (K' · H)) λt70 H=>zad t67 false H (λK'=>zab H (λK''=>zak false 1 t70 H (K'' · H)) (K' · H)) λt71 H=>zad t67 false H (λK'=>zab H (λK''=>zai 8 t69 t71 (K'' · H)) (K' · H)) λt72 H=>zad t67 false H (λK'=>zab H (λK''=>zaf 5 t72 (K'' · H)) (K' · H)) λt73 H=>zad t67 false H (λK'=>zab H (λK''=>zak true 3 t73 H (K'' · H)) (K' · H)) λt74 H=>zad t67 false H (λK'=>zab H (λK''=>zaf 3 t6 (K'' · H)) (K' · H)) λt75 H=>zad t67 false H (λK'=>zab H (λK''=>zak true 3 t75 H (K'' · H)) (K' · H)) λt76 H=>zad t67 false H (λK'=>zaE H (λH K''=>ACalls tP zE9 [t74,t76] H K'') (K' · H)) λt77 H=>zad t67 false H (λK'=>zab H (λK''=>aUn .not t77 (K'' · H)) (K' · H)) λt78 H=>zab H (λK'=>zaj t67 (.bool true) t78 (K' · H)) λt79=>zag t79 (K (.bool false) H) (zac .add false t21 (.int .i64 1) λt80=>Kb6 (zrI t1 t3 t4 t19 t20 t80) H))
def zzI:Prop:=zac .lss false t21 t20 λt22=>zag t22 (zai 7 t19 t21 λt23=>zae true 7 t23 H λt24=>zax [(.str []),.snil,.snil,(.int .i64 0),(.int .i64 0),.snil,(.int .i64 0)] H λt6 H=>zan 7 t6 t24 H λH=>zaf 0 t6 λt25=>zae false 1 t25 H λt26=>zac .eql false t26 (.str []) λt27=>zag t27 (zzJ t1 t3 (.bool true) t6 t19 t20 t21 H K Kb6) (zad t4 false H (λK'=>K' t3 H) λt30 H=>zad t4 false H (λK'=>zaf 0 t6 (K' · H)) λt31 H=>zad t4 false H (λK'=>zae false 1 t31 H (K' · H)) λt32 H=>zad t4 false H (λK'=>zdw (.bool false) false t30 t32 H (K' · H)) λt33 H=>zaj t4 (.bool true) t33 λt34=>zad t34 false H (λK'=>zaf 2 t6 (K' · H)) λt36 H=>zad t34 false H (λK'=>zae false 1 t36 H (K' · H)) λt37 H=>zad t34 false H (λK'=>zah 1 t37 (K' · H)) λt38 H=>zad t34 false H (λK'=>zac .gtr false t38 (.int .i64 0) (K' · H)) λt39 H=>zaj t34 (.bool true) t39 λt40=>zag t40 (K (.bool false) H) (zzJ t1 t3 t4 t6 t19 t20 t21 H K Kb6))) (K (.bool true) H)
def zzH:Prop:=zav t0 H λt1 H=>zaf 1 t1 λt7=>zae false 1 t7 H λt8=>zah 1 t8 λt9=>zac .gtr false t9 (.int .i64 64) λt10=>zad t10 false H (λK'=>zaf 3 t1 (K' · H)) λt12 H=>zad t10 false H (λK'=>zae false 1 t12 H (K' · H)) λt13 H=>zad t10 false H (λK'=>zah 1 t13 (K' · H)) λt14 H=>zad t10 false H (λK'=>zac .gtr false t14 (.int .i64 3000) (K' · H)) λt15 H=>zaj t10 (.bool true) t15 λt16=>zag t16 (K (.bool false) H) (zdM H λt17 H=>zaf 1 t1 λt18=>zae false 1 t18 H λt19=>zah 1 t19 λt20=>zzK t1 t17 (.bool false) t19 t20 (.int .i64 0) H K)
def zeR:Nat→List Bool | 5=>rl false [1,1,2,2,12,3,54] | 11=>rl false [1,1,2,2,25,3,41] | 16=>rl false [1,1,2,2,2,1,22,3,12,3,26] | _=>[]
noncomputable def zhZ:Code:=Tryz.f162.body.getD .skip
noncomputable def zzT:List ResultVar:=Tryz.f162.results.toList
def zrK:List AV:=ux 1 (t1::ux 2 (t4::t5::ux 12 (t18::t19::t20::ux 54 [])))
def zLW:List Bool:=zeR 5
noncomputable def zLR:Code:=zaq [1,1,1,1,0,1,0,0] zhZ
def zLP:AExit→List AV→zaa→Prop:=zas tP zeR [1,1,1,1,0,1,0] zhZ (zay tP zzT K)
def zzR:Prop:=ALoop tP zLR (zLP K) (zrK t1 t4 t5 t18 t19 t20) H
def zzP:List AV:=ux 1 (t1::ux 2 (t4::t5::ux 25 (t31::t32::t33::ux 41 [])))
def zzS:List Bool:=zeR 11
noncomputable def zrJ:Code:=zaq [1,1,1,1,1,0,1,0,0] zhZ
def zzM:AExit→List AV→zaa→Prop:=zas tP zeR [1,1,1,1,1,0,1,0] zhZ (zay tP zzT K)
def zzQ:Prop:=ALoop tP zrJ (zzM K) (zzP t1 t4 t5 t31 t32 t33) H
def zLS:List AV:=ux 1 (t1::ux 2 (t4::t5::ux 2 (t8::ux 22 (t31::t32::t33::ux 12 (t46::t47::t48::ux 26 [])))))
noncomputable def zLQ:Code:=zaq [1,1,0,0,1,1,1,0,0] zrJ
def zLO:AExit→List AV→zaa→Prop:=zas tP zeR [1,1,0,0,1,1,1,0] zrJ (zb1 zzS Kb11 (zzM K))
def zLT:Prop:=ALoop tP zLQ (zLO K Kb11) (zLS t1 t4 t5 t8 t31 t32 t33 t46 t47 t48) H
def zzN:Prop:=zac .lss false t33 t32 λt34=>zag t34 (zai 8 t31 t33 λt36=>zae true 8 t36 H λt37=>zax [(.int .i64 0),(.int .i64 0),.snil,.snil,.snil,(.int .i64 0),(.int .i64 0),.snil] H λt9 H=>zan 8 t9 t37 H λH=>zaf 3 t9 λt38=>zae false 1 t38 H λt39=>zah 1 t39 λt40=>zaf 4 t9 λt41=>zae false 1 t41 H λt42=>zah 1 t42 λt43=>zac .neq false t40 t43 λt44=>zag t44 (K (.bool false) H) (zaf 4 t9 λt45=>zae false 1 t45 H λt46=>zah 1 t46 λt47=>zLT t1 t4 t5 t33 t31 t32 t33 t46 t47 (.int .i64 0) H K Kb11)) (zae false 1 t4 H λt70=>zaf 3 t1 λt71=>zae false 1 t71 H λt72=>zah 1 t72 λt73=>zac .eql false t70 t73 λt74=>K t74 H)
def zzO:Prop:=zac .lss false t20 t19 λt21=>zag t21 (zai 7 t18 t20 λt22=>zae true 7 t22 H λt23=>zax [(.str []),.snil,.snil,(.int .i64 0),(.int .i64 0),.snil,(.int .i64 0)] H λt7 H=>zan 7 t7 t23 H λH=>zaf 6 t7 λt25=>zae false 1 t25 H λt26=>aCallV tP t5 [t26] H λt27 H=>aUn .not t27 λt28=>zag t28 (K (.bool false) H) (zac .add false t20 (.int .i64 1) λt29=>Kb5 (zrK t1 t4 t5 t18 t19 t29) H)) (zaf 3 t1 λt30=>zae false 1 t30 H λt31=>zah 1 t31 λt32=>zzQ t1 t4 t5 t31 t32 (.int .i64 0) H K)
def zzL:Prop:=zav t0 H λt1 H=>zaf 3 t1 λt12=>zae false 1 t12 H λt13=>zah 1 t13 λt14=>zbp 1 [(.bool false)] t14 t14 H λt15 H=>zax [.snil] H λt3 H=>zan 1 t3 t15 H λH=>zax [(.int .i64 0)] H λt4 H=>zan 1 t4 (.int .i64 0) H λH=>zcw zFa [t3,t4] λt16=>zaf 1 t1 λt17=>zae false 1 t17 H λt18=>zah 1 t18 λt19=>zzR t1 t4 t16 t18 t19 (.int .i64 0) H K
def zeS:Nat→List Bool | 5=>rl false [1,1,2,2,12,3,41] | 11=>rl false [1,1,2,2,32,3,21] | 14=>rl false [1,1,2,2,32,3,4,3,14] | _=>[]
noncomputable def zh0:Code:=Tryz.f163.body.getD .skip
noncomputable def zz2:List ResultVar:=Tryz.f163.results.toList
def zrM:List AV:=ux 1 (t1::ux 2 (t4::t5::ux 12 (t18::t19::t20::ux 41 [])))
def zL6:List Bool:=zeS 5
noncomputable def zL1:Code:=zaq [1,1,1,1,0,1,0,0] zh0
def zLZ:AExit→List AV→zaa→Prop:=zas tP zeS [1,1,1,1,0,1,0] zh0 (zay tP zz2 K)
def zz0:Prop:=ALoop tP zL1 (zLZ K) (zrM t1 t4 t5 t18 t19 t20) H
def zzY:List AV:=ux 1 (t1::ux 2 (t4::t5::ux 32 (t38::t39::t40::ux 21 [])))
def zz1:List Bool:=zeS 11
noncomputable def zrL:Code:=zaq [1,1,1,1,1,0,1,0,0] zh0
def zzV:AExit→List AV→zaa→Prop:=zas tP zeS [1,1,1,1,1,0,1,0] zh0 (zay tP zz2 K)
def zzZ:Prop:=ALoop tP zrL (zzV K) (zzY t1 t4 t5 t38 t39 t40) H
def zL2:List AV:=ux 1 (t1::ux 2 (t4::t5::ux 32 (t38::t39::t40::ux 4 (t45::t46::t47::ux 14 []))))
noncomputable def zL0:Code:=zaq [1,1,0,0,1,1,0,0] zrL
def zLY:AExit→List AV→zaa→Prop:=zas tP zeS [1,1,0,0,1,1,0] zrL (zb1 zz1 Kb11 (zzV K))
def zL3:Prop:=ALoop tP zL0 (zLY K Kb11) (zL2 t1 t4 t5 t38 t39 t40 t45 t46 t47) H
def zzW:Prop:=zac .lss false t40 t39 λt41=>zag t41 (zai 8 t38 t40 λt42=>zae true 8 t42 H λt43=>zax [(.int .i64 0),(.int .i64 0),.snil,.snil,.snil,(.int .i64 0),(.int .i64 0),.snil] H λt9 H=>zan 8 t9 t43 H λH=>zaf 3 t9 λt44=>zae false 1 t44 H λt45=>zah 1 t45 λt46=>zL3 t1 t4 t5 t38 t39 t40 t45 t46 (.int .i64 0) H K Kb11) (zae false 1 t4 H λt57=>zaf 2 t1 λt58=>zae false 1 t58 H λt59=>zah 1 t59 λt60=>zac .eql false t57 t60 λt61=>K t61 H)
def zzX:Prop:=zac .lss false t20 t19 λt21=>zag t21 (zai 7 t18 t20 λt22=>zae true 7 t22 H λt23=>zax [(.str []),.snil,.snil,(.int .i64 0),(.int .i64 0),.snil,(.int .i64 0)] H λt7 H=>zan 7 t7 t23 H λH=>zaf 1 t7 λt25=>zae false 1 t25 H λt26=>aCallV tP t5 [t26] H λt27 H=>aUn .not t27 λt28=>zad t28 false H (λK'=>K' t5 H) λt30 H=>zad t28 false H (λK'=>zaf 2 t7 (K' · H)) λt31 H=>zad t28 false H (λK'=>zae false 1 t31 H (K' · H)) λt32 H=>zad t28 false H (λK'=>aCallV tP t30 [t32] H K') λt33 H=>zad t28 false H (λK'=>aUn .not t33 (K' · H)) λt34 H=>zaj t28 (.bool true) t34 λt35=>zag t35 (K (.bool false) H) (zac .add false t20 (.int .i64 1) λt36=>Kb5 (zrM t1 t4 t5 t18 t19 t36) H)) (zaf 3 t1 λt37=>zae false 1 t37 H λt38=>zah 1 t38 λt39=>zzZ t1 t4 t5 t38 t39 (.int .i64 0) H K)
def zzU:Prop:=zav t0 H λt1 H=>zaf 2 t1 λt12=>zae false 1 t12 H λt13=>zah 1 t13 λt14=>zbp 1 [(.bool false)] t14 t14 H λt15 H=>zax [.snil] H λt3 H=>zan 1 t3 t15 H λH=>zax [(.int .i64 0)] H λt4 H=>zan 1 t4 (.int .i64 0) H λH=>zcw zFb [t3,t4] λt16=>zaf 1 t1 λt17=>zae false 1 t17 H λt18=>zah 1 t18 λt19=>zz0 t1 t4 t16 t18 t19 (.int .i64 0) H K
def zlt:Nat→List Bool | 6=>rl false [4,2,9,3,25] | _=>[]
noncomputable def zrN:Code:=Tryz.f164.body.getD .skip
noncomputable def zMd:List ResultVar:=Tryz.f164.results.toList
def zrO:List AV:=ux 4 (t4::t5::ux 9 (t15::t16::t17::ux 25 []))
def zMb:List Bool:=zlt 6
noncomputable def zL9:Code:=zaq [1,1,1,1,1,0,1,0,0] zrN
def zL8:AExit→List AV→zaa→Prop:=zas tP zlt [1,1,1,1,1,0,1,0] zrN (zay tP zMd K)
def zz5:Prop:=ALoop tP zL9 (zL8 K) (zrO t4 t5 t15 t16 t17) H
def zz4:Prop:=zac .lss false t17 t16 λt18=>zag t18 (zai 7 t15 t17 λt19=>zae true 7 t19 H λt20=>zax [(.str []),.snil,.snil,(.int .i64 0),(.int .i64 0),.snil,(.int .i64 0)] H λt7 H=>zan 7 t7 t20 H λH=>zae false 1 t4 H λt21=>zaf 1 t7 λt22=>zae false 1 t22 H λt23=>aCallV tP t21 [t23,(.bool true)] H λt24 H=>zae false 1 t4 H λt25=>zaf 2 t7 λt26=>zae false 1 t26 H λt27=>aCallV tP t25 [t27,(.bool true)] H λt28 H=>zae false 1 t5 H λt29=>zaf 6 t7 λt30=>zae false 1 t30 H λt31=>aCallV tP t29 [t31] H λt32 H=>aUn .not t32 λt33=>zag t33 (K (.bool false) H) (zae false 1 t4 H λt34=>zaf 1 t7 λt35=>zae false 1 t35 H λt36=>aCallV tP t34 [t36,(.bool false)] H λt37 H=>zae false 1 t4 H λt38=>zaf 2 t7 λt39=>zae false 1 t39 H λt40=>aCallV tP t38 [t40,(.bool false)] H λt41 H=>zac .add false t17 (.int .i64 1) λt42=>Kb6 (zrO t4 t5 t15 t16 t42) H)) (K (.bool true) H)
def zz3:Prop:=zav t0 H λt1 H=>zaf 2 t1 λt8=>zae false 1 t8 H λt9=>zah 1 t9 λt10=>zbp 1 [(.bool false)] t10 t10 H λt11 H=>zax [.snil] H λt3 H=>zan 1 t3 t11 H λH=>zcw zFc [t3] λt12=>zax [.nilfn] H λt4 H=>zan 1 t4 t12 H λH=>zax [.nilfn] H λt5 H=>zcw zFd [t1,t3,t4,t5] λt13=>zan 1 t5 t13 H λH=>zaf 1 t1 λt14=>zae false 1 t14 H λt15=>zah 1 t15 λt16=>zz5 t4 t5 t15 t16 (.int .i64 0) H K
variable {t0 t1 t3 t4 t5 t6 t8 t15 t16 t17 t18 t19 t20 t21 t31 t32 t33 t38 t39 t40 t45 t46 t47 t48} {H} {K} {Kb5 Kb6 Kb11}
theorem zJi (h:HSc H→zyZ t0 H K):ACalls tP zoK [t0] H K:=
 acb zJf Tryz.func122 zJg (by kernel_rfl) (by kernel_rfl) h
theorem zLH (h:HSc H→zzG t0 H K):ACalls tP zo0 [t0] H K:=
 acb zLF Tryz.func160 zLG (by kernel_rfl) (by kernel_rfl) h
theorem zLK (Inv:Nat→AV→AV→zaa→Prop) (n:Nat) (h0:HSc H→Inv n t4 t21 H)
  (ac:Rd2 (λt4=>λt21=>zrI t1 t3 t4 t19 t20 t21) (λt4=>λt21=>λH Kb6=>zzI t1 t3 t4 t19 t20 t21 H K Kb6) H Inv):zzK t1 t3 t4 t19 t20 t21 H K:=
 lp2 (M:=zls) zLL t4 t21 (by kernel_rfl) Inv n h0 ac
theorem zLM (h:HSc H→zzH t0 H K):ACalls tP zo1 [t0] H K:=
 acb zls Tryz.func161 zrH (by kernel_rfl) (by kernel_rfl) h
theorem zLU (Inv:Nat→AV→zaa→Prop) (n:Nat) (h0:HSc H→Inv n t33 H)
  (ac:Rd1 (λt33=>zzP t1 t4 t5 t31 t32 t33) (λt33=>λH Kb11=>zzN t1 t4 t5 t31 t32 t33 H K Kb11) H Inv):zzQ t1 t4 t5 t31 t32 t33 H K:=
 lp1 (M:=zeR) zzS t33 (by kernel_rfl) Inv n h0 ac
theorem zLV (Inv:Nat→AV→zaa→Prop) (n:Nat) (h0:HSc H→Inv n t20 H)
  (ac:Rd1 (λt20=>zrK t1 t4 t5 t18 t19 t20) (λt20=>λH Kb5=>zzO t1 t4 t5 t18 t19 t20 H K Kb5) H Inv):zzR t1 t4 t5 t18 t19 t20 H K:=
 lp1 (M:=zeR) zLW t20 (by kernel_rfl) Inv n h0 ac
theorem zLX (h:HSc H→zzL t0 H K):ACalls tP zo2 [t0] H K:=
 acb zeR Tryz.func162 zhZ (by kernel_rfl) (by kernel_rfl) h
theorem zL4 (Inv:Nat→AV→zaa→Prop) (n:Nat) (h0:HSc H→Inv n t40 H)
  (ac:Rd1 (λt40=>zzY t1 t4 t5 t38 t39 t40) (λt40=>λH Kb11=>zzW t1 t4 t5 t38 t39 t40 H K Kb11) H Inv):zzZ t1 t4 t5 t38 t39 t40 H K:=
 lp1 (M:=zeS) zz1 t40 (by kernel_rfl) Inv n h0 ac
theorem zL5 (Inv:Nat→AV→zaa→Prop) (n:Nat) (h0:HSc H→Inv n t20 H)
  (ac:Rd1 (λt20=>zrM t1 t4 t5 t18 t19 t20) (λt20=>λH Kb5=>zzX t1 t4 t5 t18 t19 t20 H K Kb5) H Inv):zz0 t1 t4 t5 t18 t19 t20 H K:=
 lp1 (M:=zeS) zL6 t20 (by kernel_rfl) Inv n h0 ac
theorem zL7 (h:HSc H→zzU t0 H K):ACalls tP zo3 [t0] H K:=
 acb zeS Tryz.func163 zh0 (by kernel_rfl) (by kernel_rfl) h
theorem zMa (Inv:Nat→AV→zaa→Prop) (n:Nat) (h0:HSc H→Inv n t17 H)
  (ac:Rd1 (λt17=>zrO t4 t5 t15 t16 t17) (λt17=>λH Kb6=>zz4 t4 t5 t15 t16 t17 H K Kb6) H Inv):zz5 t4 t5 t15 t16 t17 H K:=
 lp1 (M:=zlt) zMb t17 (by kernel_rfl) Inv n h0 ac
theorem zMc (h:HSc H→zz3 t0 H K):ACalls tP zo4 [t0] H K:=
 acb zlt Tryz.func164 zrN (by kernel_rfl) (by kernel_rfl) h
end
section
variable (t0 t1 t3 t16 t17 t18 t28 t29 t30:AV) (H:zaa) (K:Kt) (Kb3 Kb9:Lt)
def zfy:Nat→List Bool | 3=>rl false [1,1,1,1,12,3,30] | 9=>rl false [3,1,24,3,18] | _=>[]
noncomputable def zh1:Code:=Tryz.f165.body.getD .skip
noncomputable def zAb:List ResultVar:=Tryz.f165.results.toList
def zrP:List AV:=ux 1 (t1::ux 1 (t3::ux 12 (t16::t17::t18::ux 30 [])))
def zMk:List Bool:=zfy 3
noncomputable def zMg:Code:=zaq [1,1,0,1,0,0] zh1
def zMe:AExit→List AV→zaa→Prop:=zas tP zfy [1,1,0,1,0] zh1 (zay tP zAb K)
def zz9:Prop:=ALoop tP zMg (zMe K) (zrP t1 t3 t16 t17 t18) H
def zrQ:List AV:=ux 3 (t3::ux 24 (t28::t29::t30::ux 18 []))
def zMl:List Bool:=zfy 9
noncomputable def zMh:Code:=zaq [1,1,1,0,1,0,0] zh1
def zMf:AExit→List AV→zaa→Prop:=zas tP zfy [1,1,1,0,1,0] zh1 (zay tP zAb K)
def zAa:Prop:=ALoop tP zMh (zMf K) (zrQ t3 t28 t29 t30) H
def zz8:Prop:=zac .lss false t30 t29 λt31=>zag t31 (zai 7 t28 t30 λt33=>zae true 7 t33 H λt34=>zax [(.str []),.snil,.snil,(.int .i64 0),(.int .i64 0),.snil,(.int .i64 0)] H λt7 H=>zan 7 t7 t34 H λH=>zaf 0 t7 λt35=>zae false 1 t35 H λt36=>zac .eql false t36 (.str []) λt37=>zad t37 true H (λK'=>K' t3 H) λt39 H=>zad t37 true H (λK'=>za5 t39 (K' · H)) λt40 H=>zad t37 true H (λK'=>zaf 4 t40 (K' · H)) λt41 H=>zad t37 true H (λK'=>zae false 1 t41 H (K' · H)) λt42 H=>zad t37 true H (λK'=>K' t30 H) λt43 H=>zad t37 true H (λK'=>zai 1 t42 t43 (K' · H)) λt44 H=>zad t37 true H (λK'=>zae false 1 t44 H (K' · H)) λt45 H=>zad t37 true H (λK'=>zac .neq false t45 (.int .i64 1) (K' · H)) λt46 H=>zaj t37 t46 (.bool false) λt47=>zag t47 (K (.bool false) H) (zac .add false t30 (.int .i64 1) λt48=>Kb9 (zrQ t3 t28 t29 t48) H)) (K (.bool true) H)
def zz7:Prop:=zac .lss false t18 t17 λt19=>zag t19 (zai 8 t16 t18 λt20=>zae true 8 t20 H λt21=>zax [(.int .i64 0),(.int .i64 0),.snil,.snil,.snil,(.int .i64 0),(.int .i64 0),.snil] H λt5 H=>zan 8 t5 t21 H λH=>zae true 8 t5 H λt23=>ACalls tP zFe [t3,t23] H λt24 H=>aUn .not t24 λt25=>zag t25 (K (.bool false) H) (zac .add false t18 (.int .i64 1) λt26=>Kb3 (zrP t1 t3 t16 t17 t26) H)) (zaf 1 t1 λt27=>zae false 1 t27 H λt28=>zah 1 t28 λt29=>zAa t3 t28 t29 (.int .i64 0) H K)
def zz6:Prop:=zav t0 H λt1 H=>zab H (λK'=>zak true 4 t1 H (K' · H)) λt8=>zab H (λK'=>zaf 1 t1 (K' · H)) λt9=>zab H (λK'=>zak false 1 t9 H (K' · H)) λt10=>zab H (λK'=>zah 1 t10 (K' · H)) λt11=>zbp 8 [(.int .i64 0)] t11 t11 H λt12 H=>zab H (λK'=>zar [.snil,.snil,.snil,.snil,.snil] [(0,4),(4,1)] [(0,t8),(1,t12)] (K' · H)) λt13=>zav t13 H λt14 H=>zab H (λK'=>K' t14 H) λt3=>zaf 3 t1 λt15=>zae false 1 t15 H λt16=>zah 1 t16 λt17=>zz9 t1 t3 t16 t17 (.int .i64 0) H K
variable {t0 t1 t3 t16 t17 t18 t28 t29 t30} {H} {K} {Kb3 Kb9}
theorem zMj (Inv:Nat→AV→zaa→Prop) (n:Nat) (h0:HSc H→Inv n t30 H)
  (ac:Rd1 (λt30=>zrQ t3 t28 t29 t30) (λt30=>λH Kb9=>zz8 t3 t28 t29 t30 H K Kb9) H Inv):zAa t3 t28 t29 t30 H K:=
 lp1 (M:=zfy) zMl t30 (by kernel_rfl) Inv n h0 ac
theorem zMi (Inv:Nat→AV→zaa→Prop) (n:Nat) (h0:HSc H→Inv n t18 H)
  (ac:Rd1 (λt18=>zrP t1 t3 t16 t17 t18) (λt18=>λH Kb3=>zz7 t1 t3 t16 t17 t18 H K Kb3) H Inv):zz9 t1 t3 t16 t17 t18 H K:=
 lp1 (M:=zfy) zMk t18 (by kernel_rfl) Inv n h0 ac
theorem zMm (h:HSc H→zz6 t0 H K):ACalls tP zo5 [t0] H K:=
 acb zfy Tryz.func165 zh1 (by kernel_rfl) (by kernel_rfl) h
end
end Go.Proofs.YtdmamdnkcefmmaaGreatDoor
section


end
namespace Go.Proofs.YtdmamdnkcefmmaaGreatDoor
open Go Go.Abs
set_option maxRecDepth 100000
section


end
section
variable (t0 t1 t2 t4 t5 t7 t10 t117:AV) (H:zaa) (K:Kt) (Kb4 Kb21:Lt)
def zmV:Nat→List Bool | 21=>rl false [0,1,3,2,1,1,2,1,174] | _=>[]
noncomputable def ztt:Code:=Tryz.f51.body.getD .skip
noncomputable def zRM:List ResultVar:=Tryz.f51.results.toList
def zmW:List AV:=t0::ux 3 (t4::t5::ux 1 (t7::ux 2 (t10::ux 174 [])))
def zRK:List Bool:=zmV 21
noncomputable def zRI:Code:=zaq [1,1,0,1,0,1,1,1,1,1,1,1,1,1,1,1,0,1,0,1,0,0] ztt
def zRH:AExit→List AV→zaa→Prop:=zas tP zmV [1,1,0,1,0,1,1,1,1,1,1,1,1,1,1,1,0,1,0,1,0] ztt (zay tP zRM K)
def ztu:Prop:=ALoop tP zRI (zRH K) (zmW t0 t4 t5 t7 t10) H
def zts:Prop:=zac .lss false t10 t7 λt153=>zag t153 (zab H (λK'=>K' t0 H) λt156=>zab H (λK'=>zaf 2 t4 (K' · H)) λt157=>zab H (λK'=>zak false 1 t157 H (K' · H)) λt158=>zab H (λK'=>K' t10 H) λt159=>zab H (λK'=>zai 3 t158 t159 (K' · H)) λt160=>zab H (λK'=>zak true 3 t160 H (K' · H)) λt161=>zab H (λK'=>zaf 2 t5 (K' · H)) λt162=>zab H (λK'=>zak false 1 t162 H (K' · H)) λt163=>zab H (λK'=>zai 3 t163 (.int .i64 0) (K' · H)) λt164=>zab H (λK'=>zak true 3 t164 H (K' · H)) λt165=>zaE H (λH K'=>ACalls tP zji [t156,t161,t165] H K') λt166=>zab H (λK'=>aUn .not t166 (K' · H)) λt167=>zag t167 (K (.bool false) H) (zac .add false t10 (.int .i64 1) λt155=>Kb21 (zmW t0 t4 t5 t7 t155) H)) (K (.bool true) H)
def zie:Prop:=zag t117 (zaf 0 t5 λt120=>zae false 1 t120 H λt121=>zac .eql false t121 (.int .i64 7) λt122=>zad t122 true H (λK'=>zaf 0 t4 (K' · H)) λt124 H=>zad t122 true H (λK'=>zae false 1 t124 H (K' · H)) λt125 H=>zad t122 true H (λK'=>zac .neq false t125 (.int .i64 6) (K' · H)) λt126 H=>zad t122 true H (λK'=>K' t126 H) λt127 H=>zad t127 false H (λK'=>K' t7 H) λt128 H=>zad t127 false H (λK'=>zac .gtr false t128 (.int .i64 4096) (K' · H)) λt129 H=>zad t122 true H (λK'=>zaj t127 (.bool true) t129 (K' · H)) λt130 H=>zaj t122 t130 (.bool false) λt131=>zad t131 false H (λK'=>zaf 0 t5 (K' · H)) λt133 H=>zad t131 false H (λK'=>zae false 1 t133 H (K' · H)) λt134 H=>zad t131 false H (λK'=>zac .eql false t134 (.int .i64 8) (K' · H)) λt135 H=>zad t131 false H (λK'=>K' t135 H) λt136 H=>zad t136 true H (λK'=>zaf 0 t4 (K' · H)) λt137 H=>zad t136 true H (λK'=>zae false 1 t137 H (K' · H)) λt138 H=>zad t136 true H (λK'=>zac .neq false t138 (.int .i64 7) (K' · H)) λt139 H=>zad t136 true H (λK'=>K' t139 H) λt140 H=>zad t140 false H (λK'=>K' t7 H) λt141 H=>zad t140 false H (λK'=>zac .neq false t141 (.int .i64 1) (K' · H)) λt142 H=>zad t136 true H (λK'=>zaj t140 (.bool true) t142 (K' · H)) λt143 H=>zad t131 false H (λK'=>zaj t136 t143 (.bool false) (K' · H)) λt144 H=>zaj t131 (.bool true) t144 λt145=>zad t145 false H (λK'=>zaf 1 t4 (K' · H)) λt147 H=>zad t145 false H (λK'=>zae false 1 t147 H (K' · H)) λt148 H=>zad t145 false H (λK'=>zac .neq false t148 (.int .i64 0) (K' · H)) λt149 H=>zaj t145 (.bool true) t149 λt150=>zag t150 (K (.bool false) H) (ztu t0 t4 t5 t7 (.int .i64 0) H K)) (zaf 0 t4 λt168=>zae false 1 t168 H λt169=>zac .eql false t169 (.int .i64 8) λt170=>zad t170 true H (λK'=>zaf 1 t4 (K' · H)) λt172 H=>zad t170 true H (λK'=>zae false 1 t172 H (K' · H)) λt173 H=>zad t170 true H (λK'=>zac .geq false t173 (.int .i64 0) (K' · H)) λt174 H=>zaj t170 t174 (.bool false) λt175=>zad t175 true H (λK'=>zaf 1 t4 (K' · H)) λt177 H=>zad t175 true H (λK'=>zae false 1 t177 H (K' · H)) λt178 H=>zad t175 true H (λK'=>zac .lss false t178 (.int .i64 64) (K' · H)) λt179 H=>zaj t175 t179 (.bool false) λt180=>zad t180 true H (λK'=>K' t7 H) λt182 H=>zad t180 true H (λK'=>zac .eql false t182 (.int .i64 0) (K' · H)) λt183 H=>zaj t180 t183 (.bool false) λt184=>K t184 H)
def zeq:Prop:=zav t1 H λt4 H=>zav t2 H λt5 H=>zaf 2 t4 λt11=>zae false 1 t11 H λt12=>zah 1 t12 λt13=>zaf 0 t5 λt14=>zae false 1 t14 H λt15=>zac .eql false t15 (.int .i64 3) λt17=>zag t17 (zaf 0 t4 λt18=>zae false 1 t18 H λt19=>zac .eql false t19 (.int .i64 1) λt20=>zad t20 true H (λK'=>zaf 1 t4 (K' · H)) λt22 H=>zad t20 true H (λK'=>zae false 1 t22 H (K' · H)) λt23 H=>zad t20 true H (λK'=>zac .eql false t23 (.int .i64 0) (K' · H)) λt24 H=>zaj t20 t24 (.bool false) λt25=>zad t25 true H (λK'=>K' t13 H) λt27 H=>zad t25 true H (λK'=>zac .eql false t27 (.int .i64 0) (K' · H)) λt28 H=>zaj t25 t28 (.bool false) λt29=>K t29 H) (zac .eql false t15 (.int .i64 2) λt31=>zag t31 (zaf 0 t4 λt32=>zae false 1 t32 H λt33=>zac .eql false t33 (.int .i64 2) λt34=>zad t34 true H (λK'=>zaf 1 t4 (K' · H)) λt36 H=>zad t34 true H (λK'=>zae false 1 t36 H (K' · H)) λt37 H=>zad t34 true H (λK'=>zac .eql false t37 (.int .i64 0) (K' · H)) λt38 H=>zad t34 true H (λK'=>K' t38 H) λt39 H=>zad t39 false H (λK'=>zaf 1 t4 (K' · H)) λt40 H=>zad t39 false H (λK'=>zae false 1 t40 H (K' · H)) λt41 H=>zad t39 false H (λK'=>zac .eql false t41 (.int .i64 1) (K' · H)) λt42 H=>zad t34 true H (λK'=>zaj t39 (.bool true) t42 (K' · H)) λt43 H=>zaj t34 t43 (.bool false) λt44=>zad t44 true H (λK'=>K' t13 H) λt46 H=>zad t44 true H (λK'=>zac .eql false t46 (.int .i64 0) (K' · H)) λt47 H=>zaj t44 t47 (.bool false) λt48=>K t48 H) (zac .eql false t15 (.int .i64 1) λt50=>zag t50 (zaf 0 t4 λt51=>zae false 1 t51 H λt52=>zac .eql false t52 (.int .i64 3) λt53=>zad t53 true H (λK'=>zaf 1 t4 (K' · H)) λt55 H=>zad t53 true H (λK'=>zae false 1 t55 H (K' · H)) λt56 H=>zad t53 true H (λK'=>zac .geq false t56 (.int .i64 (-1099511627776)) (K' · H)) λt57 H=>zaj t53 t57 (.bool false) λt58=>zad t58 true H (λK'=>zaf 1 t4 (K' · H)) λt60 H=>zad t58 true H (λK'=>zae false 1 t60 H (K' · H)) λt61 H=>zad t58 true H (λK'=>zac .leq false t61 (.int .i64 1099511627776) (K' · H)) λt62 H=>zaj t58 t62 (.bool false) λt63=>zad t63 true H (λK'=>K' t13 H) λt65 H=>zad t63 true H (λK'=>zac .eql false t65 (.int .i64 0) (K' · H)) λt66 H=>zaj t63 t66 (.bool false) λt67=>K t67 H) (zac .eql false t15 (.int .i64 6) λt69=>zag t69 (zaf 0 t4 λt70=>zae false 1 t70 H λt71=>zac .eql false t71 (.int .i64 4) λt72=>zad t72 true H (λK'=>zaf 1 t4 (K' · H)) λt74 H=>zad t72 true H (λK'=>zae false 1 t74 H (K' · H)) λt75 H=>zad t72 true H (λK'=>zac .eql false t75 (.int .i64 0) (K' · H)) λt76 H=>zaj t72 t76 (.bool false) λt77=>zad t77 true H (λK'=>K' t0 H) λt79 H=>zad t77 true H (λK'=>zaf 2 t4 (K' · H)) λt80 H=>zad t77 true H (λK'=>zae false 1 t80 H (K' · H)) λt81 H=>zad t77 true H (λK'=>zaf 2 t5 (K' · H)) λt82 H=>zad t77 true H (λK'=>zae false 1 t82 H (K' · H)) λt83 H=>zad t77 true H (λK'=>ACalls tP zjv [t79,t81,t83] H K') λt84 H=>zaj t77 t84 (.bool false) λt85=>K t85 H) (zac .eql false t15 (.int .i64 5) λt87=>zag t87 (zaf 0 t4 λt88=>zae false 1 t88 H λt89=>zac .neq false t89 (.int .i64 5) λt90=>zad t90 false H (λK'=>zaf 1 t4 (K' · H)) λt92 H=>zad t90 false H (λK'=>zae false 1 t92 H (K' · H)) λt93 H=>zad t90 false H (λK'=>zac .lss false t93 (.int .i64 0) (K' · H)) λt94 H=>zaj t90 (.bool true) t94 λt95=>zad t95 false H (λK'=>zaf 1 t4 (K' · H)) λt97 H=>zad t95 false H (λK'=>zae false 1 t97 H (K' · H)) λt98 H=>zad t95 false H (λK'=>zac .geq false t98 (.int .i64 8) (K' · H)) λt99 H=>zaj t95 (.bool true) t99 λt100=>zag t100 (K (.bool false) H) (zae true 3 t5 H λt103=>zaf 1 t4 λt104=>zae false 1 t104 H λt105=>ACalls tP zht [t0,t103,t105] H λt106 H=>zaz t106 0 λt107=>zaz t106 1 λt108=>zad t108 true H (λK'=>K' t0 H) λt111 H=>zad t108 true H (λK'=>zaf 2 t4 (K' · H)) λt112 H=>zad t108 true H (λK'=>zae false 1 t112 H (K' · H)) λt113 H=>zad t108 true H (λK'=>K' t107 H) λt114 H=>zad t108 true H (λK'=>ACalls tP zjv [t111,t113,t114] H K') λt115 H=>zaj t108 t115 (.bool false) λt116=>K t116 H)) (zac .eql false t15 (.int .i64 7) λt118=>zag t118 (zie t0 t4 t5 t13 t118 H K) (zac .eql false t15 (.int .i64 8) λt119=>zie t0 t4 t5 t13 t119 H K))))))
def znz:Nat→List Bool | 4=>rl false [0,3,4,1,22] | _=>[]
noncomputable def zt9:Code:=Tryz.f97.body.getD .skip
noncomputable def zUt:List ResultVar:=Tryz.f97.results.toList
def znA:List AV:=t0::t1::t2::ux 4 (t7::ux 22 [])
def zUr:List Bool:=znz 4
noncomputable def zUp:Code:=zaq [1,1,0,1,0,0] zt9
def zUo:AExit→List AV→zaa→Prop:=zas tP znz [1,1,0,1,0] zt9 (zay tP zUt K)
def zCP:Prop:=ALoop tP zUp (zUo K) (znA t0 t1 t2 t7) H
def zt8:Prop:=zah 1 t1 λt15=>zac .lss false t7 t15 λt16=>zag t16 (zab H (λK'=>K' t0 H) λt19=>zab H (λK'=>K' t1 H) λt20=>zab H (λK'=>K' t7 H) λt21=>zab H (λK'=>zai 3 t20 t21 (K' · H)) λt22=>zab H (λK'=>zak true 3 t22 H (K' · H)) λt23=>zab H (λK'=>K' t2 H) λt24=>zab H (λK'=>K' t7 H) λt25=>zab H (λK'=>zai 3 t24 t25 (K' · H)) λt26=>zab H (λK'=>zak true 3 t26 H (K' · H)) λt27=>zaE H (λH K'=>ACalls tP zji [t19,t23,t27] H K') λt28=>zab H (λK'=>aUn .not t28 (K' · H)) λt29=>zag t29 (K (.bool false) H) (zac .add false t7 (.int .i64 1) λt18=>Kb4 (znA t0 t1 t2 t18) H)) (K (.bool true) H)
def zt7:Prop:=zah 1 t1 λt9=>zah 1 t2 λt11=>zac .neq false t9 t11 λt12=>zag t12 (K (.bool false) H) (zCP t0 t1 t2 (.int .i64 0) H K)
variable {t0 t1 t2 t4 t5 t7 t10 t117} {H} {K} {Kb4 Kb21}
theorem zRJ (Inv:Nat→AV→zaa→Prop) (n:Nat) (h0:HSc H→Inv n t10 H)
  (ac:Rd1 (λt10=>zmW t0 t4 t5 t7 t10) (λt10=>λH Kb21=>zts t0 t4 t5 t7 t10 H K Kb21) H Inv):ztu t0 t4 t5 t7 t10 H K:=
 lp1 (M:=zmV) zRK t10 (by kernel_rfl) Inv n h0 ac
theorem zRL (h:HSc H→zeq t0 t1 t2 H K):ACalls tP zji [t0,t1,t2] H K:=
 acb zmV Tryz.func51 ztt (by kernel_rfl) (by kernel_rfl) h
theorem zUq (Inv:Nat→AV→zaa→Prop) (n:Nat) (h0:HSc H→Inv n t7 H)
  (ac:Rd1 (λt7=>znA t0 t1 t2 t7) (λt7=>λH Kb4=>zt8 t0 t1 t2 t7 H K Kb4) H Inv):zCP t0 t1 t2 t7 H K:=
 lp1 (M:=znz) zUr t7 (by kernel_rfl) Inv n h0 ac
theorem zUs (h:HSc H→zt7 t0 t1 t2 H K):ACalls tP zjv [t0,t1,t2] H K:=
 acb znz Tryz.func97 zt9 (by kernel_rfl) (by kernel_rfl) h
end
end Go.Proofs.YtdmamdnkcefmmaaGreatDoor
section


end
namespace Go.Proofs.YtdmamdnkcefmmaaGreatDoor
open Go Go.Abs
def d4 (aa:List Dat):AV:=.agg [.sl (aa.map Dat.cs) .none,.snil,.snil,.snil]
section
variable {H:zaa} {K:Kt} (aa:List Dat)
theorem zHP (hK:K (.bool true) H):ACalls tP zo0 [d4 aa] H K:=by refine ACalls.out (zLH λhs=>?_);simp[zzG,d4];refine⟨rfl,ACalls.wk (args':=[.sl (VT.css []) .none,.fn zwk [.ptr H.length 0]]) ?_ ⟨.atom .snil,.atom (.refl _),trivial⟩⟩;refine zn6 [] (by simp) _ _ _ (by simp[AV.sc,AV.scV,AV.scA,AV.scB]) (λ_ H'=>H'=H++[.cells [.sl (aa.map Dat.cs) .none,.snil,.snil,.snil]]) rfl (λi h=>by simp at h) ?_;rintro H' rfl;simp;exact Out.bool rfl (Nat.le_refl _) hs hK
theorem zDV (hK:K (.bool true) H):ACalls tP zo1 [d4 aa] H K:=by refine ACalls.out (zLM λhs=>?_);simp[zzH,d4];refine zLK (Inv:=λ_ _ t H'=>t=.int .i64 0∧H'=_) 0 (λ_=>⟨rfl,rfl⟩) ?_;rintro q t4 t H' ⟨rfl,rfl⟩ _ _ _ Kb ar;simp[zzI];exact Out.bool rfl (Nat.le_refl _) hs hK
theorem zHH (hK:K (.bool true) H):ACalls tP zo2 [d4 aa] H K:=by refine ACalls.out (zLX λhs=>?_);simp[zzL,d4,zbp];refine⟨⟨rfl,rfl⟩,zLV (Inv:=λ_ t H'=>t=.int .i64 0∧H'=_) 0 (λ_=>⟨rfl,rfl⟩) ?_⟩;rintro q t H' ⟨rfl,rfl⟩ _ _ _ Kb ar;simp[zzO];refine zLU (Inv:=λ_ t H'=>t=.int .i64 0∧H'=_) 0 (λ_=>⟨rfl,rfl⟩) ?_;rintro q t H' ⟨rfl,rfl⟩ _ _ _ Kb2 bQ;simp[zzN,Nat.add_assoc];exact Out.bool rfl (Nat.le_refl _) hs hK
theorem zDF (hK:K (.bool true) H):ACalls tP zo3 [d4 aa] H K:=by refine ACalls.out (zL7 λhs=>?_);simp[zzU,d4,zbp];refine⟨⟨rfl,rfl⟩,zL5 (Inv:=λ_ t H'=>t=.int .i64 0∧H'=_) 0 (λ_=>⟨rfl,rfl⟩) ?_⟩;rintro q t H' ⟨rfl,rfl⟩ _ _ _ Kb ar;simp[zzX];refine zL4 (Inv:=λ_ t H'=>t=.int .i64 0∧H'=_) 0 (λ_=>⟨rfl,rfl⟩) ?_;rintro q t H' ⟨rfl,rfl⟩ _ _ _ Kb2 bQ;simp[zzW,Nat.add_assoc];exact Out.bool rfl (Nat.le_refl _) hs hK
theorem zGl (hK:K (.bool true) H):ACalls tP zo4 [d4 aa] H K:=by refine ACalls.out (zMc λhs=>?_);simp[zz3,d4,zbp];refine⟨rfl,⟨rfl,rfl,rfl,rfl⟩,zMa (Inv:=λ_ t H'=>t=.int .i64 0∧H'=_) 0 (λ_=>⟨rfl,rfl⟩) ?_⟩;rintro q t H' ⟨rfl,rfl⟩ _ _ _ Kb ar;simp[zz4];exact Out.bool rfl (Nat.le_refl _) hs hK
theorem zEk (hK:K (.bool true) H):ACalls tP zo5 [d4 aa] H K:=by refine ACalls.out (zMm λhs=>?_);simp[zz6,d4,zbp,zar,zaJ];refine zMi (Inv:=λ_ t H'=>t=.int .i64 0∧H'=_) 0 (λ_=>⟨rfl,rfl⟩) ?_;rintro q t H' ⟨rfl,rfl⟩ _ _ _ Kb ar;simp[zz7];refine zMj (Inv:=λ_ t H'=>t=.int .i64 0∧H'=_) 0 (λ_=>⟨rfl,rfl⟩) ?_;rintro q t H' ⟨rfl,rfl⟩ _ _ _ Kb2 bQ;simp[zz8];exact Out.bool rfl (Nat.le_refl _) hs hK
theorem zJh (hB:zgy aa) (hl:aa.length≤1000000) (hK:K (.bool (zbx aa)) H):ACalls tP zoK [d4 aa] H K:=by
 refine ACalls.out (zJi λhs=>?_);simp[zyZ,d4];refine zLE aa hB hl _ _ ?_;cases hd:zbx aa with
 | false=>rw[hd]at hK;simp;exact Out.bool rfl (Nat.le_refl _) hs hK
 | true=>rw[hd]at hK;simp;refine zHP aa ?_;simp;refine zDV aa ?_;simp;refine zHH aa ?_;simp;refine zDF aa ?_;simp;refine zGl aa ?_;simp;refine zEk aa ?_;exact Out.bool rfl (Nat.le_refl _) hs hK
def zbz (aa:List Dat) (t:VT):Bool:=zbx aa && za1 aa 0 t
end
theorem zoj (aa:List Dat):∀ vs ts:List VT,zcy aa vs ts=zcG (zaT aa) vs ts
 | [],[]=>by simp[zcy,zcG]
 | [],_::_=>by simp[zcy,zcG]
 | _::_,[]=>by simp[zcy,zcG]
 | v::vs,t::ts=>by simp[zcy,zcG,zoj aa vs ts]
theorem zHM {aa:List Dat} {k n:Int} {ks:List VT} (h:za3 aa 0 (.mk k n ks)=true):(k=1∧ks=[])∨(k=2∧ks=[])∨(k=3∧ks=[])∨k=5∨(k=6∧2≤ks.length)∨(k=7∧ks.length=1)∨(k=8∧ks.length=1)∨(k=9∧1≤ks.length):=by
 rw[za3,Bool.and_eq_true]at h;have h:=h.1;unfold zbg at h;by_cases h1:k=1
 ·subst h1;simp at h;simp[h.2]
 by_cases h2:k=2
 ·subst h2;simp at h;simp[h.2]
 by_cases h3:k=3
 ·subst h3;simp at h;simp[h.2]
 by_cases h4:k=4
 ·subst h4;simp at h;omega
 by_cases h5:k=5
 ·subst h5;simp
 by_cases h6:k=6
 ·subst h6;simp at h;simp;omega
 by_cases h7:k=7
 ·subst h7;simp at h;simp;omega
 by_cases h8:k=8
 ·subst h8;simp at h;simp;omega
 by_cases h9:k=9
 ·subst h9;simp at h;simp;omega
 simp[h1,h2,h3,h4,h5,h6,h7,h8,h9]at h
structure DOk (aa:List Dat):Prop where
 ok:zbx aa=true
 k:zbr aa
theorem DOk.small {aa:List Dat} (h:DOk aa):zgy aa:=λD hD=>by obtain⟨_,h2⟩:=h.k;obtain⟨_,h3,h4⟩:=h2 D hD;refine⟨by omega,λc hc=>?_⟩;obtain⟨_,h5,h6⟩:=h4 c hc;exact⟨by omega,λx hx=>by have:=h6 x hx;omega⟩
theorem ze6 {aa:List Dat} (h:zbr aa):aa.length≤1000000∧(∀ d∈aa,∀ c∈d.cons,c.args.length≤1000∧∀ x∈c.args,x.nodes≤1000)∧∀ d∈aa,d.cons.length≤1000000:=by
 obtain⟨h1,h2⟩:=h;refine⟨by omega,λD hD c hc=>?_,λD hD=>?_⟩
 ·obtain⟨_,h3,h4⟩:=h2 D hD;obtain⟨_,h5,h6⟩:=h4 c hc;exact⟨by omega,λx hx=>by have:=h6 x hx;omega⟩
 ·obtain⟨_,h3,h4⟩:=h2 D hD;omega
section
variable {aa:List Dat} (hD:DOk aa)
theorem i0 (n:Nat):((n:Int) == 0)=(n == 0):=by rw[Bool.eq_iff_iff];simp
theorem zEt {ks:List VT} (h:0<ks.length):ks.getD 0 (.mk 0 0 [])=ks[0]:=by simp[List.getD_eq_getElem?_getD,h]
theorem zEx {aa:List Dat} {t:VT} {vs:List VT} {i:Nat} (h:i<vs.length):zdy aa (vs.drop i) t=(zaT aa vs[i] t && zdy aa (vs.drop (i+1)) t):=by rw[List.drop_eq_getElem_cons h,zdy]
include hD in
end
theorem zwU:∀ (a:List VT) (b:List Bool) (x:VT) (y:Bool),a.length=b.length→pick (a++[x]) (b++[y])=pick a b++(if y then [] else [x])
 | [],[],x,y,_=>by cases y <;> rfl
 | [],_::_,_,_,h=>by cases h
 | _::_,[],_,_,h=>by cases h
 | c::a,d::b,x,y,h=>by have:=zwU a b x y (by simpa using h);cases d <;> simp[pick,this]
theorem zpI {l:List VT} {bs:List Bool} {i:Nat} (h:l.length=bs.length) (hi:i<l.length):pick (l.take (i+1)) (bs.take (i+1))=pick (l.take i) (bs.take i)++(if bs[i]'(by omega) then [] else [l[i]]):=by rw[List.take_succ_eq_append_getElem hi,List.take_succ_eq_append_getElem (by omega:i<bs.length)];exact zwU _ _ _ _ (by simp;omega)
theorem zjF:∀ (a:List VT) (b:List Bool),(pick a b).length≤a.length
 | [],b=>by simp[pick]
 | _::_,[]=>by simp[pick]
 | c::a,d::b=>by have:=zjF a b;cases d <;> simp[pick] <;> omega
theorem zgJ {l:List Bool} {i:Nat} (h:i<(zbP l).length):(zbP l)[i]=[.bool (l[i]'(by simpa[zbP]using h))]:=by simp[zbP]
theorem zex (l:List Bool):(zbP l).length=l.length:=by simp[zbP]
theorem zwR {aa:List Dat} {k n:Int} {ks:List VT} {c:Int} {l:List VT} (hk:zbr aa) (hf:zbm aa (.mk k n ks) c=some l) :
  ∃ bs,l.length=bs.length∧l.length≤8∧zbd aa (.mk k n ks) c=some (pick l bs)∧(∀ x∈l,x.nodes≤200)∧k=5 ∧
   (∀ H K,K (.sl (zbP bs) .none) H→ACalls tP zfd [.sl (aa.map Dat.cs) .none,.int .i64 n,.int .i64 c] H K) ∧
   (∀ H K,K (.sl (zbP bs) .none) H→ACalls tP zf3 [.sl (aa.map Dat.cs) .none,.int .i64 n,.int .i64 c] H K):=by
 obtain⟨k5,n0,c0,hn,hc,hv,rfl,cz⟩:=zgV hf;obtain⟨f1,f2,f3⟩:=ze6 hk;have hd:=List.getElem_mem hn;have bB:=List.getElem_mem hc;obtain⟨g1,g2⟩:=f2 _ hd _ bB;have g3:=f3 _ hd;have h8:=((hk.2 _ hd).2.2 _ bB).2.1;refine⟨zcs n.toNat aa[n.toNat] (aa[n.toNat]).cons[c.toNat],by simp[zcs],by simpa using h8,?_,cz,k5,λH K hK=>?_,λH K hK=>?_⟩
 ·simp[zbd,hf,zdF,hn,hc,List.getD_eq_getElem?_getD,VT.num]
 ·have:=zr3 aa n.toNat c.toNat hn hc f1 g3 (by omega) (λx hx=>by have:=g2 x hx;omega) H K (by simpa[zbP,zcs,Function.comp_def]using hK);rwa [Int.toNat_of_nonneg n0,Int.toNat_of_nonneg c0]at this
 ·have:=zAF aa n.toNat c.toNat hn hc f1 g3 (by omega) (λx hx=>by have:=g2 x hx;omega) H K hK;rwa [Int.toNat_of_nonneg n0,Int.toNat_of_nonneg c0]at this
theorem zwQ {aa:List Dat} {t:VT} {c:Int} (hf:zbm aa t c=none):zbd aa t c=none:=by simp[zbd,hf]
theorem zJy (aa:List Dat) (hk:zbr aa) (t:VT) (ht:t.nodes≤1000) (c:Int) (H:zaa) (K:Kt) (hK:K (zcx (zbd aa t c)) H) :
  ACalls tP zoL [.sl (aa.map Dat.cs) .none,.agg t.cs,.int .i64 c] H K:=by
 refine ACalls.out (zJw λhs=>?_);obtain⟨f1,f2,f3⟩:=ze6 hk;obtain⟨k,n,ks⟩:=t;simp[zy4,VT.cs,Nat.add_assoc];refine zAj aa f1 f2 f3 (.mk k n ks) ht c _ _ ?_;cases hf:zbm aa (.mk k n ks) c with
 | none=>rw[zwQ hf]at hK;simp[zcx];refine⟨⟨rfl,rfl⟩,?_⟩;exact Out.tup (bs:=[.sl [] .none,.bool false]) hs hK ⟨zdr,zaW rfl rfl,trivial⟩
 | some l=>
  obtain⟨bs,cx,jN,dh,cz,k5,hsc,_⟩:=zwR hk hf;rw[dh]at hK;simp[zcx];refine hsc _ _ ?_;simp[zex];unfold zkG;refine ALoop.own 10 zaZ 3 rfl ?_;have d8:(H++[AB.cells [AV.int IntKind.i64 k,AV.int IntKind.i64 n,AV.sl (VT.css ks) Tok.none]]).length=H.length+1:=by simp
  rw[d8];show zkG (.sl (VT.css l) .none) (.sl [] (.own (H.length+1))) (.sl (zbP bs) .none) (.int .i64 bs.length) (.int .i64 0) (H++[.cells [.int .i64 k,.int .i64 n,.sl (VT.css ks) .none]]++[.perm zaZ 3 0]) (Out H.length K);have aH:∀ m,HSc (H++[.cells [.int .i64 k,.int .i64 n,.sl (VT.css ks) .none],.perm zaZ 3 m]):=λm=>hs.append (by simp[AB.sc,AV.scA,AV.scB]);refine zJu (Inv:=λq t10 t28 H'=>∃ i:Nat,i≤bs.length∧q=bs.length-i∧t28=.int .i64 i∧t10=.sl (VT.css (pick (l.take i) (bs.take i))) (.own (H.length+1))∧H'=H++[.cells [.int .i64 k,.int .i64 n,.sl (VT.css ks) .none],.perm zaZ 3 (pick (l.take i) (bs.take i)).length]) bs.length ?_ ?_
  ·intro _;exact⟨0,by omega,by omega,rfl,by simp[pick,VT.css],by simp[pick]⟩
  ·rintro q t10 t28 H' ⟨i,hi,rfl,rfl,rfl,rfl⟩ aM am aP Kb ar;by_cases ak:i<bs.length
   ·have dH:=zpI cx (by omega:i<l.length);have cq:=zjF (l.take i) (bs.take i);rw[List.length_take]at cq;have aY:∀ J,zkF (.sl (VT.css l) .none) (.sl (VT.css (pick (l.take (i+1)) (bs.take (i+1)))) (.own (H.length+1))) (.sl (zbP bs) .none) (.int .i64 bs.length) (.int .i64 i)
      (H++.cells [.int .i64 k,.int .i64 n,.sl (VT.css ks) .none]::.perm zaZ 3 (pick (l.take (i+1)) (bs.take (i+1))).length::J) (Out H.length K) Kb:=by
     intro J;simp[zkF,zy5];rw[zat (by omega) (by omega)];refine ar _ _ ⟨bs.length-(i+1),by omega,Back.at (J:=J) (H2:=H++[.cells [.int .i64 k,.int .i64 n,.sl (VT.css ks) .none],.perm zaZ 3 (pick (l.take (i+1)) (bs.take (i+1))).length]) (by simp) (by simp) (aH _) ?_ ⟨_,_,rfl,i+1,by omega,rfl,by simp,rfl,rfl⟩⟩;simp[zkE,AV.sc,AV.scV,AV.scA,AV.scB]
    simp[zq0,zex,ak,zgJ];cases fe:bs[i] with
    | true=>rw[fe]at dH;simp at dH;simp;have:=aY [];rw[dH]at this;exact this
    | false=>rw[fe]at dH;simp only[Bool.false_eq_true,if_false]at dH;simp[show i<l.length by omega];rw[ze0];simp[zaw,zaL,zaI];have:=aY [];rw[dH]at this;rw[show VT.css (pick (l.take i) (bs.take i)++[l[i]])=VT.css (pick (l.take i) (bs.take i))++[l[i].cs] by simp[VT.css_map],show (pick (l.take i) (bs.take i)++[l[i]]).length=(pick (l.take i) (bs.take i)).length+1 by simp]at this;exact⟨⟨by omega,by omega⟩,this⟩
   ·obtain rfl:i=bs.length:=by omega
    rw[List.take_of_length_le (by omega),List.take_length]at *;simp[zq0];refine⟨⟨rfl,rfl⟩,?_⟩;exact Out.tup (bs:=[.sl (VT.css (pick l bs)) .none,.bool true]) hs hK ⟨slV,zaW rfl rfl,trivial⟩
def pos (v:Bool) (bs:List Bool) (i:Nat):List Nat:=(List.range i).filter λj=>bs.getD j false == v
def zbW (l:List Nat):List (List AV):=l.map λ(n:Nat)=>[AV.int .i64 (Int.ofNat n)]
theorem zpM (v:Bool) (bs:List Bool) (i:Nat) (h:i<bs.length):pos v bs (i+1)=pos v bs i++(if bs[i] == v then [i] else []):=by unfold pos;rw[List.range_succ,List.filter_append];congr 1;simp[List.filter_cons,List.getD_eq_getElem?_getD,h]
theorem zpL (v:Bool) (bs:List Bool) (i:Nat):(pos v bs i).length≤i:=by have:=List.length_filter_le (λj=>bs.getD j false == v) (List.range i);simpa[pos]using this
theorem zFQ {v:Bool} {bs:List Bool} {i j:Nat} (h:j∈pos v bs i):j<i:=by simp[pos]at h;exact h.1
theorem zwT {l:List VT} {bs:List Bool} (h:l.length=bs.length) (d:VT):∀ i,i≤l.length→pick (l.take i) (bs.take i)=(pos false bs i).map λj=>l.getD j d
 | 0,_=>by simp[pick,pos]
 | i+1,hi=>by rw[zpI h (by omega),zpM false bs i (by omega),List.map_append,zwT h d i (by omega)];congr 1;cases hb:bs[i]'(by omega) <;> simp[List.getD_eq_getElem?_getD,show i<l.length by omega]
theorem zhu (l:List Nat):(zbW l).length=l.length:=by simp[zbW]
theorem zFf {l:List Nat} {i:Nat} (h:i<(zbW l).length):(zbW l)[i]=[.int .i64 ((l[i]'(by simpa[zbW]using h):Nat):Int)]:=by simp[zbW]
theorem zwp (l m:List Nat):zbW (l++m)=zbW l++zbW m:=by simp[zbW]
theorem zK5 (aa:List Dat) (hk:zbr aa) (k n:Int) (ks:List VT) (ht:(VT.mk k n ks).nodes≤1000) (c:Int) {l:List VT} {bs:List Bool} (hf:zbm aa (.mk k n ks) c=some l)
  (cx:l.length=bs.length) (jN:l.length≤8) (ed:∀ H K,K (.sl (zbP bs) .none) H→ACalls tP zf3 [.sl (aa.map Dat.cs) .none,.int .i64 n,.int .i64 c] H K) (H:zaa) (K:Kt)
  (hK:K (.tup [.sl (zbW (pos false bs bs.length)) .none,.sl (zbW (pos true bs bs.length)) .none,.bool true]) H) :
  ACalls tP zoX [.sl (aa.map Dat.cs) .none,.agg (VT.mk k n ks).cs,.int .i64 c] H K:=by
 refine ACalls.out (zK3 λhs=>?_);obtain⟨f1,f2,f3⟩:=ze6 hk;simp[zzs,VT.cs,Nat.add_assoc];refine zuc aa f1 f2 f3 (.mk k n ks) ht c _ _ ?_;rw[hf];simp[zcx];refine ed _ _ ?_;simp[zex];unfold zlc;refine ALoop.own 11 zcF 1 rfl ?_;refine ALoop.own 12 zcF 1 rfl ?_;have d8:(H++[AB.cells [AV.int IntKind.i64 k,AV.int IntKind.i64 n,AV.sl (VT.css ks) Tok.none]]).length=H.length+1:=by simp
 have et:(H++[AB.cells [AV.int IntKind.i64 k,AV.int IntKind.i64 n,AV.sl (VT.css ks) Tok.none]]++[AB.perm zcF 1 0]).length=H.length+2:=by simp
 rw[d8,et];show zlc (.sl [] (.own (H.length+1))) (.sl [] (.own (H.length+2))) (.sl (zbP bs) .none) (.int .i64 bs.length) (.int .i64 0) (H++[.cells [.int .i64 k,.int .i64 n,.sl (VT.css ks) .none]]++[.perm zcF 1 0]++[.perm zcF 1 0]) (Out H.length K);have aH:∀ m m2,HSc (H++[.cells [.int .i64 k,.int .i64 n,.sl (VT.css ks) .none],.perm zcF 1 m,.perm zcF 1 m2]):=λm m2=>hs.append (by simp[AB.sc,AV.scA,AV.scB]);refine zK1 (Inv:=λq t11 t12 t30 H'=>∃ i:Nat,i≤bs.length∧q=bs.length-i∧t30=.int .i64 i∧t11=.sl (zbW (pos false bs i)) (.own (H.length+1))∧t12=.sl (zbW (pos true bs i)) (.own (H.length+2)) ∧
  H'=H++[.cells [.int .i64 k,.int .i64 n,.sl (VT.css ks) .none],.perm zcF 1 (pos false bs i).length,.perm zcF 1 (pos true bs i).length]) bs.length ?_ ?_
 ·intro _;exact⟨0,by omega,by omega,rfl,by simp[pos,zbW],by simp[pos,zbW],by simp[pos]⟩
 ·rintro q t11 t12 t30 H' ⟨i,hi,rfl,rfl,rfl,rfl,rfl⟩ aM am aP Kb ar;by_cases ak:i<bs.length
  ·have cW:=zpM false bs i ak;have eV:=zpM true bs i ak;have ep:=zpL false bs i;have fV:=zpL true bs i;have aY:zlb (.sl (zbW (pos false bs (i+1))) (.own (H.length+1))) (.sl (zbW (pos true bs (i+1))) (.own (H.length+2))) (.sl (zbP bs) .none) (.int .i64 bs.length) (.int .i64 i)
     (H++[.cells [.int .i64 k,.int .i64 n,.sl (VT.css ks) .none],.perm zcF 1 (pos false bs (i+1)).length,.perm zcF 1 (pos true bs (i+1)).length]) (Out H.length K) Kb:=by
    simp[zlb,zzt];rw[zat (by omega) (by omega)];refine ar _ _ ⟨bs.length-(i+1),by omega,Back.at (J:=[]) (H2:=H++[.cells [.int .i64 k,.int .i64 n,.sl (VT.css ks) .none],.perm zcF 1 (pos false bs (i+1)).length,.perm zcF 1 (pos true bs (i+1)).length]) (by simp) (by simp) (aH _ _) ?_ ⟨_,_,_,rfl,i+1,by omega,rfl,by simp,rfl,rfl,rfl⟩⟩;simp[zla,AV.sc,AV.scV,AV.scA,AV.scB]
   cases fe:bs[i] with
   | true=>rw[fe]at cW eV;simp at cW eV;rw[cW,eV]at aY;simp[zk9,zex,ak,zgJ,fe,zau,zaV,plain,AV.pd,zaw,zaL,zaI,zhu];refine⟨⟨by omega,by omega⟩,?_⟩;simpa[zwp,zbW]using aY
   | false=>rw[fe]at cW eV;simp at cW eV;rw[cW,eV]at aY;simp[zk9,zex,ak,zgJ,fe,zau,zaV,plain,AV.pd,zaw,zaL,zaI,zhu];refine⟨⟨by omega,by omega⟩,?_⟩;simpa[zwp,zbW]using aY
  ·obtain rfl:i=bs.length:=by omega
   simp[zk9];refine⟨⟨rfl,rfl,rfl⟩,?_⟩;exact Out.tup (bs:=[.sl (zbW (pos false bs bs.length)) .none,.sl (zbW (pos true bs bs.length)) .none,.bool true]) hs hK ⟨slV,slV,zaW rfl rfl,trivial⟩
def zF4 (r:List IT):List AV:=(IT.css r).flatten
def CellR (H:zaa) (lo id:Nat) (c:AV) (r:List IT):Prop:=
 (r=[]∧c=.sl [] .none)∨(r≠[]∧∃ b,c=.ov b r.length∧lo≤b∧b≠id∧H[b]?=some (.vec za7 2 r.length (zF4 r)))
theorem CellR.keep {H H':zaa} {lo id lo' id':Nat} {c:AV} {r:List IT} (h:CellR H lo id c r) (dG:lo'≤lo) (ap:∀ b,lo≤b→b≠id→b<H.length→b≠id'∧H'[b]?=H[b]?):CellR H' lo' id' c r:=by
 rcases h with h | ⟨h0,b,rfl,h1,h2,h3⟩
 ·exact .inl h
 ·have:=ap b h1 h2 (List.getElem?_eq_some_iff.1 h3).1;exact .inr ⟨h0,b,rfl,by omega,this.1,by rw[this.2];exact h3⟩
theorem CellR.sc {H:zaa} {lo id:Nat} {c:AV} {r:List IT} (h:CellR H lo id c r):c.scA H.length=true∧c.known=true:=by
 rcases h with ⟨_,rfl⟩ | ⟨h0,b,rfl,h1,h2,h3⟩
 ·exact⟨rfl,rfl⟩
 ·have:=(List.getElem?_eq_some_iff.1 h3).1;exact⟨by simpa[AV.scA,AV.scB]using this,rfl⟩
theorem RowA.pre {H X:zaa} {a:AV} {n:Nat} {ds:List AV} (h:RowA H a n ds) (hp:H <+: X):RowA X a n ds:=by obtain⟨J,rfl⟩:=hp;exact h.app
theorem zIe (aa:List Dat) (hk:zbr aa) (t:VT) (ht:t.nodes≤1000) (c:Int) (H:zaa) (K:Kt) (hK:K (zcx (zbd aa t c)) H) :
  ACalls tP zoG [.sl (aa.map Dat.cs) .none,.agg t.cs,.int .i64 c] H K:=by
 refine ACalls.out (zIc λhs=>?_);obtain⟨f1,f2,f3⟩:=ze6 hk;obtain⟨k,n,ks⟩:=t;simp[zyE,VT.cs,Nat.add_assoc];refine zuc aa f1 f2 f3 (.mk k n ks) ht c _ _ ?_;cases hf:zbm aa (.mk k n ks) c with
 | none=>rw[zwQ hf]at hK;simp[zcx];refine⟨⟨rfl,rfl⟩,?_⟩;exact Out.tup (bs:=[.sl [] .none,.bool false]) hs hK ⟨zdr,zaW rfl rfl,trivial⟩
 | some l=>
  obtain⟨bs,cx,jN,dh,cz,k5,_,ed⟩:=zwR hk hf;rw[dh]at hK;simp[zcx];refine zK5 aa hk k n ks ht c hf cx jN ed _ _ ?_;simp[zhu];unfold zkf;refine ALoop.own 13 zaZ 3 rfl ?_;have d8:(H++[AB.cells [AV.int IntKind.i64 k,AV.int IntKind.i64 n,AV.sl (VT.css ks) Tok.none]]).length=H.length+1:=by simp
  rw[d8];have hpp:=zwT cx (.mk 0 0 []) l.length (Nat.le_refl _);rw[List.take_length,cx,List.take_length]at hpp;rw[hpp]at hK;have hpt:∀ j∈pos false bs bs.length,j<l.length:=λj hj=>by have:=zFQ hj;omega
  have hp8:=zpL false bs bs.length;generalize pos false bs bs.length=P at *;show zkf (.sl (VT.css l) .none) (.sl [] (.own (H.length+1))) (.sl (zbW P) .none) (.int .i64 P.length) (.int .i64 0) (H++[.cells [.int .i64 k,.int .i64 n,.sl (VT.css ks) .none]]++[.perm zaZ 3 0]) (Out H.length K);have aH:∀ m,HSc (H++[.cells [.int .i64 k,.int .i64 n,.sl (VT.css ks) .none],.perm zaZ 3 m]):=λm=>hs.append (by simp[AB.sc,AV.scA,AV.scB]);refine zIa (Inv:=λq t13 t35 H'=>∃ i:Nat,i≤P.length∧q=P.length-i∧t35=.int .i64 i∧t13=.sl (VT.css ((P.take i).map λj=>l.getD j (.mk 0 0 []))) (.own (H.length+1))∧H'=H++[.cells [.int .i64 k,.int .i64 n,.sl (VT.css ks) .none],.perm zaZ 3 i]) P.length ?_ ?_
  ·intro _;exact⟨0,by omega,by omega,rfl,by simp[VT.css],by simp⟩
  ·rintro q t13 t35 H' ⟨i,hi,rfl,rfl,rfl,rfl⟩ aM am aP Kb ar;by_cases ak:i<P.length
   ·have hj:=hpt _ (List.getElem_mem ak);simp[zqB,zhu,zFf,ak,hj];rw[ze0];simp[zaw,zaL,zaI,Nat.min_eq_left hi];refine⟨⟨by omega,by omega⟩,?_⟩;rw[zat (by omega) (by omega)];have aN:VT.css (List.take i (List.map (λj=>l[j]?.getD (VT.mk 0 0 [])) P))++[(l[P[i]]'hj).cs]=VT.css ((P.take (i+1)).map λj=>l.getD j (.mk 0 0 [])):=by rw[List.take_succ_eq_append_getElem ak,VT.css_map,VT.css_map,List.map_append,List.map_append,List.map_take];simp[List.getD_eq_getElem?_getD,hj]
    rw[aN];refine ar _ _ ⟨P.length-(i+1),by omega,Back.at (J:=[]) (H2:=H++[.cells [.int .i64 k,.int .i64 n,.sl (VT.css ks) .none],.perm zaZ 3 (i+1)]) (by simp) (by simp) (aH _) ?_ ⟨_,_,rfl,i+1,by omega,rfl,by simp,rfl,rfl⟩⟩;simp[zke,AV.sc,AV.scV,AV.scA,AV.scB]
   ·obtain rfl:i=P.length:=by omega
    rw[List.take_length]at *;simp[zqB,zhu];refine⟨⟨rfl,rfl⟩,?_⟩;exact Out.tup (bs:=[.sl (VT.css (P.map λj=>l.getD j (.mk 0 0 []))) .none,.bool true]) hs hK ⟨slV,zaW rfl rfl,trivial⟩
theorem it2 (v:IT):∃ a b,v.cs=[a,b]∧a.known=true∧b.known=true:=by obtain⟨n,ks⟩:=v;exact⟨_,_,rfl,rfl,rfl⟩
theorem zv5 {aa:List Dat} (h8:∀ D∈aa,D.cons.length≤8) (v:IT) (t:VT) (h:(zci aa v t).2=true):0≤(zci aa v t).1∧(zci aa v t).1≤6:=by obtain⟨e1,e2,e3⟩:=(zgF h8 v t).1 h;omega
theorem zv4 {aa:List Dat} (h8:∀ D∈aa,D.cons.length≤8):∀ (vs:List IT) (ts:List VT) (a:Int),0≤a→0≤(zbV aa vs ts a).1∧(zbV aa vs ts a).1≤a+6*vs.length
 | [],ts,a,h=>by simp[zbV];omega
 | v::vs,[],a,h=>by simp[zbV];omega
 | v::vs,t::ts,a,h=>by
  simp only[zbV];split
  ·rename_i hb;have:=zv5 h8 v t hb;have:=zv4 h8 vs ts (a+(zci aa v t).1) (by omega);simp only[List.length_cons];omega
  ·simp;omega
theorem zhz {x:VT}:∀ {l:List VT} {bs:List Bool},x∈pick l bs→x∈l
 | [],_,h=>by simp[pick]at h
 | _::_,[],h=>by simp[pick]at h
 | c::l,b::bs,h=>by
  cases b with
  | true=>simp[pick]at h;exact List.mem_cons_of_mem _ (zhz h)
  | false=>
   simp[pick]at h;rcases h with rfl | h
   ·exact List.mem_cons_self
   ·exact List.mem_cons_of_mem _ (zhz h)
theorem zwP {aa:List Dat} {t:VT} {c:Int} {ps:List VT} (h:zbd aa t c=some ps):∀ x∈ps,x.nodes≤1000:=by
 unfold zbd at h;obtain⟨k,n,ks⟩:=t;cases hf:zbm aa (.mk k n ks) c with
 | none=>rw[hf]at h;cases h
 | some l=>rw[hf]at h;obtain⟨_,_,_,_,_,_,_,h2⟩:=zgV hf;simp at h;subst h;exact λx hx=>by have:=h2 x (zhz hx);omega
theorem zE0 (aa:List Dat) (n:Int) (ks:List IT) (tk tn:Int) (tks:List VT):zci aa (.mk n ks) (.mk tk tn tks) =
  if tk=6 then (if n=0 then (if tks.length=ks.length then zbV aa ks tks 0 else (0,false)) else (0,false))
  else if tk=7 then (n,decide (0≤n) && decide (n≤6) && decide (ks.length=0))
  else if tk=5 then (if n=0 then zcR aa ks (.mk tk tn tks) 0 else (0,false))
  else (0,decide (n=0) && decide (ks.length=0)):=by
 rw[zci];rfl
def zcL (aa:List Dat) (vs:List IT) (ts:List VT):Int × Bool:=if ts.length=vs.length then zbV aa vs ts 0 else (0,false)
def zip (aa:List Dat) (v:IT):Prop:=∀ t:VT,t.nodes≤1000→∀ (H:zaa) (K:Kt),K (.tup [.int .i64 (zci aa v t).1,.bool (zci aa v t).2]) H→ACalls tP zjm [.sl (aa.map Dat.cs) .none,.agg t.cs,.agg v.cs] H K
theorem zcY {H:zaa} {K:Kt} {a:Int} {b:Bool} (hs:HSc H) (h:K (.tup [.int .i64 a,.bool b]) H) (J:zaa):Out H.length K (.tup [.int .i64 a,.bool b]) (H++J):=Out.tup hs h ⟨zaW rfl rfl,zaW rfl rfl,trivial⟩
theorem zy3 {aa:List Dat} (h8:∀ D∈aa,D.cons.length≤8) (vs:List IT) (hv:vs.length≤1000) (cY:∀ v∈vs,zip aa v) (ts:List VT) (ht:∀ t∈ts,t.nodes≤1000) (H:zaa) (K:Kt)
  (hK:K (.tup [.int .i64 (zcL aa vs ts).1,.bool (zcL aa vs ts).2]) H):ACalls tP ziO [.sl (aa.map Dat.cs) .none,.sl (VT.css ts) .none,.sl (IT.css vs) .none] H K:=by
 refine ACalls.out (zJq λhs=>?_);have h0:∀ b J,zcL aa vs ts=(0,b)→Out H.length K (.tup [.int .i64 0,.bool b]) (H++J):=λb J h=>by rw[h]at hK;exact zcY hs hK J
 by_cases hl:ts.length=vs.length;case neg=>
  have:((ts.length:Int) != (vs.length:Int))=true:=by simp[bne];omega
  simp[zqX,this];refine⟨⟨rfl,rfl⟩,?_⟩;simpa using h0 false [] (by simp[zcL,hl])
 have iT:zcL aa vs ts=zbV aa vs ts 0:=by simp[zcL,hl]
 rw[iT]at hK h0;simp[zqX,hl];refine zJo (Inv:=λq t8 t20 H'=>∃ (i:Nat) (a:Int),i≤vs.length∧q=vs.length-i∧t20=.int .i64 i∧t8=.int .i64 a∧0≤a∧a≤6*i∧zbV aa (vs.drop i) (ts.drop i) a=zbV aa vs ts 0∧H'=H) vs.length ?_ ?_
 ·intro _;exact⟨0,0,by omega,by omega,rfl,rfl,by omega,by omega,by simp,rfl⟩
 ·rintro q t8 t20 H' ⟨i,a,hi,rfl,rfl,rfl,gW,kv,ho,rfl⟩ aM am aP Kb ar;by_cases ak:i<vs.length
  ·have aO:i<ts.length:=by omega
   rw[List.drop_eq_getElem_cons ak,List.drop_eq_getElem_cons aO]at ho;simp only[zbV]at ho;obtain⟨x,y,z,az,hx,hy,hz⟩:=zbh ts[i];obtain⟨x2,y2,aF,bh,eW⟩:=it2 vs[i];have lL:=ht _ (List.getElem_mem aO);have lM:=cY _ (List.getElem_mem ak);simp[zqY,hl,ak,aO,az,aF,Nat.add_assoc];refine⟨⟨hx,hy,hz⟩,?_⟩;rw[←az,←aF];refine zaC (.tup [.int .i64 (zci aa vs[i] ts[i]).1,.bool (zci aa vs[i] ts[i]).2]) (λJ=>lM _ lL _ _ ⟨rfl,rfl⟩) ?_;cases hb:(zci aa vs[i] ts[i]).2 with
   | false=>rw[hb]at ho;simp at ho;simp;exact⟨⟨rfl,rfl⟩,h0 _ _ ho.symm⟩
   | true=>rw[hb]at ho;simp at ho;have lN:=zv5 h8 _ _ hb;simp;rw[zat (by omega) (by omega),zat (by omega) (by omega)];refine ar _ _ ⟨vs.length-(i+1),by omega,Back.at (J:=[_]) rfl (Nat.le_refl _) hs ?_ ⟨_,_,rfl,i+1,_,by omega,rfl,by simp,rfl,by omega,by simp;omega,ho,rfl⟩⟩;simp[zkC,AV.sc,AV.scV,AV.scA,AV.scB]
  ·obtain rfl:i=vs.length:=by omega
   rw[List.drop_length]at ho;simp only[zbV]at ho;rw[←ho]at hK;simp[zqY,hl];refine⟨⟨rfl,rfl⟩,?_⟩;have:=zcY hs hK [];simpa using this
theorem zST {aa:List Dat} (hk:zbr aa) (h8:∀ D∈aa,D.cons.length≤8):∀ (m:Nat) (v:IT),v.nodes≤m→v.nodes≤900→zip aa v:=by
 intro m;induction m with
 | zero=>intro v h;have:=v.nodes_pos;omega
 | succ m ih=>
  intro v hv hb t ht H K hK;obtain⟨n,ks⟩:=v;obtain⟨tk,tn,tks⟩:=t;have bY:IT.nodesL ks+1≤900:=by simpa[IT.nodes]using hb
  have bn:=IT.len_le ks;have cE:∀ v∈ks,zip aa v:=λv gB=>by obtain⟨i,hi,rfl⟩:=List.getElem_of_mem gB;have:=IT.kid_lt (n:=n) hi;exact ih _ (by omega) (by omega)
  refine ACalls.out (zSR λhs=>?_);rw[zE0]at hK;by_cases h6:tk=6
  ·subst h6;by_cases hn:n=0
   ·subst hn;simp[zdu,VT.cs,IT.cs,Nat.add_assoc];have bf:∀ t∈tks,t.nodes≤1000:=λt iU=>by obtain⟨i,hi,rfl⟩:=List.getElem_of_mem iU;have:=VT.kid_lt (k:=6) (n:=tn) hi;omega
    refine zy3 h8 ks (by omega) cE tks bf _ _ ?_;simp;refine⟨⟨rfl,rfl⟩,?_⟩;exact zcY hs (by simpa[zcL]using hK) _
   ·have:(n != 0)=true:=by simp[bne,hn]
    simp[zdu,VT.cs,IT.cs,Nat.add_assoc,this];simp[hn]at hK;exact⟨⟨rfl,rfl⟩,zcY hs hK _⟩
  have cR:(tk == 6)=false:=by simp[h6]
  rw[if_neg h6]at hK;by_cases h7:tk=7
  ·subst h7;simp only[if_true]at hK;by_cases g1:0≤n
   ·by_cases g2:n≤6
    ·by_cases g3:ks.length=0
     ·simp[zdu,VT.cs,IT.cs,Nat.add_assoc,g1,g2,g3];simp[g1,g2,g3]at hK;exact⟨⟨rfl,rfl⟩,zcY hs hK _⟩
     ·have g3':((ks.length:Int) == 0)=false:=by simp;exact λh=>g3 (by simp[h])
      simp[zdu,VT.cs,IT.cs,Nat.add_assoc,g1,g2,g3,g3'];simp[g1,g2,g3]at hK;exact⟨⟨rfl,rfl⟩,zcY hs hK _⟩
    ·simp[zdu,VT.cs,IT.cs,Nat.add_assoc,g1,g2];simp[g1,g2]at hK;exact⟨⟨rfl,rfl⟩,zcY hs hK _⟩
   ·simp[zdu,VT.cs,IT.cs,Nat.add_assoc,g1];simp[g1]at hK;exact⟨⟨rfl,rfl⟩,zcY hs hK _⟩
  have iV:(tk == 7)=false:=by simp[h7]
  rw[if_neg h7]at hK;by_cases h5:tk=5;case neg=>
   have fI:(tk == 5)=false:=by simp[h5]
   rw[if_neg h5]at hK;by_cases g1:n=0
   ·by_cases g2:ks.length=0
    ·simp[zdu,VT.cs,IT.cs,Nat.add_assoc,cR,iV,fI,g1,g2,zab];simp[g1,g2]at hK;exact⟨⟨rfl,rfl⟩,zcY hs hK _⟩
    ·have g2':((ks.length:Int) == 0)=false:=by simp;exact λh=>g2 (by simp[h])
     simp[zdu,VT.cs,IT.cs,Nat.add_assoc,cR,iV,fI,g1,g2,g2',zab];simp[g1,g2]at hK;exact⟨⟨rfl,rfl⟩,zcY hs hK _⟩
   ·have g1':(n == 0)=false:=by simp[g1]
    simp[zdu,VT.cs,IT.cs,Nat.add_assoc,cR,iV,fI,g1,g1',zab];simp[g1]at hK;exact⟨⟨rfl,rfl⟩,zcY hs hK _⟩
  subst h5;simp only[if_true]at hK;by_cases hn:n=0;case neg=>
   have:(n != 0)=true:=by simp[bne,hn]
   simp[zdu,VT.cs,IT.cs,Nat.add_assoc,this];simp[hn]at hK;exact⟨⟨rfl,rfl⟩,zcY hs hK _⟩
  subst hn;simp only[if_true]at hK;simp[zdu,VT.cs,IT.cs,Nat.add_assoc];have hT:(VT.mk 5 tn tks).nodes≤1000:=ht;have jO:(VT.mk 5 tn tks).cs=[.int .i64 5,.int .i64 tn,.sl (VT.css tks) .none]:=rfl;generalize hTg:VT.mk 5 tn tks=T at *;have bZ:HSc (H++[.cells [.int .i64 5,.int .i64 tn,.sl (VT.css tks) .none],.cells [.int .i64 0,.sl (IT.css ks) .none]]):=hs.append (by simp[AB.sc,AV.scA,AV.scB]);have hF:zcR aa ks T 0=(0,false)→∀ J,Out H.length K (.tup [.int .i64 0,.bool false]) (H++J):=λh J=>zcY hs (by rw[h]at hK;exact hK) J;refine zSP (Inv:=λq t8 t55 H'=>∃ (i:Nat) (a:Int),i≤ks.length∧q=ks.length-i∧t55=.int .i64 i∧t8=.int .i64 a∧0≤a∧a≤6∧zcR aa (ks.drop i) T a=zcR aa ks T 0 ∧
   H'=H++[.cells [.int .i64 5,.int .i64 tn,.sl (VT.css tks) .none],.cells [.int .i64 0,.sl (IT.css ks) .none]]) ks.length ?_ ?_
  ·intro _;exact⟨0,0,by omega,by omega,rfl,rfl,by omega,by omega,by simp,rfl⟩
  ·rintro q t8 t55 H' ⟨i,a,hi,rfl,rfl,rfl,gW,kv,ho,rfl⟩ aM am aP Kb ar;by_cases ak:i<ks.length
   ·rw[List.drop_eq_getElem_cons ak]at ho;have cI:=IT.kid_lt (n:=0) ak;obtain⟨c,es,hx⟩:∃ c es,ks[i]=IT.mk c es:=by cases h:ks[i] with | mk a b=>exact⟨a,b,rfl⟩
    rw[hx]at ho cI;have hesl:=IT.len_le es;have hen:IT.nodesL es+1≤900:=by
     have:(IT.mk c es).nodes=IT.nodesL es+1:=by simp[IT.nodes]
     have:(IT.mk 0 ks).nodes=IT.nodesL ks+1:=by simp[IT.nodes]
     omega
    have aX:∀ v∈es,zip aa v:=λv gB=>by obtain⟨j,hj,rfl⟩:=List.getElem_of_mem gB;have:=IT.kid_lt (n:=c) hj;exact ih _ (by omega) (by omega)
    simp only[zcR]at ho;simp[ztH,ak,hx,IT.cs,Nat.add_assoc];rw[←jO];refine zJy aa hk T hT c _ _ ?_;cases hp:zbd aa T c with
    | none=>rw[hp]at ho;simp only at ho;simp[zcx];exact⟨⟨rfl,rfl⟩,hF ho.symm _⟩
    | some ps=>
     rw[hp]at ho;simp only at ho;simp[zcx];have lO:∀ t∈ps,t.nodes≤1000:=zwP hp;refine zy3 h8 es (by omega) aX ps lO _ _ ?_;have htb:0≤(zcL aa es ps).1∧(zcL aa es ps).1≤6*es.length:=by
      unfold zcL;split
      ·have:=zv4 h8 es ps 0 (by omega);omega
      ·simp;omega
     have cd:(if (zcL aa es ps).2 && decide (a+(1+(zcL aa es ps).1)≤6) then zcR aa (ks.drop (i+1)) T (a+(1+(zcL aa es ps).1)) else (0,false))=zcR aa ks T 0:=by
      rw[←ho];unfold zcL;by_cases hl:ps.length=es.length
      ·simp only[hl,if_true]
      ·simp only[hl,if_false];rfl
     generalize zcL aa es ps=w at *;obtain⟨w1,w2⟩:=w;simp only at htb cd;simp;have q1:IntKind.i64.wrap (1+w1)=1+w1:=zat (by omega) (by omega);have q2:IntKind.i64.wrap (a+(1+w1))=a+(1+w1):=zat (by omega) (by omega);rw[q1,q2];cases w2 with
     | false=>simp at cd ⊢;exact⟨⟨rfl,rfl⟩,hF cd.symm _⟩
     | true=>
      by_cases hh:a+(1+w1)≤6
      ·have lP:¬ (6:Int)<a+(1+w1):=by omega
       simp[hh]at cd;simp[lP];rw[zat (by omega) (by omega)];refine ar _ _ ⟨ks.length-(i+1),by omega,Back.at (J:=[.cells [.int .i64 c,.sl (IT.css es) .none]]) (H2:=H++[.cells [.int .i64 5,.int .i64 tn,.sl (VT.css tks) .none],.cells [.int .i64 0,.sl (IT.css ks) .none]]) (by simp[jO]) (by simp) bZ ?_ ⟨_,_,rfl,i+1,_,by omega,rfl,by simp,rfl,by omega,by omega,cd,rfl⟩⟩;simp[znd,AV.sc,AV.scV,AV.scA,AV.scB]
      ·have lP:(6:Int)<a+(1+w1):=by omega
       simp[hh]at cd;simp[lP];exact⟨⟨rfl,rfl⟩,hF cd.symm _⟩
   ·obtain rfl:i=ks.length:=by omega
    rw[List.drop_length]at ho;simp only[zcR]at ho;rw[←ho]at hK;simp[ztH];exact⟨⟨rfl,rfl⟩,zcY hs hK _⟩
theorem zpR (aa:List Dat) (n:Int) (ks:List IT) (tk tn:Int) (tks:List VT):rdV aa (.mk n ks) (.mk tk tn tks) =
  if tk=6 then (if n=0 then (if tks.length=ks.length then rdA aa ks tks 0 else -1) else -1)
  else if tk=7 then (if 0≤n∧n≤6∧ks.length=0 then n else -1)
  else if tk=5 then (if n=0∧ks.length≤6 then rdE aa ks (.mk tk tn tks) 0 else -1)
  else (if n=0∧ks.length=0 then 0 else -1):=by
 rw[rdV];rfl
theorem zuL {m:Int × Bool} {r:Int} (h:agr m r):-1≤r∧r≤6:=by
 obtain⟨h1,h2⟩:=h;cases hb:m.2 with
 | true=>have:=h1 hb;omega
 | false=>have:=h2 hb;omega
def zcK (aa:List Dat) (vs:List IT) (ts:List VT):Int:=if ts.length=vs.length then rdA aa vs ts 0 else -1
theorem zHG {aa:List Dat} (h8:∀ D∈aa,D.cons.length≤8) (vs:List IT) (ts:List VT):-1≤zcK aa vs ts∧zcK aa vs ts≤6:=by
 unfold zcK;split
 ·exact zuL ((ziv h8 vs ts 0 (by omega)).1 (by omega))
 ·omega
def zil (aa:List Dat) (v:IT):Prop:=∀ t:VT,t.nodes≤1000→∀ (H:zaa) (K:Kt),K (.int .i64 (rdV aa v t)) H→ACalls tP zjk [.sl (aa.map Dat.cs) .none,.agg t.cs,.agg v.cs] H K
theorem zyP {aa:List Dat} (h8:∀ D∈aa,D.cons.length≤8) (vs:List IT) (hv:vs.length≤1000) (cY:∀ v∈vs,zil aa v) (ts:List VT) (ht:∀ t∈ts,t.nodes≤1000) (H:zaa) (K:Kt)
  (hK:K (.int .i64 (zcK aa vs ts)) H):ACalls tP ziM [.sl (aa.map Dat.cs) .none,.sl (VT.css ts) .none,.sl (IT.css vs) .none] H K:=by
 refine ACalls.out (zIP λhs=>?_);have hO:∀ r J,zcK aa vs ts=r→Out H.length K (.int .i64 r) (H++J):=λr J h=>by subst h;exact Out.int rfl (Nat.le_refl _) hs hK
 have gU:∀ r,zcK aa vs ts=r→Out H.length K (.int .i64 r) H:=λr h=>by simpa using hO r [] h
 by_cases hl:ts.length=vs.length;case neg=>
  have:((ts.length:Int) != (vs.length:Int))=true:=by simp[bne];omega
  simp[zqL,this];exact gU _ (by simp[zcK,hl])
 have iT:zcK aa vs ts=rdA aa vs ts 0:=by simp[zcK,hl]
 simp[zqL,hl];refine zIN (Inv:=λq t7 t17 H'=>∃ (i:Nat) (a:Int),i≤vs.length∧q=vs.length-i∧t17=.int .i64 i∧t7=.int .i64 a∧0≤a∧a≤6∧rdA aa (vs.drop i) (ts.drop i) a=zcK aa vs ts∧H'=H) vs.length ?_ ?_
 ·intro _;exact⟨0,0,by omega,by omega,rfl,rfl,by omega,by omega,by simp[iT],rfl⟩
 ·rintro q t7 t17 H' ⟨i,a,hi,rfl,rfl,rfl,gW,kv,ho,rfl⟩ aM am aP Kb ar;by_cases ak:i<vs.length
  ·have aO:i<ts.length:=by omega
   rw[List.drop_eq_getElem_cons ak,List.drop_eq_getElem_cons aO]at ho;simp only[rdA]at ho;have lL:=ht _ (List.getElem_mem aO);have lM:=cY _ (List.getElem_mem ak);have lN:=zuL (zgF h8 vs[i] ts[i]);simp[zqM,hl,ak,aO,Nat.add_assoc];refine zaC (.int .i64 (rdV aa vs[i] ts[i])) (λJ=>lM _ lL _ _ ⟨rfl,rfl⟩) ?_;generalize rdV aa vs[i] ts[i]=r at *;by_cases hr:r<0
   ·rw[if_pos (.inl hr)]at ho;simp[hr];exact gU _ ho.symm
   ·have q1:IntKind.i64.wrap (a+r)=a+r:=zat (by omega) (by omega);by_cases h6:a+r>6
    ·rw[if_pos (.inr h6)]at ho;simp[hr,q1,h6];exact gU _ ho.symm
    ·rw[if_neg (by omega)]at ho;simp[hr,q1,h6];rw[zat (by omega) (by omega)];refine ar _ _ ⟨vs.length-(i+1),by omega,Back.at (J:=[]) (by simp) (Nat.le_refl _) hs ?_ ⟨_,_,rfl,i+1,_,by omega,rfl,by simp,rfl,by omega,by omega,ho,rfl⟩⟩;simp[zku,AV.sc,AV.scV,AV.scA,AV.scB]
  ·obtain rfl:i=vs.length:=by omega
   rw[List.drop_length]at ho;simp only[rdA]at ho;simp[zqM,hl];exact gU _ ho.symm
theorem zQW:∀ (m:Nat) (v:IT),v.nodes≤m→∀ (left:Int),left≤1000000→-1≤left→∀ (H:zaa) (id:Nat),H[id]?=some (.cells [.int .i64 left])→∀ (K:AV→zaa→Prop),
  ((v.nodes:Int)≤left→K (.bool true) (H.set id (.cells [.int .i64 (left-v.nodes)])))→(¬ (v.nodes:Int)≤left→∀ l',K (.bool false) (H.set id (.cells [.int .i64 l']))) →
  ACalls tP zjf [.agg v.cs,.ptr id 0] H K:=by
 intro m;induction m with
 | zero=>intro v h;have:=v.nodes_pos;omega
 | succ m ih=>
  intro v hv left d8 dQ H id ap K hK hF;obtain⟨n,ks⟩:=v;have ak:=zbc ap;have dv:(IT.mk n ks).nodes=IT.nodesL ks+1:=by simp[IT.nodes]
  refine ACalls.out (zQU λhs=>?_);have aA:(H++[AB.cells [.int .i64 n,.sl (IT.css ks) .none]])[id]?=some (.cells [.int .i64 left]):=zbF ap;have bad:(¬ ((IT.mk n ks).nodes:Int)≤left)→∀ l' H',H'=H.set id (.cells [.int .i64 l'])++[.cells [.int .i64 n,.sl (IT.css ks) .none]]→Out H.length K (.bool false) H':=by intro h l' H' he;exact Out.bool he (by simp) (hs.set rfl) (hF h l')
  simp[zBC,IT.cs,aA,AV.known];rw[zat (by omega) (by omega),zd5 _ ap,zbF (zdo _ ap)];by_cases h0:left-1<0
  ·simp[h0];exact bad (by omega) _ _ rfl
  ·simp[h0];refine zQS (Inv:=λq t5 H'=>∃ i:Nat,i≤ks.length∧q=ks.length-i∧t5=.int .i64 i∧((IT.nodesL (ks.take i):Int)+1≤left)∧H'=H.set id (.cells [.int .i64 (left-1-IT.nodesL (ks.take i))])++[.cells [.int .i64 n,.sl (IT.css ks) .none]]) ks.length ?_ ?_
   ·intro _;exact⟨0,by omega,by omega,rfl,by simp[IT.nodesL];omega,by simp[IT.nodesL]⟩
   ·rintro q t5 H' ⟨i,hi,rfl,rfl,hb,rfl⟩ hsc am aP Kb ar;by_cases bm:i<ks.length
    ·have bg:=IT.kid_lt (n:=n) bm;have h1:=IT.nodesL_take bm;have h2:=IT.nodesL_take_le ks (i+1);have bn:=IT.len_le (ks.take i);simp only[List.length_take]at bn;have dR:(H.set id (.cells [.int .i64 (left-1-IT.nodesL (ks.take i))])++[AB.cells [.int .i64 n,.sl (IT.css ks) .none]])[id]?=some (.cells [.int .i64 (left-1-IT.nodesL (ks.take i))]):=zbF (zdo _ ap);simp[zs9,bm];refine ih ks[i] (by omega) (left-1-IT.nodesL (ks.take i)) (by omega) (by omega) _ id dR _ ?_ ?_
     ·intro aS;rw[zd5 _ (zdo _ ap),List.set_set];simp;rw[zat (by omega) (by omega)];refine ar _ _ ⟨ks.length-(i+1),by omega,Back.here (by simp) ((hs.set rfl).snoc rfl) ?_ ⟨_,rfl,i+1,by omega,rfl,by simp,by omega,?_⟩⟩
      ·simp[zmC,AV.sc,AV.scV,AV.scA,AV.scB];omega
      ·rw[h1];congr 5;omega
     ·intro aS l';rw[zd5 _ (zdo _ ap),List.set_set];simp;exact bad (by omega) _ _ rfl
    ·obtain rfl:i=ks.length:=by omega
     rw[List.take_length]at hb ⊢;simp[zs9];refine Out.bool rfl (by simp) (hs.set rfl) ?_;have:=hK (by omega);rw[dv]at this;rw[show left-1-(IT.nodesL ks:Int)=left-((IT.nodesL ks+1:Nat):Int) by omega];exact this
theorem zUD (v:IT) (H:zaa) (K:Kt) (hK:∀ b,(b=true→v.nodes≤40)→K (.bool b) H):ACalls tP zpB [.agg v.cs] H K:=by
 refine ACalls.out (zUC λhs=>?_);simp[zq9,AV.known];refine zQW _ v (Nat.le_refl _) 40 (by omega) (by omega) _ (H.length+1) (by simp) _ ?_ ?_
 ·intro h;exact Out.bool (J:=[_,_]) (by simp;exact⟨rfl,rfl⟩) (Nat.le_refl _) hs (hK true λ_=>by omega)
 ·intro h l';exact Out.bool (J:=[_,_]) (by simp;exact⟨rfl,rfl⟩) (Nat.le_refl _) hs (hK false λh=>by cases h)
theorem zR7 {aa:List Dat} (hk:zbr aa) (h8:∀ D∈aa,D.cons.length≤8):∀ (m:Nat) (v:IT),v.nodes≤m→v.nodes≤900→zil aa v:=by
 intro m;induction m with
 | zero=>intro v h;have:=v.nodes_pos;omega
 | succ m ih=>
  intro v hv hb t ht H K hK;obtain⟨n,ks⟩:=v;obtain⟨tk,tn,tks⟩:=t;have bY:IT.nodesL ks+1≤900:=by simpa[IT.nodes]using hb
  have bn:=IT.len_le ks;have cE:∀ v∈ks,zil aa v:=λv gB=>by obtain⟨i,hi,rfl⟩:=List.getElem_of_mem gB;have:=IT.kid_lt (n:=n) hi;exact ih _ (by omega) (by omega)
  refine ACalls.out (zR5 λhs=>?_);rw[zpR]at hK;have hO:∀ r J,K (.int .i64 r) H→Out H.length K (.int .i64 r) (H++J):=λr J h=>Out.int rfl (Nat.le_refl _) hs h;by_cases h6:tk=6
  ·subst h6;rw[if_pos rfl]at hK;by_cases hn:n=0
   ·subst hn;rw[if_pos rfl]at hK;simp[zdc,VT.cs,IT.cs,Nat.add_assoc];have bf:∀ t∈tks,t.nodes≤1000:=λt iU=>by obtain⟨i,hi,rfl⟩:=List.getElem_of_mem iU;have:=VT.kid_lt (k:=6) (n:=tn) hi;omega
    refine zyP h8 ks (by omega) cE tks bf _ _ ?_;exact hO _ _ hK
   ·have:(n != 0)=true:=by simp[bne,hn]
    rw[if_neg hn]at hK;simp[zdc,VT.cs,IT.cs,Nat.add_assoc,this];exact hO _ _ hK
  have cR:(tk == 6)=false:=by simp[h6]
  rw[if_neg h6]at hK;by_cases h7:tk=7
  ·subst h7;rw[if_pos rfl]at hK;by_cases g1:n<0
   ·rw[if_neg (by omega)]at hK;simp[zdc,VT.cs,IT.cs,Nat.add_assoc,g1];exact hO _ _ hK
   ·by_cases g2:n>6
    ·rw[if_neg (by omega)]at hK;simp[zdc,VT.cs,IT.cs,Nat.add_assoc,g1,g2];exact hO _ _ hK
    ·by_cases g3:0<ks.length
     ·rw[if_neg (by omega)]at hK;have g3':(0:Int)<ks.length:=by omega
      simp[zdc,VT.cs,IT.cs,Nat.add_assoc,g1,g2,g3,g3'];exact hO _ _ hK
     ·rw[if_pos (by omega)]at hK;have g3':¬ (0:Int)<ks.length:=by omega
      simp[zdc,VT.cs,IT.cs,Nat.add_assoc,g1,g2,g3,g3'];exact hO _ _ hK
  have iV:(tk == 7)=false:=by simp[h7]
  rw[if_neg h7]at hK;by_cases h5:tk=5;case neg=>
   have fI:(tk == 5)=false:=by simp[h5]
   rw[if_neg h5]at hK;by_cases g1:n=0
   ·subst g1;by_cases g2:0<ks.length
    ·have g2':(0:Int)<ks.length:=by omega
     rw[if_neg (by omega)]at hK;simp[zdc,VT.cs,IT.cs,Nat.add_assoc,cR,iV,fI,g2,g2'];exact hO _ _ hK
    ·have g2':¬ (0:Int)<ks.length:=by omega
     rw[if_pos (by omega)]at hK;simp[zdc,VT.cs,IT.cs,Nat.add_assoc,cR,iV,fI,g2,g2'];exact hO _ _ hK
   ·have g1':(n != 0)=true:=by simp[bne,g1]
    rw[if_neg (by omega)]at hK;simp[zdc,VT.cs,IT.cs,Nat.add_assoc,cR,iV,fI,g1,g1'];exact hO _ _ hK
  subst h5;rw[if_pos rfl]at hK;by_cases hn:n=0;case neg=>
   have:(n != 0)=true:=by simp[bne,hn]
   rw[if_neg (by omega)]at hK;simp[zdc,VT.cs,IT.cs,Nat.add_assoc,this];exact hO _ _ hK
  subst hn;by_cases hl6:ks.length>6
  ·rw[if_neg (by omega)]at hK;have:(6:Int)<ks.length:=by omega
   simp[zdc,VT.cs,IT.cs,Nat.add_assoc,this];exact hO _ _ hK
  have hl6':¬ (6:Int)<ks.length:=by omega
  rw[if_pos (by omega)]at hK;simp[zdc,VT.cs,IT.cs,Nat.add_assoc,hl6'];have hT:(VT.mk 5 tn tks).nodes≤1000:=ht;have jO:(VT.mk 5 tn tks).cs=[.int .i64 5,.int .i64 tn,.sl (VT.css tks) .none]:=rfl;generalize hTg:VT.mk 5 tn tks=T at *;have bZ:HSc (H++[.cells [.int .i64 5,.int .i64 tn,.sl (VT.css tks) .none],.cells [.int .i64 0,.sl (IT.css ks) .none]]):=hs.append (by simp[AB.sc,AV.scA,AV.scB]);have hF:∀ r,r=rdE aa ks T 0→∀ J,Out H.length K (.int .i64 r) (H++J):=λr h J=>hO _ _ (by rw[h];exact hK);refine zR3 (Inv:=λq t7 t58 H'=>∃ (i:Nat) (a:Int),i≤ks.length∧q=ks.length-i∧t58=.int .i64 i∧t7=.int .i64 a∧0≤a∧a≤6∧rdE aa (ks.drop i) T a=rdE aa ks T 0 ∧
   H'=H++[.cells [.int .i64 5,.int .i64 tn,.sl (VT.css tks) .none],.cells [.int .i64 0,.sl (IT.css ks) .none]]) ks.length ?_ ?_
  ·intro _;exact⟨0,0,by omega,by omega,rfl,rfl,by omega,by omega,by simp,rfl⟩
  ·rintro q t7 t58 H' ⟨i,a,hi,rfl,rfl,rfl,gW,kv,ho,rfl⟩ aM am aP Kb ar;by_cases ak:i<ks.length
   ·rw[List.drop_eq_getElem_cons ak]at ho;have cI:=IT.kid_lt (n:=0) ak;obtain⟨c,es,hx⟩:∃ c es,ks[i]=IT.mk c es:=by cases h:ks[i] with | mk a b=>exact⟨a,b,rfl⟩
    rw[hx]at ho cI;have hesl:=IT.len_le es;have hen:IT.nodesL es+1≤900:=by
     have:(IT.mk c es).nodes=IT.nodesL es+1:=by simp[IT.nodes]
     have:(IT.mk 0 ks).nodes=IT.nodesL ks+1:=by simp[IT.nodes]
     omega
    have aX:∀ v∈es,zil aa v:=λv gB=>by obtain⟨j,hj,rfl⟩:=List.getElem_of_mem gB;have:=IT.kid_lt (n:=c) hj;exact ih _ (by omega) (by omega)
    simp only[rdE]at ho;by_cases c1:c<0
    ·rw[if_pos (.inl c1)]at ho;simp[zif,ak,hx,IT.cs,Nat.add_assoc,c1];exact hF _ ho _
    by_cases c2:8≤c
    ·rw[if_pos (.inr c2)]at ho;simp[zif,ak,hx,IT.cs,Nat.add_assoc,c1,c2];exact hF _ ho _
    rw[if_neg (by omega)]at ho;simp[zif,ak,hx,IT.cs,Nat.add_assoc,c1,c2];rw[←jO];refine zIe aa hk T hT c _ _ ?_;cases hp:zbd aa T c with
    | none=>rw[hp]at ho;simp only at ho;simp[zcx];exact hF _ ho _
    | some ps=>
     rw[hp]at ho;simp only at ho;simp[zcx];have lO:∀ t∈ps,t.nodes≤1000:=zwP hp;refine zyP h8 es (by omega) aX ps lO _ _ ?_;have htb:=zHG h8 es ps;have cd:(if zcK aa es ps<0∨a+1+zcK aa es ps>6 then -1 else rdE aa (ks.drop (i+1)) T (a+(1+zcK aa es ps)))=rdE aa ks T 0:=by
      rw[←ho];unfold zcK;by_cases hl:ps.length=es.length
      ·simp only[hl,if_true]
      ·simp only[hl,if_false];rfl
     generalize zcK aa es ps=w at *;by_cases w0:w<0
     ·rw[if_pos (.inl w0)]at cd;simp[w0];exact hF _ cd _
     ·have q1:IntKind.i64.wrap (a+1)=a+1:=zat (by omega) (by omega);have q2:IntKind.i64.wrap (a+1+w)=a+1+w:=zat (by omega) (by omega);have q3:IntKind.i64.wrap (1+w)=1+w:=zat (by omega) (by omega);have q4:IntKind.i64.wrap (a+(1+w))=a+(1+w):=zat (by omega) (by omega);by_cases hh:a+1+w>6
      ·rw[if_pos (.inr hh)]at cd;simp[w0,q1,q2,hh];exact hF _ cd _
      ·rw[if_neg (by omega)]at cd;simp[w0,q1,q2,hh,q3,q4];rw[zat (by omega) (by omega)];refine ar _ _ ⟨ks.length-(i+1),by omega,Back.at (J:=[.cells [.int .i64 c,.sl (IT.css es) .none]]) (H2:=H++[.cells [.int .i64 5,.int .i64 tn,.sl (VT.css tks) .none],.cells [.int .i64 0,.sl (IT.css ks) .none]]) (by simp[jO]) (by simp) bZ ?_ ⟨_,_,rfl,i+1,_,by omega,rfl,by simp,rfl,by omega,by omega,cd,rfl⟩⟩;simp[zm1,AV.sc,AV.scV,AV.scA,AV.scB]
   ·obtain rfl:i=ks.length:=by omega
    rw[List.drop_length]at ho;simp only[rdE]at ho;simp[zif];exact hF _ ho _
section
variable {aa:List Dat} (hD:DOk aa)
def znG (aa:List Dat) (v:VT):Prop:=∀ (t:VT),za1 aa 0 t=true→∀ (H:zaa) (K:AV→zaa→Prop),K (.bool (zaT aa v t)) H→ACalls tP zji [.sl (aa.map Dat.cs) .none,.agg v.cs,.agg t.cs] H K
theorem zEj {f:VT→VT→Bool} {x y:List VT} {i:Nat} (h:i<x.length) (h':i<y.length):zcG f (x.drop i) (y.drop i)=(f x[i] y[i] && zcG f (x.drop (i+1)) (y.drop (i+1))):=by rw[List.drop_eq_getElem_cons h,List.drop_eq_getElem_cons h',zcG]
theorem zCQ (vs ts:List VT) (hl:vs.length≤1000000) (hv:∀ v∈vs,znG aa v) (ht:∀ t∈ts,za1 aa 0 t=true) (H:zaa) (K:AV→zaa→Prop) (hK:K (.bool (zcy aa vs ts)) H) :
  ACalls tP zjv [.sl (aa.map Dat.cs) .none,.sl (VT.css vs) .none,.sl (VT.css ts) .none] H K:=by
 refine ACalls.out (zUs λhs=>?_);rw[zoj]at hK;have hO:∀ b,zcG (zaT aa) vs ts=b→Out H.length K (.bool b) H:=λb h=>by have:=Out.bool (J:=[]) rfl (Nat.le_refl _) hs (h ▸ hK);simpa using this
 by_cases am:vs.length=ts.length;case neg=>
  have ck:((vs.length:Int) != ts.length)=true:=by simp;omega
  simp[zt7,ck];exact hO _ (zoe am)
 simp[zt7,am];refine zUq (Inv:=λq t H'=>∃ i:Nat,i≤vs.length∧q=vs.length-i∧t=.int .i64 i∧zcG (zaT aa) (vs.drop i) (ts.drop i)=zcG (zaT aa) vs ts∧H=H') vs.length ?_ ?_
 ·intro _;exact⟨0,by omega,by omega,rfl,by simp,rfl⟩
 rintro q t H' ⟨i,hi,rfl,rfl,ho,rfl⟩ hsc aS aP Kb ar;by_cases ak:i<vs.length
 ·have aO:i<ts.length:=by omega
  have aZ:(i:Int)<ts.length:=by omega
  rw[zEj ak aO]at ho;obtain⟨x,y,z,az,hx,hy,hz⟩:=zbh vs[i];obtain⟨x2,y2,z2,aF,bh,eW,ky⟩:=zbh ts[i];simp[zt8,ak,aO,aZ,az,aF];rw[←az,←aF];refine zaC (.bool (zaT aa vs[i] ts[i])) (λJ=>hv _ (List.getElem_mem ak) _ (ht _ (List.getElem_mem aO)) _ _ ⟨rfl,rfl⟩) ?_;cases hb:zaT aa vs[i] ts[i] with
  | false=>rw[hb,Bool.false_and]at ho;simp;exact hO _ ho.symm
  | true=>rw[hb,Bool.true_and]at ho;simp;rw[zat (by omega) (by omega)];refine ar _ _ ⟨vs.length-(i+1),by omega,Back.here (Nat.le_refl _) hs ?_ ⟨_,rfl,i+1,by omega,rfl,by simp,ho,rfl⟩⟩;simp[znA,AV.sc,AV.scV,AV.scA,AV.scB]
 ·obtain rfl:i=vs.length:=by omega
  rw[List.drop_length,am,List.drop_length,zcG]at ho;simp[zt8,am];exact hO _ ho.symm
theorem zEy {aa:List Dat} {vks ks:List VT} (h1:vks.length=1) (h2:ks.length=1):zcy aa vks ks=zdy aa vks (ks[0]'(by omega)):=by
 match vks,ks,h1,h2 with
 | [v],[k],_,_=>simp[zcy,zdy]
include hD in
theorem zYC:∀ (m:Nat) (v:VT),v.nodes≤m→v.nodes≤1000000→znG aa v:=by
 intro m;induction m with
 | zero=>intro v h;have:=v.nodes_pos;omega
 | succ m ih=>
  intro v hm hb t ht H K hK;obtain⟨vk,vn,vks⟩:=v;obtain⟨k,n,ks⟩:=t;refine ACalls.out (zRL λhs=>?_);have hO:∀ b J,zaT aa (.mk vk vn vks) (.mk k n ks)=b→Out H.length K (.bool b) (H++J):=λb J h=>Out.bool rfl (Nat.le_refl _) hs (h ▸ hK);have bn:=VT.len_le vks;have dv:(VT.mk vk vn vks).nodes=VT.nodesL vks+1:=by simp[VT.nodes]
  have cE:∀ x∈vks,znG aa x:=λx hx=>ih x (by have:=ziF (k:=vk) (n:=vn) x hx;omega) (by have:=zg3 (k:=vk) (n:=vn) x hx;omega);have bf:=zyf ht;have hto:za3 aa 0 (.mk k n ks)=true:=by rw[za1,Bool.and_eq_true]at ht;exact ht.2
  have gC:(VT.mk k n ks).nodes≤200:=by rw[za1,Bool.and_eq_true]at ht;exact of_decide_eq_true ht.1
  obtain⟨f1,f2,f3⟩:=ze6 hD.k;have loop:∀ (hk:ks.length=1) ,zaT aa (.mk vk vn vks) (.mk k n ks)=zdy aa vks (ks[0]'(by omega)) →
    ztu (.sl (aa.map Dat.cs) .none) (.ptr H.length 0) (.ptr (H.length+1) 0) (.int .i64 vks.length) (.int .i64 0) (H++[.cells [.int .i64 vk,.int .i64 vn,.sl (VT.css vks) .none],.cells [.int .i64 k,.int .i64 n,.sl (VT.css ks) .none]]) (Out H.length K):=by
   intro hk e;have cO:0<ks.length:=by omega
   refine zRJ (Inv:=λq t10 H'=>∃ i:Nat,i≤vks.length∧q=vks.length-i∧t10=.int .i64 i∧zdy aa (vks.drop i) ks[0]=zdy aa vks ks[0]∧H'=H++[.cells [.int .i64 vk,.int .i64 vn,.sl (VT.css vks) .none],.cells [.int .i64 k,.int .i64 n,.sl (VT.css ks) .none]]) vks.length ?_ ?_
   ·intro _;exact⟨0,by omega,by omega,rfl,by simp,rfl⟩
   rintro q t10 H' ⟨i,hi,rfl,rfl,ho,rfl⟩ hsc aS aP Kb ar;by_cases ak:i<vks.length
   ·rw[zEx ak]at ho;obtain⟨x,y,z,az,hx,hy,hz⟩:=zbh vks[i];obtain⟨x2,y2,z2,aF,bh,eW,ky⟩:=zbh ks[0];simp[zts,ak,az,cO,aF];rw[←az,←aF];refine zaC (.bool (zaT aa vks[i] ks[0])) (λJ=>cE _ (List.getElem_mem ak) ks[0] (bf _ (List.getElem_mem cO)) _ _ ⟨rfl,rfl⟩) ?_;cases bD:zaT aa vks[i] ks[0] with
    | false=>rw[bD,Bool.false_and]at ho;simp;exact hO _ _ (e.trans ho.symm)
    | true=>rw[bD,Bool.true_and]at ho;simp;rw[zat (by omega) (by omega)];refine ar _ _ ⟨vks.length-(i+1),by omega,Back.here (by simp) hsc ?_ ⟨_,rfl,i+1,by omega,rfl,by simp,ho,rfl⟩⟩;simp[zmW,AV.sc,AV.scV,AV.scA,AV.scB]
   ·obtain rfl:i=vks.length:=by omega
    rw[List.drop_length,zdy]at ho;simp[zts];exact hO _ _ (e.trans ho.symm)
  rcases zHM hto with ⟨rfl,rfl⟩ | ⟨rfl,rfl⟩ | ⟨rfl,rfl⟩ | rfl | ⟨rfl,hk⟩ | ⟨rfl,hk⟩ | ⟨rfl,hk⟩ | ⟨rfl,hk⟩
  ·simp[zeq,VT.cs,Nat.add_assoc];cases h1:(vk == 3) <;> simp
   ·exact hO _ _ (by simp[zaT,h1])
   by_cases h2:-1099511627776≤vn <;> simp[h2]
   ·by_cases h3:vn≤1099511627776 <;> simp[h3]
    ·exact hO _ _ (by simp[zaT,h1,h2,h3,i0])
    ·exact hO _ _ (by simp[zaT,h1,h2,h3])
   ·exact hO _ _ (by simp[zaT,h1,h2])
  ·simp[zeq,VT.cs,Nat.add_assoc];cases h1:(vk == 2) <;> simp
   ·exact hO _ _ (by simp[zaT,h1])
   cases h2:(vn == 0) <;> simp
   ·cases h3:(vn == 1) <;> simp
    ·exact hO _ _ (by simp[zaT,h1,h2,h3])
    ·exact hO _ _ (by simp[zaT,h1,h2,h3,i0])
   ·exact hO _ _ (by simp[zaT,h1,h2,i0])
  ·simp[zeq,VT.cs,Nat.add_assoc];cases h1:(vk == 1) <;> simp
   ·exact hO _ _ (by simp[zaT,h1])
   cases h2:(vn == 0) <;> simp
   ·exact hO _ _ (by simp[zaT,h1,h2])
   ·exact hO _ _ (by simp[zaT,h1,h2,i0])
  ·-- a aa type
   simp[zeq,VT.cs,Nat.add_assoc];cases h1:(vk == 5) with
   | false=>
    have:(vk != 5)=true:=by simp[bne,h1]
    simp[this];exact hO _ _ (by simp[zaT,h1])
   | true=>
   have ce:(vk != 5)=false:=by simp[bne,h1]
   by_cases h2:vn<0
   ·simp[ce,h2];exact hO _ _ (by simp[zaT,h1];omega)
   by_cases h3:8≤vn
   ·simp[ce,h2,h3];exact hO _ _ (by simp[zaT,h1];omega)
   simp[ce,h2,h3,Nat.add_assoc];have e:∀ o,zbm aa (.mk 5 n ks) vn=o→zaT aa (.mk vk vn vks) (.mk 5 n ks)=ze5 aa vks o:=λo ho=>by
    have q1:0≤vn:=by omega
    have q2:vn<8:=by omega
    simp[zaT,h1,q1,q2,ho]
   have aK:(VT.mk 5 n ks).cs=[.int .i64 5,.int .i64 n,.sl (VT.css ks) .none]:=rfl;rw[←aK];refine zuc aa f1 f2 f3 (.mk 5 n ks) (by omega) vn _ _ ?_;cases hf:zbm aa (.mk 5 n ks) vn with
   | none=>simp[zcx];exact hO _ _ (by rw[e _ hf,zEz])
   | some l=>simp[zcx,aK];refine zCQ vks l (by omega) cE (zvz hD.ok hto hf) _ _ ?_;exact hO _ _ (by rw[e _ hf,zEA])
  ·simp[zeq,VT.cs,Nat.add_assoc];cases h1:(vk == 4) <;> simp
   ·exact hO _ _ (by simp[zaT,h1])
   cases h2:(vn == 0) <;> simp
   ·exact hO _ _ (by simp[zaT,h1,h2])
   refine zCQ vks ks (by omega) cE bf _ _ ?_;exact hO _ _ (by simp[zaT,h1,h2])
  ·-- an array
   simp[zeq,zie,VT.cs,Nat.add_assoc];have cO:0<ks.length:=by omega
   cases h1:(vk == 6) with
   | false=>
    have:(vk != 6)=true:=by simp[bne,h1]
    simp[this];exact hO _ _ (by simp[zaT,h1])
   | true=>
   have ce:(vk != 6)=false:=by simp[bne,h1]
   by_cases h3:vks.length≤4096;case neg=>
    have gD:(4096:Int)<vks.length:=by omega
    simp[ce,gD];exact hO _ _ (by simp[zaT,h1,h3])
   have gD:¬ (4096:Int)<vks.length:=by omega
   cases h2:(vn == 0) with
   | false=>
    have:(vn != 0)=true:=by simp[bne,h2]
    simp[ce,gD,this];exact hO _ _ (by simp[zaT,h1,h2])
   | true=>
   have jx:(vn != 0)=false:=by simp[bne,h2]
   simp[ce,gD,jx];exact loop hk (by have:=zEt cO;simp[zaT,h1,h2,h3,this,cO])
  ·simp[zeq,zie,VT.cs,Nat.add_assoc];have cO:0<ks.length:=by omega
   cases h1:(vk == 7) with
   | false=>
    have:(vk != 7)=true:=by simp[bne,h1]
    simp[this];exact hO _ _ (by simp[zaT,h1])
   | true=>
   have ce:(vk != 7)=false:=by simp[bne,h1]
   by_cases h3:vks.length=1;case neg=>
    have gD:((vks.length:Int) != 1)=true:=by simp;omega
    simp[ce,gD];refine hO _ _ ?_;have:zcy aa vks ks=false:=by rw[zoj];exact zoe (by omega)
    simp[zaT,h1,this]
   have gD:((vks.length:Int) != 1)=false:=by simp;omega
   cases h2:(vn == 0) with
   | false=>
    have:(vn != 0)=true:=by simp[bne,h2]
    simp[ce,gD,this];exact hO _ _ (by simp[zaT,h1,h2])
   | true=>
   have jx:(vn != 0)=false:=by simp[bne,h2]
   simp[ce,gD,jx];exact loop hk (by rw[←zEy h3 hk];simp[zaT,h1,h2])
  ·simp[zeq,zie,VT.cs,Nat.add_assoc];cases h1:(vk == 8) <;> simp
   ·exact hO _ _ (by simp[zaT,h1])
   by_cases h2:0≤vn <;> simp[h2]
   ·by_cases h3:vn<64 <;> simp[h3]
    ·exact hO _ _ (by simp[zaT,h1,h2,h3,i0])
    ·exact hO _ _ (by simp[zaT,h1,h2,h3])
   ·exact hO _ _ (by simp[zaT,h1,h2])
end
theorem zEO {aa:List Dat} (h:zbr aa):zgy aa:=λD hD=>by obtain⟨_,h2⟩:=h;obtain⟨_,h3,h4⟩:=h2 D hD;refine⟨by omega,λc hc=>?_⟩;obtain⟨_,h5,h6⟩:=h4 c hc;exact⟨by omega,λx hx=>by have:=h6 x hx;omega⟩
theorem zvo {aa:List Dat}:∀ {l:List Dat} {d:Nat},zcP aa l d=true→∀ D∈l,D.cons.length≤8
 | [],_,_,D,h=>by cases h
 | E::l,d,h,D,hD=>by
  simp only[zcP,Bool.and_eq_true]at h;rcases List.mem_cons.1 hD with rfl | hD
  ·have:=h.1;simp only[zcE,Bool.and_eq_true,decide_eq_true_eq]at this;exact this.1.2
  ·exact zvo h.2 D hD
theorem ze4 {aa:List Dat} {t:VT} (h:zbz aa t=true):∀ D∈aa,D.cons.length≤8:=by simp only[zbz,zbx,Bool.and_eq_true]at h;exact zvo h.1.1.1.2
def zbl (aa:List Dat) (t:VT) (v:IT):Int:=if zbz aa t then rdV aa v t else -1
theorem zCd (aa:List Dat) (hk:zbr aa) (t:VT) (ht:t.nodes≤1000000) (H:zaa) (K:Kt) (hK:K (.bool (zbz aa t)) H):ACalls tP zjl [.sl (aa.map Dat.cs) .none,.agg t.cs] H K:=by
 refine ACalls.out (zSM λhs=>?_);obtain⟨x,y,z,az,hx,hy,hz⟩:=zbh t;simp[zCc,zar,zaJ,az,Nat.add_assoc];refine zJh aa (zEO hk) (by have:=hk.1;omega) ?_;unfold zbz at hK;cases hd:zbx aa with
 | false=>rw[hd]at hK;simp;exact Out.bool rfl (Nat.le_refl _) hs hK
 | true=>rw[hd,Bool.true_and]at hK;simp;rw[←az];refine zy1 aa 0 t (by omega) _ _ ?_;exact Out.bool rfl (Nat.le_refl _) hs hK
theorem zRQ (aa:List Dat) (hk:zbr aa) (t:VT) (ht:t.nodes≤1000000) (H:zaa) (K:Kt) (hK:K (.bool (zbz aa t)) H):ACalls tP zps [.sl (aa.map Dat.cs) .none,.agg t.cs] H K:=by
 refine ACalls.out (zRP λhs=>?_);obtain⟨x,y,z,az,hx,hy,hz⟩:=zbh t;simp[zBV,az,Nat.add_assoc];refine zRD aa hk _ _ λb hb=>?_;have lN:b=zbx aa:=by rw[Bool.eq_iff_iff,hb,zD7]
 subst lN;unfold zbz at hK;cases hd:zbx aa with
 | false=>rw[hd]at hK;simp;exact Out.bool rfl (Nat.le_refl _) hs hK
 | true=>rw[hd,Bool.true_and]at hK;simp;rw[←az];refine zBU aa (by have:=hk.1;omega) 0 t (by omega) _ _ ?_;exact Out.bool rfl (Nat.le_refl _) hs hK
theorem zh9 (aa:List Dat) (hk:zbr aa) (t:VT) (ht:t.nodes≤1000) (v:IT) (hv:v.nodes≤900) (H:zaa) (K:Kt) (hK:K (.int .i64 (zbl aa t v)) H):ACalls tP zf4 [.sl (aa.map Dat.cs) .none,.agg t.cs,.agg v.cs] H K:=by
 refine ACalls.out (zQZ λhs=>?_);have hO:∀ r J,zbl aa t v=r→Out H.length K (.int .i64 r) (H++J):=λr J h=>by subst h;exact Out.int rfl (Nat.le_refl _) hs hK
 obtain⟨x,y,z,az,hx,hy,hz⟩:=zbh t;obtain⟨x2,y2,aF,bh,eW⟩:=it2 v;simp[zBE,az,aF,Nat.add_assoc];rw[←az];refine zCd aa hk t (by omega) _ _ ?_;cases hf:zbz aa t with
 | false=>simp;exact hO _ _ (by simp[zbl,hf])
 | true=>
  have h8:=ze4 hf;obtain⟨g1,g2⟩:=zgF h8 v t;simp[Nat.add_assoc];rw[←aF];refine zST hk h8 _ v (Nat.le_refl _) hv t ht _ _ ?_;cases hb:(zci aa v t).2 with
  | false=>simp;exact hO _ _ (by simp[zbl,hf,g2 hb])
  | true=>simp;exact hO _ _ (by simp[zbl,hf,(g1 hb).1])
theorem zO3 (aa:List Dat) (hk:zbr aa) (t:VT) (ht:t.nodes≤1000) (v:IT) (hv:v.nodes≤900) (H:zaa) (K:Kt) (hK:K (.int .i64 (zbl aa t v)) H):ACalls tP zpb [.sl (aa.map Dat.cs) .none,.agg t.cs,.agg v.cs] H K:=by
 refine ACalls.out (zO2 λhs=>?_);have hO:∀ r J,zbl aa t v=r→Out H.length K (.int .i64 r) (H++J):=λr J h=>by subst h;exact Out.int rfl (Nat.le_refl _) hs hK
 obtain⟨x,y,z,az,hx,hy,hz⟩:=zbh t;obtain⟨x2,y2,aF,bh,eW⟩:=it2 v;simp[zAW,az,aF,Nat.add_assoc];rw[←az];refine zRQ aa hk t (by omega) _ _ ?_;cases hf:zbz aa t with
 | false=>simp;exact hO _ _ (by simp[zbl,hf])
 | true=>have h8:=ze4 hf;simp[Nat.add_assoc];rw[←aF];refine zR7 hk h8 _ v (Nat.le_refl _) hv t ht _ _ ?_;exact hO _ _ (by simp[zbl,hf])
theorem zQp (aa:List Dat) (hk:zbr aa) (t:VT) (ht:t.nodes≤1000) (v:IT) (hv:v.nodes≤900) (H:zaa) (K:Kt) (hK:K (.bool (decide (0≤zbl aa t v))) H):ACalls tP zpm [.sl (aa.map Dat.cs) .none,.agg t.cs,.agg v.cs] H K:=by refine ACalls.out (zQo λhs=>?_);obtain⟨x,y,z,az,hx,hy,hz⟩:=zbh t;obtain⟨x2,y2,aF,bh,eW⟩:=it2 v;simp[zBp,az,aF,Nat.add_assoc];rw[←az,←aF];refine zO3 aa hk t ht v hv _ _ ?_;simp;exact Out.bool rfl (Nat.le_refl _) hs (by simpa using hK)
theorem zSb (aa:List Dat) (hk:zbr aa) (t:VT) (ht:t.nodes≤1000) (H:zaa) (K:Kt) (hK:zbz aa t=true→K (.tup [.agg (zaG t).cs,.bool true]) H) (hf:zbz aa t=true) :
  ACalls tP zpt [.sl (aa.map Dat.cs) .none,.agg t.cs] H K:=by
 refine ACalls.out (zSa λhs=>?_);obtain⟨x,y,z,az,hx,hy,hz⟩:=zbh t;simp[zB1,az,hx,hy,hz];rw[←az];refine zCd aa hk t (by omega) _ _ ?_;simp[hf,az,hx,hy,hz];rw[←az];refine zI0 _ t (Nat.le_refl _) (by omega) _ _ ?_;obtain⟨p,q,hzz,hp,hq⟩:=zc5 (zaG t);have hK:=hK hf;rw[hzz]at hK ⊢;simp[hp,hq];refine⟨⟨rfl,rfl⟩,?_⟩;exact Out.tup (bs:=[.agg [p,q],.bool true]) hs hK ⟨zaW rfl (by have:=(zaG t).cs_scA H.length;rw[hzz]at this;simpa[AV.scV]using this),zaW rfl rfl,trivial⟩
theorem zhy {H:zaa} {K:AV→zaa→Prop} {r:AV} (hsc:HSc H) (hv:r.isV=true) (hr:r.scV H.length=true) (h:K r H):Out H.length K r H:=by have:=Out.same (J:=[]) rfl hsc hv hr h;simpa using this
theorem zwn (a:Int) (H:zaa) (K:AV→zaa→Prop) (hK:K (.bool false) H):ACalls tP ziZ [.int .i64 a] H K:=by refine ACalls.out (zNn λhs=>?_);simp[zAu];exact zhy hs rfl rfl hK
theorem zvd (a b:Int) (H:zaa) (K:AV→zaa→Prop) (hK:K (.int .i64 (icmp a b)) H):ACalls tP ziR [.int .i64 a,.int .i64 b] H K:=by
 refine ACalls.out (zKt λhs=>?_);unfold zzo;refine zwn _ _ _ (zwn _ _ _ ?_);have hO:=zhy (K:=K) (H:=H) (r:=.int .i64 (icmp a b)) hs rfl rfl hK;by_cases h1:a<b
 ·simp[h1];simpa[icmp,h1]using hO
 ·by_cases h2:b<a
  ·simp[h1,h2];simpa[icmp,h1,h2]using hO
  ·simp[h1,h2];simpa[icmp,h1,h2]using hO
def orL:List Int→Int
 | []=>0
 | a::l=>cor a (orL l)
theorem zFv (l:List Int) (tok:Tok) (hl:l.length≤1000000) (H:zaa) (K:AV→zaa→Prop) (hK:K (.int .i64 (orL l)) H):ACalls tP zoU [.sl (l.map λx=>[.int .i64 x]) tok] H K:=by
 refine ACalls.out (zKp λhs=>?_);simp[zzm];refine zKn (Inv:=λq t8 H'=>∃ i:Nat,i≤l.length∧q=l.length-i∧t8=.int .i64 i∧orL (l.drop i)=orL l∧H'=H) l.length ?_ ?_
 ·intro _;exact⟨0,by omega,by omega,rfl,by simp,rfl⟩
 ·rintro q t8 H' ⟨i,hi,rfl,rfl,ho,rfl⟩ hsc am aP Kb ar;by_cases ak:i<l.length
  ·rw[List.drop_eq_getElem_cons ak,orL]at ho;by_cases hz:l[i]=0
   ·rw[zvj hz]at ho;simp[zkV,ak,hz];rw[zat (by omega) (by omega)];refine ar _ _ ⟨l.length-(i+1),by omega,Back.here (Nat.le_refl _) hs ?_ ⟨_,rfl,i+1,by omega,rfl,by simp,ho,rfl⟩⟩;simpa[zkW,AV.sc,AV.scV,AV.scA,AV.scB]using aP
   ·rw[zvi hz]at ho;have hz:(l[i] != 0)=true:=by simpa using hz
    simp[zkV,ak,hz];rw[←ho]at hK;exact zhy hs rfl rfl hK
  ·simp[zkV,ak];obtain rfl:i=l.length:=by omega
   rw[List.drop_length]at ho;rw[←ho]at hK;exact zhy hs rfl rfl hK
theorem zDT (ks ks':List IT) (he:ks.length=ks'.length) (hb:ks.length≤1000000)
  (hc:∀ (i:Nat) (h:i<ks.length) (h':i<ks'.length) (H:zaa) (K:AV→zaa→Prop),K (.int .i64 (IT.cmp ks[i] ks'[i])) H→ACalls tP zf7 [.agg ks[i].cs,.agg ks'[i].cs] H K)
  (H:zaa) (K:AV→zaa→Prop) (hK:K (.int .i64 (IT.cmpL ks ks')) H):ACalls tP zoV [.sl (IT.css ks) .none,.sl (IT.css ks') .none,.fn zf7 []] H K:=by
 refine ACalls.out (zKy λhs=>?_);simp[zzp];refine zKw (Inv:=λq t13 H'=>∃ i:Nat,i≤ks.length∧q=ks.length-i∧t13=.int .i64 i∧IT.cmpL (ks.drop i) (ks'.drop i)=IT.cmpL ks ks'∧H'=H) ks.length ?_ ?_
 ·intro _;exact⟨0,by omega,by omega,rfl,by simp,rfl⟩
 ·rintro q t8 H' ⟨i,hi,rfl,rfl,ho,rfl⟩ hsc am aP Kb ar;by_cases ak:i<ks.length
  ·have aO:i<ks'.length:=by omega
   have aS:¬ ks'.length≤i:=by omega
   rw[IT.cmpL_drop ak aO]at ho;simp[zrh,ak,aO,aS];refine hc i ak aO _ _ ?_;by_cases hz:IT.cmp ks[i] ks'[i]=0
   ·rw[zvj hz]at ho;simp[hz];rw[zat (by omega) (by omega)];refine ar _ _ ⟨ks.length-(i+1),by omega,Back.same (Nat.le_refl _) hs ?_ ⟨_,rfl,i+1,by omega,rfl,by simp,ho,rfl⟩⟩;simp[zkY,AV.sc,AV.scV,AV.scA,AV.scB]
   ·rw[zvi hz]at ho;have hz:(IT.cmp ks[i] ks'[i] != 0)=true:=by simpa using hz
    simp[hz];rw[←ho]at hK;exact Out.same rfl hs rfl rfl hK
  ·have bY:¬ ks.length<ks'.length:=by omega
   simp[zrh,ak,bY];obtain rfl:i=ks.length:=by omega
   rw[List.drop_length,he,List.drop_length]at ho;rw[←ho]at hK;exact zhy hs rfl rfl hK
theorem zEE:∀ (m:Nat) (v w:IT),v.nodes≤m→v.nodes≤1000000→∀ (H:zaa) (K:AV→zaa→Prop),K (.int .i64 (IT.cmp v w)) H→ACalls tP zf7 [.agg v.cs,.agg w.cs] H K:=by
 intro m;induction m with
 | zero=>intro v w h;have:=v.nodes_pos;omega
 | succ m ih=>
  intro v w hv hb H K hK;obtain⟨n,ks⟩:=v;obtain⟨n',ks'⟩:=w;have bY:IT.nodesL ks+1≤1000000:=by simpa[IT.nodes]using hb
  have bn:=IT.len_le ks;refine ACalls.out (zTG λhs=>?_);simp[IT.cs,zCw];refine zaC _ (λJ=>zvd _ _ _ _ ⟨rfl,rfl⟩) ?_;refine zaC _ (λJ=>zvd _ _ _ _ ⟨rfl,rfl⟩) ?_;simp[zau,zaV,plain,List.replicate];refine zaC _ (λJ=>zFv [icmp n n',icmp ks.length ks'.length] _ (by simp) _ _ ⟨rfl,rfl⟩) ?_;by_cases hz:orL [icmp n n',icmp ks.length ks'.length]=0
  ·have gy:=hz;simp only[orL,zgP]at hz;have am:ks.length=ks'.length:=by have:=(zon _ _).mp hz.2.1;omega
   simp[gy];refine zDT ks ks' am (by omega) (λi h h' H K hK=>?_) _ _ ?_
   ·have:=IT.kid_lt (n:=n) h;exact ih _ _ (by omega) (by omega) H K hK
   ·refine Out.same rfl hs rfl rfl ?_;simpa[IT.cmp,hz,cor]using hK
  ·have jF:(orL [icmp n n',icmp ks.length ks'.length] != 0)=true:=by simpa using hz
   simp[jF];refine Out.same rfl hs rfl rfl ?_;have e:IT.cmp (.mk n ks) (.mk n' ks')=orL [icmp n n',icmp ks.length ks'.length]:=by simp only[IT.cmp,orL,cor]at hz ⊢;split <;> (try split) <;> (try split) <;> simp_all
   rwa [e]at hK
end Go.Proofs.YtdmamdnkcefmmaaGreatDoor

namespace Go.Abs
open Go Go.RowKit
open Go.Sort (grow putRow putCells mapBlock onCells ahead SWO PermIn SortedIn Holds)
open Go.Proofs (sortWorld ltOf CmpLays1)
variable {P:Program} {B:Nat} {w:World} {G:Gh} {H:zaa}
theorem zEw {W w':World} (hd:W.drawn≤w'.drawn) (hb:Below W.heap.size W w'):∃ q os,w'=grow (W.drewN q) os:=by
 refine⟨w'.drawn-W.drawn,w'.heap.extract W.heap.size w'.heap.size,?_⟩;obtain⟨h1,h2,h3,h4,h5⟩:=hb;obtain⟨heap,tape,drawn,os,output⟩:=W;obtain⟨eD,tape',drawn',os',output'⟩:=w';simp only at *;subst h1 h2 h3;have e1:eD=heap++eD.extract heap.size eD.size:=by
  refine Array.ext_getElem? λi=>?_;by_cases hi:i<heap.size
  ·rw[Array.getElem?_append_left hi,h5 i hi]
  ·rw[Array.getElem?_append_right (by omega),Array.getElem?_extract];by_cases h:i<eD.size
   ·rw[if_pos (by omega),show heap.size+(i-heap.size)=i by omega]
   ·rw[if_neg (by omega),Array.getElem?_eq_none (by omega)]
 have e2:drawn'=drawn+(drawn'-drawn):=by omega
 simp only[grow,World.drewN];rw[←e1,←e2]
theorem HRel.alone (h:HRel B w G H) (o:Obj):Ext B w G (w.alloc o) G∧HRel B (w.alloc o) G H:=by have he:=Ext.alloc h o G.L (λ_ _=>rfl) [];simp only[List.append_nil]at he;refine⟨he,h.keep he rfl (λid gi b h1 h2=>⟨zcD (h.lt id gi b h1 h2),rfl⟩) (λb hb=>?_)⟩;rw[zb4]at hb;exact h.fresh b (by omega)
theorem HRel.grown:∀ (os:List Obj) {w:World},HRel B w G H→Ext B w G (grow w os.toArray) G∧HRel B (grow w os.toArray) G H
 | [],w,h=>by
  have:grow w #[]=w:=by simp[grow]
  rw[show ([]:List Obj).toArray=#[] from rfl,this];exact⟨Ext.refl _ _ _,h⟩
 | o::l,w,h=>by
  obtain⟨h1,h2⟩:=h.alone o;obtain⟨h3,h4⟩:=HRel.grown l h2;have:grow w (o::l).toArray=grow (w.alloc o) l.toArray:=by rw[Go.Sort.alloc_eq_grow,Go.Sort.grow_grow];simp
  rw[this];exact⟨h1.trans h3,h4⟩
theorem zFT {α:Type} [Inhabited α] (vals:α→Value) (d:Array α) (cur:Array Value) (h:d.size≤cur.size):(putCells vals 0 d cur).toList.take d.size=d.toList.map vals:=by refine List.ext_getElem (by simp[putCells];omega) λi h1 h2=>?_;simp at h2;simp[putCells,h2]
def Lx (w:World) (G:Gh) (blk b:Nat):Nat:=if b=blk then 0 else max (G.L b) (zcp w b)
def Rd (H:zaa) (id0:Nat) (a:AV) (row:List (List AV)):Prop:=
 a=.sl row .none ∨
 (∃ id off len cap size cs,a=.ms id off len cap∧H[id]?=some (.cells cs)∧off+len*size≤cs.length∧plain ((cs.drop off).take (len*size))=some row.flatten∧row.length=len∧(∀ c∈row,c.length=size)∧len≤cap) ∨
 (∃ id e size m cs,a=.ov id m∧id≠id0∧H[id]?=some (.vec e size m cs)∧plain cs=some row.flatten∧row.length=m∧∀ c∈row,c.length=size)
theorem Rd.rel (h:HRel B w G H) {id e n g cap:Nat} {cs:List AV} (hH:H[id]?=some (.vec e 1 n cs)) (hμ:G.μ[id]?=some (.own (.slice (some ⟨g,0,none⟩) n cap) 1 n)) {a:AV} {row:List (List AV)} (hr:Rd H id a row) {v:Value} (hv:ARel w G v a) :
  DRel w (Lx w G g) v (.sl row .none):=by
 obtain⟨_,_,_,dB⟩:=h.ok id _ _ hH hμ;have eI:G.L g=0:=dB g rfl;have hlev:∀ b,G.L b≤Lx w G g b:=λb=>by
  unfold Lx;split
  ·rename_i hb;rw[hb,eI];exact Nat.le_refl _
  ·exact Nat.le_max_left _ _
 have bR:∀ {v:Value} {a:AV},DRel w G.L v a→DRel w (Lx w G g) v a:=λh=>h.mono hlev λ_ _ _=>rfl;rcases hr with rfl | ⟨i2,off,len,cap2,size,cs2,rfl,cn,a8,hp,am,aC,aJ⟩ | ⟨i2,e2,size,m,cs2,rfl,aB,cn,hp,am,aC⟩
 ·exact bR hv
 ·obtain⟨b,hb,rfl⟩:=hv;obtain⟨_,_,vs,_,hw,aK⟩:=h.ok i2 _ _ cn hb;have cG:b≠g:=λcG=>by have:=h.dist i2 id _ _ b hb hμ rfl (by rw[cG];rfl);subst this;rw[hH]at cn;cases cn
  subst am;by_cases aX:row=[]
  ·subst aX;exact .slE _ _
  ·have hl:=aK.length;refine DRel.of_flat_at (zs:=(vs.toList.drop off).take (row.length*size)) aC aX aJ ?_ ((zdm ((aK.drop off).take _) hp).mono λ_ _=>bR) ?_
   ·unfold Lx;rw[if_neg cG];refine Nat.le_trans ?_ (Nat.le_max_right _ _);simp[zcp,hw];simp at hl;omega
   ·intro j u hj;rw[List.getElem?_take]at hj;split at hj
    ·simp only[World.cell?,hw];simpa using hj
    ·cases hj
 ·obtain⟨⟨a,cap0,rfl,_⟩,v',s0,n',hμ2,_,heq⟩:=hv;obtain⟨rfl,rfl,⟨xs,aq,aK⟩,_⟩:=h.ok i2 _ _ cn hμ2;obtain rfl:=heq rfl;subst am;by_cases aX:row=[]
  ·subst aX;exact .slE _ _
  ·have bP:=aq;obtain⟨hl,be⟩:=bP;rcases be with ⟨h1,h2⟩ | ⟨g2,cap2,cur,h1,h2,h3,h4,h5,h6,h7⟩
   ·cases row <;> simp_all
   ·simp at h1;obtain⟨rfl,rfl⟩:=h1;obtain⟨_,_,_,aG⟩:=zdl aq;have cG:g2≠g:=λcG=>aB (h.dist i2 id _ _ g2 hμ2 hμ rfl (by rw[cG];rfl));refine DRel.of_flat_at (zs:=xs) aC aX h4 ?_ ((zdm aK hp).mono λ_ _=>bR) ?_
    ·unfold Lx;rw[if_neg cG];refine Nat.le_trans ?_ (Nat.le_max_right _ _);simp only[zcp,h3,h6,Nat.zero_add];exact Nat.mul_le_mul_right _ h4
    ·intro j u hj;rw[Nat.zero_add,aG j (by rw[←hl];exact (List.getElem?_eq_some_iff.1 hj).1)];exact hj
theorem zvw {α:Type} (d:Array α) {k:Nat} (h:d.size=k):d.extract 0 k=d:=by subst h;exact Array.extract_size
theorem zFj (n:Nat):((Array.ofFn λi:Fin n=>i).toList.map Fin.val)=List.range n:=
 List.ext_getElem (by simp) λi h1 h2=>by simp only[List.getElem_map,Array.getElem_toList,Array.getElem_ofFn,List.getElem_range]
theorem zGJ {α:Type} [Inhabited α] (vals:α→Value) (w:World) (g m:Nat) (d:Array α) (os:Array Obj):w.heap.size≤(sortWorld vals w g 0 m d os).heap.size:=by unfold sortWorld;simp[grow]
theorem zGI {α:Type} [Inhabited α] (vals:α→Value) (w:World) (g m:Nat) (d:Array α) (os:Array Obj) (a:Addr) (h1:a.block≠g) (h2:a.block<w.heap.size):(sortWorld vals w g 0 m d os).cell? a=w.cell? a:=by unfold sortWorld;rw[Go.Sort.cell?_grow _ _ _ (by rw[Go.Sort.size_putRow];exact h2),Go.Sort.cell?_putRow_other vals _ g 0 d a (Or.inl h1)];rfl
end Go.Abs
namespace Go.Abs
open Go Go.RowKit
variable {P:Program} {B:Nat} {w:World} {G:Gh} {H:zaa}
def Lmx (w:World) (G:Gh) (b:Nat):Nat:=Nat.max (G.L b) (zcp w b)
inductive RdA (H:zaa):AV→AV→Prop
 | sl (es:List (List AV)):RdA H (.sl es .none) (.sl es .none)
 | int (k:IntKind) (n:Int):RdA H (.int k n) (.int k n)
 | bool (b:Bool):RdA H (.bool b) (.bool b)
 | str (s:List UInt8):RdA H (.str s) (.str s)
 | ms (id off len cap size:Nat) (cs:List AV) (row:List (List AV)) (hH:H[id]?=some (.cells cs)) (a8:off+len*size≤cs.length) (hp:plain ((cs.drop off).take (len*size))=some row.flatten) (am:row.length=len)
   (aC:∀ c∈row,c.length=size) (aJ:len≤cap):RdA H (.ms id off len cap) (.sl row .none)
 | ov (id e size m:Nat) (cs:List AV) (row:List (List AV)) (hH:H[id]?=some (.vec e size m cs)) (hp:plain cs=some row.flatten) (am:row.length=m) (aC:∀ c∈row,c.length=size):RdA H (.ov id m) (.sl row .none)
theorem RdA.rel (h:HRel B w G H) {a b:AV} (hr:RdA H a b) {v:Value} (hv:ARel w G v a):DRel w (Lmx w G) v b:=by
 have bR:∀ {v:Value} {a:AV},DRel w G.L v a→DRel w (Lmx w G) v a:=λh=>h.mono (λb=>Nat.le_max_left _ _) λ_ _ _=>rfl;cases hr with
 | sl es=>exact bR hv
 | int k n=>have hv:v=.int k n:=hv;subst hv;exact .int k n
 | bool b=>have hv:v=.bool b:=hv;subst hv;exact .bool b
 | str s=>have hv:v=.string ⟨s.toArray⟩:=hv;subst hv;exact .str s
 | ms i2 off len cap2 size cs2 row cn a8 hp am aC aJ=>
  obtain⟨b,hb,rfl⟩:=hv;obtain⟨_,_,vs,_,hw,aK⟩:=h.ok i2 _ _ cn hb;subst am;by_cases aX:row=[]
  ·subst aX;exact .slE _ _
  ·have hl:=aK.length;refine DRel.of_flat_at (zs:=(vs.toList.drop off).take (row.length*size)) aC aX aJ ?_ ((zdm ((aK.drop off).take _) hp).mono λ_ _=>bR) ?_
   ·refine Nat.le_trans ?_ (Nat.le_max_right _ _);simp[zcp,hw];simp at hl;omega
   ·intro j u hj;rw[List.getElem?_take]at hj;split at hj
    ·simp only[World.cell?,hw];simpa using hj
    ·cases hj
 | ov i2 e2 size m cs2 row cn hp am aC=>
  obtain⟨⟨a,cap0,rfl,_⟩,v',s0,n',hμ2,_,heq⟩:=hv;obtain⟨rfl,rfl,⟨xs,aq,aK⟩,_⟩:=h.ok i2 _ _ cn hμ2;obtain rfl:=heq rfl;subst am;by_cases aX:row=[]
  ·subst aX;exact .slE _ _
  ·have bP:=aq;obtain⟨hl,be⟩:=bP;rcases be with ⟨h1,h2⟩ | ⟨g2,cap2,cur,h1,h2,h3,h4,h5,h6,h7⟩
   ·cases row <;> simp_all
   ·simp at h1;obtain⟨rfl,rfl⟩:=h1;obtain⟨_,_,_,aG⟩:=zdl aq;refine DRel.of_flat_at (zs:=xs) aC aX h4 ?_ ((zdm aK hp).mono λ_ _=>bR) ?_
    ·refine Nat.le_trans ?_ (Nat.le_max_right _ _);simp only[zcp,h3,h6,Nat.zero_add];exact Nat.mul_le_mul_right _ h4
    ·intro j u hj;rw[Nat.zero_add,aG j (by rw[←hl];exact (List.getElem?_eq_some_iff.1 hj).1)];exact hj
theorem RdA.trel (h:HRel B w G H) {a b:AV} (hr:RdA H a b) {v:Value} (hv:ARel w G v a):ARel w ⟨Lmx w G,[]⟩ v b:=by
 have hd:=hr.rel h hv;cases hr with
 | sl es=>exact hd
 | int k n=>exact hv
 | bool b=>exact hv
 | str s=>exact hv
 | ms i2 off len cap2 size cs2 row cn a8 hp am aC aJ=>exact hd
 | ov i2 e2 size m cs2 row cn hp am aC=>exact hd
inductive RdT (H:zaa):AV→AV→Prop
 | one {a b:AV} (h:RdA H a b):RdT H a b
 | agg {asx bs:List AV} (h:All2 (RdA H) asx bs):RdT H (.agg asx) (.agg bs)
theorem RdT.rel (h:HRel B w G H) {a b:AV} (hr:RdT H a b) {v:Value} (hv:TRel w G v a):TRel w ⟨Lmx w G,[]⟩ v b:=by
 cases hr with
 | one hr=>
  have bL:ARel w G v a:=by cases hr <;> exact hv
  exact TRel.of_v (VRel.of_a (hr.trel h bL))
 | agg hr=>
  obtain⟨us,hu,hv⟩:=hv;refine⟨us,hu,?_⟩;exact All2.of_get (hv.length.trans hr.length) λi x y hx hy=>by obtain⟨a,ha,fy⟩:=All2.get' hv hx;obtain⟨y',dq,gu⟩:=All2.get' hr ha;rw[hy]at dq;cases dq;exact gu.trel h fy
end Go.Abs
namespace Go.Proofs.YtdmamdnkcefmmaaGreatDoor
open Go Go.Abs
def zaF:IT→List IT
 | .mk _ ks=>ks
mutual
theorem zhT:∀ t:VT,(zaG t).nodes≤t.nodes
 | .mk k n ks=>by
  have:=zyB ks;simp only[zaG,VT.nodes,IT.nodes];split
  ·omega
  ·simp[IT.nodesL]
theorem zyB:∀ ts:List VT,IT.nodesL (za9 ts)≤VT.nodesL ts
 | []=>by simp[za9,IT.nodesL,VT.nodesL]
 | t::ts=>by have:=zhT t;have:=zyB ts;simp only[za9,IT.nodesL,VT.nodesL];omega
end
def d0:IT:=.mk 0 []
def tz:VT:=.mk 0 0 []
theorem zjM {aa:List Dat} (m n:Int) (kk:List IT) (ks:List VT):rdV aa (.mk m kk) (.mk 5 n ks)=if m=0∧kk.length≤6 then rdE aa kk (.mk 5 n ks) 0 else -1:=by simp[rdV,VT.kind]
mutual
theorem zkc {aa:List Dat}:∀ x:VT,rdV aa (zaG x) x=0
 | .mk k n ks=>by
  have hA:=zyC (aa:=aa) ks 0 (by omega) (by omega);by_cases h6:k=6
  ·subst h6;have:rdV aa (zaG (.mk 6 n ks)) (.mk 6 n ks)=rdA aa (za9 ks) ks 0:=by simp[zaG,rdV,VT.kind,VT.kids,zdH]
   rw[this,hA]
  ·by_cases h7:k=7
   ·subst h7;simp[zaG,rdV,VT.kind]
   ·by_cases h5:k=5
    ·subst h5;simp[zaG,rdV,VT.kind,rdE]
    ·simp[zaG,rdV,VT.kind,h6,h7,h5]
theorem zyC {aa:List Dat}:∀ (ts:List VT) (a:Int),0≤a→a≤6→rdA aa (za9 ts) ts a=a
 | [],a,_,_=>by simp only[za9,rdA]
 | t::ts,a,h,h6=>by have h1:=zkc (aa:=aa) t;rw[za9,zw6,h1,if_neg (by omega),Int.add_zero,zyC ts a h h6]
end
theorem zjK {aa:List Dat} (h8:∀ D∈aa,D.cons.length≤8) (t:VT):∀ (rs:List (List IT)) (a:Int),0≤a→a≤6→0≤rdE aa rs.flatten t a→(∀ r∈rs,0≤rdE aa r t 0)∧rdE aa rs.flatten t a=a+(rs.map λr=>rdE aa r t 0).sum
 | [],a,h,h6,_=>by simp only[List.flatten_nil,rdE];simp
 | r::rs,a,h,h6,hd=>by
  rw[List.flatten_cons,zpP h8 _ _ _ _ h h6,zjI r t a h h6]at hd ⊢;by_cases hr:rdE aa r t 0<0∨a+rdE aa r t 0>6
  ·rw[zc1 hr]at hd;simp at hd
  ·rw[zeX (by omega) (by omega)]at hd ⊢;rw[if_neg (by omega)]at hd ⊢;obtain⟨g1,g2⟩:=zjK h8 t rs _ (by omega) (by omega) hd;refine⟨λx hx=>?_,by rw[g2];simp;omega⟩;rcases List.mem_cons.1 hx with rfl | hx
   ·omega
   ·exact g1 x hx
theorem zfk {aa:List Dat}:∀ (vs:List IT) (ts:List VT) (a:Int),0≤a→vs.length=ts.length→0≤rdA aa vs ts a→(∀ k (h1:k<vs.length) (h2:k<ts.length),0≤rdV aa vs[k] ts[k])∧rdA aa vs ts a=a+(List.zipWith (rdV aa) vs ts).sum
 | [],[],a,h,_,_=>by simp only[rdA];simp
 | [],_::_,_,_,hl,_=>by simp at hl
 | _::_,[],_,_,hl,_=>by simp at hl
 | v::vs,t::ts,a,h,hl,hd=>by
  rw[zw6]at hd ⊢;by_cases hr:rdV aa v t<0∨a+rdV aa v t>6
  ·rw[if_pos hr]at hd;omega
  ·rw[if_neg hr]at hd ⊢;obtain⟨g1,g2⟩:=zfk vs ts _ (by omega) (by simpa using hl) hd;refine⟨λk h1 h2=>?_,by rw[g2];simp;omega⟩;cases k with
   | zero=>simp;omega
   | succ k=>simpa using g1 k (by simpa using h1) (by simpa using h2)
end Go.Proofs.YtdmamdnkcefmmaaGreatDoor
namespace Go.Abs
def zct {α:Type}:List (α→Nat)→List α→Nat
 | [],_=>1
 | _::_,[]=>0
 | w::ws,n::ns=>w n*zct ws ns+zct (w::ws) ns
def zfr (l:List Nat):Nat:=l.foldr (·+·) 0
@[simp] theorem zYq:zfr []=0:=rfl
@[simp] theorem zxU (a:Nat) (l:List Nat):zfr (a::l)=a+zfr l:=rfl
theorem zGo {α:Type} (ws:List (α→Nat)) (a:α) (l:List α):zct ws l≤zct ws (a::l):=by cases ws <;> simp[zct]
theorem zxp {α:Type} (w:α→Nat) (ws:List (α→Nat)):∀ l:List α,zct (w::ws) l≤zfr (l.map w)*zct ws l
 | []=>by simp[zct]
 | a::l=>by have ih:=zxp w ws l;have h1:=zGo ws a l;simp only[zct,List.map_cons,zxU,Nat.add_mul];have h2:w a*zct ws l≤w a*zct ws (a::l):=Nat.mul_le_mul_left _ h1;have h3:zfr (l.map w)*zct ws l≤zfr (l.map w)*zct ws (a::l):=Nat.mul_le_mul_left _ h1;omega
theorem zxV {α:Type} {w:α→Nat} {b:Nat}:∀ l:List α,(∀ a∈l,w a≤b)→zfr (l.map w)≤l.length*b
 | [],_=>by simp
 | a::l,h=>by have h1:=h a (by simp);have h2:=zxV l (λx hx=>h x (by simp[hx]));simp only[List.map_cons,zxU,List.length_cons,Nat.succ_mul];omega
end Go.Abs
namespace Go.Abs
open Go
end Go.Abs
namespace Go.Proofs.YtdmamdnkcefmmaaGreatDoor
open Go Go.Abs
mutual
def atV (aa:List Dat):IT→VT→VT→Nat
 | .mk n ks,t,v=>
  if t.kind=6 then atL aa ks t.kids v.kids
  else if t.kind=7 then chs v.kids.length n.toNat
  else if t.kind=5 then zct (wtL aa ks t) (zfi (zdF aa t.num.toNat) v)
  else 1
def atL (aa:List Dat):List IT→List VT→List VT→Nat
 | [],_,_=>1
 | i::l,ts,vs=>match ts,vs with
  | t::ts,v::vs=>atV aa i t v*atL aa l ts vs
  | _,_=>1
def wtL (aa:List Dat):List IT→VT→List (VT→Nat)
 | [],_=>[]
 | e::es,t=>wtE aa e t::wtL aa es t
def wtE (aa:List Dat):IT→VT→VT→Nat
 | .mk c ks,t,n=>if n.num=c then atL aa ks ((zbd aa t c).getD []) (pick n.kids ((zdF aa t.num.toNat).getD c.toNat [])) else 0
end
mutual
theorem zDA (aa:List Dat):∀ (t v:VT),atV aa (zaG t) t v=1
 | .mk k n ks,v=>by
  have:=zuU aa ks v.kids;unfold zaG;rw[atV];by_cases h6:k=6
  ·simp[h6,VT.kind,VT.kids];simpa[VT.kids]using this
  ·by_cases h7:k=7
   ·simp[h6,h7,VT.kind,VT.kids]
   ·simp only[h6,VT.kind,if_false,h7];split <;> simp[wtL,zct]
theorem zuU (aa:List Dat):∀ (ts vs:List VT),atL aa (za9 ts) ts vs=1
 | [],vs=>by simp[za9,atL]
 | t::ts,[]=>by simp[za9,atL]
 | t::ts,v::vs=>by simp[za9,atL,zDA aa t v,zuU aa ts vs]
end
@[simp] theorem zW3 (k:AV→Prop):zaD [] k=k (.tup []):=by simp[zaD]
theorem zHJ {n:Nat} {H2 J H':zaa} {K:Kt} (he:H'=H2++J) (hn:n≤H2.length) (hs:HSc H2) (h:K (.tup []) H2):Out n K (.tup []) H':=by subst he;exact⟨.tup [],H2,J,rfl,hn,hs,.tup trivial,h⟩
def pw (H:zaa) (io iv:Nat) (l:List VT):zaa:=(H.set iv (.vec zEi 3 l.length (VT.css l).flatten)).set io (.cells [.ov iv l.length])
section
variable {H J:zaa} {io iv ir is:Nat} {rs:List (List Bool)} {l l':List VT}
@[simp] theorem zX2:(pw H io iv l).length=H.length:=by simp[pw]
end
theorem zjG:∀ {a b c d:List AV},plain a=some c→plain b=some d→plain (a++b)=some (c++d)
 | [],b,c,d,h,h'=>by simp[plain]at h;subst h;simpa using h'
 | x::a,b,c,d,h,h'=>by
  simp only[plain]at h;split at h
  ·rename_i p q hp hq;cases h;simp only[List.cons_append,plain];rw[hp,zjG hq h']
  ·cases h
end Go.Proofs.YtdmamdnkcefmmaaGreatDoor
namespace Go.Proofs.YtdmamdnkcefmmaaGreatDoor
open Go Go.Abs Go.RowKit
theorem zFS (rs:List (List Bool)) (b:Nat):∀ v:VT,v.nodes≤b→∀ x∈zfi rs v,x.nodes≤b:=by
 intro v;induction hm:v.nodes using Nat.strongRecOn generalizing v with
 | _ m ih=>
  intro hb x hx;obtain⟨k,n,ks⟩:=v;have key:∀ (l:List VT) (bs:List Bool),(∀ y∈l,y.nodes<m)→∀ x∈zdR rs l bs,x.nodes≤b:=by
   intro l;induction l with
   | nil=>intro bs _ x hx;simp[zdR]at hx
   | cons y l ihl=>
    intro bs hy x hx
    match bs with
    | []=>simp[zdR]at hx
    | c::bs=>
     simp only[zdR,List.mem_append]at hx;rcases hx with hx | hx
     ·split at hx
      ·have h1:=hy y (by simp);exact ih _ h1 y rfl (by omega) x hx
      ·simp at hx
     ·exact ihl bs (λz hz=>hy z (by simp[hz])) x hx
  simp only[zfi,List.mem_cons]at hx;rcases hx with rfl | hx
  ·omega
  ·exact key ks _ (λy hy=>by have:=ziF (k:=k) (n:=n) y hy;omega) x hx
end Go.Proofs.YtdmamdnkcefmmaaGreatDoor
namespace Go.Proofs.YtdmamdnkcefmmaaGreatDoor
open Go Go.Abs
theorem zpO {aa:List Dat}:∀ (l:List IT) (ts:List VT) (a:Int),0≤a→0≤rdA aa l ts a→a≤rdA aa l ts a
 | [],ts,a,_,_=>by rw[rdA];exact Int.le_refl _
 | i::l,[],a,_,h=>by simp[rdA]at h
 | i::l,t::ts,a,ha,h=>by
  simp only[rdA]at h ⊢;by_cases hc:rdV aa i t<0∨a+rdV aa i t>6
  ·rw[if_pos hc]at h;omega
  ·rw[if_neg hc]at h ⊢;have:=zpO l ts _ (by omega) h;omega
mutual
theorem zuV {aa:List Dat} {N:Nat} (hN:1≤N):∀ (i:IT) (t v:VT),v.nodes≤N→0≤rdV aa i t→atV aa i t v≤N ^ (rdV aa i t).toNat
 | .mk n ks,t,v,hv,hd=>by
  have gp:∀ x∈v.kids,x.nodes≤N:=by obtain⟨a,b,c⟩:=v;intro x hx;simp only[VT.kids]at hx;have:=ziF (k:=a) (n:=b) x hx;omega
  rw[rdV]at hd ⊢;rw[atV];by_cases h6:t.kind=6
  ·simp only[h6,if_true]at hd ⊢;by_cases hn:n=0
   ·by_cases hl:t.kids.length=ks.length
    ·simp only[hn,hl,if_true]at hd ⊢;have:=znX hN ks t.kids v.kids 0 (by omega) gp hd;simpa using this
    ·simp[hn,hl]at hd
   ·simp[hn]at hd
  ·by_cases h7:t.kind=7
   ·simp only[h6,h7,if_false,if_true]at hd ⊢;by_cases hc:0≤n∧n≤6∧ks.length=0
    ·simp only[hc,and_self,if_true]at hd ⊢;simp;refine Nat.le_trans (ziz _ _) (Nat.pow_le_pow_left ?_ _);obtain⟨a,b,c⟩:=v;have:=VT.len_le c;simp only[VT.kids,VT.nodes]at hv ⊢;omega
    ·rw[if_neg hc]at hd;omega
   ·by_cases h5:t.kind=5
    ·simp only[h6,h7,h5,if_false,if_true]at hd ⊢;by_cases hc:n=0∧ks.length≤6
     ·simp only[hc,and_self,if_true]at hd ⊢;have cq:=zw1 (zdF aa t.num.toNat) v;have:=zxq hN ks t (zfi (zdF aa t.num.toNat) v) 0 (by omega) (by omega) (zFS _ N v hv) hd;simpa using this
     ·rw[if_neg hc]at hd;omega
    ·simp only[h6,h7,h5,if_false]at hd ⊢;exact Nat.pow_pos hN
theorem znX {aa:List Dat} {N:Nat} (hN:1≤N):∀ (l:List IT) (ts vs:List VT) (a:Int),0≤a→(∀ x∈vs,x.nodes≤N)→0≤rdA aa l ts a→atL aa l ts vs≤N ^ (rdA aa l ts a-a).toNat
 | [],ts,vs,a,_,_,_=>by rw[atL];exact Nat.pow_pos hN
 | i::l,[],vs,a,_,_,_=>by simp only[atL];exact Nat.pow_pos hN
 | i::l,t::ts,[],a,_,_,_=>by simp only[atL];exact Nat.pow_pos hN
 | i::l,t::ts,v::vs,a,ha,hv,hd=>by
  simp only[rdA]at hd ⊢;by_cases hc:rdV aa i t<0∨a+rdV aa i t>6
  ·rw[if_pos hc]at hd;omega
  ·rw[if_neg hc]at hd ⊢;have h1:=zuV (aa:=aa) hN i t v (hv v (by simp)) (by omega);have h2:=znX hN l ts vs (a+rdV aa i t) (by omega) (λx hx=>hv x (by simp[hx])) hd;have dR:=(zpO l ts (a+rdV aa i t) (by omega) hd);simp only[atL];refine Nat.le_trans (Nat.mul_le_mul h1 h2) ?_;rw[←Nat.pow_add];exact Nat.pow_le_pow_right hN (by omega)
theorem zxq {aa:List Dat} {N:Nat} (hN:1≤N):∀ (es:List IT) (t:VT) (nodes:List VT) (a:Int),0≤a→nodes.length≤N→(∀ x∈nodes,x.nodes≤N)→0≤rdE aa es t a→zct (wtL aa es t) nodes≤N ^ (rdE aa es t a-a).toNat
 | [],t,nodes,a,_,_,_,_=>by simp only[wtL,zct];exact Nat.pow_pos hN
 | .mk c ks::es,t,nodes,a,ha,hl,hv,hd=>by
  rw[zei]at hd ⊢;by_cases hc:c<0∨8≤c
  ·rw[if_pos hc]at hd;omega
  ·rw[if_neg hc]at hd ⊢;cases hp:zbd aa t c with
   | none=>rw[hp]at hd;simp at hd
   | some ps=>
    rw[hp]at hd;simp only at hd ⊢;by_cases am:ps.length=ks.length
    ·rw[if_pos am]at hd ⊢;by_cases hx:rdA aa ks ps 0<0∨a+1+rdA aa ks ps 0>6
     ·rw[if_pos hx]at hd;omega
     ·rw[if_neg hx]at hd ⊢;have h2:=zxq hN es t nodes (a+(1+rdA aa ks ps 0)) (by omega) hl hv hd;have hw:∀ x∈nodes,wtE aa (.mk c ks) t x≤N ^ (rdA aa ks ps 0).toNat:=by
       intro x hxm;rw[wtE];split
       ·rw[hp];have hpk:∀ y∈pick x.kids ((zdF aa t.num.toNat).getD c.toNat []),y.nodes≤N:=by intro y hy;have h3:=hv x hxm;obtain⟨p,q,r⟩:=x;have dq:y∈r:=zhz hy;have:=ziF (k:=p) (n:=q) y dq;omega
        have:=znX (aa:=aa) hN ks ps (pick x.kids ((zdF aa t.num.toNat).getD c.toNat [])) 0 (by omega) hpk (by omega);simpa using this
       ·exact Nat.zero_le _
      have h3:=zxp (wtE aa (.mk c ks) t) (wtL aa es t) nodes;have h4:=zxV nodes hw;have dR:rdE aa es t (a+(1+rdA aa ks ps 0))=-1∨(a+(1+rdA aa ks ps 0))+es.length≤rdE aa es t (a+(1+rdA aa ks ps 0)):=zjJ es t _ (by omega);rw[wtL];refine Nat.le_trans h3 (Nat.le_trans (Nat.mul_le_mul (Nat.le_trans h4 (Nat.mul_le_mul_right _ hl)) h2) ?_);rw[show N*N ^ (rdA aa ks ps 0).toNat=N ^ ((rdA aa ks ps 0).toNat+1) by rw[Nat.pow_succ,Nat.mul_comm],←Nat.pow_add];exact Nat.pow_le_pow_right hN (by omega)
    ·rw[if_neg am]at hd;omega
end
def zaU:IT→Int
 | .mk n _=>n
def bef (e i:IT):IT:=.mk 0 (e::zaF i)
def fct:Nat→Nat
 | 0=>1
 | n+1=>(n+1)*fct n
def pcf (a b k:Nat):Nat:=if max a b≤k then fct k / (fct (k-a)*fct (k-b)*fct (a+b-k)) else 0
def zbw (a b:Nat):List (IT × Nat):=(List.range (a+b+1)).map λ(k:Nat)=>(.mk (k:Int) [],pcf a b k)
def zdn (out:List (List IT × Nat)) (ws:List (IT × Nat)):List (List IT × Nat):=ws.flatMap λw=>out.map λr=>(r.1++[w.1],r.2*w.2)
mutual
def zbR (aa:List Dat):Nat→VT→IT→IT→List (IT × Nat)
 | 0,_,_,_=>[]
 | f+1,t,i,j=>if t.kind=6 then zcf [] ((zcr aa f t.kids (zaF i) (zaF j)).map λr=>(.mk 0 r.1,r.2))
  else if t.kind=7 then zcf [] (zbw (zaU i).toNat (zaU j).toNat)
  else if t.kind=5 then zcf [] (zbb aa f t (zaF i) (zaF j)) else [(.mk 0 [],1)]
def zcr (aa:List Dat):Nat→List VT→List IT→List IT→List (List IT × Nat)
 | 0,_,_,_=>[]
 | f+1,ts,l,m=>(List.range ts.length).foldl (λout k=>zdn out (zbR aa f (ts.getD k tz) (l.getD k d0) (m.getD k d0))) [([],1)]
def zbb (aa:List Dat):Nat→VT→List IT→List IT→List (IT × Nat)
 | 0,_,_,_=>[]
 | f+1,t,[],m=>[(.mk 0 m,1)]
 | f+1,t,a::l,[]=>[(.mk 0 (a::l),1)]
 | f+1,t,a::l,b::m=>
  if zaU a≠zaU b then zcf (zcf [] ((zbb aa f t l (b::m)).map λw=>(bef a w.1,w.2))) ((zbb aa f t (a::l) m).map λw=>(bef b w.1,w.2))
  else zcf (zcf (zcf [] ((zbb aa f t l (b::m)).map λw=>(bef a w.1,w.2))) ((zbb aa f t (a::l) m).map λw=>(bef b w.1,w.2)))
   ((zcr aa f ((zbd aa t (zaU a)).getD []) (zaF a) (zaF b)).flatMap λr=>(zbb aa f t l m).map λw=>(bef (.mk (zaU a) r.1) w.1,r.2*w.2))
end
def zbu (g:List IT→Nat) (s:List (List IT × Nat)):Nat:=(s.map λr=>r.2*g r.1).foldr (·+·) 0
@[simp] theorem zYr (g:List IT→Nat):zbu g []=0:=rfl
@[simp] theorem zhO (g:List IT→Nat) (r:List IT × Nat) (s:List (List IT × Nat)):zbu g (r::s)=r.2*g r.1+zbu g s:=rfl
theorem zhN (g:List IT→Nat):∀ a b,zbu g (a++b)=zbu g a+zbu g b
 | [],b=>by simp
 | p::a,b=>by simp[zhN g a b];omega
theorem zjU {β:Type} (f:IT→Nat) (h:β→IT × Nat):∀ l:List β,zaM f (l.map h)=(l.map λx=>(h x).2*f (h x).1).foldr (·+·) 0
 | []=>rfl
 | x::l=>by simp[zjU f h l]
theorem zjV (f g:IT→Nat) (h:IT→IT) (c:Nat) (he:∀ x,f (h x)=c*g x):∀ l:List (IT × Nat),zaM f (l.map λw=>(h w.1,w.2))=c*zaM g l
 | []=>by simp
 | w::l=>by rw[List.map_cons,zcW,zcW,zjV f g h c he l,he,Nat.mul_add];simp only[Nat.mul_comm,Nat.mul_left_comm,Nat.mul_assoc]
theorem zF8 (g:List IT→Nat) (g':List IT→Nat) (u:IT→Nat) (ws:List (IT × Nat)) (out:List (List IT × Nat)) (h:∀ r∈out,∀ w∈ws,g (r.1++[w.1])=g' r.1*u w.1):zbu g (zdn out ws)=zbu g' out*zaM u ws:=by
 unfold zdn;induction ws with
 | nil=>simp
 | cons w ws ih=>
  rw[List.flatMap_cons,zhN,ih (λr hr x hx=>h r hr x (by simp[hx])),zcW,Nat.mul_add];congr 1;have:∀ out:List (List IT × Nat),(∀ r∈out,g (r.1++[w.1])=g' r.1*u w.1)→zbu g (out.map λr=>(r.1++[w.1],r.2*w.2))=zbu g' out*(w.2*u w.1):=by
   intro out ho;induction out with
   | nil=>simp
   | cons r out ih=>rw[List.map_cons,zhO,zhO,ih (λx hx=>ho x (by simp[hx])),ho r (by simp),Nat.add_mul];grind
  exact this out (λr hr=>h r hr w (by simp))
theorem zxe {out:List (List IT × Nat)} {ws:List (IT × Nat)} {x:List IT × Nat} (h:x∈zdn out ws):∃ r∈out,∃ w∈ws,x=(r.1++[w.1],r.2*w.2):=by unfold zdn at h;obtain⟨w,hw,h⟩:=List.mem_flatMap.1 h;obtain⟨r,hr,rfl⟩:=List.mem_map.1 h;exact⟨r,hr,w,hw,rfl⟩
def zcl (aa:List Dat) (f:Nat) (ts:List VT) (l m:List IT) (k:Nat):List (List IT × Nat):=(List.range k).foldl (λout k=>zdn out (zbR aa f (ts.getD k tz) (l.getD k d0) (m.getD k d0))) [([],1)]
theorem zpT (aa:List Dat) (f:Nat) (ts:List VT) (l m:List IT):zcl aa f ts l m 0=[([],1)]:=rfl
theorem zhF (aa:List Dat) (f:Nat) (ts:List VT) (l m:List IT) (k:Nat):zcl aa f ts l m (k+1)=zdn (zcl aa f ts l m k) (zbR aa f (ts.getD k tz) (l.getD k d0) (m.getD k d0)):=by rw[zcl,List.range_succ,List.foldl_append];rfl
theorem ziJ (aa:List Dat) (f:Nat) (ts:List VT) (l m:List IT):zcr aa (f+1) ts l m=zcl aa f ts l m ts.length:=by rw[zcr];rfl
theorem zxa {aa:List Dat} {f:Nat} {ts:List VT} {l m:List IT}:∀ k,∀ r∈zcl aa f ts l m k,r.1.length=k:=by
 intro k;induction k with
 | zero=>intro r hr;simp[zpT]at hr;subst hr;rfl
 | succ k ih=>intro r hr;rw[zhF]at hr;obtain⟨q,hq,w,_,rfl⟩:=zxe hr;simp[ih q hq]
def zqa (K:Nat) (f:Nat→Nat):Nat:=((List.range K).map f).foldr (·+·) 0
structure AtOk (aa:List Dat) (i:IT) (t v:VT):Prop where
 tn:t.nodes≤1000
 tv:za1 aa 0 t=true
 rd:0≤rdV aa i t
 hv:zaT aa v t=true
 vn:v.nodes≤1000
 inn:i.nodes≤900
theorem AtOk.le {aa:List Dat} {i:IT} {t v:VT} (h8:∀ D∈aa,D.cons.length≤8) (h:AtOk aa i t v):atV aa i t v≤1000 ^ 6:=by have h1:=zuV (N:=1000) (by omega) i t v h.vn h.rd;have h2:=zgd (h8:=h8) i t;exact Nat.le_trans h1 (Nat.pow_le_pow_right (by omega) (by omega))
def zrC:List AV:=[.bool false,.snil,.snil]
def rz (l:List Nat):List AV:=(l.map λ(z:Nat)=>zal (z:Int)).flatten
def zz (m:Nat):List AV:=(List.replicate m zrC).flatten
@[simp] theorem zYb (l:List Nat):(rz l).length=l.length*3:=by
 induction l with
 | nil=>rfl
 | cons x l ih=>simp only[rz,List.map_cons,List.flatten_cons,List.length_append,zFU,List.length_cons]at ih ⊢;omega
@[simp] theorem zYD (m:Nat):(zz m).length=m*3:=by
 induction m with
 | zero=>rfl
 | succ m ih=>simp only[zz,List.replicate_succ,List.flatten_cons,List.length_append]at ih ⊢;rw[ih];simp[zrC];omega
theorem zwO {aa:List Dat} {k n:Int} {ks:List VT} {c:Int} {l:List VT} (hk:zbr aa) (hf:zbm aa (.mk k n ks) c=some l) :
  ∃ bs,(zdF aa n.toNat).getD c.toNat []=bs∧l.length=bs.length∧l.length≤8∧zbd aa (.mk k n ks) c=some (pick l bs)∧(∀ x∈l,x.nodes≤200)∧k=5 ∧
   (∀ H K,K (.sl (zbP bs) .none) H→ACalls tP zfd [.sl (aa.map Dat.cs) .none,.int .i64 n,.int .i64 c] H K) ∧
   (∀ H K,K (.sl (zbP bs) .none) H→ACalls tP zf3 [.sl (aa.map Dat.cs) .none,.int .i64 n,.int .i64 c] H K) ∧
   (∀ j,bs.getD j false=true→l.getD j tz=.mk 5 n ks)∧0≤c∧∃ (hn:n.toNat<aa.length) (hc:c.toNat<(aa[n.toNat]).cons.length),l.length=((aa[n.toNat]).cons[c.toNat]).args.length:=by
 obtain⟨k5,n0,c0,hn,hc,hv,rfl,cz⟩:=zgV hf;obtain⟨f1,f2,f3⟩:=ze6 hk;have hd:=List.getElem_mem hn;have bB:=List.getElem_mem hc;obtain⟨g1,g2⟩:=f2 _ hd _ bB;have g3:=f3 _ hd;have h8:=((hk.2 _ hd).2.2 _ bB).2.1;refine⟨zcs n.toNat aa[n.toNat] (aa[n.toNat]).cons[c.toNat],by simp[zdF,hn,hc,List.getD_eq_getElem?_getD],by simp[zcs],by simpa using h8,?_,cz,k5,λH K hK=>?_,λH K hK=>?_,λj hj=>?_,c0,hn,hc,by simp⟩
 ·simp[zbd,hf,zdF,hn,hc,List.getD_eq_getElem?_getD,VT.num]
 ·have:=zr3 aa n.toNat c.toNat hn hc f1 g3 (by omega) (λx hx=>by have:=g2 x hx;omega) H K (by simpa[zbP,zcs,Function.comp_def]using hK);rwa [Int.toNat_of_nonneg n0,Int.toNat_of_nonneg c0]at this
 ·have:=zAF aa n.toNat c.toNat hn hc f1 g3 (by omega) (λx hx=>by have:=g2 x hx;omega) H K hK;rwa [Int.toNat_of_nonneg n0,Int.toNat_of_nonneg c0]at this
 ·have aV:j<((aa[n.toNat]).cons[c.toNat]).args.length:=by refine Nat.lt_of_not_le λaS=>?_;rw[List.getD_eq_getElem?_getD,List.getElem?_eq_none (by simpa[zcs]using aS)]at hj;simp at hj
  simp only[List.getD_eq_getElem?_getD,zcs,List.getElem?_map,List.getElem?_eq_getElem aV,Option.map_some,Option.getD_some]at hj ⊢;rw[zGn hj hv,Int.toNat_of_nonneg n0]
theorem zHL {aa:List Dat} {t:VT} (ht:za1 aa 0 t=true):za3 aa 0 t=true:=by rw[za1,Bool.and_eq_true]at ht;exact ht.2
theorem zp5:∀ l:List IT,l=(l.map λx=>[x]).flatten
 | []=>rfl
 | x::l=>by rw[List.map_cons,List.flatten_cons,←zp5 l];rfl
theorem zFX {aa:List Dat} (h8:∀ D∈aa,D.cons.length≤8) {t:VT} {ks:List IT} (h:0≤rdE aa ks t 0) {j:Nat} (hj:j<ks.length) {c:Int} {eks:List IT} (he:ks[j]=.mk c eks) :
  ∃ ps,zbd aa t c=some ps∧ps.length=eks.length∧0≤rdA aa eks ps 0∧rdA aa eks ps 0≤6:=by
 rw[zp5 ks]at h;have h1:=(zjK h8 t (ks.map λx=>[x]) 0 (by omega) (by omega) h).1 [ks[j]] (List.mem_map.2 ⟨ks[j],List.getElem_mem hj,rfl⟩);rw[he,zei]at h1;split at h1
 ·omega
 ·split at h1
  ·omega
  ·rename_i ps hp;split at h1
   ·rename_i hl;split at h1
    ·omega
    ·rename_i hc;exact⟨ps,hp,hl,by omega,by omega⟩
   ·omega
theorem zdB {l:List IT} {i:Nat} (h:i<l.length):l[i].nodes≤IT.nodesL l:=by have:=IT.kid_lt (n:=0) h;simp only[IT.nodes]at this;omega
theorem zxO (f:IT→Nat) (h:IT→IT) (c:Nat):∀ l:List (IT × Nat),zaM f (l.map λw=>(h w.1,c*w.2))=c*zaM f (l.map λw=>(h w.1,w.2))
 | []=>by simp
 | w::l=>by rw[List.map_cons,List.map_cons,zcW,zcW,zxO f h c l,Nat.mul_add,Nat.mul_assoc]
theorem znQ {s:List (IT × Nat)} {i:IT} {c:Nat}:∀ p∈zdg s i c,(∃ q∈s,q.1=p.1∧q.2≤p.2)∨(0<c∧p.1=i∧c≤p.2):=by
 intro p hp;unfold zdg at hp;split at hp
 ·exact .inl ⟨p,hp,rfl,Nat.le_refl _⟩
 ·rename_i hc;rcases zDp p hp with (h | h) | ⟨q,hq,h⟩
  ·exact .inl ⟨p,h,rfl,Nat.le_refl _⟩
  ·exact .inr ⟨by omega,by rw[h],by rw[h];exact Nat.le_refl _⟩
  ·exact .inl ⟨q,hq,by rw[h],by rw[h];simp⟩
theorem zeY:∀ (l s:List (IT × Nat)),(∀ q∈s,0<q.2)→∀ p∈zcf s l,0<p.2∧((∃ q∈s,q.1=p.1)∨∃ q∈l,0<q.2∧q.1=p.1)
 | [],s,hs,p,hp=>⟨hs p hp,.inl ⟨p,hp,rfl⟩⟩
 | x::l,s,hs,p,hp=>by
  have hp:p∈zcf (zdg s x.1 x.2) l:=hp;have h1:∀ q∈zdg s x.1 x.2,0<q.2:=λq hq=>by
   rcases znQ q hq with ⟨r,hr,_,h⟩ | ⟨h,_,h2⟩
   ·have:=hs r hr;omega
   ·omega
  obtain⟨h2,h3⟩:=zeY l _ h1 p hp;refine⟨h2,?_⟩;rcases h3 with ⟨q,hq,he⟩ | ⟨q,hq,h4,he⟩
  ·rcases znQ q hq with ⟨r,hr,h5,_⟩ | ⟨h5,h6,_⟩
   ·exact .inl ⟨r,hr,by rw[h5,he]⟩
   ·exact .inr ⟨x,by simp,h5,by rw[←he,h6]⟩
  ·exact .inr ⟨q,by simp[hq],h4,he⟩
theorem zoz {s:List (IT × Nat)} {p:IT × Nat} (h:p∈s):p.2≤zaM (λ_=>1) s:=by
 induction s with
 | nil=>simp at h
 | cons q s ih=>
  rw[zcW];rcases List.mem_cons.1 h with rfl | h
  ·omega
  ·have:=ih h;omega
theorem zou {s:List (IT × Nat)} (h:∀ p∈s,0<p.2):s.length≤zaM (λ_=>1) s:=by
 induction s with
 | nil=>simp
 | cons q s ih=>have h1:=ih λp hp=>h p (by simp[hp]);have h2:=h q (by simp);rw[zcW,List.length_cons];omega
theorem zHr (f:IT→Nat) (l:List (IT × Nat)) (k:Nat):zaM f (l.take k)≤zaM f l:=by have h:=zjT f (l.take k) (l.drop k);rw[List.take_append_drop]at h;omega
theorem zgc {aa:List Dat} (x:IT) (t:VT):∀ (a:List IT) (ts:List VT) (s:Int),a.length=ts.length→0≤s→0≤rdA aa a ts s→rdA aa (a++[x]) (ts++[t]) s=if rdV aa x t<0∨rdA aa a ts s+rdV aa x t>6 then -1 else rdA aa a ts s+rdV aa x t
 | [],[],s,_,hs,_=>by
  have e:rdA aa [] [] s=s:=by simp only[rdA]
  rw[e,List.nil_append,List.nil_append];simp only[rdA]
 | [],_::_,_,h,_,_=>by simp at h
 | _::_,[],_,h,_,_=>by simp at h
 | v::a,t'::ts,s,h,hs,hr=>by
  simp only[rdA]at hr;by_cases hc:rdV aa v t'<0∨s+rdV aa v t'>6
  ·rw[if_pos hc]at hr;omega
  ·rw[if_neg hc]at hr;have:=zgc x t a ts (s+rdV aa v t') (by simpa using h) (by omega) hr;simp only[List.cons_append,rdA,if_neg hc];exact this
theorem zc9 {aa:List Dat}:∀ (a:List IT) (ts:List VT) (s:Int) (k:Nat),a.length=ts.length→0≤s→0≤rdA aa a ts s→0≤rdA aa (a.take k) (ts.take k) s∧rdA aa (a.take k) (ts.take k) s≤rdA aa a ts s
 | a,ts,s,0,_,hs,hr=>by have:=zpO a ts s hs hr;simp only[List.take_zero,rdA];omega
 | [],[],s,k+1,_,hs,hr=>by simp only[List.take_nil,rdA];omega
 | [],_::_,_,_+1,h,_,_=>by simp at h
 | _::_,[],_,_+1,h,_,_=>by simp at h
 | v::a,t::ts,s,k+1,h,hs,hr=>by
  simp only[rdA]at hr;by_cases hc:rdV aa v t<0∨s+rdV aa v t>6
  ·rw[if_pos hc]at hr;omega
  ·rw[if_neg hc]at hr;have:=zc9 a ts (s+rdV aa v t) k (by simpa using h) (by omega) hr;simp only[List.take_succ_cons,rdA,if_neg hc];exact this
theorem zjL {aa:List Dat} (h8:∀ D∈aa,D.cons.length≤8) (t:VT) (a:IT) (l:List IT) (h:0≤rdE aa (a::l) t 0):0≤rdE aa [a] t 0∧0≤rdE aa l t 0∧rdE aa (a::l) t 0=rdE aa [a] t 0+rdE aa l t 0:=by
 have e:[[a],l].flatten=a::l:=by simp
 rw[←e]at h;obtain⟨h1,h2⟩:=zjK h8 _ _ 0 (by omega) (by omega) h;rw[e]at h2;refine⟨h1 [a] (by simp),h1 l (by simp),?_⟩;rw[h2];simp
theorem zpQ {aa:List Dat} (h8:∀ D∈aa,D.cons.length≤8) (t:VT) (a:IT) (l:List IT) (h1:0≤rdE aa [a] t 0) (h2:0≤rdE aa l t 0) (h3:rdE aa [a] t 0+rdE aa l t 0≤6):rdE aa (a::l) t 0=rdE aa [a] t 0+rdE aa l t 0:=by have e:a::l=[a]++l:=rfl;rw[e,zpP h8 _ _ _ _ (by omega) (by omega),if_neg (by omega),zjI l t _ h1 (by omega),zeX h2 h3]
theorem zFY {aa:List Dat} {c:Int} {ks:List IT} {t:VT} {ps:List VT} (h0:0≤c) (h8:c<8) (hp:zbd aa t c=some ps) (hl:ps.length=ks.length) (hr:0≤rdA aa ks ps 0) (h6:1+rdA aa ks ps 0≤6):rdE aa [.mk c ks] t 0=1+rdA aa ks ps 0:=by rw[zei,if_neg (by omega),hp];simp only;rw[if_pos hl,if_neg (by omega)];simp only[rdE];omega
theorem zhE {aa:List Dat} {c:Int} {ks:List IT} {t:VT} (h:0≤rdE aa [.mk c ks] t 0):0≤c∧c<8∧∃ ps,zbd aa t c=some ps∧ps.length=ks.length∧0≤rdA aa ks ps 0∧rdE aa [.mk c ks] t 0=1+rdA aa ks ps 0:=by
 rw[zei]at h ⊢;split at h
 ·omega
 ·rename_i hc;cases hp:zbd aa t c with
  | none=>rw[hp]at h;simp at h
  | some ps=>
   rw[hp]at h;simp only at h;by_cases hl:ps.length=ks.length
   ·rw[if_pos hl]at h;by_cases hx:rdA aa ks ps 0<0∨0+1+rdA aa ks ps 0>6
    ·rw[if_pos hx]at h;omega
    ·refine⟨by omega,by omega,ps,rfl,hl,by omega,?_⟩;rw[if_neg hc];simp only;rw[if_pos hl,if_neg hx];simp only[rdE];omega
   ·rw[if_neg hl]at h;omega
theorem p3 {a b:Int} (h0:0≤a) (h:a≤b):3 ^ a.toNat≤3 ^ b.toNat:=Nat.pow_le_pow_right (by omega) (by omega)
theorem zpG {a b:Int} (h0:0≤a) (h:0≤b):3 ^ (a+b).toNat=3 ^ a.toNat*3 ^ b.toNat:=by rw[show (a+b).toNat=a.toNat+b.toNat by omega,Nat.pow_add]
def znE (aa:List Dat) (f:Nat):Prop:=∀ (t:VT) (i j:IT),i.nodes+j.nodes≤f→0≤rdV aa i t→0≤rdV aa j t→rdV aa i t+rdV aa j t≤6 →
 (∀ p∈zbR aa f t i j,0<p.2∧0≤rdV aa p.1 t∧rdV aa p.1 t≤rdV aa i t+rdV aa j t∧rdV aa i t≤rdV aa p.1 t∧rdV aa j t≤rdV aa p.1 t∧p.1.nodes≤i.nodes+j.nodes)∧zaM (λ_=>1) (zbR aa f t i j)≤3 ^ (rdV aa i t+rdV aa j t).toNat
def zim (aa:List Dat) (f:Nat):Prop:=∀ (ts:List VT) (l m:List IT),IT.nodesL l+IT.nodesL m+1≤f→l.length=ts.length→m.length=ts.length→0≤rdA aa l ts 0→0≤rdA aa m ts 0→rdA aa l ts 0+rdA aa m ts 0≤6 →
 (∀ r∈zcr aa f ts l m,0<r.2∧r.1.length=ts.length∧0≤rdA aa r.1 ts 0∧rdA aa r.1 ts 0≤rdA aa l ts 0+rdA aa m ts 0∧rdA aa l ts 0≤rdA aa r.1 ts 0∧rdA aa m ts 0≤rdA aa r.1 ts 0∧IT.nodesL r.1≤IT.nodesL l+IT.nodesL m) ∧
  zbu (λ_=>1) (zcr aa f ts l m)≤3 ^ (rdA aa l ts 0+rdA aa m ts 0).toNat
def zin (aa:List Dat) (f:Nat):Prop:=∀ (t:VT) (l m:List IT),IT.nodesL l+IT.nodesL m+1≤f→0≤rdE aa l t 0→0≤rdE aa m t 0→rdE aa l t 0+rdE aa m t 0≤6 →
 (∀ p∈zbb aa f t l m,0<p.2∧zaU p.1=0∧0≤rdE aa (zaF p.1) t 0∧rdE aa (zaF p.1) t 0≤rdE aa l t 0+rdE aa m t 0∧rdE aa l t 0≤rdE aa (zaF p.1) t 0∧rdE aa m t 0≤rdE aa (zaF p.1) t 0∧IT.nodesL (zaF p.1)≤IT.nodesL l+IT.nodesL m) ∧
  zaM (λ_=>1) (zbb aa f t l m)≤3 ^ (rdE aa l t 0+rdE aa m t 0).toNat
theorem zF7 (out:List (List IT × Nat)) (ws:List (IT × Nat)):zbu (λ_=>1) (zdn out ws)=zbu (λ_=>1) out*zaM (λ_=>1) ws:=zF8 _ (λ_=>1) (λ_=>1) ws out (λr _ w _=>by simp)
theorem zEa {aa:List Dat} {f:Nat} (hP:znE aa f):zim aa (f+1):=by
 intro ts l m hf hl hm hA hB h6;rw[ziJ];have key:∀ k,k≤ts.length→(∀ r∈zcl aa f ts l m k,0<r.2∧0≤rdA aa r.1 (ts.take k) 0∧rdA aa r.1 (ts.take k) 0≤rdA aa (l.take k) (ts.take k) 0+rdA aa (m.take k) (ts.take k) 0∧rdA aa (l.take k) (ts.take k) 0≤rdA aa r.1 (ts.take k) 0∧rdA aa (m.take k) (ts.take k) 0≤rdA aa r.1 (ts.take k) 0 ∧
   IT.nodesL r.1≤IT.nodesL (l.take k)+IT.nodesL (m.take k))∧zbu (λ_=>1) (zcl aa f ts l m k)≤3 ^ (rdA aa (l.take k) (ts.take k) 0+rdA aa (m.take k) (ts.take k) 0).toNat:=by
  intro k;induction k with
  | zero=>intro _;refine⟨λr hr=>?_,by simp[zpT,rdA]⟩;simp[zpT]at hr;subst hr;simp[rdA,IT.nodesL]
  | succ k ih=>
   intro hk;obtain⟨ih1,ih2⟩:=ih (by omega);have h1:k<ts.length:=by omega
   have h3:k<l.length:=by omega
   have h4:k<m.length:=by omega
   have eg:zbR aa f (ts.getD k tz) (l.getD k d0) (m.getD k d0)=zbR aa f ts[k] l[k] m[k]:=by simp[List.getD_eq_getElem?_getD,h1,h3,h4]
   have a1:=zc9 l ts 0 k hl (by omega) hA;have a2:=zc9 l ts 0 (k+1) hl (by omega) hA;have b1:=zc9 m ts 0 k hm (by omega) hB;have b2:=zc9 m ts 0 (k+1) hm (by omega) hB;have ea:ts.take (k+1)=ts.take k++[ts[k]]:=List.take_succ_eq_append_getElem h1;have el:l.take (k+1)=l.take k++[l[k]]:=List.take_succ_eq_append_getElem h3;have em:m.take (k+1)=m.take k++[m[k]]:=List.take_succ_eq_append_getElem h4;have sl:=zgc (aa:=aa) l[k] ts[k] (l.take k) (ts.take k) 0 (by simp;omega) (by omega) a1.1;have sm:=zgc (aa:=aa) m[k] ts[k] (m.take k) (ts.take k) 0 (by simp;omega) (by omega) b1.1;rw[←el,←ea]at sl;rw[←em,←ea]at sm;by_cases cl:rdV aa l[k] ts[k]<0∨rdA aa (l.take k) (ts.take k) 0+rdV aa l[k] ts[k]>6
   ·rw[if_pos cl]at sl;omega
   ·rw[if_neg cl]at sl;by_cases cm:rdV aa m[k] ts[k]<0∨rdA aa (m.take k) (ts.take k) 0+rdV aa m[k] ts[k]>6
    ·rw[if_pos cm]at sm;omega
    ·rw[if_neg cm]at sm;have n1:=zdB h3;have n2:=zdB h4;obtain⟨cW,eV⟩:=hP ts[k] l[k] m[k] (by omega) (by omega) (by omega) (by omega);have nl:=IT.nodesL_take h3;have nm:=IT.nodesL_take h4;rw[zhF,eg];constructor
     ·intro r hr;obtain⟨q,hq,w,hw,rfl⟩:=zxe hr;obtain⟨q1,q2,q3,q4,q5,q6⟩:=ih1 q hq;obtain⟨w1,w2,w3,w4,w5,w6⟩:=cW w hw;have g7:=zxa k q hq;have sr:=zgc (aa:=aa) w.1 ts[k] q.1 (ts.take k) 0 (by simp;omega) (by omega) q2;rw[←ea,if_neg (by omega)]at sr;simp only;rw[sr,IT.nodesL_app];simp only[IT.nodesL];exact⟨Nat.mul_pos q1 w1,by omega,by omega,by omega,by omega,by omega⟩
     ·rw[zF7,sl,sm];rw[show rdA aa (l.take k) (ts.take k) 0+rdV aa l[k] ts[k]+(rdA aa (m.take k) (ts.take k) 0+rdV aa m[k] ts[k])=(rdA aa (l.take k) (ts.take k) 0+rdA aa (m.take k) (ts.take k) 0)+(rdV aa l[k] ts[k]+rdV aa m[k] ts[k]) by omega,zpG (by omega) (by omega)];exact Nat.mul_le_mul ih2 eV
 obtain⟨k1,k2⟩:=key ts.length (Nat.le_refl _);rw[List.take_length,List.take_of_length_le (l:=l) (by omega),List.take_of_length_le (l:=m) (by omega)]at k1 k2;exact⟨λr hr=>by
  obtain⟨q1,q2,q3,q4,q5,q6⟩:=k1 r hr;exact⟨q1,zxa _ r hr,q2,q3,q4,q5,q6⟩,k2⟩
theorem zEb {aa:List Dat} (h8:∀ D∈aa,D.cons.length≤8) {f:Nat} (hQ:zim aa f) (hR:zin aa f):zin aa (f+1):=by
 intro t l m hf hl hm h6;cases l with
 | nil=>
  have e0:rdE aa [] t 0=0:=by simp only[rdE]
  have hN:=p3 (a:=0) (b:=rdE aa m t 0) (by omega) (by omega);refine⟨λp hp=>?_,by simp[zbb,e0];simpa using hN⟩;simp[zbb]at hp;subst hp;simp only[zaU,zaF,e0,IT.nodesL];exact⟨by omega,trivial,hm,by omega,by omega,by omega,by omega⟩
 | cons a l=>
  cases m with
  | nil=>
   have e0:rdE aa [] t 0=0:=by simp only[rdE]
   have hN:=p3 (a:=0) (b:=rdE aa (a::l) t 0) (by omega) (by omega);refine⟨λp hp=>?_,by simp[zbb,e0];simpa using hN⟩;simp[zbb]at hp;subst hp;simp only[zaU,zaF,e0,IT.nodesL];exact⟨by omega,trivial,hl,by omega,by omega,by omega,by omega⟩
  | cons b m=>
   have hna:=a.nodes_pos;have fB:=b.nodes_pos;obtain⟨la,ll,el⟩:=zjL h8 t a l hl;obtain⟨mb,mm,em⟩:=zjL h8 t b m hm;simp only[IT.nodesL]at hf;obtain⟨ca,pa⟩:=a;obtain⟨cb,pb⟩:=b;obtain⟨ca0,ca8,psa,fu,jp,kz,ea⟩:=zhE la;obtain⟨cb0,cb8,psb,jP,cx,kA,eb⟩:=zhE mb;obtain⟨A1,A2⟩:=hR t l (.mk cb pb::m) (by simp only[IT.nodesL];omega) ll hm (by omega);obtain⟨B1,B2⟩:=hR t (.mk ca pa::l) m (by simp only[IT.nodesL];omega) hl mm (by omega);obtain⟨C1,C2⟩:=hR t l m (by omega) ll mm (by omega);obtain⟨s,hs⟩:∃ s,s=rdE aa (.mk ca pa::l) t 0+rdE aa (.mk cb pb::m) t 0:=⟨_,rfl⟩;have n1:zaM (λ_=>1) (zcf [] ((zbb aa f t l (.mk cb pb::m)).map λw=>(bef (.mk ca pa) w.1,w.2)))≤3 ^ (s-1).toNat:=by rw[zcA,zdT,Nat.zero_add,zjV _ (λ_=>1) (bef (.mk ca pa)) 1 (λx=>by simp),Nat.one_mul];exact Nat.le_trans A2 (p3 (by omega) (by omega))
   have n2:zaM (λ_=>1) ((zbb aa f t (.mk ca pa::l) m).map λw=>(bef (.mk cb pb) w.1,w.2))≤3 ^ (s-1).toNat:=by rw[zjV _ (λ_=>1) (bef (.mk cb pb)) 1 (λx=>by simp),Nat.one_mul];exact Nat.le_trans B2 (p3 (by omega) (by omega))
   have h3s:3 ^ s.toNat=3*3 ^ (s-1).toNat:=by rw[show s.toNat=(s-1).toNat+1 by omega,Nat.pow_succ,Nat.mul_comm]
   -- the terms of the three af
   have t1:∀ w∈zbb aa f t l (.mk cb pb::m),0<w.2→zaU (bef (.mk ca pa) w.1)=0∧0≤rdE aa (zaF (bef (.mk ca pa) w.1)) t 0∧rdE aa (zaF (bef (.mk ca pa) w.1)) t 0≤s∧rdE aa (.mk ca pa::l) t 0≤rdE aa (zaF (bef (.mk ca pa) w.1)) t 0∧rdE aa (.mk cb pb::m) t 0≤rdE aa (zaF (bef (.mk ca pa) w.1)) t 0∧IT.nodesL (zaF (bef (.mk ca pa) w.1))≤IT.nodesL (.mk ca pa::l)+IT.nodesL (.mk cb pb::m):=by intro w hw _;obtain⟨_,_,w2,w3,w4,w5,w6⟩:=A1 w hw;have ej:=zpQ h8 t (.mk ca pa) (zaF w.1) la w2 (by omega);have eb:zaF (bef (.mk ca pa) w.1)=.mk ca pa::zaF w.1:=rfl;rw[eb];simp only[IT.nodesL]at w6 ⊢;exact⟨rfl,by omega,by omega,by omega,by omega,by omega⟩
   have t2:∀ w∈zbb aa f t (.mk ca pa::l) m,0<w.2→zaU (bef (.mk cb pb) w.1)=0∧0≤rdE aa (zaF (bef (.mk cb pb) w.1)) t 0∧rdE aa (zaF (bef (.mk cb pb) w.1)) t 0≤s∧rdE aa (.mk ca pa::l) t 0≤rdE aa (zaF (bef (.mk cb pb) w.1)) t 0∧rdE aa (.mk cb pb::m) t 0≤rdE aa (zaF (bef (.mk cb pb) w.1)) t 0∧IT.nodesL (zaF (bef (.mk cb pb) w.1))≤IT.nodesL (.mk ca pa::l)+IT.nodesL (.mk cb pb::m):=by intro w hw _;obtain⟨_,_,w2,w3,w4,w5,w6⟩:=B1 w hw;have ej:=zpQ h8 t (.mk cb pb) (zaF w.1) mb w2 (by omega);have eb:zaF (bef (.mk cb pb) w.1)=.mk cb pb::zaF w.1:=rfl;rw[eb];simp only[IT.nodesL]at w6 ⊢;exact⟨rfl,by omega,by omega,by omega,by omega,by omega⟩
   rw[←hs];have emp:∀ q∈([]:List (IT × Nat)),0<q.2:=λq hq=>by simp at hq
   have g1:=zeY ((zbb aa f t l (.mk cb pb::m)).map λw=>(bef (.mk ca pa) w.1,w.2)) [] emp;have g2:=zeY ((zbb aa f t (.mk ca pa::l) m).map λw=>(bef (.mk cb pb) w.1,w.2)) (zcf [] ((zbb aa f t l (.mk cb pb::m)).map λw=>(bef (.mk ca pa) w.1,w.2))) (λq hq=>(g1 q hq).1);have two:∀ p∈zcf (zcf [] ((zbb aa f t l (.mk cb pb::m)).map λw=>(bef (.mk ca pa) w.1,w.2))) ((zbb aa f t (.mk ca pa::l) m).map λw=>(bef (.mk cb pb) w.1,w.2)),0<p.2∧zaU p.1=0∧0≤rdE aa (zaF p.1) t 0∧rdE aa (zaF p.1) t 0≤s∧rdE aa (.mk ca pa::l) t 0≤rdE aa (zaF p.1) t 0∧rdE aa (.mk cb pb::m) t 0≤rdE aa (zaF p.1) t 0∧IT.nodesL (zaF p.1)≤IT.nodesL (.mk ca pa::l)+IT.nodesL (.mk cb pb::m):=by
    intro p hp;obtain⟨h0,h | h⟩:=g2 p hp
    ·obtain⟨q,hq,he⟩:=h;obtain⟨_,h | h⟩:=g1 q hq
     ·obtain⟨x,hx,_⟩:=h;simp at hx
     ·obtain⟨x,hx,dI,dM⟩:=h;obtain⟨w,hw,rfl⟩:=List.mem_map.1 hx;simp only at dM dI;rw[←he,←dM];exact⟨h0,t1 w hw dI⟩
    ·obtain⟨x,hx,dI,dM⟩:=h;obtain⟨w,hw,rfl⟩:=List.mem_map.1 hx;simp only at dM dI;rw[←dM];exact⟨h0,t2 w hw dI⟩
   rw[zbb];by_cases bb:zaU (.mk ca pa)=zaU (.mk cb pb)
   ·rw[if_neg (by simpa using bb)];simp only[zaU]at bb;subst bb;rw[fu]at jP;cases jP;obtain⟨Q1,Q2⟩:=hQ psa pa pb (by simp only[IT.nodes]at hf;omega) jp.symm cx.symm kz kA (by omega);have t3:∀ r∈zcr aa f psa pa pb,∀ w∈zbb aa f t l m,zaU (bef (.mk ca r.1) w.1)=0∧0≤rdE aa (zaF (bef (.mk ca r.1) w.1)) t 0∧rdE aa (zaF (bef (.mk ca r.1) w.1)) t 0≤s∧rdE aa (.mk ca pa::l) t 0≤rdE aa (zaF (bef (.mk ca r.1) w.1)) t 0∧rdE aa (.mk ca pb::m) t 0≤rdE aa (zaF (bef (.mk ca r.1) w.1)) t 0∧IT.nodesL (zaF (bef (.mk ca r.1) w.1))≤IT.nodesL (.mk ca pa::l)+IT.nodesL (.mk ca pb::m):=by intro r hr w hw;obtain⟨_,r1,r2,r3,r4,r5,r6⟩:=Q1 r hr;obtain⟨_,_,w2,w3,w4,w5,w6⟩:=C1 w hw;have eo:=zFY ca0 ca8 fu r1.symm r2 (by omega);have ej:=zpQ h8 t (.mk ca r.1) (zaF w.1) (by omega) w2 (by omega);have eb:zaF (bef (.mk ca r.1) w.1)=.mk ca r.1::zaF w.1:=rfl;rw[eb];simp only[IT.nodesL,IT.nodes]at w6 ⊢;exact⟨rfl,by omega,by omega,by omega,by omega,by omega⟩
    simp only[zaU,zaF,fu,Option.getD_some];have g3:=zeY ((zcr aa f psa pa pb).flatMap λr=>(zbb aa f t l m).map λw=>(bef (.mk ca r.1) w.1,r.2*w.2)) _ (λq hq=>(g2 q hq).1);constructor
    ·intro p hp;obtain⟨h0,h | h⟩:=g3 p hp
     ·obtain⟨q,hq,he⟩:=h;have:=(two q hq).2;rw[he]at this;exact⟨h0,this⟩
     ·obtain⟨x,hx,_,dM⟩:=h;obtain⟨r,hr,hx⟩:=List.mem_flatMap.1 hx;obtain⟨w,hw,rfl⟩:=List.mem_map.1 hx;simp only at dM;rw[←dM];exact⟨h0,t3 r hr w hw⟩
    ·rw[zcA,zcA];have n3:zaM (λ_=>1) ((zcr aa f psa pa pb).flatMap λr=>(zbb aa f t l m).map λw=>(bef (.mk ca r.1) w.1,r.2*w.2))=zbu (λ_=>1) (zcr aa f psa pa pb)*zaM (λ_=>1) (zbb aa f t l m):=by
      generalize zcr aa f psa pa pb=R;induction R with
      | nil=>simp
      | cons r R ih=>rw[List.flatMap_cons,zjT,ih,zxO,zjV _ (λ_=>1) (bef (.mk ca r.1)) 1 (λx=>by simp),zhO,Nat.add_mul];simp
     have n4:zbu (λ_=>1) (zcr aa f psa pa pb)*zaM (λ_=>1) (zbb aa f t l m)≤3 ^ (s-1).toNat:=by refine Nat.le_trans (Nat.mul_le_mul Q2 C2) ?_;rw[←zpG (by omega) (by omega)];exact p3 (by omega) (by omega)
     rw[n3,h3s];omega
   ·rw[if_pos (by simpa using bb)];refine⟨two,?_⟩;rw[zcA,h3s];omega
theorem zuR:∀ a,a<7→∀ b,b<7→a+b≤6→zqa (a+b+1) (λk=>pcf a b k)≤3 ^ (a+b):=by decide +kernel
theorem zFL:∀ a,a<7→∀ b,b<7→∀ k,k<13→0<pcf a b k→a≤k∧b≤k:=by
 intro a _ b _ k _ h;unfold pcf at h;split at h
 ·omega
 ·omega
theorem zD9 {aa:List Dat} (h8:∀ D∈aa,D.cons.length≤8) {f:Nat} (hQ:zim aa f) (hR:zin aa f):znE aa (f+1):=by
 intro t i j hf hi hj h6;obtain⟨k,tn,tks⟩:=t;obtain⟨n,l⟩:=i;obtain⟨n',m⟩:=j;simp only[IT.nodes]at hf;have emp:∀ q∈([]:List (IT × Nat)),0<q.2:=λq hq=>by simp at hq
 rw[zbR];by_cases k6:k=6
 ·subst k6;have ev:∀ (n:Int) (l:List IT),0≤rdV aa (.mk n l) (.mk 6 tn tks)→n=0∧l.length=tks.length∧rdV aa (.mk n l) (.mk 6 tn tks)=rdA aa l tks 0:=λn l h=>by
   rw[rdV]at h ⊢;simp only[VT.kind,VT.kids,if_true]at h ⊢;by_cases hn:n=0
   ·by_cases hl:tks.length=l.length
    ·simp[hn,hl]
    ·simp[hn,hl]at h
   ·simp[hn]at h
  have ev2:∀ l:List IT,l.length=tks.length→rdV aa (.mk 0 l) (.mk 6 tn tks)=rdA aa l tks 0:=λl h=>by rw[rdV];simp[VT.kind,VT.kids,h]
  obtain⟨i1,i2,i3⟩:=ev n l hi;obtain⟨j1,j2,j3⟩:=ev n' m hj;rw[i3]at hi h6 ⊢;rw[j3]at hj h6 ⊢;obtain⟨Q1,Q2⟩:=hQ tks l m (by omega) i2 j2 hi hj h6;simp only[VT.kind,VT.kids,if_true,zaF,IT.nodes];constructor
  ·intro p hp;obtain⟨h0,h | h⟩:=zeY _ _ emp p hp
   ·obtain⟨x,hx,_⟩:=h;simp at hx
   ·obtain⟨x,hx,_,dM⟩:=h;obtain⟨r,hr,rfl⟩:=List.mem_map.1 hx;simp only at dM;obtain⟨_,r1,r2,r3,r4,r5,r6⟩:=Q1 r hr;rw[←dM,ev2 r.1 r1];simp only[IT.nodes];exact⟨h0,r2,r3,r4,r5,by omega⟩
  ·rw[zcA,zdT,Nat.zero_add,zjU];exact Q2
 ·by_cases k7:k=7
  ·subst k7;have ev:∀ (n:Int) (l:List IT),0≤rdV aa (.mk n l) (.mk 7 tn tks)→0≤n∧n≤6∧rdV aa (.mk n l) (.mk 7 tn tks)=n:=λn l h=>by
    rw[rdV]at h ⊢;simp only[VT.kind,k6,if_false,if_true]at h ⊢;by_cases hc:0≤n∧n≤6∧l.length=0
    ·rw[if_pos hc];exact⟨hc.1,hc.2.1,rfl⟩
    ·rw[if_neg hc]at h;omega
   obtain⟨i1,i2,i3⟩:=ev n l hi;obtain⟨j1,j2,j3⟩:=ev n' m hj;rw[i3]at hi h6 ⊢;rw[j3]at hj h6 ⊢;obtain⟨a,rfl⟩:∃ a:Nat,n=a:=⟨n.toNat,by omega⟩;obtain⟨b,rfl⟩:∃ b:Nat,n'=b:=⟨n'.toNat,by omega⟩;simp only[VT.kind,k6,if_false,if_true,zaU,IT.nodes,Int.toNat_natCast];constructor
   ·intro p hp;obtain⟨h0,h | h⟩:=zeY _ _ emp p hp
    ·obtain⟨x,hx,_⟩:=h;simp at hx
    ·obtain⟨x,hx,dI,dM⟩:=h;obtain⟨q,hq,rfl⟩:=List.mem_map.1 hx;rw[List.mem_range]at hq;simp only at dI dM;obtain⟨q1,q2⟩:=zFL a (by omega) b (by omega) q (by omega) dI;have e:rdV aa (.mk (q:Int) []) (.mk 7 tn tks)=q:=by rw[rdV];simp only[VT.kind,k6,if_false,if_true];rw[if_pos ⟨by omega,by omega,rfl⟩]
     rw[←dM,e];simp only[IT.nodes,IT.nodesL];exact⟨h0,by omega,by omega,by omega,by omega,by omega⟩
   ·rw[zcA,zdT,Nat.zero_add,zbw,zjU];have:=zuR a (by omega) b (by omega) (by omega);unfold zqa at this;rw[show ((a:Int)+(b:Int)).toNat=a+b by omega];simpa using this
  ·by_cases k5:k=5
   ·subst k5;have ev:∀ (n:Int) (l:List IT),0≤rdV aa (.mk n l) (.mk 5 tn tks)→n=0∧l.length≤6∧rdV aa (.mk n l) (.mk 5 tn tks)=rdE aa l (.mk 5 tn tks) 0:=λn l h=>by
     rw[zjM]at h ⊢;by_cases hc:n=0∧l.length≤6
     ·rw[if_pos hc];exact⟨hc.1,hc.2,rfl⟩
     ·rw[if_neg hc]at h;omega
    obtain⟨i1,i2,i3⟩:=ev n l hi;obtain⟨j1,j2,j3⟩:=ev n' m hj;rw[i3]at hi h6 ⊢;rw[j3]at hj h6 ⊢;obtain⟨R1,R2⟩:=hR (.mk 5 tn tks) l m (by omega) hi hj h6;simp only[VT.kind,k6,k7,if_false,if_true,zaF,IT.nodes];constructor
    ·intro p hp;obtain⟨h0,h | h⟩:=zeY _ _ emp p hp
     ·obtain⟨x,hx,_⟩:=h;simp at hx
     ·obtain⟨x,hx,dI,dM⟩:=h;obtain⟨_,r1,r2,r3,r4,r5,r6⟩:=R1 x hx;rw[←dM];obtain⟨⟨xn,xk⟩,xc⟩:=x;simp only[zaU,zaF]at r1 r2 r3 r4 r5 r6 ⊢;subst r1;have dR:=zjJ (aa:=aa) xk (.mk 5 tn tks) 0 (by omega);have e:rdV aa (.mk 0 xk) (.mk 5 tn tks)=rdE aa xk (.mk 5 tn tks) 0:=by rw[zjM,if_pos ⟨rfl,by omega⟩]
      rw[e];simp only[IT.nodes];exact⟨h0,r2,r3,r4,r5,by omega⟩
    ·rw[zcA,zdT,Nat.zero_add];exact R2
   ·have ev:∀ (n:Int) (l:List IT),0≤rdV aa (.mk n l) (.mk k tn tks)→rdV aa (.mk n l) (.mk k tn tks)=0:=λn l h=>by
     rw[rdV]at h ⊢;simp only[VT.kind,k6,k7,k5,if_false]at h ⊢;by_cases hc:n=0∧l.length=0
     ·rw[if_pos hc]
     ·rw[if_neg hc]at h;omega
    rw[ev n l hi,ev n' m hj];simp only[VT.kind,k6,k7,k5,if_false];refine⟨λp hp=>?_,by simp⟩;simp at hp;subst hp;have e:rdV aa (.mk 0 []) (.mk k tn tks)=0:=by rw[rdV];simp[VT.kind,k6,k7,k5]
    rw[e];simp only[IT.nodes,IT.nodesL];exact⟨by omega,by omega,by omega,by omega,by omega,by omega⟩
theorem zea {aa:List Dat} (h8:∀ D∈aa,D.cons.length≤8):∀ f,znE aa f∧zim aa f∧zin aa f
 | 0=>⟨λt i j h=>by have:=i.nodes_pos;omega,λts l m h=>by omega,λt l m h=>by omega⟩
 | f+1=>by obtain⟨h1,h2,h3⟩:=zea h8 f;exact⟨zD9 h8 h2 h3,zEa h1,zEb h8 h2 h3⟩
end Go.Proofs.YtdmamdnkcefmmaaGreatDoor
namespace Go.Proofs.YtdmamdnkcefmmaaGreatDoor
open Go Go.Abs
set_option maxRecDepth 100000
section


end
end Go.Proofs.YtdmamdnkcefmmaaGreatDoor
namespace Go.Proofs.YtdmamdnkcefmmaaGreatDoor
open Go Go.Abs
def tmC (p:IT × Nat):List AV:=p.1.cs++zal (p.2:Int)
def tms (s:List (IT × Nat)):List AV:=(s.map tmC).flatten
@[simp] theorem zHz (p:IT × Nat):(tmC p).length=5:=by simp[tmC,zal]
@[simp] theorem zYu (s:List (IT × Nat)):(tms s).length=s.length*5:=by
 induction s with
 | nil=>rfl
 | cons p s ih=>simp only[tms,List.map_cons,List.flatten_cons,List.length_append,zHz,List.length_cons]at ih ⊢;omega
theorem zj2 (a b:List (IT × Nat)):tms (a++b)=tms a++tms b:=by simp[tms]
theorem zhP (p:IT × Nat) (s:List (IT × Nat)):tms (p::s)=tmC p++tms s:=by simp[tms]
theorem zql {s:List (IT × Nat)} {k:Nat} (h:k<s.length):tms s=tms (s.take k)++(tmC s[k]++tms (s.drop (k+1))):=by rw[←zhP,←zj2,←List.drop_eq_getElem_cons h,List.take_append_drop]
theorem zqm {s:List (IT × Nat)} {k:Nat} (h:k≤s.length):(tms (s.take k)).length=k*5:=by simp[Nat.min_eq_left h]
theorem zHB {s:List (IT × Nat)} {k:Nat} (h:k<s.length):((tms s).drop (k*5+2)).take 3=zal (s[k].2:Int):=by
 have e:tms s=(tms (s.take k)++s[k].1.cs)++(zal (s[k].2:Int)++tms (s.drop (k+1))):=by rw[zql h,tmC];simp
 have hl:(tms (s.take k)++s[k].1.cs).length=k*5+2:=by rw[List.length_append,zqm (by omega)];simp
 rw[e,List.drop_left' hl,List.take_left' (by simp[zal])]
theorem zHD {s:List (IT × Nat)} {k:Nat} (h:k<s.length) (x:Nat):(tms s).take (k*5+2)++zal (x:Int)++(tms s).drop (k*5+2+3)=tms (s.set k (s[k].1,x)):=by
 have e:tms s=(tms (s.take k)++s[k].1.cs)++(zal (s[k].2:Int)++tms (s.drop (k+1))):=by rw[zql h,tmC];simp
 have hl:(tms (s.take k)++s[k].1.cs).length=k*5+2:=by rw[List.length_append,zqm (by omega)];simp
 have e1:(tms s).take (k*5+2)=tms (s.take k)++s[k].1.cs:=by rw[e,List.take_left' hl]
 have e2:(tms s).drop (k*5+2+3)=tms (s.drop (k+1)):=by rw[←List.drop_drop,e,List.drop_left' hl,List.drop_left' (by simp[zal])]
 rw[e1,e2,List.set_eq_take_append_cons_drop,if_pos h,zj2,zhP,tmC];simp
theorem zqk (s:List (IT × Nat)) (n:Nat):(tms s).all (AV.scA n)=true:=by
 induction s with
 | nil=>rfl
 | cons p s ih=>rw[zhP,List.all_append,ih,tmC,List.all_append,IT.cs_scA,zhD];rfl
theorem zHC (s:List (IT × Nat)):(tms s).all AV.known=true:=by
 induction s with
 | nil=>rfl
 | cons p s ih=>rw[zhP,List.all_append,ih,tmC,List.all_append,IT.cs_known];simp[zal,AV.known]
end Go.Proofs.YtdmamdnkcefmmaaGreatDoor
namespace Go.Proofs.YtdmamdnkcefmmaaGreatDoor
open Go Go.Abs
set_option maxRecDepth 100000
section


end
end Go.Proofs.YtdmamdnkcefmmaaGreatDoor
namespace Go.Proofs.YtdmamdnkcefmmaaGreatDoor
open Go Go.Abs
def zaH (s:List (IT × Nat)):List (List AV):=s.map tmC
@[simp] theorem zYt (s:List (IT × Nat)):(zaH s).length=s.length:=by simp[zaH]
theorem zxZ (s:List (IT × Nat)):(zaH s).flatten=tms s:=rfl
@[simp] theorem zYs {s:List (IT × Nat)} {i:Nat} (h:i<(zaH s).length):(zaH s)[i]=tmC (s[i]'(by simpa using h)):=by simp[zaH]
theorem zhB:∀ {a b c d:List AV},plain a=some c→plain b=some d→plain (a++b)=some (c++d)
 | [],b,c,d,h,h'=>by simp[plain]at h;subst h;simpa using h'
 | x::a,b,c,d,h,h'=>by
  simp only[plain]at h;split at h
  ·rename_i p q hp hq;cases h;simp only[List.cons_append,plain];rw[hp,zhB hq h']
  ·cases h
theorem zjH (v:IT):plain v.cs=some v.cs:=by obtain⟨n,ks⟩:=v;simp[IT.cs,plain,AV.pd]
theorem zc8 (z:Int):plain (zal z)=some (zal z):=rfl
theorem zhC (p:IT × Nat):plain (tmC p)=some (tmC p):=zhB (zjH p.1) (zc8 _)
theorem zpK:∀ s:List (IT × Nat),plain (tms s)=some (tms s)
 | []=>rfl
 | p::s=>by rw[zhP];exact zhB (zhC p) (zpK s)
theorem zFB {H J:zaa} {K:Kt} (s:List (IT × Nat)) (id:Nat) (aS:H.length≤id) (ap:(H++J)[id]?=some (.vec zaB 5 s.length (tms s))) (hs:HSc H) (hK:K (.sl (zaH s) .none) H):Out H.length K (.ov id s.length) (H++J):=
 ⟨.sl (zaH s) .none,H,J,rfl,Nat.le_refl _,hs,.one (.vfz id zaB 5 s.length (tms s) (zaH s) aS ap (by rw[zxZ];exact zpK s) (by simp) (λc hc=>by
  obtain⟨p,_,rfl⟩:=List.mem_map.1 hc;simp)),hK⟩
def zaO (out:List (List IT × Nat)):List (List AV):=out.map λr=>.sl (IT.css r.1) .none::zal (r.2:Int)
@[simp] theorem zX9 (s:List (List IT × Nat)):(zaO s).length=s.length:=by simp[zaO]
@[simp] theorem zX8 {s:List (List IT × Nat)} {i:Nat} (h:i<(zaO s).length):(zaO s)[i]=.sl (IT.css (s[i]'(by simpa using h)).1) .none::zal ((s[i]'(by simpa using h)).2:Int):=by simp[zaO]
theorem zpX (a b:List (List IT × Nat)):zaO (a++b)=zaO a++zaO b:=by simp[zaO]
theorem zxb {aa:List Dat} {f:Nat} {ts:List VT} {l m:List IT} {k:Nat}:∀ j,j≤k→zcl aa f (ts.take k) (l.take k) (m.take k) j=zcl aa f ts l m j:=by
 intro j;induction j with
 | zero=>intro _;rfl
 | succ j ih=>intro h;rw[zhF,zhF,ih (by omega)];simp[List.getD_eq_getElem?_getD,List.getElem?_take,show j<k by omega]
theorem zE1 {s:List (List IT × Nat)} {p:List IT × Nat} (h:p∈s):p.2≤zbu (λ_=>1) s:=by
 induction s with
 | nil=>simp at h
 | cons q s ih=>
  rw[zhO];rcases List.mem_cons.1 h with rfl | h
  ·omega
  ·have:=ih h;omega
theorem zEU {s:List (List IT × Nat)} (h:∀ p∈s,0<p.2):s.length≤zbu (λ_=>1) s:=by
 induction s with
 | nil=>simp
 | cons q s ih=>have h1:=ih λp hp=>h p (by simp[hp]);have h2:=h q (by simp);rw[zhO,List.length_cons];omega
theorem zeh {a:Int} (h:a≤6):3 ^ a.toNat≤729:=Nat.le_trans (Nat.pow_le_pow_right (by omega) (show a.toNat≤6 by omega)) (by decide)
theorem zF5 {aa:List Dat} (h8:∀ D∈aa,D.cons.length≤8) {f:Nat} {ts:List VT} {l m:List IT} (hf:IT.nodesL l+IT.nodesL m≤f) (hl:l.length=ts.length) (hm:m.length=ts.length) (hA:0≤rdA aa l ts 0) (hB:0≤rdA aa m ts 0) (h6:rdA aa l ts 0+rdA aa m ts 0≤6) (k:Nat) (hk:k≤ts.length) :
  (∀ r∈zcl aa f ts l m k,0<r.2∧r.2≤729∧IT.nodesL r.1≤IT.nodesL l+IT.nodesL m)∧(zcl aa f ts l m k).length≤729:=by
 have a1:=zc9 l ts 0 k hl (by omega) hA;have b1:=zc9 m ts 0 k hm (by omega) hB;have n1:=IT.nodesL_take_le l k;have n2:=IT.nodesL_take_le m k;obtain⟨h1,h2⟩:=(zea h8 (f+1)).2.1 (ts.take k) (l.take k) (m.take k) (by omega) (by simp;omega) (by simp;omega) a1.1 b1.1 (by omega);have e:zcr aa (f+1) (ts.take k) (l.take k) (m.take k)=zcl aa f ts l m k:=by rw[ziJ,List.length_take,Nat.min_eq_left hk,zxb k (Nat.le_refl _)]
 rw[e]at h1 h2;have hN:zbu (λ_=>1) (zcl aa f ts l m k)≤729:=Nat.le_trans h2 (zeh (by omega));refine⟨λr hr=>?_,Nat.le_trans (zEU λp hp=>(h1 p hp).1) hN⟩;obtain⟨q1,_,_,_,_,_,q6⟩:=h1 r hr;have:=zE1 hr;exact⟨q1,by omega,by omega⟩
end Go.Proofs.YtdmamdnkcefmmaaGreatDoor
