import Derived.Test.YtdmamdnkcefmmaaGreatDoorIT
import Derived.Test.YtdmamdnkcefmmaaGreatDoorKZ2
import Derived.Test.YtdmamdnkcefmmaaGreatDoorVO
import Derived.Test.YtdmamdnkcefmmaaGreatDoorKNum
import Derived.Test.YtdmamdnkcefmmaaGreatDoorProg
import Derived.KernelRfl
set_option linter.unusedSimpArgs false
set_option linter.unusedVariables false
set_option maxRecDepth 8000
namespace Go.Abs
open Go
def zc2:List (IT × Nat)→IT→Nat→List (IT × Nat)
 | [],i,c=>[(i,c)]
 | p::s,i,c=>if IT.cmp p.1 i<0 then p::zc2 s i c else if IT.cmp p.1 i=0 then (p.1,p.2+c)::s else (i,c)::p::s
theorem zDp {s:List (IT × Nat)} {i:IT} {c:Nat}:∀ p∈zc2 s i c,(p∈s∨p=(i,c))∨∃ q∈s,p=(q.1,q.2+c):=by
 induction s with
 | nil=>intro p hp;simp[zc2]at hp;exact .inl (.inr hp)
 | cons q s ih=>
  intro p hp;rw[zc2]at hp;split at hp
  ·rcases List.mem_cons.1 hp with rfl | hp
   ·exact .inl (.inl (by simp))
   ·rcases ih p hp with (h | h) | ⟨r,hr,h⟩
    ·exact .inl (.inl (by simp[h]))
    ·exact .inl (.inr h)
    ·exact .inr ⟨r,by simp[hr],h⟩
  ·split at hp
   ·rcases List.mem_cons.1 hp with rfl | hp
    ·exact .inr ⟨q,by simp,rfl⟩
    ·exact .inl (.inl (by simp[hp]))
   ·rcases List.mem_cons.1 hp with rfl | hp
    ·exact .inl (.inr rfl)
    ·exact .inl (.inl hp)
def zaM (f:IT→Nat) (s:List (IT × Nat)):Nat:=(s.map λp=>p.2*f p.1).foldr (·+·) 0
@[simp] theorem zdT (f:IT→Nat):zaM f []=0:=rfl
@[simp] theorem zcW (f:IT→Nat) (p:IT × Nat) (s:List (IT × Nat)):zaM f (p::s)=p.2*f p.1+zaM f s:=rfl
theorem zjT (f:IT→Nat):∀ a b:List (IT × Nat),zaM f (a++b)=zaM f a+zaM f b
 | [],b=>by simp
 | p::a,b=>by simp[zjT f a b];omega
mutual
theorem same_eq:∀ v w:IT,IT.same v w=true→v=w
 | .mk n ks,.mk n' ks',h=>by simp only[IT.same,Bool.and_eq_true,beq_iff_eq]at h;rw[h.1,sameL_eq ks ks' h.2]
theorem sameL_eq:∀ v w:List IT,IT.sameL v w=true→v=w
 | v::vs,w::ws,h=>by simp only[IT.sameL,Bool.and_eq_true]at h;rw[same_eq v w h.1,sameL_eq vs ws h.2]
 | [],[],_=>rfl
 | [],_::_,h=>by simp[IT.sameL]at h
 | _::_,[],h=>by simp[IT.sameL]at h
end
theorem zn3 {v w:IT} (h:IT.cmp v w=0):v=w:=same_eq v w ((IT.cmp_zero v w).1 h)
theorem zxN (f:IT→Nat) (i:IT) (c:Nat):∀ s:List (IT × Nat),zaM f (zc2 s i c)=zaM f s+c*f i
 | []=>by simp[zc2]
 | p::s=>by
  rw[zc2];split
  ·rw[zcW,zcW,zxN f i c s];omega
  ·split
   ·rename_i h;have e:=zn3 h;subst e;simp only[zcW,Nat.add_mul];omega
   ·rw[zcW];simp only;omega
def zdg (s:List (IT × Nat)) (i:IT) (c:Nat):List (IT × Nat):=if c=0 then s else zc2 s i c
theorem zHq (f:IT→Nat) (i:IT) (c:Nat) (s:List (IT × Nat)):zaM f (zdg s i c)=zaM f s+c*f i:=by
 unfold zdg;split
 ·rename_i h;rw[h];simp
 ·exact zxN f i c s
def zcf (s l:List (IT × Nat)):List (IT × Nat):=l.foldl (λs p=>zdg s p.1 p.2) s
theorem zcA (f:IT→Nat):∀ (l s:List (IT × Nat)),zaM f (zcf s l)=zaM f s+zaM f l
 | [],s=>by simp[zcf]
 | p::l,s=>by have h:=zcA f l (zdg s p.1 p.2);rw[zHq]at h;show zaM f (zcf (zdg s p.1 p.2) l)=_;rw[h,zcW];omega
end Go.Abs
namespace Go.Abs
open Go
structure Con where
 name:List UInt8
 args:List VT
structure Dat where
 name:List UInt8
 vars:Int
 cons:List Con
structure Cod where
 name:List UInt8
 params:List Int
 capt:List Int
 res:VT
 body:Int
structure CEx where
 op:Int
 num:Int
 vars:List Int
 binds:List (List Int)
 kids:List Int
 ty:VT
structure Cor where
 data:List Dat
 codes:List Cod
 vars:List VT
 exprs:List CEx
def ints (l:List Int):List (List AV):=l.map λn=>[.int .i64 n]
def rows (l:List (List Int)):List (List AV):=l.map λr=>[.sl (ints r) .none]
def Con.cs (c:Con):List AV:=[.str c.name,.sl (VT.css c.args) .none]
def Dat.cs (d:Dat):List AV:=[.str d.name,.int .i64 d.vars,.sl (d.cons.map Con.cs) .none]
def Cod.cs (c:Cod):List AV:=.str c.name::.sl (ints c.params) .none::.sl (ints c.capt) .none::(c.res.cs++[.int .i64 c.body])
def CEx.cs (e:CEx):List AV:=.int .i64 e.op::.int .i64 e.num::.sl (ints e.vars) .none::.sl (rows e.binds) .none::.sl (ints e.kids) .none::e.ty.cs
def Cor.cs (c:Cor):List AV:=[.sl (c.data.map Dat.cs) .none,.sl (c.codes.map Cod.cs) .none,.sl (VT.css c.vars) .none,.sl (c.exprs.map CEx.cs) .none]
@[simp] theorem zXP (l:List Int):(ints l).length=l.length:=by simp[ints]
@[simp] theorem zYa (l:List (List Int)):(rows l).length=l.length:=by simp[rows]
def VT.kind:VT→Int | .mk k _ _=>k
def VT.num:VT→Int | .mk _ n _=>n
def VT.kids:VT→List VT | .mk _ _ ks=>ks
def zbg (aa:List Dat) (vars k n:Int) (len:Nat):Bool:=
 if k == 1 || k == 2 || k == 3 then n == 0 && len == 0
 else if k == 4 then decide (0≤n) && decide (n<vars) && len == 0
 else if k == 5 then decide (0≤n) && (match aa[n.toNat]? with | some d=>(len:Int) == d.vars | none=>false)
 else if k == 6 then n == 0 && decide (2≤len) && decide (len≤6)
 else if k == 7 || k == 8 then n == 0 && len == 1
 else if k == 9 then n == 0 && decide (1≤len) && decide (len≤7)
 else false
mutual
def za3 (aa:List Dat) (vars:Int):VT→Bool
 | .mk k n asx=>zbg aa vars k n asx.length && zbf aa vars asx
def zbf (aa:List Dat) (vars:Int):List VT→Bool
 | []=>true
 | t::ts=>za3 aa vars t && zbf aa vars ts
end
def za1 (aa:List Dat) (vars:Int) (t:VT):Bool:=decide (t.nodes≤200) && za3 aa vars t
mutual
def subst (args:List VT):VT→VT
 | .mk k n ks=>if k=4∧0≤n∧n<args.length then (args[n.toNat]?).getD (.mk 0 0 []) else .mk k n (zaN args ks)
def zaN (args:List VT):List VT→List VT
 | []=>[]
 | t::ts=>subst args t::zaN args ts
end
def zbm (aa:List Dat) (t:VT) (c:Int):Option (List VT):=
 if t.kind=5∧0≤t.num∧0≤c then
  match aa[t.num.toNat]? with
  | some d=>if (t.kids.length:Int)=d.vars then
    match d.cons[c.toNat]? with
    | some k=>let l:=k.args.map (subst t.kids)
     if l.all (λx=>decide (x.nodes≤200))=true then some l else none
    | none=>none
   else none
  | none=>none
 else none
end Go.Abs
namespace Go.Proofs.YtdmamdnkcefmmaaGreatDoor
open Go Go.Abs
set_option maxRecDepth 100000
section
variable (t0 t1 t2 t3 t5 t6 t7 t8 t13 t14 t15 t20 t21 t30 t31 t32 t47 t48 t49 t74:AV) (H:zaa) (K:Kt) (Kb2 Kb4 Kb5 Kb9:Lt)
def zna:Nat→List Bool | 5=>rl false [1,2,2,1,24] | _=>[]
noncomputable def ztG:Code:=Tryz.f72.body.getD .skip
noncomputable def zSJ:List ResultVar:=Tryz.f72.results.toList
def znb:List AV:=ux 1 (t1::t2::ux 2 (t5::ux 24 []))
def zSH:List Bool:=zna 5
noncomputable def zSF:Code:=zaq [1,1,1,0,1,0,0] ztG
def zSE:AExit→List AV→zaa→Prop:=zas tP zna [1,1,1,0,1,0] ztG (zay tP zSJ K)
def zCa:Prop:=ALoop tP zSF (zSE K) (znb t1 t2 t5) H
def ztF:Prop:=zaf 2 t2 λt16=>zae false 1 t16 H λt17=>zah 1 t17 λt18=>zac .lss false t5 t18 λt19=>zag t19 (zaf 2 t2 λt22=>zae false 1 t22 H λt23=>zai 3 t23 t5 λt25=>zae true 3 t25 H λt26=>ACalls tP zhp [t26,t1] H λt28 H=>aUn .not t28 λt29=>zag t29 (K (.bool false) H) (zac .add false t5 (.int .i64 1) λt21=>Kb5 (znb t1 t2 t21) H)) (K (.bool true) H)
def zB9:Prop:=zav t0 H λt2 H=>za5 t1 λt7=>zae false 1 t7 H λt8=>zac .sub false t8 (.int .i64 1) λt9=>za5 t1 λt10=>zan 1 t10 t9 H λH=>za5 t1 λt12=>zae false 1 t12 H λt13=>zac .lss false t13 (.int .i64 0) λt14=>zag t14 (K (.bool false) H) (zCa t1 t2 (.int .i64 0) H K)
def zQM (_:Nat):List Bool:=[]
noncomputable def zQN:Code:=Tryz.f38.body.getD .skip
def zBB:Prop:=zav t0 H λt1 H=>zax [(.int .i64 0)] H λt3 H=>zan 1 t3 (.int .i64 250) H λH=>zae true 3 t1 H λt4=>ACalls tP zhp [t4,t3] H λt5 H=>K t5 H
def zdY:Nat→List Bool | 4=>rl false [13,3,43] | 9=>rl false [13,3,14,3,26] | 15=>rl false [7,1,5,3,14,3,14,3,9] | _=>[]
noncomputable def zs6:Code:=Tryz.f37.body.getD .skip
noncomputable def zQK:List ResultVar:=Tryz.f37.results.toList
def zh8:List AV:=ux 13 (t13::t14::t15::ux 43 [])
def zBz:List Bool:=zdY 4
noncomputable def zs7:Code:=zaq [1,1,0,1,0,0] zs6
def zBu:AExit→List AV→zaa→Prop:=zas tP zdY [1,1,0,1,0] zs6 (zay tP zQK K)
def zBx:Prop:=ALoop tP zs7 (zBu K) (zh8 t13 t14 t15) H
def zmA:List AV:=ux 13 (t13::t14::t15::ux 14 (t30::t31::t32::ux 26 []))
def zBA:List Bool:=zdY 9
noncomputable def zs8:Code:=zaq [1,1,0,0,1,1,1,0,0] zs7
def zBv:AExit→List AV→zaa→Prop:=zas tP zdY [1,1,0,0,1,1,1,0] zs7 (zb1 zBz Kb4 (zBu K))
def zBy:Prop:=ALoop tP zs8 (zBv K Kb4) (zmA t13 t14 t15 t30 t31 t32) H
def zmz:List AV:=ux 7 (t7::ux 5 (t13::t14::t15::ux 14 (t30::t31::t32::ux 14 (t47::t48::t49::ux 9 []))))
def zQI:List Bool:=zdY 15
noncomputable def zQE:Code:=zaq [1,1,0,0,1,1,1,1,0,0] zs8
def zQD:AExit→List AV→zaa→Prop:=zas tP zdY [1,1,0,0,1,1,1,1,0] zs8 (zb1 zBA Kb9 (zBv K Kb4))
def zBw:Prop:=ALoop tP zQE (zQD K Kb4 Kb9) (zmz t7 t13 t14 t15 t30 t31 t32 t47 t48 t49) H
def zs3 (t7 t13 t14 t15 t30 t31 t32 t47 t48 t49:AV) (H:zaa) (K:Kt) (Kb4:Lt) (Kb9:Lt) (Kb15:Lt):Prop:=zac .lss false t49 t48 λt50=>zag t50 (zai 3 t47 t49 λt51=>zae true 3 t51 H λt52=>zax [(.int .i64 0),(.int .i64 0),.snil] H λt9 H=>zan 3 t9 t52 H λH=>zae true 3 t9 H λt53=>ACalls tP zhp [t53,t7] H λt54 H=>aUn .not t54 λt55=>zag t55 (K (.bool false) H) (zac .add false t49 (.int .i64 1) λt56=>Kb15 (zmz t7 t13 t14 t15 t30 t31 t32 t47 t48 t56) H)) (zac .add false t32 (.int .i64 1) λt57=>Kb9 (zmA t13 t14 t15 t30 t31 t57) H)
def zs5:Prop:=zac .lss false t32 t31 λt33=>zag t33 (zai 2 t30 t32 λt34=>zae true 2 t34 H λt35=>zax [(.str []),.snil] H λt6 H=>zan 2 t6 t35 H λH=>zaf 0 t6 λt36=>zae false 1 t36 H λt37=>zah 0 t37 λt38=>zac .gtr false t38 (.int .i64 40) λt39=>zad t39 false H (λK'=>zaf 1 t6 (K' · H)) λt41 H=>zad t39 false H (λK'=>zae false 1 t41 H (K' · H)) λt42 H=>zad t39 false H (λK'=>zah 1 t42 (K' · H)) λt43 H=>zad t39 false H (λK'=>zac .gtr false t43 (.int .i64 8) (K' · H)) λt44 H=>zaj t39 (.bool true) t44 λt45=>zag t45 (K (.bool false) H) (zax [(.int .i64 0)] H λt7 H=>zan 1 t7 (.int .i64 20) H λH=>zaf 1 t6 λt46=>zae false 1 t46 H λt47=>zah 1 t47 λt48=>zBw t7 t13 t14 t15 t30 t31 t32 t47 t48 (.int .i64 0) H K Kb4 Kb9)) (zac .add false t15 (.int .i64 1) λt58=>Kb4 (zh8 t13 t14 t58) H)
def zs4:Prop:=zac .lss false t15 t14 λt16=>zag t16 (zai 3 t13 t15 λt17=>zae true 3 t17 H λt18=>zax [(.str []),(.int .i64 0),.snil] H λt4 H=>zan 3 t4 t18 H λH=>zaf 0 t4 λt19=>zae false 1 t19 H λt20=>zah 0 t20 λt21=>zac .gtr false t21 (.int .i64 40) λt22=>zad t22 false H (λK'=>zaf 2 t4 (K' · H)) λt24 H=>zad t22 false H (λK'=>zae false 1 t24 H (K' · H)) λt25 H=>zad t22 false H (λK'=>zah 1 t25 (K' · H)) λt26 H=>zad t22 false H (λK'=>zac .gtr false t26 (.int .i64 10) (K' · H)) λt27 H=>zaj t22 (.bool true) t27 λt28=>zag t28 (K (.bool false) H) (zaf 2 t4 λt29=>zae false 1 t29 H λt30=>zah 1 t30 λt31=>zBy t13 t14 t15 t30 t31 (.int .i64 0) H K Kb4)) (K (.bool true) H)
def zs2:Prop:=zah 1 t0 λt11=>zac .gtr false t11 (.int .i64 14) λt12=>zag t12 (K (.bool false) H) (zah 1 t0 λt14=>zBx t0 t14 (.int .i64 0) H K)
def zJj (_:Nat):List Bool:=[]
noncomputable def zJk:Code:=Tryz.f123.body.getD .skip
def zy0:Prop:=zav t1 H λt4 H=>zar [.snil,(.int .i64 0),(.int .i64 0)] [(0,1),(1,1),(2,1)] [(0,t0),(1,t2),(2,(.int .i64 200))] λt10=>zav t10 H λt11 H=>zae true 3 t4 H λt13=>ACalls tP ziV [t11,t13] H λt14 H=>K t14 H
def zeo:Nat→List Bool | 171022=>rl false [2,2,16,1,53,1,34] | 150010=>rl false [2,2,1,2,13,2,87] | 100007=>rl false [2,2,1,2,13,1,88] | 100002=>rl false [2,2,105] | _=>[]
noncomputable def zep:Code:=Tryz.f166.body.getD .skip
noncomputable def zlw:List ResultVar:=Tryz.f166.results.toList
def zgo:Prop:=zaf 0 t3 λt79=>zae false 1 t79 H λt80=>zac .neq false t80 (.int .i64 4) λt81=>zad t81 true H (λK'=>zaf 0 t3 (K' · H)) λt83 H=>zad t81 true H (λK'=>zae false 1 t83 H (K' · H)) λt84 H=>zad t81 true H (λK'=>zac .neq false t84 (.int .i64 5) (K' · H)) λt85 H=>zaj t81 t85 (.bool false) λt86=>zad t86 true H (λK'=>zaf 1 t3 (K' · H)) λt88 H=>zad t86 true H (λK'=>zae false 1 t88 H (K' · H)) λt89 H=>zad t86 true H (λK'=>zac .neq false t89 (.int .i64 0) (K' · H)) λt90 H=>zaj t86 t90 (.bool false) λt91=>zag t91 (K (.bool false) H) (zaf 2 t3 λt92=>zae false 1 t92 H λt93=>zah 1 t93 λt94=>zac .lss false t94 t5 λt96=>zad t96 false H (λK'=>zaf 2 t3 (K' · H)) λt98 H=>zad t96 false H (λK'=>zae false 1 t98 H (K' · H)) λt99 H=>zad t96 false H (λK'=>zah 1 t99 (K' · H)) λt100 H=>zad t96 false H (λK'=>K' t6 H) λt101 H=>zad t96 false H (λK'=>zac .gtr false t100 t101 (K' · H)) λt102 H=>zaj t96 (.bool true) t102 λt103=>zag t103 (K (.bool false) H) (zaf 2 t3 λt104=>zae false 1 t104 H λt105=>zcw zi6 [t2] λt106=>ACalls tP zfe [t105,t106] H λt107 H=>aUn .not t107 λt108=>K t108 H))
def zdt:Prop:=zgo t2 t3 t5 t6 H K
noncomputable def zMw:Code:=zaq [1,1,1,1,0,1,0,1,1,1,1,1,1,1,1,1] zep
def zMv:AExit→List AV→zaa→Prop:=zas tP zeo [1,1,1,1,0,1,0,1,1,1,1,1,1,1,1,1] zep (zay tP zlw K)
def zrU:Prop:=AWp tP zMw (zMv K) (ux 2 (t2::t3::ux 16 (t20::ux 53 (t74::ux 34 [])))) H
def zlv:Prop:=zag t74 (zdt t2 t3 (.int .i64 1) (.int .i64 1) H K) (zac .eql false t20 (.int .i64 9) λt78=>zag t78 (zdt t2 t3 (.int .i64 1) (.int .i64 7) H K) (K (.bool false) H))
noncomputable def zMu:Code:=zaq [1,1,1,1,0,1,0,1] zep
def zMt:AExit→List AV→zaa→Prop:=zas tP zeo [1,1,1,1,0,1,0,1] zep (zay tP zlw K)
def zlu:Prop:=AWp tP zMu (zMt K) (ux 2 (t2::t3::ux 1 (t5::t6::ux 13 (t20::t21::ux 87 [])))) H
def zdI:Prop:=zag t21 (zdt t2 t3 t5 t6 H K) (zac .eql false t20 (.int .i64 4) λt26=>zag t26 (zab H (λK'=>zaf 1 t3 (K' · H)) λt27=>zab H (λK'=>zak false 1 t27 H (K' · H)) λt28=>zab H (λK'=>zac .lss false t28 (.int .i64 0) (K' · H)) λt29=>zab H (λK'=>K' t29 H) λt30=>zad t30 false H (λK'=>zab H (λK''=>zaf 1 t3 (K'' · H)) (K' · H)) λt31 H=>zad t30 false H (λK'=>zab H (λK''=>zak false 1 t31 H (K'' · H)) (K' · H)) λt32 H=>zad t30 false H (λK'=>zab H (λK''=>zak false 1 t2 H (K'' · H)) (K' · H)) λt33 H=>zad t30 false H (λK'=>zab H (λK''=>za5 t33 (K'' · H)) (K' · H)) λt34 H=>zad t30 false H (λK'=>zab H (λK''=>zaf 1 t34 (K'' · H)) (K' · H)) λt35 H=>zad t30 false H (λK'=>zab H (λK''=>zak false 1 t35 H (K'' · H)) (K' · H)) λt36 H=>zad t30 false H (λK'=>zab H (λK''=>zac .geq false t32 t36 (K'' · H)) (K' · H)) λt37 H=>zab H (λK'=>zaj t30 (.bool true) t37 (K' · H)) λt38=>zag t38 (K (.bool false) H) (zdt t2 t3 t5 t6 H K)) (zac .eql false t20 (.int .i64 5) λt40=>zag t40 (zab H (λK'=>zaf 1 t3 (K' · H)) λt41=>zab H (λK'=>zak false 1 t41 H (K' · H)) λt42=>zab H (λK'=>zac .lss false t42 (.int .i64 0) (K' · H)) λt43=>zab H (λK'=>K' t43 H) λt44=>zad t44 false H (λK'=>zab H (λK''=>zaf 1 t3 (K'' · H)) (K' · H)) λt45 H=>zad t44 false H (λK'=>zab H (λK''=>zak false 1 t45 H (K'' · H)) (K' · H)) λt46 H=>zad t44 false H (λK'=>zab H (λK''=>zak false 1 t2 H (K'' · H)) (K' · H)) λt47 H=>zad t44 false H (λK'=>zab H (λK''=>za5 t47 (K'' · H)) (K' · H)) λt48 H=>zad t44 false H (λK'=>zab H (λK''=>zaf 0 t48 (K'' · H)) (K' · H)) λt49 H=>zad t44 false H (λK'=>zab H (λK''=>zak false 1 t49 H (K'' · H)) (K' · H)) λt50 H=>zad t44 false H (λK'=>zab H (λK''=>zah 1 t50 (K'' · H)) (K' · H)) λt51 H=>zad t44 false H (λK'=>zab H (λK''=>zac .geq false t46 t51 (K'' · H)) (K' · H)) λt52 H=>zab H (λK'=>zaj t44 (.bool true) t52 (K' · H)) λt53=>zag t53 (K (.bool false) H) (zab H (λK'=>zak false 1 t2 H (K' · H)) λt54=>zab H (λK'=>za5 t54 (K' · H)) λt55=>zab H (λK'=>zaf 0 t55 (K' · H)) λt56=>zab H (λK'=>zak false 1 t56 H (K' · H)) λt57=>zab H (λK'=>zaf 1 t3 (K' · H)) λt58=>zab H (λK'=>zak false 1 t58 H (K' · H)) λt59=>zab H (λK'=>zai 3 t57 t59 (K' · H)) λt60=>zab H (λK'=>zaf 1 t60 (K' · H)) λt61=>zab H (λK'=>zak false 1 t61 H (K' · H)) λt62=>zab H (λK'=>zak false 1 t2 H (K' · H)) λt63=>zab H (λK'=>za5 t63 (K' · H)) λt64=>zab H (λK'=>zaf 0 t64 (K' · H)) λt65=>zab H (λK'=>zak false 1 t65 H (K' · H)) λt66=>zab H (λK'=>zaf 1 t3 (K' · H)) λt67=>zab H (λK'=>zak false 1 t67 H (K' · H)) λt68=>zab H (λK'=>zai 3 t66 t68 (K' · H)) λt69=>zab H (λK'=>zaf 1 t69 (K' · H)) λt70=>zab H (λK'=>zak false 1 t70 H (K' · H)) λt71=>zab H (λK'=>K' t62 H) λt5=>zab H (λK'=>K' t71 H) λt6=>zdt t2 t3 t5 t6 H K)) (zac .eql false t20 (.int .i64 6) λt73=>zag t73 (zdt t2 t3 (.int .i64 2) (.int .i64 6) H K) (zac .eql false t20 (.int .i64 7) λt75=>zag t75 (zrU t2 t3 t20 t75 H K) (zac .eql false t20 (.int .i64 8) λt76=>zrU t2 t3 t20 t76 H K)))))
noncomputable def zMr:Code:=zaq [1,1,1,1,0,1] zep
def zMq:AExit→List AV→zaa→Prop:=zas tP zeo [1,1,1,1,0,1] zep (zay tP zlw K)
def zAd:Prop:=AWp tP zMr (zMq K) (ux 2 (t2::t3::ux 1 (t5::t6::ux 13 (t20::ux 88 [])))) H
def zrT:Prop:=zac .eql false t20 (.int .i64 1) λt22=>zag t22 (zlu t2 t3 t5 t6 t20 t22 H K) (zac .eql false t20 (.int .i64 2) λt23=>zag t23 (zlu t2 t3 t5 t6 t20 t23 H K) (zac .eql false t20 (.int .i64 3) λt24=>zlu t2 t3 t5 t6 t20 t24 H K))
noncomputable def zMo:Code:=zaq [1,1] zep
def zMn:AExit→List AV→zaa→Prop:=zas tP zeo [1,1] zep (zay tP zlw K)
def zrR:Prop:=AWp tP zMo (zMn K) (ux 2 (t2::t3::ux 105 [])) H
def zrS:Prop:=zae false 1 t2 H λt14=>za5 t14 λt15=>zaf 2 t15 λt16=>zae false 1 t16 H λt17=>zac .lss false t17 (.int .i64 0) λt18=>zag t18 (K (.bool false) H) (zaf 0 t3 λt19=>zae false 1 t19 H λt20=>zAd t2 t3 (.int .i64 0) (.int .i64 0) t20 H K)
def zAc:Prop:=zav t0 H λt2 H=>zav t1 H λt3 H=>zae false 1 t2 H λt7=>za5 t7 λt8=>zaf 2 t8 λt9=>zae false 1 t9 H λt10=>zac .sub false t10 (.int .i64 1) λt11=>za5 t7 λt12=>zaf 2 t12 λt13=>zan 1 t13 t11 H λH=>zrR t2 t3 H K
def zOy (_:Nat):List Bool:=[]
noncomputable def zOz:Code:=Tryz.f210.body.getD .skip
def zAT:Prop:=zav t0 H λt2 H=>zae false 1 t1 H λt4=>zae true 3 t2 H λt5=>ACalls tP ziV [t4,t5] H λt6 H=>aUn .not t6 λt7=>K t7 H
def zOv (_:Nat):List Bool:=[]
noncomputable def zOw:Code:=Tryz.f202.body.getD .skip
def zAS:Prop:=ACalls tP zpg [t0,t1] H λt7 H=>zac .geq false t7 (.int .i64 0) λt8=>K t8 H
def zmk:Nat→List Bool | 2=>rl false [0,2,5,2,10] | _=>[]
noncomputable def zsN:Code:=Tryz.f229.body.getD .skip
noncomputable def zPw:List ResultVar:=Tryz.f229.results.toList
def zml:List AV:=t0::t1::ux 5 (t7::t8::ux 10 [])
def zPu:List Bool:=zmk 2
noncomputable def zPs:Code:=zaq [1,0,1,0,0] zsN
def zPr:AExit→List AV→zaa→Prop:=zas tP zmk [1,0,1,0] zsN (zay tP zPw K)
def zA8:Prop:=ALoop tP zPs (zPr K) (zml t0 t1 t7 t8) H
def zsM:Prop:=zac .lss false t8 t7 λt9=>zag t9 (zai 3 t0 t8 λt14=>zae true 3 t14 H λt15=>aCallV tP t1 [t15] H λt16 H=>zag t16 (K t8 H) (zac .add false t8 (.int .i64 1) λt18=>Kb2 (zml t0 t1 t7 t18) H)) (K (.int .i64 (-1)) H)
def zA7:Prop:=zah 1 t0 λt7=>zA8 t0 t1 t7 (.int .i64 0) H K
variable {t0 t1 t2 t3 t5 t6 t7 t8 t13 t14 t15 t20 t21 t30 t31 t32 t47 t48 t49 t74} {H} {K} {Kb2 Kb4 Kb5 Kb9}
theorem zSG (Inv:Nat→AV→zaa→Prop) (n:Nat) (h0:HSc H→Inv n t5 H)
  (ac:Rd1 (λt5=>znb t1 t2 t5) (λt5=>λH Kb5=>ztF t1 t2 t5 H K Kb5) H Inv):zCa t1 t2 t5 H K:=
 lp1 (M:=zna) zSH t5 (by kernel_rfl) Inv n h0 ac
theorem zSI (h:HSc H→zB9 t0 t1 H K):ACalls tP zhp [t0,t1] H K:=
 acb zna Tryz.func72 ztG (by kernel_rfl) (by kernel_rfl) h
theorem zQO (h:HSc H→zBB t0 H K):ACalls tP zpp [t0] H K:=
 acb zQM Tryz.func38 zQN (by kernel_rfl) (by kernel_rfl) h
theorem zQF (Inv:Nat→AV→zaa→Prop) (n:Nat) (h0:HSc H→Inv n t49 H)
  (ac:Rd1 (λt49=>zmz t7 t13 t14 t15 t30 t31 t32 t47 t48 t49) (λt49=>λH Kb15=>zs3 t7 t13 t14 t15 t30 t31 t32 t47 t48 t49 H K Kb4 Kb9 Kb15) H Inv):zBw t7 t13 t14 t15 t30 t31 t32 t47 t48 t49 H K Kb4 Kb9:=
 lp1 (M:=zdY) zQI t49 (by kernel_rfl) Inv n h0 ac
theorem zQH (Inv:Nat→AV→zaa→Prop) (n:Nat) (h0:HSc H→Inv n t32 H)
  (ac:Rd1 (λt32=>zmA t13 t14 t15 t30 t31 t32) (λt32=>λH Kb9=>zs5 t13 t14 t15 t30 t31 t32 H K Kb4 Kb9) H Inv):zBy t13 t14 t15 t30 t31 t32 H K Kb4:=
 lp1 (M:=zdY) zBA t32 (by kernel_rfl) Inv n h0 ac
theorem zQG (Inv:Nat→AV→zaa→Prop) (n:Nat) (h0:HSc H→Inv n t15 H)
  (ac:Rd1 (λt15=>zh8 t13 t14 t15) (λt15=>λH Kb4=>zs4 t13 t14 t15 H K Kb4) H Inv):zBx t13 t14 t15 H K:=
 lp1 (M:=zdY) zBz t15 (by kernel_rfl) Inv n h0 ac
theorem zQJ (h:HSc H→zs2 t0 H K):ACalls tP zpo [t0] H K:=
 acb zdY Tryz.func37 zs6 (by kernel_rfl) (by kernel_rfl) h
theorem zJl (h:HSc H→zy0 t0 t1 t2 H K):ACalls tP zhd [t0,t1,t2] H K:=
 acb zJj Tryz.func123 zJk (by kernel_rfl) (by kernel_rfl) h
theorem zAf (h:HSc H→zlv t2 t3 t20 t74 H K):zrU t2 t3 t20 t74 H K:=
 λB w G a hH hF hd=>zfP (M:=zeo) _ _ _ _ (Eq.mpr (by kernel_rfl) (h hH.sc)) B w G a hH hF hd
theorem zAe (h:HSc H→zdI t2 t3 t5 t6 t20 t21 H K):zlu t2 t3 t5 t6 t20 t21 H K:=
 λB w G a hH hF hd=>zfP (M:=zeo) _ _ _ _ (Eq.mpr (by kernel_rfl) (h hH.sc)) B w G a hH hF hd
theorem zMs (h:HSc H→zrT t2 t3 t5 t6 t20 H K):zAd t2 t3 t5 t6 t20 H K:=
 λB w G a hH hF hd=>zfP (M:=zeo) _ _ _ _ (Eq.mpr (by kernel_rfl) (h hH.sc)) B w G a hH hF hd
theorem zMp (h:HSc H→zrS t2 t3 H K):zrR t2 t3 H K:=
 λB w G a hH hF hd=>zfP (M:=zeo) _ _ _ _ (Eq.mpr (by kernel_rfl) (h hH.sc)) B w G a hH hF hd
theorem zMx (h:HSc H→zAc t0 t1 H K):ACalls tP ziV [t0,t1] H K:=
 acb zeo Tryz.func166 zep (by kernel_rfl) (by kernel_rfl) h
theorem zOA (h:HSc H→zAT t0 t1 H K):ACalls tP zi6 [t0,t1] H K:=
 acb zOy Tryz.func210 zOz (by kernel_rfl) (by kernel_rfl) h
theorem zOx (h:HSc H→zAS t0 t1 H K):ACalls tP zfe [t0,t1] H K:=
 acb zOv Tryz.func202 zOw (by kernel_rfl) (by kernel_rfl) h
theorem zPt (Inv:Nat→AV→zaa→Prop) (n:Nat) (h0:HSc H→Inv n t8 H)
  (ac:Rd1 (λt8=>zml t0 t1 t7 t8) (λt8=>λH Kb2=>zsM t0 t1 t7 t8 H K Kb2) H Inv):zA8 t0 t1 t7 t8 H K:=
 lp1 (M:=zmk) zPu t8 (by kernel_rfl) Inv n h0 ac
theorem zPv (h:HSc H→zA7 t0 t1 H K):ACalls tP zpg [t0,t1] H K:=
 acb zmk Tryz.func229 zsN (by kernel_rfl) (by kernel_rfl) h
end
section
variable (t0 t1 t2 t3 t4 t5 t7 t8 t9 t14 t29 t30 t31 t35 t36 t37 t59 t60 t61 t77 t78 t79 t93 t94 t95:AV) (H:zaa) (K:Kt) (Kb3 Kb5 Kb8 Kb13 Kb20:Lt)
def zdX:Nat→List Bool | 8=>rl false [2,1,1,1,3,2,49,3,46] | 13=>rl false [2,1,1,1,3,2,67,3,28] | 20=>rl false [4,1,9,1,78,3,12] | _=>[]
noncomputable def zfz:Code:=Tryz.f167.body.getD .skip
noncomputable def zrY:List ResultVar:=Tryz.f167.results.toList
def zlz:List AV:=ux 2 (t2::ux 1 (t4::ux 3 (t8::t9::ux 49 (t59::t60::t61::ux 46 []))))
def zMJ:List Bool:=zdX 8
noncomputable def zMD:Code:=zaq [1,1,1,1,1,0,1,0,0] zfz
def zMA:AExit→List AV→zaa→Prop:=zas tP zdX [1,1,1,1,1,0,1,0] zfz (zay tP zrY K)
def zAi:Prop:=ALoop tP zMD (zMA K) (zlz t2 t4 t8 t9 t59 t60 t61) H
def zlx:List AV:=ux 2 (t2::ux 1 (t4::ux 3 (t8::t9::ux 67 (t77::t78::t79::ux 28 []))))
def zMH:List Bool:=zdX 13
noncomputable def zMB:Code:=zaq [1,1,1,1,1,1,0,1,0,0] zfz
def zMy:AExit→List AV→zaa→Prop:=zas tP zdX [1,1,1,1,1,1,0,1,0] zfz (zay tP zrY K)
def zAh:Prop:=ALoop tP zMB (zMy K) (zlx t2 t4 t8 t9 t77 t78 t79) H
def zly:List AV:=ux 4 (t4::ux 9 (t14::ux 78 (t93::t94::t95::ux 12 [])))
def zMI:List Bool:=zdX 20
noncomputable def zMC:Code:=zaq [1,1,1,1,1,1,1,1,0,1,0,0] zfz
def zMz:AExit→List AV→zaa→Prop:=zas tP zdX [1,1,1,1,1,1,1,1,0,1,0] zfz (zay tP zrY K)
def zlA:Prop:=ALoop tP zMC (zMz K) (zly t4 t14 t93 t94 t95) H
def zrW:Prop:=zac .lss false t95 t94 λt96=>zag t96 (zai 3 t93 t95 λt97=>zae true 3 t97 H λt98=>zax [(.int .i64 0),(.int .i64 0),.snil] H λt16 H=>zan 3 t16 t98 H λH=>zae true 3 t16 H λt100=>zaf 2 t4 λt101=>zae false 1 t101 H λt102=>ACalls tP zhh [t100,t102] H λt103 H=>zau 3 [(.int .i64 0),(.int .i64 0),.snil] 1 [(0,t103)] λt104=>zaw zaZ 3 40 t14 t104 H λt105 H=>zac .add false t95 (.int .i64 1) λt106=>Kb20 (zly t4 t105 t93 t94 t106) H) (zaD [t14,(.bool true)] (K · H))
def zrV:Prop:=zac .lss false t79 t78 λt80=>zag t80 (zai 3 t77 t79 λt81=>zae true 3 t81 H λt82=>zax [(.int .i64 0),(.int .i64 0),.snil] H λt13 H=>zan 3 t13 t82 H λH=>zae true 3 t13 H λt83=>ACalls tP zi8 [t83,t9] H λt85 H=>zac .gtr false t85 (.int .i64 200) λt86=>zag t86 (zaD [.snil,(.bool false)] (K · H)) (zac .add false t79 (.int .i64 1) λt87=>Kb13 (zlx t2 t4 t8 t9 t77 t78 t87) H)) (zaf 2 t8 λt88=>zae false 1 t88 H λt89=>zai 2 t89 t2 λt91=>zaf 1 t91 λt92=>zae false 1 t92 H λt93=>zah 1 t93 λt94=>zlA t4 .snil t93 t94 (.int .i64 0) H K)
def zrX:Prop:=zac .lss false t61 t60 λt62=>zag t62 (zai 3 t59 t61 λt64=>zae true 3 t64 H λt65=>zax [(.int .i64 0),(.int .i64 0),.snil] H λt11 H=>zan 3 t11 t65 H λH=>zae true 3 t11 H λt68=>ACalls tP zi7 [t68] H λt69 H=>zai 1 t9 t61 λt70=>zan 1 t70 t69 H λH=>zac .add false t61 (.int .i64 1) λt71=>Kb8 (zlz t2 t4 t8 t9 t59 t60 t71) H) (zaf 2 t8 λt72=>zae false 1 t72 H λt73=>zai 2 t73 t2 λt75=>zaf 1 t75 λt76=>zae false 1 t76 H λt77=>zah 1 t77 λt78=>zAh t2 t4 t8 t9 t77 t78 (.int .i64 0) H K)
def zAg:Prop:=zav t1 H λt4 H=>zaf 0 t4 λt17=>zae false 1 t17 H λt18=>zac .neq false t18 (.int .i64 5) λt19=>zad t19 false H (λK'=>zaf 1 t4 (K' · H)) λt21 H=>zad t19 false H (λK'=>zae false 1 t21 H (K' · H)) λt22 H=>zad t19 false H (λK'=>zac .lss false t22 (.int .i64 0) (K' · H)) λt23 H=>zaj t19 (.bool true) t23 λt24=>zad t24 false H (λK'=>zaf 1 t4 (K' · H)) λt26 H=>zad t24 false H (λK'=>zae false 1 t26 H (K' · H)) λt27 H=>zad t24 false H (λK'=>K' t0 H) λt28 H=>zad t24 false H (λK'=>zah 1 t28 (K' · H)) λt29 H=>zad t24 false H (λK'=>zac .geq false t27 t29 (K' · H)) λt30 H=>zaj t24 (.bool true) t30 λt31=>zag t31 (zaD [.snil,(.bool false)] (K · H)) (zaf 1 t4 λt33=>zae false 1 t33 H λt34=>zai 3 t0 t34 λt35=>zae true 3 t35 H λt36=>zax [(.str []),(.int .i64 0),.snil] H λt8 H=>zan 3 t8 t36 H λH=>zaf 2 t4 λt37=>zae false 1 t37 H λt38=>zah 1 t38 λt39=>zaf 1 t8 λt40=>zae false 1 t40 H λt41=>zac .neq false t39 t41 λt42=>zad t42 false H (λK'=>K' t2 H) λt44 H=>zad t42 false H (λK'=>zac .lss false t44 (.int .i64 0) (K' · H)) λt45 H=>zaj t42 (.bool true) t45 λt46=>zad t46 false H (λK'=>K' t2 H) λt48 H=>zad t46 false H (λK'=>zaf 2 t8 (K' · H)) λt49 H=>zad t46 false H (λK'=>zae false 1 t49 H (K' · H)) λt50 H=>zad t46 false H (λK'=>zah 1 t50 (K' · H)) λt51 H=>zad t46 false H (λK'=>zac .geq false t48 t51 (K' · H)) λt52 H=>zaj t46 (.bool true) t52 λt53=>zag t53 (zaD [.snil,(.bool false)] (K · H)) (zaf 2 t4 λt54=>zae false 1 t54 H λt55=>zah 1 t55 λt56=>zbp 8 [(.int .i64 0)] t56 t56 H λt57 H=>zaf 2 t4 λt58=>zae false 1 t58 H λt59=>zah 1 t59 λt60=>zAi t2 t4 t8 t57 t59 t60 (.int .i64 0) H K))
def zl6:Nat→List Bool | 3=>rl false [3,1,3,3,9] | _=>[]
noncomputable def zst:Code:=Tryz.f211.body.getD .skip
noncomputable def zOG:List ResultVar:=Tryz.f211.results.toList
def zl7:List AV:=ux 3 (t3::ux 3 (t7::t8::t9::ux 9 []))
def zOE:List Bool:=zl6 3
noncomputable def zOC:Code:=zaq [1,1,0,1,0,0] zst
def zOB:AExit→List AV→zaa→Prop:=zas tP zl6 [1,1,0,1,0] zst (zay tP zOG K)
def zAV:Prop:=ALoop tP zOC (zOB K) (zl7 t3 t7 t8 t9) H
def zss:Prop:=zac .lss false t9 t8 λt10=>zag t10 (zai 3 t7 t9 λt11=>zae true 3 t11 H λt12=>zax [(.int .i64 0),(.int .i64 0),.snil] H λt5 H=>zan 3 t5 t12 H λH=>zae true 3 t5 H λt14=>ACalls tP zi7 [t14] H λt15 H=>zac .add false t3 t15 λt16=>zac .add false t9 (.int .i64 1) λt17=>Kb3 (zl7 t16 t7 t8 t17) H) (K t3 H)
def zAU:Prop:=zav t0 H λt1 H=>zaf 2 t1 λt6=>zae false 1 t6 H λt7=>zah 1 t7 λt8=>zAV (.int .i64 1) t7 t8 (.int .i64 0) H K
def zl8:Nat→List Bool | 5=>rl false [1,1,3,1,23,3,12] | _=>[]
noncomputable def zsw:Code:=Tryz.f212.body.getD .skip
noncomputable def zON:List ResultVar:=Tryz.f212.results.toList
def zl9:List AV:=ux 1 (t1::ux 3 (t5::ux 23 (t29::t30::t31::ux 12 [])))
def zOL:List Bool:=zl8 5
noncomputable def zOJ:Code:=zaq [1,1,1,0,1,0,0] zsw
def zOI:AExit→List AV→zaa→Prop:=zas tP zl8 [1,1,1,0,1,0] zsw (zay tP zON K)
def zsy:Prop:=ALoop tP zOJ (zOI K) (zl9 t1 t5 t29 t30 t31) H
def zsx:Prop:=K t5 H
def zma:Prop:=zsx t5 H K
def zsv:Prop:=zac .lss false t31 t30 λt32=>zag t32 (zai 3 t29 t31 λt33=>zae true 3 t33 H λt34=>zax [(.int .i64 0),(.int .i64 0),.snil] H λt7 H=>zan 3 t7 t34 H λH=>zae true 3 t7 H λt36=>ACalls tP zi8 [t36,t1] H λt38 H=>zac .add false t5 t38 λt39=>zac .gtr false t39 (.int .i64 200) λt41=>zag t41 (zma t39 H K) (zac .add false t31 (.int .i64 1) λt42=>Kb5 (zl9 t1 t39 t29 t30 t42) H)) (zma t5 H K)
def zsu:Prop:=zav t0 H λt2 H=>zaf 0 t2 λt8=>zae false 1 t8 H λt9=>zac .eql false t9 (.int .i64 4) λt10=>zad t10 true H (λK'=>zaf 1 t2 (K' · H)) λt12 H=>zad t10 true H (λK'=>zae false 1 t12 H (K' · H)) λt13 H=>zad t10 true H (λK'=>zac .geq false t13 (.int .i64 0) (K' · H)) λt14 H=>zaj t10 t14 (.bool false) λt15=>zad t15 true H (λK'=>zaf 1 t2 (K' · H)) λt17 H=>zad t15 true H (λK'=>zae false 1 t17 H (K' · H)) λt18 H=>zad t15 true H (λK'=>K' t1 H) λt19 H=>zad t15 true H (λK'=>zah 1 t19 (K' · H)) λt20 H=>zad t15 true H (λK'=>zac .lss false t18 t20 (K' · H)) λt21 H=>zaj t15 t21 (.bool false) λt22=>zag t22 (zaf 1 t2 λt24=>zae false 1 t24 H λt25=>zai 1 t1 t25 λt26=>zae false 1 t26 H λt27=>K t27 H) (zaf 2 t2 λt28=>zae false 1 t28 H λt29=>zah 1 t29 λt30=>zsy t1 (.int .i64 1) t29 t30 (.int .i64 0) H K)
def zmb:Nat→List Bool | 5=>rl false [1,1,2,2,29,3,13] | _=>[]
noncomputable def zsB:Code:=Tryz.f213.body.getD .skip
noncomputable def zOU:List ResultVar:=Tryz.f213.results.toList
def zmc:List AV:=ux 1 (t1::ux 2 (t4::t5::ux 29 (t35::t36::t37::ux 13 [])))
def zOS:List Bool:=zmb 5
noncomputable def zOQ:Code:=zaq [1,1,1,0,1,0,0] zsB
def zOP:AExit→List AV→zaa→Prop:=zas tP zmb [1,1,1,0,1,0] zsB (zay tP zOU K)
def zh6:Prop:=ALoop tP zOQ (zOP K) (zmc t1 t4 t5 t35 t36 t37) H
def zsA:Prop:=zac .lss false t37 t36 λt38=>zag t38 (zai 3 t35 t37 λt39=>zae true 3 t39 H λt40=>zax [(.int .i64 0),(.int .i64 0),.snil] H λt7 H=>zan 3 t7 t40 H λH=>zab H (λK'=>zaf 2 t5 (K' · H)) λt41=>zab H (λK'=>zak false 1 t41 H (K' · H)) λt42=>zab H (λK'=>zak true 3 t7 H (K' · H)) λt43=>zab H (λK'=>K' t1 H) λt44=>zaE H (λH K'=>ACalls tP zhh [t43,t44] H K') λt45=>zab H (λK'=>zau 3 [(.int .i64 0),(.int .i64 0),.snil] 1 [(0,t45)] (K' · H)) λt46=>zaw zaZ 3 40 t42 t46 H λt47 H=>zab H (λK'=>zaf 2 t5 (K' · H)) λt48=>zan 1 t48 t47 H λH=>zac .add false t37 (.int .i64 1) λt49=>Kb5 (zmc t1 t4 t5 t35 t36 t49) H) (zae true 3 t5 H λt50=>zan 3 t4 t50 H λH=>zae true 3 t4 H λr0=>K r0 H)
def zsz:Prop:=zav t0 H λt2 H=>zax [(.int .i64 0),(.int .i64 0),.snil] H λt4 H=>zaf 0 t2 λt8=>zae false 1 t8 H λt9=>zac .eql false t9 (.int .i64 4) λt10=>zad t10 true H (λK'=>zaf 1 t2 (K' · H)) λt12 H=>zad t10 true H (λK'=>zae false 1 t12 H (K' · H)) λt13 H=>zad t10 true H (λK'=>zac .geq false t13 (.int .i64 0) (K' · H)) λt14 H=>zaj t10 t14 (.bool false) λt15=>zad t15 true H (λK'=>zaf 1 t2 (K' · H)) λt17 H=>zad t15 true H (λK'=>zae false 1 t17 H (K' · H)) λt18 H=>zad t15 true H (λK'=>K' t1 H) λt19 H=>zad t15 true H (λK'=>zah 1 t19 (K' · H)) λt20 H=>zad t15 true H (λK'=>zac .lss false t18 t20 (K' · H)) λt21 H=>zaj t15 t21 (.bool false) λt22=>zag t22 (zaf 1 t2 λt24=>zae false 1 t24 H λt25=>zai 3 t1 t25 λt26=>zae true 3 t26 H λt27=>ACalls tP zhh [t27,.snil] H λt28 H=>zan 3 t4 t28 H λH=>zae true 3 t4 H λr0=>K r0 H) (zaf 0 t2 λt29=>zae false 1 t29 H λt30=>zaf 1 t2 λt31=>zae false 1 t31 H λt32=>zar [(.int .i64 0),(.int .i64 0),.snil] [(0,1),(1,1),(2,1)] [(0,t30),(1,t32)] λt33=>zax [(.int .i64 0),(.int .i64 0),.snil] H λt5 H=>zan 3 t5 t33 H λH=>zaf 2 t2 λt34=>zae false 1 t34 H λt35=>zah 1 t35 λt36=>zh6 t1 t4 t5 t35 t36 (.int .i64 0) H K)
def zRE (_:Nat):List Bool:=[]
noncomputable def zRF:Code:=Tryz.f49.body.getD .skip
def zBT:Prop:=zav t1 H λt4 H=>zae true 3 t4 H λt7=>ACalls tP zhs [t7] H λt8 H=>zac .leq false t8 (.int .i64 200) λt9=>zad t9 true H (λK'=>K' t0 H) λt11 H=>zad t9 true H (λK'=>zae true 3 t4 H (K' · H)) λt12 H=>zad t9 true H (λK'=>K' t2 H) λt13 H=>zad t9 true H (λK'=>ACalls tP zju [t11,t12,t13] H K') λt14 H=>zaj t9 t14 (.bool false) λt15=>K t15 H
def znv:Nat→List Bool | 3=>rl false [1,1,1,2,16] | _=>[]
noncomputable def zt3:Code:=Tryz.f95.body.getD .skip
noncomputable def zUg:List ResultVar:=Tryz.f95.results.toList
def znw:List AV:=ux 1 (t1::ux 1 (t3::t4::ux 16 []))
def zUe:List Bool:=znv 3
noncomputable def zUc:Code:=zaq [1,1,0,1,0,0] zt3
def zUb:AExit→List AV→zaa→Prop:=zas tP znv [1,1,0,1,0] zt3 (zay tP zUg K)
def zCN:Prop:=ALoop tP zUc (zUb K) (znw t1 t3 t4) H
def zt2:Prop:=zaf 2 t1 λt6=>zae false 1 t6 H λt7=>zah 1 t7 λt8=>zac .lss false t4 t8 λt9=>zag t9 (zaf 2 t1 λt13=>zae false 1 t13 H λt14=>zai 3 t14 t4 λt16=>zae true 3 t16 H λt17=>ACalls tP zhs [t17] H λt18 H=>zac .add false t3 t18 λt19=>zac .add false t4 (.int .i64 1) λt11=>Kb3 (znw t1 t19 t11) H) (K t3 H)
def zCM:Prop:=zav t0 H λt1 H=>zCN t1 (.int .i64 1) (.int .i64 0) H K
variable {t0 t1 t2 t3 t4 t5 t7 t8 t9 t14 t29 t30 t31 t35 t36 t37 t59 t60 t61 t77 t78 t79 t93 t94 t95} {H} {K} {Kb3 Kb5 Kb8 Kb13 Kb20}
theorem zMF (Inv:Nat→AV→AV→zaa→Prop) (n:Nat) (h0:HSc H→Inv n t14 t95 H)
  (ac:Rd2 (λt14=>λt95=>zly t4 t14 t93 t94 t95) (λt14=>λt95=>λH Kb20=>zrW t4 t14 t93 t94 t95 H K Kb20) H Inv):zlA t4 t14 t93 t94 t95 H K:=
 lp2 (M:=zdX) zMI t14 t95 (by kernel_rfl) Inv n h0 ac
theorem zME (Inv:Nat→AV→zaa→Prop) (n:Nat) (h0:HSc H→Inv n t79 H)
  (ac:Rd1 (λt79=>zlx t2 t4 t8 t9 t77 t78 t79) (λt79=>λH Kb13=>zrV t2 t4 t8 t9 t77 t78 t79 H K Kb13) H Inv):zAh t2 t4 t8 t9 t77 t78 t79 H K:=
 lp1 (M:=zdX) zMH t79 (by kernel_rfl) Inv n h0 ac
theorem zMG (Inv:Nat→AV→zaa→Prop) (n:Nat) (h0:HSc H→Inv n t61 H)
  (ac:Rd1 (λt61=>zlz t2 t4 t8 t9 t59 t60 t61) (λt61=>λH Kb8=>zrX t2 t4 t8 t9 t59 t60 t61 H K Kb8) H Inv):zAi t2 t4 t8 t9 t59 t60 t61 H K:=
 lp1 (M:=zdX) zMJ t61 (by kernel_rfl) Inv n h0 ac
theorem zMK (h:HSc H→zAg t0 t1 t2 H K):ACalls tP ziW [t0,t1,t2] H K:=
 acb zdX Tryz.func167 zfz (by kernel_rfl) (by kernel_rfl) h
theorem zOD (Inv:Nat→AV→AV→zaa→Prop) (n:Nat) (h0:HSc H→Inv n t3 t9 H)
  (ac:Rd2 (λt3=>λt9=>zl7 t3 t7 t8 t9) (λt3=>λt9=>λH Kb3=>zss t3 t7 t8 t9 H K Kb3) H Inv):zAV t3 t7 t8 t9 H K:=
 lp2 (M:=zl6) zOE t3 t9 (by kernel_rfl) Inv n h0 ac
theorem zOF (h:HSc H→zAU t0 H K):ACalls tP zi7 [t0] H K:=
 acb zl6 Tryz.func211 zst (by kernel_rfl) (by kernel_rfl) h
theorem zOK (Inv:Nat→AV→AV→zaa→Prop) (n:Nat) (h0:HSc H→Inv n t5 t31 H)
  (ac:Rd2 (λt5=>λt31=>zl9 t1 t5 t29 t30 t31) (λt5=>λt31=>λH Kb5=>zsv t1 t5 t29 t30 t31 H K Kb5) H Inv):zsy t1 t5 t29 t30 t31 H K:=
 lp2 (M:=zl8) zOL t5 t31 (by kernel_rfl) Inv n h0 ac
theorem zOM (h:HSc H→zsu t0 t1 H K):ACalls tP zi8 [t0,t1] H K:=
 acb zl8 Tryz.func212 zsw (by kernel_rfl) (by kernel_rfl) h
theorem zOR (Inv:Nat→AV→zaa→Prop) (n:Nat) (h0:HSc H→Inv n t37 H)
  (ac:Rd1 (λt37=>zmc t1 t4 t5 t35 t36 t37) (λt37=>λH Kb5=>zsA t1 t4 t5 t35 t36 t37 H K Kb5) H Inv):zh6 t1 t4 t5 t35 t36 t37 H K:=
 lp1 (M:=zmb) zOS t37 (by kernel_rfl) Inv n h0 ac
theorem zOT (h:HSc H→zsz t0 t1 H K):ACalls tP zhh [t0,t1] H K:=
 acb zmb Tryz.func213 zsB (by kernel_rfl) (by kernel_rfl) h
theorem zRG (h:HSc H→zBT t0 t1 t2 H K):ACalls tP zjh [t0,t1,t2] H K:=
 acb zRE Tryz.func49 zRF (by kernel_rfl) (by kernel_rfl) h
theorem zUd (Inv:Nat→AV→AV→zaa→Prop) (n:Nat) (h0:HSc H→Inv n t3 t4 H)
  (ac:Rd2 (λt3=>λt4=>znw t1 t3 t4) (λt3=>λt4=>λH Kb3=>zt2 t1 t3 t4 H K Kb3) H Inv):zCN t1 t3 t4 H K:=
 lp2 (M:=znv) zUe t3 t4 (by kernel_rfl) Inv n h0 ac
theorem zUf (h:HSc H→zCM t0 H K):ACalls tP zhs [t0] H K:=
 acb znv Tryz.func95 zt3 (by kernel_rfl) (by kernel_rfl) h
end
section
variable (t0 t1 t2 t3 t4 t5 t6 t7 t8 t13 t14 t63 t64 t65 t75:AV) (H:zaa) (K:Kt) (Kb3 Kb5 Kb24:Lt)
def znx:Nat→List Bool | 24=>rl false [0,1,1,1,1,1,2,2,103] | _=>[]
noncomputable def zt5:Code:=Tryz.f96.body.getD .skip
noncomputable def zUm:List ResultVar:=Tryz.f96.results.toList
def zny:List AV:=t0::ux 1 (t2::ux 1 (t4::ux 2 (t7::t8::ux 103 [])))
def zUk:List Bool:=znx 24
noncomputable def zUi:Code:=zaq [1,1,1,0,1,0,0] zt5
def zUh:AExit→List AV→zaa→Prop:=zas tP znx [1,1,1,0,1,0] zt5 (zay tP zUm K)
def zt6:Prop:=ALoop tP zUi (zUh K) (zny t0 t2 t4 t7 t8) H
def zt4:Prop:=zac .lss false t8 t7 λt100=>zag t100 (zaf 2 t4 λt104=>zae false 1 t104 H λt105=>zai 3 t105 t8 λt107=>zae true 3 t107 H λt108=>ACalls tP zju [t0,t108,t2] H λt110 H=>aUn .not t110 λt111=>zag t111 (K (.bool false) H) (zac .add false t8 (.int .i64 1) λt102=>Kb24 (zny t0 t2 t4 t7 t102) H)) (K (.bool true) H)
def zik:Prop:=zt6 t0 t2 t4 t7 (.int .i64 0) H K
def zeT:Prop:=zik t0 t2 t4 t7 H K
def zd3:Prop:=zag t75 (zaf 1 t4 λt78=>zae false 1 t78 H λt79=>zac .neq false t79 (.int .i64 0) λt80=>zad t80 false H (λK'=>K' t7 H) λt82 H=>zad t80 false H (λK'=>zac .neq false t82 (.int .i64 1) (K' · H)) λt83 H=>zaj t80 (.bool true) t83 λt84=>zag t84 (K (.bool false) H) (zeT t0 t2 t4 t7 H K)) (zac .eql false t13 (.int .i64 9) λt86=>zag t86 (zaf 1 t4 λt87=>zae false 1 t87 H λt88=>zac .neq false t88 (.int .i64 0) λt89=>zad t89 false H (λK'=>K' t7 H) λt91 H=>zad t89 false H (λK'=>zac .lss false t91 (.int .i64 1) (K' · H)) λt92 H=>zaj t89 (.bool true) t92 λt93=>zad t93 false H (λK'=>K' t7 H) λt95 H=>zad t93 false H (λK'=>zac .gtr false t95 (.int .i64 7) (K' · H)) λt96 H=>zaj t93 (.bool true) t96 λt97=>zag t97 (K (.bool false) H) (zeT t0 t2 t4 t7 H K)) (K (.bool false) H))
def zbU:Prop:=zag t14 (zaf 1 t4 λt18=>zae false 1 t18 H λt19=>zac .eql false t19 (.int .i64 0) λt20=>zad t20 true H (λK'=>K' t7 H) λt22 H=>zad t20 true H (λK'=>zac .eql false t22 (.int .i64 0) (K' · H)) λt23 H=>zaj t20 t23 (.bool false) λt24=>K t24 H) (zac .eql false t13 (.int .i64 4) λt26=>zag t26 (zaf 1 t4 λt27=>zae false 1 t27 H λt28=>zac .geq false t28 (.int .i64 0) λt29=>zad t29 true H (λK'=>zaf 1 t4 (K' · H)) λt31 H=>zad t29 true H (λK'=>zae false 1 t31 H (K' · H)) λt32 H=>zad t29 true H (λK'=>K' t2 H) λt33 H=>zad t29 true H (λK'=>zac .lss false t32 t33 (K' · H)) λt34 H=>zaj t29 t34 (.bool false) λt35=>zad t35 true H (λK'=>K' t7 H) λt37 H=>zad t35 true H (λK'=>zac .eql false t37 (.int .i64 0) (K' · H)) λt38 H=>zaj t35 t38 (.bool false) λt39=>K t39 H) (zac .eql false t13 (.int .i64 5) λt41=>zag t41 (zaf 1 t4 λt42=>zae false 1 t42 H λt43=>zac .lss false t43 (.int .i64 0) λt44=>zad t44 false H (λK'=>zaf 1 t4 (K' · H)) λt46 H=>zad t44 false H (λK'=>zae false 1 t46 H (K' · H)) λt47 H=>zad t44 false H (λK'=>K' t0 H) λt48 H=>zad t44 false H (λK'=>zah 1 t48 (K' · H)) λt49 H=>zad t44 false H (λK'=>zac .geq false t47 t49 (K' · H)) λt50 H=>zaj t44 (.bool true) t50 λt51=>zad t51 false H (λK'=>K' t7 H) λt53 H=>zad t51 false H (λK'=>K' t0 H) λt54 H=>zad t51 false H (λK'=>zaf 1 t4 (K' · H)) λt55 H=>zad t51 false H (λK'=>zae false 1 t55 H (K' · H)) λt56 H=>zad t51 false H (λK'=>zai 3 t54 t56 (K' · H)) λt57 H=>zad t51 false H (λK'=>zaf 1 t57 (K' · H)) λt58 H=>zad t51 false H (λK'=>zae false 1 t58 H (K' · H)) λt59 H=>zad t51 false H (λK'=>zac .neq false t53 t59 (K' · H)) λt60 H=>zaj t51 (.bool true) t60 λt61=>zag t61 (K (.bool false) H) (zeT t0 t2 t4 t7 H K)) (zac .eql false t13 (.int .i64 6) λt63=>zag t63 (zaf 1 t4 λt64=>zae false 1 t64 H λt65=>zac .neq false t65 (.int .i64 0) λt66=>zad t66 false H (λK'=>K' t7 H) λt68 H=>zad t66 false H (λK'=>zac .lss false t68 (.int .i64 2) (K' · H)) λt69 H=>zaj t66 (.bool true) t69 λt70=>zad t70 false H (λK'=>K' t7 H) λt72 H=>zad t70 false H (λK'=>zac .gtr false t72 (.int .i64 6) (K' · H)) λt73 H=>zaj t70 (.bool true) t73 λt74=>zag t74 (K (.bool false) H) (zeT t0 t2 t4 t7 H K)) (zac .eql false t13 (.int .i64 7) λt76=>zag t76 (zd3 t0 t2 t4 t7 t13 t76 H K) (zac .eql false t13 (.int .i64 8) λt77=>zd3 t0 t2 t4 t7 t13 t77 H K)))))
def zcB:Prop:=zav t1 H λt4 H=>zaf 2 t4 λt9=>zae false 1 t9 H λt10=>zah 1 t10 λt11=>zaf 0 t4 λt12=>zae false 1 t12 H λt13=>zac .eql false t13 (.int .i64 1) λt15=>zag t15 (zbU t0 t2 t4 t11 t13 t15 H K) (zac .eql false t13 (.int .i64 2) λt16=>zag t16 (zbU t0 t2 t4 t11 t13 t16 H K) (zac .eql false t13 (.int .i64 3) λt17=>zbU t0 t2 t4 t11 t13 t17 H K))
def znB:Nat→List Bool | 5=>rl false [4,1,3,1,54,3,16] | _=>[]
noncomputable def zub:Code:=Tryz.f98.body.getD .skip
noncomputable def zUz:List ResultVar:=Tryz.f98.results.toList
def znC:List AV:=ux 4 (t4::ux 3 (t8::ux 54 (t63::t64::t65::ux 16 [])))
def zUx:List Bool:=znB 5
noncomputable def zUv:Code:=zaq [1,1,1,0,1,0,0] zub
def zUu:AExit→List AV→zaa→Prop:=zas tP znB [1,1,1,0,1,0] zub (zay tP zUz K)
def znD:Prop:=ALoop tP zUv (zUu K) (znC t4 t8 t63 t64 t65) H
def zua:Prop:=zac .lss false t65 t64 λt66=>zag t66 (zai 3 t63 t65 λt67=>zae true 3 t67 H λt68=>zax [(.int .i64 0),(.int .i64 0),.snil] H λt10 H=>zan 3 t10 t68 H λH=>zae true 3 t10 H λt69=>zaf 2 t4 λt70=>zae false 1 t70 H λt71=>ACalls tP ziS [t69,t71] H λt72 H=>zax [(.int .i64 0),(.int .i64 0),.snil] H λt11 H=>zan 3 t11 t72 H λH=>zae true 3 t11 H λt73=>ACalls tP zhs [t73] H λt74 H=>zac .gtr false t74 (.int .i64 200) λt75=>zag t75 (zaD [.snil,(.bool false)] (K · H)) (zae true 3 t11 H λt77=>zau 3 [(.int .i64 0),(.int .i64 0),.snil] 1 [(0,t77)] λt78=>zaw zaZ 3 40 t8 t78 H λt79 H=>zac .add false t65 (.int .i64 1) λt80=>Kb5 (znC t4 t79 t63 t64 t80) H)) (zaD [t8,(.bool true)] (K · H))
def zCR:Prop:=zav t1 H λt4 H=>zab H (λK'=>zaf 0 t4 (K' · H)) λt12=>zab H (λK'=>zak false 1 t12 H (K' · H)) λt13=>zab H (λK'=>zac .neq false t13 (.int .i64 5) (K' · H)) λt14=>zab H (λK'=>K' t14 H) λt15=>zad t15 false H (λK'=>zab H (λK''=>zaf 1 t4 (K'' · H)) (K' · H)) λt16 H=>zad t15 false H (λK'=>zab H (λK''=>zak false 1 t16 H (K'' · H)) (K' · H)) λt17 H=>zad t15 false H (λK'=>zab H (λK''=>zac .lss false t17 (.int .i64 0) (K'' · H)) (K' · H)) λt18 H=>zab H (λK'=>zaj t15 (.bool true) t18 (K' · H)) λt19=>zab H (λK'=>K' t19 H) λt20=>zad t20 false H (λK'=>zab H (λK''=>zaf 1 t4 (K'' · H)) (K' · H)) λt21 H=>zad t20 false H (λK'=>zab H (λK''=>zak false 1 t21 H (K'' · H)) (K' · H)) λt22 H=>zad t20 false H (λK'=>zab H (λK''=>K'' t0 H) (K' · H)) λt23 H=>zad t20 false H (λK'=>zab H (λK''=>zah 1 t23 (K'' · H)) (K' · H)) λt24 H=>zad t20 false H (λK'=>zab H (λK''=>zac .geq false t22 t24 (K'' · H)) (K' · H)) λt25 H=>zab H (λK'=>zaj t20 (.bool true) t25 (K' · H)) λt26=>zab H (λK'=>K' t26 H) λt27=>zad t27 false H (λK'=>zab H (λK''=>zaf 2 t4 (K'' · H)) (K' · H)) λt28 H=>zad t27 false H (λK'=>zab H (λK''=>zak false 1 t28 H (K'' · H)) (K' · H)) λt29 H=>zad t27 false H (λK'=>zab H (λK''=>zah 1 t29 (K'' · H)) (K' · H)) λt30 H=>zad t27 false H (λK'=>zab H (λK''=>K'' t0 H) (K' · H)) λt31 H=>zad t27 false H (λK'=>zab H (λK''=>zaf 1 t4 (K'' · H)) (K' · H)) λt32 H=>zad t27 false H (λK'=>zab H (λK''=>zak false 1 t32 H (K'' · H)) (K' · H)) λt33 H=>zad t27 false H (λK'=>zab H (λK''=>zai 3 t31 t33 (K'' · H)) (K' · H)) λt34 H=>zad t27 false H (λK'=>zab H (λK''=>zaf 1 t34 (K'' · H)) (K' · H)) λt35 H=>zad t27 false H (λK'=>zab H (λK''=>zak false 1 t35 H (K'' · H)) (K' · H)) λt36 H=>zad t27 false H (λK'=>zab H (λK''=>zac .neq false t30 t36 (K'' · H)) (K' · H)) λt37 H=>zab H (λK'=>zaj t27 (.bool true) t37 (K' · H)) λt38=>zab H (λK'=>K' t38 H) λt39=>zad t39 false H (λK'=>zab H (λK''=>K'' t2 H) (K' · H)) λt40 H=>zad t39 false H (λK'=>zab H (λK''=>zac .lss false t40 (.int .i64 0) (K'' · H)) (K' · H)) λt41 H=>zab H (λK'=>zaj t39 (.bool true) t41 (K' · H)) λt42=>zab H (λK'=>K' t42 H) λt43=>zad t43 false H (λK'=>zab H (λK''=>K'' t2 H) (K' · H)) λt44 H=>zad t43 false H (λK'=>zab H (λK''=>K'' t0 H) (K' · H)) λt45 H=>zad t43 false H (λK'=>zab H (λK''=>zaf 1 t4 (K'' · H)) (K' · H)) λt46 H=>zad t43 false H (λK'=>zab H (λK''=>zak false 1 t46 H (K'' · H)) (K' · H)) λt47 H=>zad t43 false H (λK'=>zab H (λK''=>zai 3 t45 t47 (K'' · H)) (K' · H)) λt48 H=>zad t43 false H (λK'=>zab H (λK''=>zaf 2 t48 (K'' · H)) (K' · H)) λt49 H=>zad t43 false H (λK'=>zab H (λK''=>zak false 1 t49 H (K'' · H)) (K' · H)) λt50 H=>zad t43 false H (λK'=>zab H (λK''=>zah 1 t50 (K'' · H)) (K' · H)) λt51 H=>zad t43 false H (λK'=>zab H (λK''=>zac .geq false t44 t51 (K'' · H)) (K' · H)) λt52 H=>zab H (λK'=>zaj t43 (.bool true) t52 (K' · H)) λt53=>zag t53 (zaD [.snil,(.bool false)] (K · H)) (zaf 1 t4 λt55=>zae false 1 t55 H λt56=>zai 3 t0 t56 λt57=>zaf 2 t57 λt58=>zae false 1 t58 H λt59=>zai 2 t59 t2 λt61=>zaf 1 t61 λt62=>zae false 1 t62 H λt63=>zah 1 t63 λt64=>znD t4 .snil t63 t64 (.int .i64 0) H K)
def zk6:Nat→List Bool | 5=>rl false [1,2,1,3,46] | _=>[]
noncomputable def zrs:Code:=Tryz.f146.body.getD .skip
noncomputable def zKX:List ResultVar:=Tryz.f146.results.toList
def zk7:List AV:=ux 1 (t1::t2::ux 1 (t4::t5::t6::ux 46 []))
def zKV:List Bool:=zk6 5
noncomputable def zKT:Code:=zaq [1,1,1,0,1,0,0] zrs
def zKS:AExit→List AV→zaa→Prop:=zas tP zk6 [1,1,1,0,1,0] zrs (zay tP zKX K)
def zrt:Prop:=ALoop tP zKT (zKS K) (zk7 t1 t2 t4 t5 t6) H
def zrr:Prop:=zaf 2 t2 λt34=>zae false 1 t34 H λt35=>zah 1 t35 λt36=>zac .lss false t6 t36 λt37=>zag t37 (zab H (λK'=>zaf 2 t5 (K' · H)) λt40=>zab H (λK'=>zak false 1 t40 H (K' · H)) λt41=>zab H (λK'=>zaf 2 t2 (K' · H)) λt42=>zab H (λK'=>zak false 1 t42 H (K' · H)) λt43=>zab H (λK'=>K' t6 H) λt44=>zab H (λK'=>zai 3 t43 t44 (K' · H)) λt45=>zab H (λK'=>zak true 3 t45 H (K' · H)) λt46=>zab H (λK'=>K' t1 H) λt47=>zaE H (λH K'=>ACalls tP ziS [t46,t47] H K') λt48=>zab H (λK'=>zau 3 [(.int .i64 0),(.int .i64 0),.snil] 1 [(0,t48)] (K' · H)) λt49=>zaw zaZ 3 40 t41 t49 H λt50 H=>zab H (λK'=>zaf 2 t5 (K' · H)) λt51=>zan 1 t51 t50 H λH=>zac .add false t6 (.int .i64 1) λt39=>Kb5 (zk7 t1 t2 t4 t5 t39) H) (zae true 3 t5 H λt52=>zan 3 t4 t52 H λH=>zae true 3 t4 H λr0=>K r0 H)
def zrq:Prop:=zav t0 H λt2 H=>zax [(.int .i64 0),(.int .i64 0),.snil] H λt4 H=>zaf 0 t2 λt7=>zae false 1 t7 H λt8=>zac .eql false t8 (.int .i64 4) λt9=>zad t9 true H (λK'=>zaf 1 t2 (K' · H)) λt11 H=>zad t9 true H (λK'=>zae false 1 t11 H (K' · H)) λt12 H=>zad t9 true H (λK'=>zac .geq false t12 (.int .i64 0) (K' · H)) λt13 H=>zaj t9 t13 (.bool false) λt14=>zad t14 true H (λK'=>zaf 1 t2 (K' · H)) λt16 H=>zad t14 true H (λK'=>zae false 1 t16 H (K' · H)) λt17 H=>zad t14 true H (λK'=>K' t1 H) λt18 H=>zad t14 true H (λK'=>zah 1 t18 (K' · H)) λt19 H=>zad t14 true H (λK'=>zac .lss false t17 t19 (K' · H)) λt20 H=>zaj t14 t20 (.bool false) λt21=>zag t21 (zaf 1 t2 λt23=>zae false 1 t23 H λt24=>zai 3 t1 t24 λt25=>zae true 3 t25 H λt26=>ACalls tP zi3 [t26] H λt27 H=>zan 3 t4 t27 H λH=>zae true 3 t4 H λr0=>K r0 H) (zaf 0 t2 λt28=>zae false 1 t28 H λt29=>zaf 1 t2 λt30=>zae false 1 t30 H λt31=>zar [(.int .i64 0),(.int .i64 0),.snil] [(0,1),(1,1),(2,1)] [(0,t29),(1,t31)] λt32=>zax [(.int .i64 0),(.int .i64 0),.snil] H λt5 H=>zan 3 t5 t32 H λH=>zrt t1 t2 t4 t5 (.int .i64 0) H K)
def zlY:Nat→List Bool | 3=>rl false [1,4,24] | _=>[]
noncomputable def zsh:Code:=Tryz.f194.body.getD .skip
noncomputable def zNU:List ResultVar:=Tryz.f194.results.toList
def zlZ:List AV:=ux 1 (t1::t2::t3::t4::ux 24 [])
def zNS:List Bool:=zlY 3
noncomputable def zNQ:Code:=zaq [1,1,0,1,0,0] zsh
def zNP:AExit→List AV→zaa→Prop:=zas tP zlY [1,1,0,1,0] zsh (zay tP zNU K)
def zAD:Prop:=ALoop tP zNQ (zNP K) (zlZ t1 t2 t3 t4) H
def zsg:Prop:=zaf 2 t1 λt11=>zae false 1 t11 H λt12=>zah 1 t12 λt13=>zac .lss false t4 t13 λt14=>zag t14 (zab H (λK'=>zaf 2 t3 (K' · H)) λt17=>zab H (λK'=>zak false 1 t17 H (K' · H)) λt18=>zab H (λK'=>zaf 2 t1 (K' · H)) λt19=>zab H (λK'=>zak false 1 t19 H (K' · H)) λt20=>zab H (λK'=>K' t4 H) λt21=>zab H (λK'=>zai 3 t20 t21 (K' · H)) λt22=>zab H (λK'=>zak true 3 t22 H (K' · H)) λt23=>zaE H (λH K'=>ACalls tP zi3 [t23] H K') λt24=>zab H (λK'=>zau 3 [(.int .i64 0),(.int .i64 0),.snil] 1 [(0,t24)] (K' · H)) λt25=>zaw zaZ 3 40 t18 t25 H λt26 H=>zab H (λK'=>zaf 2 t3 (K' · H)) λt27=>zan 1 t27 t26 H λH=>zac .add false t4 (.int .i64 1) λt16=>Kb3 (zlZ t1 t2 t3 t16) H) (zae true 3 t3 H λt28=>zan 3 t2 t28 H λH=>zae true 3 t2 H λr0=>K r0 H)
def zAC:Prop:=zav t0 H λt1 H=>zax [(.int .i64 0),(.int .i64 0),.snil] H λt2 H=>zaf 0 t1 λt5=>zae false 1 t5 H λt6=>zaf 1 t1 λt7=>zae false 1 t7 H λt8=>zar [(.int .i64 0),(.int .i64 0),.snil] [(0,1),(1,1),(2,1)] [(0,t6),(1,t8)] λt9=>zax [(.int .i64 0),(.int .i64 0),.snil] H λt3 H=>zan 3 t3 t9 H λH=>zAD t1 t2 t3 (.int .i64 0) H K
variable {t0 t1 t2 t3 t4 t5 t6 t7 t8 t13 t14 t63 t64 t65 t75} {H} {K} {Kb3 Kb5 Kb24}
theorem zUj (Inv:Nat→AV→zaa→Prop) (n:Nat) (h0:HSc H→Inv n t8 H)
  (ac:Rd1 (λt8=>zny t0 t2 t4 t7 t8) (λt8=>λH Kb24=>zt4 t0 t2 t4 t7 t8 H K Kb24) H Inv):zt6 t0 t2 t4 t7 t8 H K:=
 lp1 (M:=znx) zUk t8 (by kernel_rfl) Inv n h0 ac
theorem zUl (h:HSc H→zcB t0 t1 t2 H K):ACalls tP zju [t0,t1,t2] H K:=
 acb znx Tryz.func96 zt5 (by kernel_rfl) (by kernel_rfl) h
theorem zUw (Inv:Nat→AV→AV→zaa→Prop) (n:Nat) (h0:HSc H→Inv n t8 t65 H)
  (ac:Rd2 (λt8=>λt65=>znC t4 t8 t63 t64 t65) (λt8=>λt65=>λH Kb5=>zua t4 t8 t63 t64 t65 H K Kb5) H Inv):znD t4 t8 t63 t64 t65 H K:=
 lp2 (M:=znB) zUx t8 t65 (by kernel_rfl) Inv n h0 ac
theorem zUy (h:HSc H→zCR t0 t1 t2 H K):ACalls tP zht [t0,t1,t2] H K:=
 acb znB Tryz.func98 zub (by kernel_rfl) (by kernel_rfl) h
theorem zKU (Inv:Nat→AV→zaa→Prop) (n:Nat) (h0:HSc H→Inv n t6 H)
  (ac:Rd1 (λt6=>zk7 t1 t2 t4 t5 t6) (λt6=>λH Kb5=>zrr t1 t2 t4 t5 t6 H K Kb5) H Inv):zrt t1 t2 t4 t5 t6 H K:=
 lp1 (M:=zk6) zKV t6 (by kernel_rfl) Inv n h0 ac
theorem zKW (h:HSc H→zrq t0 t1 H K):ACalls tP ziS [t0,t1] H K:=
 acb zk6 Tryz.func146 zrs (by kernel_rfl) (by kernel_rfl) h
theorem zNR (Inv:Nat→AV→zaa→Prop) (n:Nat) (h0:HSc H→Inv n t4 H)
  (ac:Rd1 (λt4=>zlZ t1 t2 t3 t4) (λt4=>λH Kb3=>zsg t1 t2 t3 t4 H K Kb3) H Inv):zAD t1 t2 t3 t4 H K:=
 lp1 (M:=zlY) zNS t4 (by kernel_rfl) Inv n h0 ac
theorem zNT (h:HSc H→zAC t0 H K):ACalls tP zi3 [t0] H K:=
 acb zlY Tryz.func194 zsh (by kernel_rfl) (by kernel_rfl) h
end
section
variable (t0 t1 t2 t3 t7 t8 t9 t47 t48 t49 t78 t79 t80:AV) (H:zaa) (K:Kt) (Kb4 Kb6 Kb10:Lt)
def zfA:Nat→List Bool | 6=>rl false [0,2,6,1,38,3,56] | 10=>rl false [0,2,6,2,37,3,28,3,25] | _=>[]
noncomputable def zrZ:Code:=Tryz.f168.body.getD .skip
noncomputable def zMR:List ResultVar:=Tryz.f168.results.toList
def zlC:List AV:=t0::t1::ux 6 (t8::ux 38 (t47::t48::t49::ux 56 []))
def zAn:List Bool:=zfA 6
noncomputable def zr0:Code:=zaq [1,1,1,1,0,1,0,0] zrZ
def zAl:AExit→List AV→zaa→Prop:=zas tP zfA [1,1,1,1,0,1,0] zrZ (zay tP zMR K)
def zAm:Prop:=ALoop tP zr0 (zAl K) (zlC t0 t1 t8 t47 t48 t49) H
def zlB:List AV:=t0::t1::ux 6 (t8::t9::ux 37 (t47::t48::t49::ux 28 (t78::t79::t80::ux 25 [])))
def zMP:List Bool:=zfA 10
noncomputable def zMM:Code:=zaq [1,1,0,0,1,1,1,0,0] zr0
def zML:AExit→List AV→zaa→Prop:=zas tP zfA [1,1,0,0,1,1,1,0] zr0 (zb1 zAn Kb6 (zAl K))
def zr2:Prop:=ALoop tP zMM (zML K Kb6) (zlB t0 t1 t8 t9 t47 t48 t49 t78 t79 t80) H
def zr1 (t0 t1 t8 t9 t47 t48 t49 t78 t79 t80:AV) (H:zaa) (K:Kt) (Kb6:Lt) (Kb10:Lt):Prop:=zac .add false t80 (.int .i64 1) λt103=>Kb10 (zlB t0 t1 t8 t9 t47 t48 t49 t78 t79 t103) H
def zgq:Prop:=zr1 t0 t1 t8 t9 t47 t48 t49 t78 t79 t80 H K Kb6 Kb10
def zgp:Prop:=zac .lss false t80 t79 λt81=>zag t81 (zai 3 t78 t80 λt83=>zae true 3 t83 H λt84=>zax [(.int .i64 0),(.int .i64 0),.snil] H λt12 H=>zan 3 t12 t84 H λH=>zaf 0 t12 λt85=>zae false 1 t85 H λt86=>zac .neq false t86 (.int .i64 4) λt87=>zad t87 false H (λK'=>zaf 1 t12 (K' · H)) λt89 H=>zad t87 false H (λK'=>zae false 1 t89 H (K' · H)) λt90 H=>zad t87 false H (λK'=>K' t80 H) λt91 H=>zad t87 false H (λK'=>zac .neq false t90 t91 (K' · H)) λt92 H=>zaj t87 (.bool true) t92 λt93=>zad t93 false H (λK'=>zaf 2 t12 (K' · H)) λt95 H=>zad t93 false H (λK'=>zae false 1 t95 H (K' · H)) λt96 H=>zad t93 false H (λK'=>zah 1 t96 (K' · H)) λt97 H=>zad t93 false H (λK'=>zac .gtr false t97 (.int .i64 0) (K' · H)) λt98 H=>zaj t93 (.bool true) t98 λt99=>zag t99 (zai 1 t8 t9 λt102=>zan 1 t102 (.bool false) H λH=>zgq t0 t1 t8 t9 t47 t48 t49 t78 t79 t80 H K Kb6 Kb10) (zgq t0 t1 t8 t9 t47 t48 t49 t78 t79 t80 H K Kb6 Kb10)) (zac .add false t49 (.int .i64 1) λt104=>Kb6 (zlC t0 t1 t8 t47 t48 t104) H)
def zh2:Prop:=zac .lss false t49 t48 λt50=>zag t50 (zai 3 t47 t49 λt52=>zae true 3 t52 H λt53=>zax [(.int .i64 0),(.int .i64 0),.snil] H λt10 H=>zan 3 t10 t53 H λH=>zab H (λK'=>K' t8 H) λt54=>zab H (λK'=>K' t49 H) λt55=>zab H (λK'=>zaf 0 t10 (K' · H)) λt56=>zab H (λK'=>zak false 1 t56 H (K' · H)) λt57=>zab H (λK'=>zac .eql false t57 (.int .i64 5) (K' · H)) λt58=>zab H (λK'=>K' t58 H) λt59=>zad t59 true H (λK'=>zab H (λK''=>zaf 1 t10 (K'' · H)) (K' · H)) λt60 H=>zad t59 true H (λK'=>zab H (λK''=>zak false 1 t60 H (K'' · H)) (K' · H)) λt61 H=>zad t59 true H (λK'=>zab H (λK''=>K'' t1 H) (K' · H)) λt62 H=>zad t59 true H (λK'=>zab H (λK''=>zac .eql false t61 t62 (K'' · H)) (K' · H)) λt63 H=>zab H (λK'=>zaj t59 t63 (.bool false) (K' · H)) λt64=>zab H (λK'=>K' t64 H) λt65=>zad t65 true H (λK'=>zab H (λK''=>zaf 2 t10 (K'' · H)) (K' · H)) λt66 H=>zad t65 true H (λK'=>zab H (λK''=>zak false 1 t66 H (K'' · H)) (K' · H)) λt67 H=>zad t65 true H (λK'=>zab H (λK''=>zah 1 t67 (K'' · H)) (K' · H)) λt68 H=>zad t65 true H (λK'=>zab H (λK''=>K'' t0 H) (K' · H)) λt69 H=>zad t65 true H (λK'=>zab H (λK''=>K'' t1 H) (K' · H)) λt70 H=>zad t65 true H (λK'=>zab H (λK''=>zai 3 t69 t70 (K'' · H)) (K' · H)) λt71 H=>zad t65 true H (λK'=>zab H (λK''=>zaf 1 t71 (K'' · H)) (K' · H)) λt72 H=>zad t65 true H (λK'=>zab H (λK''=>zak false 1 t72 H (K'' · H)) (K' · H)) λt73 H=>zad t65 true H (λK'=>zab H (λK''=>zac .eql false t68 t73 (K'' · H)) (K' · H)) λt74 H=>zab H (λK'=>zaj t65 t74 (.bool false) (K' · H)) λt75=>zab H (λK'=>zai 1 t54 t55 (K' · H)) λt76=>zan 1 t76 t75 H λH=>zaf 2 t10 λt77=>zae false 1 t77 H λt78=>zah 1 t78 λt79=>zr2 t0 t1 t8 t49 t47 t48 t49 t78 t79 (.int .i64 0) H K Kb6) (K t8 H)
def zAk:Prop:=zac .lss false t1 (.int .i64 0) λt14=>zad t14 false H (λK'=>K' t1 H) λt16 H=>zad t14 false H (λK'=>K' t0 H) λt17 H=>zad t14 false H (λK'=>zah 1 t17 (K' · H)) λt18 H=>zad t14 false H (λK'=>zac .geq false t16 t18 (K' · H)) λt19 H=>zaj t14 (.bool true) t19 λt20=>zad t20 false H (λK'=>K' t2 H) λt22 H=>zad t20 false H (λK'=>zac .lss false t22 (.int .i64 0) (K' · H)) λt23 H=>zaj t20 (.bool true) t23 λt24=>zad t24 false H (λK'=>K' t2 H) λt26 H=>zad t24 false H (λK'=>K' t0 H) λt27 H=>zad t24 false H (λK'=>K' t1 H) λt28 H=>zad t24 false H (λK'=>zai 3 t27 t28 (K' · H)) λt29 H=>zad t24 false H (λK'=>zaf 2 t29 (K' · H)) λt30 H=>zad t24 false H (λK'=>zae false 1 t30 H (K' · H)) λt31 H=>zad t24 false H (λK'=>zah 1 t31 (K' · H)) λt32 H=>zad t24 false H (λK'=>zac .geq false t26 t32 (K' · H)) λt33 H=>zaj t24 (.bool true) t33 λt34=>zag t34 (K .snil H) (zai 3 t0 t1 λt37=>zaf 2 t37 λt38=>zae false 1 t38 H λt39=>zai 2 t39 t2 λt41=>zaf 1 t41 λt42=>zae false 1 t42 H λt43=>zah 1 t43 λt45=>zbp 1 [(.bool false)] t45 t45 H λt46 H=>zah 1 t43 λt48=>zAm t0 t1 t46 t43 t48 (.int .i64 0) H K)
def zPn (_:Nat):List Bool:=[]
noncomputable def zPo:Code:=Tryz.f228.body.getD .skip
def zA6:Prop:=zav t0 H λt2 H=>zav t1 H λt3 H=>zaf 0 t2 λt5=>zae false 1 t5 H λt6=>zac .eql false t6 (.int .i64 5) λt7=>zad t7 true H (λK'=>zaf 1 t2 (K' · H)) λt9 H=>zad t7 true H (λK'=>zae false 1 t9 H (K' · H)) λt10 H=>zad t7 true H (λK'=>zae false 1 t3 H (K' · H)) λt11 H=>zad t7 true H (λK'=>zac .eql false t10 t11 (K' · H)) λt12 H=>zaj t7 t12 (.bool false) λt13=>zad t13 false H (λK'=>zaf 2 t2 (K' · H)) λt15 H=>zad t13 false H (λK'=>zae false 1 t15 H (K' · H)) λt16 H=>zad t13 false H (λK'=>zcw zjb [t3] (K' · H)) λt17 H=>zad t13 false H (λK'=>ACalls tP zfe [t16,t17] H K') λt18 H=>zaj t13 (.bool true) t18 λt19=>K t19 H
def zPG (_:Nat):List Bool:=[]
noncomputable def zPH:Code:=Tryz.f247.body.getD .skip
def zBb:Prop:=zav t0 H λt2 H=>zae true 3 t2 H λt4=>zae false 1 t1 H λt5=>ACalls tP zja [t4,t5] H λt6 H=>K t6 H
def znr:Nat→List Bool | 4=>rl false [3,1,3,1,50] | _=>[]
noncomputable def ztX:Code:=Tryz.f93.body.getD .skip
noncomputable def zT2:List ResultVar:=Tryz.f93.results.toList
def zns:List AV:=ux 3 (t3::ux 3 (t7::ux 50 []))
def zT0:List Bool:=znr 4
noncomputable def zTY:Code:=zaq [1,1,0,1,0,0] ztX
def zTX:AExit→List AV→zaa→Prop:=zas tP znr [1,1,0,1,0] ztX (zay tP zT2 K)
def zCG:Prop:=ALoop tP zTY (zTX K) (zns t3 t7) H
def zgx:Prop:=zaf 2 t3 λt25=>zae false 1 t25 H λt26=>zah 1 t26 λt27=>zac .lss false t7 t27 λt28=>zag t28 (zaf 2 t3 λt31=>zae false 1 t31 H λt32=>zai 3 t32 t7 λt34=>zaf 0 t34 λt35=>zae false 1 t35 H λt36=>zac .neq false t36 (.int .i64 4) λt37=>zad t37 false H (λK'=>zaf 2 t3 (K' · H)) λt39 H=>zad t37 false H (λK'=>zae false 1 t39 H (K' · H)) λt40 H=>zad t37 false H (λK'=>K' t7 H) λt41 H=>zad t37 false H (λK'=>zai 3 t40 t41 (K' · H)) λt42 H=>zad t37 false H (λK'=>zaf 1 t42 (K' · H)) λt43 H=>zad t37 false H (λK'=>zae false 1 t43 H (K' · H)) λt44 H=>zad t37 false H (λK'=>K' t7 H) λt45 H=>zad t37 false H (λK'=>zac .neq false t44 t45 (K' · H)) λt46 H=>zaj t37 (.bool true) t46 λt47=>zad t47 false H (λK'=>zaf 2 t3 (K' · H)) λt49 H=>zad t47 false H (λK'=>zae false 1 t49 H (K' · H)) λt50 H=>zad t47 false H (λK'=>K' t7 H) λt51 H=>zad t47 false H (λK'=>zai 3 t50 t51 (K' · H)) λt52 H=>zad t47 false H (λK'=>zaf 2 t52 (K' · H)) λt53 H=>zad t47 false H (λK'=>zae false 1 t53 H (K' · H)) λt54 H=>zad t47 false H (λK'=>zah 1 t54 (K' · H)) λt55 H=>zad t47 false H (λK'=>zac .gtr false t55 (.int .i64 0) (K' · H)) λt56 H=>zaj t47 (.bool true) t56 λt57=>zag t57 (K (.bool false) H) (zac .add false t7 (.int .i64 1) λt30=>Kb4 (zns t3 t30) H)) (K (.bool true) H)
def zCF:Prop:=zav t0 H λt3 H=>zaf 0 t3 λt8=>zae false 1 t8 H λt9=>zac .neq false t9 (.int .i64 5) λt10=>zad t10 false H (λK'=>zaf 1 t3 (K' · H)) λt12 H=>zad t10 false H (λK'=>zae false 1 t12 H (K' · H)) λt13 H=>zad t10 false H (λK'=>K' t1 H) λt14 H=>zad t10 false H (λK'=>zac .neq false t13 t14 (K' · H)) λt15 H=>zaj t10 (.bool true) t15 λt16=>zad t16 false H (λK'=>zaf 2 t3 (K' · H)) λt18 H=>zad t16 false H (λK'=>zae false 1 t18 H (K' · H)) λt19 H=>zad t16 false H (λK'=>zah 1 t19 (K' · H)) λt20 H=>zad t16 false H (λK'=>K' t2 H) λt21 H=>zad t16 false H (λK'=>zac .neq false t20 t21 (K' · H)) λt22 H=>zaj t16 (.bool true) t22 λt23=>zag t23 (K (.bool false) H) (zCG t3 (.int .i64 0) H K)
variable {t0 t1 t2 t3 t7 t8 t9 t47 t48 t49 t78 t79 t80} {H} {K} {Kb4 Kb6 Kb10}
theorem zMN (Inv:Nat→AV→zaa→Prop) (n:Nat) (h0:HSc H→Inv n t80 H)
  (ac:Rd1 (λt80=>zlB t0 t1 t8 t9 t47 t48 t49 t78 t79 t80) (λt80=>λH Kb10=>zgp t0 t1 t8 t9 t47 t48 t49 t78 t79 t80 H K Kb6 Kb10) H Inv):zr2 t0 t1 t8 t9 t47 t48 t49 t78 t79 t80 H K Kb6:=
 lp1 (M:=zfA) zMP t80 (by kernel_rfl) Inv n h0 ac
theorem zMO (Inv:Nat→AV→zaa→Prop) (n:Nat) (h0:HSc H→Inv n t49 H)
  (ac:Rd1 (λt49=>zlC t0 t1 t8 t47 t48 t49) (λt49=>λH Kb6=>zh2 t0 t1 t8 t47 t48 t49 H K Kb6) H Inv):zAm t0 t1 t8 t47 t48 t49 H K:=
 lp1 (M:=zfA) zAn t49 (by kernel_rfl) Inv n h0 ac
theorem zMQ (h:HSc H→zAk t0 t1 t2 H K):ACalls tP zfd [t0,t1,t2] H K:=
 acb zfA Tryz.func168 zrZ (by kernel_rfl) (by kernel_rfl) h
theorem zPp (h:HSc H→zA6 t0 t1 H K):ACalls tP zja [t0,t1] H K:=
 acb zPn Tryz.func228 zPo (by kernel_rfl) (by kernel_rfl) h
theorem zPI (h:HSc H→zBb t0 t1 H K):ACalls tP zjb [t0,t1] H K:=
 acb zPG Tryz.func247 zPH (by kernel_rfl) (by kernel_rfl) h
theorem zTZ (Inv:Nat→AV→zaa→Prop) (n:Nat) (h0:HSc H→Inv n t7 H)
  (ac:Rd1 (λt7=>zns t3 t7) (λt7=>λH Kb4=>zgx t3 t7 H K Kb4) H Inv):zCG t3 t7 H K:=
 lp1 (M:=znr) zT0 t7 (by kernel_rfl) Inv n h0 ac
theorem zT1 (h:HSc H→zCF t0 t1 t2 H K):ACalls tP zjt [t0,t1,t2] H K:=
 acb znr Tryz.func93 ztX (by kernel_rfl) (by kernel_rfl) h
end
end Go.Proofs.YtdmamdnkcefmmaaGreatDoor
section


end
namespace Go.Proofs.YtdmamdnkcefmmaaGreatDoor
open Go Go.Abs
theorem zCb:∀ (m:Nat) (v:VT),v.nodes≤m→∀ (left:Int),left≤1000000→-1≤left→∀ (H:zaa) (id:Nat),H[id]?=some (.cells [.int .i64 left])→∀ (K:AV→zaa→Prop),
  ((v.nodes:Int)≤left→K (.bool true) (H.set id (.cells [.int .i64 (left-v.nodes)])))→(¬ (v.nodes:Int)≤left→∀ l',K (.bool false) (H.set id (.cells [.int .i64 l']))) →
  ACalls tP zhp [.agg v.cs,.ptr id 0] H K:=by
 intro m;induction m with
 | zero=>intro v h;have:=v.nodes_pos;omega
 | succ m ih=>
  intro v hv left d8 dQ H id ap K hK hF;obtain⟨k,n,ks⟩:=v;have ak:=zbc ap;have dv:(VT.mk k n ks).nodes=VT.nodesL ks+1:=by simp[VT.nodes]
  refine ACalls.out (zSI λhs=>?_);have aA:(H++[AB.cells [.int .i64 k,.int .i64 n,.sl (VT.css ks) .none]])[id]?=some (.cells [.int .i64 left]):=zbF ap;have bad:(¬ ((VT.mk k n ks).nodes:Int)≤left)→∀ l' H',H'=H.set id (.cells [.int .i64 l'])++[.cells [.int .i64 k,.int .i64 n,.sl (VT.css ks) .none]]→Out H.length K (.bool false) H':=by intro h l' H' he;exact Out.bool he (by simp) (hs.set rfl) (hF h l')
  simp[zB9,VT.cs,aA,AV.known];rw[zat (by omega) (by omega),zd5 _ ap,zbF (zdo _ ap)];by_cases h0:left-1<0
  ·simp[h0];exact bad (by omega) _ _ rfl
  ·simp[h0];refine zSG (Inv:=λq t5 H'=>∃ i:Nat,i≤ks.length∧q=ks.length-i∧t5=.int .i64 i∧((VT.nodesL (ks.take i):Int)+1≤left)∧H'=H.set id (.cells [.int .i64 (left-1-VT.nodesL (ks.take i))])++[.cells [.int .i64 k,.int .i64 n,.sl (VT.css ks) .none]]) ks.length ?_ ?_
   ·intro _;exact⟨0,by omega,by omega,rfl,by simp[VT.nodesL];omega,by simp[VT.nodesL]⟩
   ·rintro q t5 H' ⟨i,hi,rfl,rfl,hb,rfl⟩ hsc am aP Kb ar;by_cases bm:i<ks.length
    ·have bg:=VT.kid_lt (k:=k) (n:=n) bm;have h1:=VT.nodesL_take bm;have h2:=VT.nodesL_take_le ks (i+1);have bn:=VT.len_le (ks.take i);simp only[List.length_take]at bn;have dR:(H.set id (.cells [.int .i64 (left-1-VT.nodesL (ks.take i))])++[AB.cells [.int .i64 k,.int .i64 n,.sl (VT.css ks) .none]])[id]?=some (.cells [.int .i64 (left-1-VT.nodesL (ks.take i))]):=zbF (zdo _ ap);simp[ztF,bm];refine ih ks[i] (by omega) (left-1-VT.nodesL (ks.take i)) (by omega) (by omega) _ id dR _ ?_ ?_
     ·intro aS;rw[zd5 _ (zdo _ ap),List.set_set];simp;rw[zat (by omega) (by omega)];refine ar _ _ ⟨ks.length-(i+1),by omega,Back.here (by simp) ((hs.set rfl).snoc rfl) ?_ ⟨_,rfl,i+1,by omega,rfl,by simp,by omega,?_⟩⟩
      ·simp[znb,AV.sc,AV.scV,AV.scA,AV.scB];omega
      ·rw[h1];congr 5;omega
     ·intro aS l';rw[zd5 _ (zdo _ ap),List.set_set];simp;exact bad (by omega) _ _ rfl
    ·obtain rfl:i=ks.length:=by omega
     rw[List.take_length]at hb ⊢;simp[ztF];refine Out.bool rfl (by simp) (hs.set rfl) ?_;have:=hK (by omega);rw[dv]at this;rw[show left-1-(VT.nodesL ks:Int)=left-((VT.nodesL ks+1:Nat):Int) by omega];exact this
theorem zQP (v:VT) (H:zaa) (K:AV→zaa→Prop) (hK:∀ b,(b=true→v.nodes≤250)→K (.bool b) H):ACalls tP zpp [.agg v.cs] H K:=by
 refine ACalls.out (zQO λhs=>?_);simp[zBB,AV.known];refine zCb _ v (Nat.le_refl _) 250 (by omega) (by omega) _ (H.length+1) (by simp) _ ?_ ?_
 ·intro h;exact Out.bool (J:=[_,_]) (by simp;exact⟨rfl,rfl⟩) (Nat.le_refl _) hs (hK true λ_=>by omega)
 ·intro h l';exact Out.bool (J:=[_,_]) (by simp;exact⟨rfl,rfl⟩) (Nat.le_refl _) hs (hK false λh=>by cases h)
theorem zCO:∀ (m:Nat) (v:VT),v.nodes≤m→v.nodes≤1000000000→∀ (H:zaa) (K:AV→zaa→Prop),K (.int .i64 v.nodes) H→ACalls tP zhs [.agg v.cs] H K:=by
 intro m;induction m with
 | zero=>intro v h;have:=v.nodes_pos;omega
 | succ m ih=>
  intro v hv hb H K hK;obtain⟨k,n,ks⟩:=v;have bY:VT.nodesL ks+1≤1000000000:=by simpa[VT.nodes]using hb
  have bn:=VT.len_le ks;refine ACalls.out (zUf λhs=>?_);simp[VT.cs,zCM];refine zUd (Inv:=λq t3 t4 H'=>∃ i:Nat,i≤ks.length∧q=ks.length-i∧t4=.int .i64 i∧t3=.int .i64 (1+VT.nodesL (ks.take i):Nat)∧H'=H++[.cells [.int .i64 k,.int .i64 n,.sl (VT.css ks) .none]]) ks.length ?_ ?_
  ·intro _;exact⟨0,by omega,by omega,rfl,by simp[VT.nodesL],rfl⟩
  ·rintro q t3 t4 H' ⟨i,hi,rfl,rfl,rfl,rfl⟩ hsc am aP Kb ar;by_cases ak:i<ks.length
   ·have bg:=VT.kid_lt (k:=k) (n:=n) ak;have h1:=VT.nodesL_take ak;have h2:=VT.nodesL_take_le ks (i+1);simp[zt2,ak];refine ih ks[i] (by omega) (by omega) _ _ ?_;simp;rw[zat (by omega) (by omega),zat (by omega) (by omega)];refine ar _ _ ⟨ks.length-(i+1),by omega,Back.here (by simp) hsc ?_ ⟨_,_,rfl,i+1,by omega,rfl,by simp,?_,rfl⟩⟩
    ·simp[znw,AV.sc,AV.scV,AV.scA,AV.scB]
    ·rw[h1];congr 1;omega
   ·obtain rfl:i=ks.length:=by omega
    simp[zt2];refine Out.int rfl (Nat.le_refl _) hs ?_;simpa[VT.nodes,Int.add_comm]using hK
theorem zUn (aa:List Dat) (gM:aa.length≤1000000) (vars:Int):∀ (m:Nat) (v:VT),v.nodes≤m→v.nodes≤1000000000→∀ (H:zaa) (K:AV→zaa→Prop),K (.bool (za3 aa vars v)) H→ACalls tP zju [.sl (aa.map Dat.cs) .none,.agg v.cs,.int .i64 vars] H K:=by
 intro m;induction m with
 | zero=>intro v h;have:=v.nodes_pos;omega
 | succ m ih=>
  intro v hv hb H K hK;obtain⟨k,n,ks⟩:=v;have bY:VT.nodesL ks+1≤1000000000:=by simpa[VT.nodes]using hb
  have bn:=VT.len_le ks;refine ACalls.out (zUl λhs=>?_);have hO:∀ J,Out H.length K (.bool (zbg aa vars k n ks.length && zbf aa vars ks)) (H++J):=λJ=>Out.bool rfl (Nat.le_refl _) hs (by simpa[za3]using hK);have hF:zbg aa vars k n ks.length=false→∀ J,Out H.length K (.bool false) (H++J):=λh J=>by have:=hO J;rwa [h,Bool.false_and]at this
  have loop:zbg aa vars k n ks.length=true→zt6 (.sl (aa.map Dat.cs) .none) (.int .i64 vars) (.ptr H.length 0) (.int .i64 ks.length) (.int .i64 0) (H++[.cells [.int .i64 k,.int .i64 n,.sl (VT.css ks) .none]]) (Out H.length K):=by
   intro aR;rw[aR]at hO;simp only[Bool.true_and]at hO;refine zUj (Inv:=λq t8 H'=>∃ i:Nat,i≤ks.length∧q=ks.length-i∧t8=.int .i64 i∧zbf aa vars (ks.drop i)=zbf aa vars ks∧H'=H++[.cells [.int .i64 k,.int .i64 n,.sl (VT.css ks) .none]]) ks.length ?_ ?_
   ·intro _;exact⟨0,by omega,by omega,rfl,by simp,rfl⟩
   ·rintro q t8 H' ⟨i,hi,rfl,rfl,ho,rfl⟩ hsc am aP Kb ar;by_cases ak:i<ks.length
    ·have bg:=VT.kid_lt (k:=k) (n:=n) ak;rw[List.drop_eq_getElem_cons ak,zbf]at ho;simp[zt4,ak];refine ih ks[i] (by omega) (by omega) _ _ ?_;cases hb:za3 aa vars ks[i] with
     | false=>rw[hb,Bool.false_and]at ho;rw[←ho]at hO;simp;exact hO _
     | true=>rw[hb,Bool.true_and]at ho;simp;rw[zat (by omega) (by omega)];refine ar _ _ ⟨ks.length-(i+1),by omega,Back.here (by simp) hsc ?_ ⟨_,rfl,i+1,by omega,rfl,by simp,ho,rfl⟩⟩;simp[zny,AV.sc,AV.scV,AV.scA,AV.scB]
    ·obtain rfl:i=ks.length:=by omega
     rw[List.drop_length,zbf]at ho;rw[←ho]at hO;simp[zt4];exact hO _
  have prim:(k=1∨k=2∨k=3)→Out H.length K (.bool (n == 0 && ks.length == 0)) (H++[.cells [.int .i64 k,.int .i64 n,.sl (VT.css ks) .none]]):=by
   intro h;have aR:zbg aa vars k n ks.length=(n == 0 && ks.length == 0):=by rcases h with rfl | rfl | rfl <;> rfl
   have:=hO [.cells [.int .i64 k,.int .i64 n,.sl (VT.css ks) .none]];rw[aR]at this;cases ks with
   | nil=>simpa[zbf]using this
   | cons x l=>simpa using this
  by_cases eQ:k=1∨k=2∨k=3
  ·have:=prim eQ;cases hn:(n == 0) with
   | false=>rw[hn,Bool.false_and]at this;rcases eQ with rfl | rfl | rfl <;> simp[zcB,VT.cs,zbU,hn] <;> exact this
   | true=>
    rw[hn,Bool.true_and]at this;have e:((ks.length:Int) == 0)=(ks.length == 0):=by rw[Bool.eq_iff_iff];simp
    rw[←e]at this;rcases eQ with rfl | rfl | rfl <;> simp only[zcB,VT.cs] <;> simp[zbU,hn] <;> simpa using this
  by_cases h4:k=4
  ·subst h4;have aR:zbg aa vars 4 n ks.length=(decide (0≤n) && decide (n<vars) && ks.length == 0):=rfl;have km:∀ J,Out H.length K (.bool (decide (0≤n) && decide (n<vars) && ks.length == 0)) (H++J):=λJ=>by
    have:=hO J;rw[aR]at this;cases ks with
    | nil=>simpa[zbf]using this
    | cons x l=>simpa using this
   have e:((ks.length:Int) == 0)=(ks.length == 0):=by rw[Bool.eq_iff_iff];simp
   rw[←e]at km;by_cases g1:0≤n
   ·by_cases g2:n<vars
    ·simp only[zcB,VT.cs];simp[zbU,g1,g2];simpa[g1,g2]using km _
    ·simp only[zcB,VT.cs];simp[zbU,g1,g2];simpa[g1,g2]using km _
   ·simp only[zcB,VT.cs];simp[zbU,g1];simpa[g1]using km _
  by_cases h5:k=5
  ·subst h5;have aR:zbg aa vars 5 n ks.length=(decide (0≤n) && (match aa[n.toNat]? with | some d=>(ks.length:Int) == d.vars | none=>false)):=rfl;by_cases g1:0≤n
   ·have g1':¬ n<0:=by omega
    by_cases g2:n<aa.length
    ·have bY:n.toNat<aa.length:=by omega
     have g2':¬ (aa.length:Int)≤n:=by omega
     have a7:(aa.map Dat.cs)[n.toNat]?.getD []=[.str aa[n.toNat].name,.int .i64 aa[n.toNat].vars,.sl (aa[n.toNat].cons.map Con.cs) .none]:=by simp[bY,Dat.cs]
     rw[List.getElem?_eq_getElem bY]at aR;simp only[g1,decide_true,Bool.true_and]at aR;cases hv:((ks.length:Int) == aa[n.toNat].vars) with
     | false=>
      rw[hv]at aR;have bL:((ks.length:Int) != aa[n.toNat].vars)=true:=by simp[bne,hv]
      simp only[zcB,VT.cs];simp[zbU,g1',g2',g1,g2,bY,Dat.cs,bL];exact hF aR _
     | true=>
      rw[hv]at aR;have bL:((ks.length:Int) != aa[n.toNat].vars)=false:=by simp[bne,hv]
      simp only[zcB,VT.cs];simp[zbU,g1',g2',g1,g2,bY,Dat.cs,bL,zeT,zik];exact loop aR
    ·have g2':(aa.length:Int)≤n:=by omega
     rw[List.getElem?_eq_none (by omega)]at aR;simp only[zcB,VT.cs];simp[zbU,g1',g2'];exact hF (by rw[aR];simp) _
   ·have g1':n<0:=by omega
    simp only[zcB,VT.cs];simp[zbU,g1'];exact hF (by rw[aR];simp[g1]) _
  by_cases h6:k=6
  ·subst h6;have aR:zbg aa vars 6 n ks.length=(n == 0 && decide (2≤ks.length) && decide (ks.length≤6)):=rfl;simp only[zcB,VT.cs];cases hn:(n == 0) with
   | false=>
    have:(n != 0)=true:=by simp[bne,hn]
    simp[zbU,this];exact hF (by rw[aR,hn];rfl) _
   | true=>
    have bM:(n != 0)=false:=by simp[bne,hn]
    by_cases g1:ks.length<2
    ·have:(ks.length:Int)<2:=by omega
     simp[zbU,bM,this];exact hF (by rw[aR];simp;omega) _
    ·have g1':¬ (ks.length:Int)<2:=by omega
     by_cases g2:6<ks.length
     ·have:(6:Int)<ks.length:=by omega
      simp[zbU,bM,g1',this];exact hF (by rw[aR];simp;omega) _
     ·have:¬ (6:Int)<ks.length:=by omega
      simp[zbU,bM,g1',this,zeT,zik];exact loop (by rw[aR,hn];simp;omega)
  by_cases iF:k=7∨k=8
  ·have aR:zbg aa vars k n ks.length=(n == 0 && ks.length == 1):=by rcases iF with rfl | rfl <;> rfl
   cases hn:(n == 0) with
   | false=>
    have:(n != 0)=true:=by simp[bne,hn]
    have fin:=hF (by rw[aR,hn];rfl);simp only[zcB,VT.cs];rcases iF with rfl | rfl <;> simp[zbU,zd3,this] <;> exact fin _
   | true=>
    have bM:(n != 0)=false:=by simp[bne,hn]
    by_cases g1:ks.length=1
    ·have g1':((ks.length:Int) != 1)=false:=by simp[g1]
     have fin:=loop (by rw[aR,hn,g1];rfl);simp only[zcB,VT.cs];rcases iF with rfl | rfl <;> simp[zbU,zd3,bM,g1',zeT,zik] <;> exact fin
    ·have g1':((ks.length:Int) != 1)=true:=by simp;omega
     have fin:=hF (by rw[aR];simp[g1]);simp only[zcB,VT.cs];rcases iF with rfl | rfl <;> simp[zbU,zd3,bM,g1'] <;> exact fin _
  have b1:(k == 1)=false:=by simp;omega
  have b2:(k == 2)=false:=by simp;omega
  have b3:(k == 3)=false:=by simp;omega
  have b4:(k == 4)=false:=by simp;omega
  have b5:(k == 5)=false:=by simp;omega
  have b6:(k == 6)=false:=by simp;omega
  have b7:(k == 7)=false:=by simp;omega
  have b8:(k == 8)=false:=by simp;omega
  by_cases h9:k=9
  ·subst h9;have aR:zbg aa vars 9 n ks.length=(n == 0 && decide (1≤ks.length) && decide (ks.length≤7)):=rfl;simp only[zcB,VT.cs];cases hn:(n == 0) with
   | false=>
    have:(n != 0)=true:=by simp[bne,hn]
    simp[zbU,zd3,this];exact hF (by rw[aR,hn];rfl) _
   | true=>
    have bM:(n != 0)=false:=by simp[bne,hn]
    by_cases g1:ks.length<1
    ·have:(ks.length:Int)<1:=by omega
     simp[zbU,zd3,bM,this];exact hF (by rw[aR];simp;omega) _
    ·have g1':¬ (ks.length:Int)<1:=by omega
     by_cases g2:7<ks.length
     ·have:(7:Int)<ks.length:=by omega
      simp[zbU,zd3,bM,g1',this];exact hF (by rw[aR];simp;omega) _
     ·have:¬ (7:Int)<ks.length:=by omega
      simp[zbU,zd3,bM,g1',this,zeT,zik];exact loop (by rw[aR,hn];simp;omega)
  ·have b9:(k == 9)=false:=by simp;omega
   simp only[zcB,VT.cs];simp[zbU,zd3,b1,b2,b3,b4,b5,b6,b7,b8,b9];exact hF (by unfold zbg;simp[b1,b2,b3,b4,b5,b6,b7,b8,b9]) _
theorem zBU (aa:List Dat) (gM:aa.length≤1000000) (vars:Int) (v:VT) (hb:v.nodes≤1000000000) (H:zaa) (K:AV→zaa→Prop) (hK:K (.bool (za1 aa vars v)) H):ACalls tP zjh [.sl (aa.map Dat.cs) .none,.agg v.cs,.int .i64 vars] H K:=by
 refine ACalls.out (zRG λhs=>?_);have hO:∀ J,Out H.length K (.bool (za1 aa vars v)) (H++J):=λJ=>Out.bool rfl (Nat.le_refl _) hs hK;unfold za1 at hO;simp[zBT];refine zCO _ v (Nat.le_refl _) hb _ _ ?_;by_cases h:v.nodes≤200
 ·have h':(v.nodes:Int)≤200:=by omega
  simp[h'];refine zUn aa gM vars _ v (Nat.le_refl _) hb _ _ ?_;simpa[h]using hO _
 ·have h':¬ (v.nodes:Int)≤200:=by omega
  simp[h'];simpa[h]using hO _
def zbY (es:List (List AV)) (id:Nat):AV:=match es with | []=>.snil | _=>.sl es (.own id)
def zcO (e s:Nat) (n:Nat):zaa:=match n with | 0=>[] | n=>[.perm e s n]
theorem zDm (es:List (List AV)) (id:Nat):WkA (zbY es id) (.sl es .none):=by
 cases es with
 | nil=>exact .snil
 | cons e es=>exact .sl _ _
theorem zuC (es:List (List AV)) {id n:Nat} (h:es=[]∨id<n):(zbY es id).scA n=true:=by
 cases es with
 | nil=>rfl
 | cons e es=>
  rcases h with h | h
  ·cases h
  ·simpa[zbY,AV.scA,AV.scB]using h
theorem zDl (es:List (List AV)) (id:Nat):(zbY es id).known=true:=by cases es <;> rfl
theorem zDk (es:List (List AV)) (id:Nat):(zbY es id).cs?=some [zbY es id]:=by cases es <;> rfl
theorem zDn {e s bytes:Nat} {es:List (List AV)} {y:List AV} {t:Tok} {H:zaa} {K:AV→zaa→Prop} (hy:y.length=s) (hb:(es.length+1)*bytes≤140737488355328) (hl:es.length+1≤9223372036854775807)
  (hk:K (zbY (es++[y]) H.length) (H++zcO e s (es.length+1))):zaw e s bytes (zbY es H.length) (.sl [y] t) (H++zcO e s es.length) K:=by
 unfold zaw zaL;refine⟨by simpa using hy,?_⟩;cases es with
 | nil=>unfold zaI;simp[zbY,zcO]at *;exact⟨by omega,hk⟩
 | cons x es=>unfold zaI;simp[zbY,zcO]at *;refine⟨⟨by omega,by omega⟩,hk⟩
theorem zuD {e s bytes id n:Nat} {es:List (List AV)} {y:List AV} {t:Tok} {H0 Hh:zaa} {K:AV→zaa→Prop} (hn:n=es.length) (he:Hh=H0++zcO e s n) (ap:id=H0.length) (hy:y.length=s) (hb:(es.length+1)*bytes≤140737488355328) (hl:es.length+1≤9223372036854775807)
  (hk:K (zbY (es++[y]) id) (H0++zcO e s (n+1))):zaw e s bytes (zbY es id) (.sl [y] t) Hh K:=by
 subst he ap hn;exact zDn hy hb hl hk
@[simp] theorem zXk (es:List (List AV)) (id:Nat):(zbY es id).cs?=some [zbY es id]:=zDk es id
@[simp] theorem zXl (es:List (List AV)) (id:Nat):(zbY es id).known=true:=zDl es id
theorem ze0 {v:VT} {k:AV→Prop}:zau 3 [.int .i64 0,.int .i64 0,.snil] 1 [(0,.agg v.cs)] k=k (.sl [v.cs] .full):=by cases v;exact propext Iff.rfl
theorem zgR {l:List VT} {i:Nat} (h:i<l.length):VT.css (l.take (i+1))=VT.css (l.take i)++[(l[i]).cs]:=by rw[VT.css_map,VT.css_map,List.take_succ_eq_append_getElem h,List.map_append];rfl
theorem zwM {H J:zaa} {K:AV→zaa→Prop} {k n:Int} {ks:List VT} {id:Nat} (hs:HSc H) (hK:K (.agg (VT.mk k n ks).cs) H):Out H.length K (.agg [.int .i64 k,.int .i64 n,zbY (VT.css ks) id]) (H++J):=
 Out.at rfl (Nat.le_refl _) hs (WkV.agg (ds:=[.int .i64 k,.int .i64 n,.sl (VT.css ks) .none]) ⟨.refl _,.refl _,zDm _ _,trivial⟩) rfl (by simp[AV.scV,AV.scA,AV.scB]) (by simpa[VT.cs]using hK)
theorem zD2:∀ (m:Nat) (v:VT),v.nodes≤m→v.nodes≤1000000→∀ (H:zaa) (K:AV→zaa→Prop),K (.agg v.cs) H→ACalls tP zi3 [.agg v.cs] H K:=by
 intro m;induction m with
 | zero=>intro v h;have:=v.nodes_pos;omega
 | succ m ih=>
  intro v hv hb H K hK;obtain⟨k,n,ks⟩:=v;have bY:VT.nodesL ks+1≤1000000:=by simpa[VT.nodes]using hb
  have bn:=VT.len_le ks;refine ACalls.out (zNT λhs=>?_);simp[VT.cs,zAC,zar,zaJ,Nat.add_assoc];refine zNR (Inv:=λq t4 H'=>∃ i:Nat,i≤ks.length∧q=ks.length-i∧t4=.int .i64 i∧H'=H++[.cells [.int .i64 k,.int .i64 n,.sl (VT.css ks) .none],.cells [.int .i64 0,.int .i64 0,.snil],.cells [.int .i64 k,.int .i64 n,zbY (VT.css (ks.take i)) (H.length+3)]]++zcO zaZ 3 i) ks.length ?_ ?_
  ·intro _;exact⟨0,by omega,by omega,rfl,by simp[zcO,zbY,VT.css]⟩
  ·rintro q t4 H' ⟨i,hi,rfl,rfl,rfl⟩ hsc am aP Kb ar;by_cases ak:i<ks.length
   ·have bg:=VT.kid_lt (k:=k) (n:=n) ak;simp[zsg,ak];refine zaC (.agg (ks[i]).cs) (λJ=>ih ks[i] (by omega) (by omega) _ _ ⟨rfl,rfl⟩) ?_;rw[ze0];refine zuD (H0:=H++[.cells [.int .i64 k,.int .i64 n,.sl (VT.css ks) .none],.cells [.int .i64 0,.int .i64 0,.snil],.cells [.int .i64 k,.int .i64 n,zbY (VT.css (ks.take i)) (H.length+3)]]) (n:=i) (by simp;omega) (by simp) (by simp) (by simp) (by simp;omega) (by simp;omega) ?_;rw[←zgR ak];simp;rw[zat (by omega) (by omega)];refine ar _ _ ⟨ks.length-(i+1),by omega,Back.here (by simp[zcO]) ?_ ?_ ⟨_,rfl,i+1,by omega,rfl,by simp,by simp⟩⟩
    ·refine hs.append ?_;simp[AB.sc,zcO,AV.scA,AV.scB];exact zuC _ (.inr (by omega))
    ·simp[zlZ,AV.sc,AV.scV,AV.scA,AV.scB]
   ·obtain rfl:i=ks.length:=by omega
    rw[List.take_length]at *;simp[zsg];exact zwM hs hK
theorem zem (args:List VT):∀ l:List VT,zaN args l=l.map (subst args)
 | []=>rfl
 | t::ts=>by rw[zaN,zem args ts];rfl
theorem zKY (args:List VT) (ha:∀ x∈args,x.nodes≤1000000) (dz:args.length≤1000000):∀ (m:Nat) (v:VT),v.nodes≤m→v.nodes≤1000000→∀ (H:zaa) (K:AV→zaa→Prop),K (.agg (subst args v).cs) H→ACalls tP ziS [.agg v.cs,.sl (VT.css args) .none] H K:=by
 intro m;induction m with
 | zero=>intro v h;have:=v.nodes_pos;omega
 | succ m ih=>
  intro v hv hb H K hK;obtain⟨k,n,ks⟩:=v;have bY:VT.nodesL ks+1≤1000000:=by simpa[VT.nodes]using hb
  have bn:=VT.len_le ks;refine ACalls.out (zKW λhs=>?_);by_cases cy:k=4∧0≤n∧n<args.length
  ·obtain⟨rfl,h0,h1⟩:=cy;have hn:n.toNat<args.length:=by omega
   have cu:K (.agg (args[n.toNat]).cs) H:=by rw[subst,if_pos ⟨rfl,h0,h1⟩,List.getElem?_eq_getElem hn]at hK;exact hK
   simp[VT.cs,zrq,h0,h1,hn];refine zD2 _ _ (Nat.le_refl _) (ha _ (List.getElem_mem hn)) _ _ ?_;generalize args[n.toNat]=x at *;obtain⟨k',n',ks'⟩:=x;simp[VT.cs];exact Out.at rfl (Nat.le_refl _) hs .rfl' rfl rfl cu
  ·have cu:K (.agg (VT.mk k n (zaN args ks)).cs) H:=by rw[subst,if_neg cy]at hK;exact hK
   have go:∀ H1,H1=H++[.cells [.int .i64 k,.int .i64 n,.sl (VT.css ks) .none],.cells [.int .i64 0,.int .i64 0,.snil],.cells [.int .i64 k,.int .i64 n,.snil]]→zrt (.sl (VT.css args) .none) (.ptr H.length 0) (.ptr (H.length+1) 0) (.ptr (H.length+2) 0) (.int .i64 0) H1 (Out H.length K):=by
    rintro _ rfl;refine zKU (Inv:=λq t6 H'=>∃ i:Nat,i≤ks.length∧q=ks.length-i∧t6=.int .i64 i∧H'=H++[.cells [.int .i64 k,.int .i64 n,.sl (VT.css ks) .none],.cells [.int .i64 0,.int .i64 0,.snil],.cells [.int .i64 k,.int .i64 n,zbY (VT.css ((zaN args ks).take i)) (H.length+3)]]++zcO zaZ 3 i) ks.length ?_ ?_
    ·intro _;exact⟨0,by omega,by omega,rfl,by simp[zcO,zbY,VT.css]⟩
    ·rintro q t6 H' ⟨i,hi,rfl,rfl,rfl⟩ hsc am aP Kb ar;by_cases ak:i<ks.length
     ·have bg:=VT.kid_lt (k:=k) (n:=n) ak;have aO:i<(zaN args ks).length:=by rw[zem];simpa using ak
      have jH:(zaN args ks)[i]=subst args ks[i]:=by simp[zem]
      simp[zrr,ak];refine zaC (.agg (subst args ks[i]).cs) (λJ=>ih ks[i] (by omega) (by omega) _ _ ⟨rfl,rfl⟩) ?_;rw[ze0,←jH];refine zuD (H0:=H++[.cells [.int .i64 k,.int .i64 n,.sl (VT.css ks) .none],.cells [.int .i64 0,.int .i64 0,.snil],.cells [.int .i64 k,.int .i64 n,zbY (VT.css ((zaN args ks).take i)) (H.length+3)]]) (n:=i) (by simp;omega) (by simp) (by simp) (by simp) (by simp;omega) (by simp;omega) ?_;rw[←zgR aO];simp;rw[zat (by omega) (by omega)];refine ar _ _ ⟨ks.length-(i+1),by omega,Back.here (by simp[zcO]) ?_ ?_ ⟨_,rfl,i+1,by omega,rfl,by simp,by simp⟩⟩
      ·refine hs.append ?_;simp[AB.sc,zcO,AV.scA,AV.scB];exact zuC _ (.inr (by omega))
      ·simp[zk7,AV.sc,AV.scV,AV.scA,AV.scB]
     ·obtain rfl:i=ks.length:=by omega
      have e:(zaN args ks).take ks.length=zaN args ks:=List.take_of_length_le (by rw[zem];simp);rw[e];simp[zrr];exact zwM hs cu
   simp only[VT.cs,zrq];by_cases h4:k=4
   ·subst h4;by_cases h0:0≤n
    ·have h1:¬ n<args.length:=λh=>cy ⟨rfl,h0,h⟩;simp[h0,h1,zar,zaJ,Nat.add_assoc];exact go _ rfl
    ·simp[h0,zar,zaJ,Nat.add_assoc];exact go _ rfl
   ·have iG:(k == 4)=false:=by simpa using h4
    simp[iG,zar,zaJ,Nat.add_assoc];exact go _ rfl
mutual
theorem zxL {args:List VT} {M:Nat} (h1:1≤M) (ha:∀ x∈args,x.nodes≤M):∀ v:VT,(subst args v).nodes≤v.nodes*M
 | .mk k n ks=>by
  unfold subst;split
  ·rename_i h;have hn:n.toNat<args.length:=by omega
   rw[List.getElem?_eq_getElem hn];have:=ha _ (List.getElem_mem hn);have h2:M≤(VT.mk k n ks).nodes*M:=by have:=(VT.mk k n ks).nodes_pos;exact Nat.le_mul_of_pos_left M this
   simp only[Option.getD_some];omega
  ·have:=zxI h1 ha ks;simp only[VT.nodes,Nat.succ_mul];omega
theorem zxI {args:List VT} {M:Nat} (h1:1≤M) (ha:∀ x∈args,x.nodes≤M):∀ l:List VT,VT.nodesL (zaN args l)≤VT.nodesL l*M
 | []=>by simp[zaN,VT.nodesL]
 | t::ts=>by have h2:=zxL h1 ha t;have h3:=zxI h1 ha ts;simp only[zaN,VT.nodesL,Nat.add_mul];omega
end
theorem zg3 {k n:Int} {ks:List VT}:∀ x∈ks,x.nodes≤(VT.mk k n ks).nodes:=by intro x hx;obtain⟨i,hi,rfl⟩:=List.mem_iff_getElem.1 hx;exact Nat.le_of_lt (VT.kid_lt hi)
theorem ziF {k n:Int} {ks:List VT}:∀ x∈ks,x.nodes<(VT.mk k n ks).nodes:=by intro x hx;obtain⟨i,hi,rfl⟩:=List.mem_iff_getElem.1 hx;exact VT.kid_lt hi
theorem zx8 {H:zaa} {x y:AB}:H++[x,y]=(H++[x])++[y]:=by simp
theorem zc3 (aa:List Dat) (k n:Int) (ks:List VT) (c:Int):zbm aa (.mk k n ks) c=(if k=5∧0≤n∧0≤c then
  match aa[n.toNat]? with
  | some d=>if (ks.length:Int)=d.vars then
    match d.cons[c.toNat]? with
    | some co=>if (co.args.map (subst ks)).all (λx=>decide (x.nodes≤200))=true then some (co.args.map (subst ks)) else none
    | none=>none
   else none
  | none=>none
 else none):=rfl
def zcx (o:Option (List VT)):AV:=match o with
 | some l=>.tup [.sl (VT.css l) .none,.bool true]
 | none=>.tup [.sl [] .none,.bool false]
theorem zv6 {α:Type} {l:List α} {i:Nat} (h:i<l.length) {p:α→Prop} (h1:∀ x∈l.take i,p x) (h2:p l[i]):∀ x∈l.take (i+1),p x:=by
 rw[List.take_succ_eq_append_getElem h];intro x hx;rcases List.mem_append.1 hx with hx | hx
 ·exact h1 x hx
 ·simp at hx;subst hx;exact h2
theorem zbh (v:VT):∃ a b c,v.cs=[a,b,c]∧a.known=true∧b.known=true∧c.known=true:=by obtain⟨k,n,ks⟩:=v;exact⟨_,_,_,rfl,rfl,rfl,rfl⟩
theorem zuc (aa:List Dat) (gM:aa.length≤1000000) (lz:∀ d∈aa,∀ c∈d.cons,c.args.length≤1000∧∀ x∈c.args,x.nodes≤1000) (hdc:∀ d∈aa,d.cons.length≤1000000) (t:VT) (ht:t.nodes≤1000) (c:Int) (H:zaa) (K:AV→zaa→Prop) (hK:K (zcx (zbm aa t c)) H) :
  ACalls tP zht [.sl (aa.map Dat.cs) .none,.agg t.cs,.int .i64 c] H K:=by
 refine ACalls.out (zUy λhs=>?_);obtain⟨k,n,ks⟩:=t;have cI:VT.nodesL ks+1≤1000:=by simpa[VT.nodes]using ht
 have dL:=VT.len_le ks;have hF:zbm aa (.mk k n ks) c=none→∀ J,Out H.length K (.tup [.snil,.bool false]) (H++J):=λh J=>by rw[h]at hK;exact Out.tup hs hK ⟨zdr,zaW rfl rfl,trivial⟩
 have hFF:∀ J,zbm aa (.mk k n ks) c=none→Out H.length K (.tup [.snil,.bool false]) (H++J):=λJ h=>hF h J;simp only[VT.cs,zCR];by_cases h5:k=5;case neg=>
  have:(k != 5)=true:=by simpa using h5
  simp[this,AV.isV];exact hF (by rw[zc3,if_neg (λh=>h5 h.1)]) _
 subst h5;by_cases h0:n<0
 ·simp[h0,AV.isV];exact hF (by rw[zc3,if_neg (λh=>by have:=h.2.1;omega)]) _
 by_cases h1:(aa.length:Int)≤n
 ·simp[h0,h1,AV.isV];exact hF (by
   rw[zc3];split
   ·rw[List.getElem?_eq_none (by omega)]
   ·rfl) _
 have hn:n.toNat<aa.length:=by omega
 have ce:n<aa.length:=by omega
 have fE:0≤n:=by omega
 generalize cL:aa[n.toNat]=d at *;have hd:d∈aa:=by rw[←cL];exact List.getElem_mem hn
 have aA:aa[n.toNat]?=some d:=by rw[List.getElem?_eq_getElem hn,cL]
 cases hv:((ks.length:Int) == d.vars) with
 | false=>
  have bL:((ks.length:Int) != d.vars)=true:=by simp[bne,hv]
  simp[h0,h1,fE,ce,hn,cL,Dat.cs,bL,AV.isV,aA];exact hF (by
   rw[zc3];split
   ·rw[aA];simp only;rw[if_neg (by simpa using hv)]
   ·rfl) _
 | true=>
 have bL:((ks.length:Int) != d.vars)=false:=by simp[bne,hv]
 have lC:(ks.length:Int)=d.vars:=by simpa using hv
 by_cases dT:c<0
 ·simp[h0,h1,fE,ce,hn,cL,Dat.cs,bL,AV.isV,aA,dT];exact hF (by rw[zc3,if_neg (λh=>by have:=h.2.2;omega)]) _
 have dV:∀ o,(match d.cons[c.toNat]? with | some k=>if (k.args.map (subst ks)).all (λx=>decide (x.nodes≤200))=true then some (k.args.map (subst ks)) else none | none=>none)=o→zbm aa (.mk 5 n ks) c=o:=λo h=>by rw[zc3,if_pos ⟨rfl,fE,by omega⟩,aA];simp only;rw[if_pos lC];exact h
 by_cases bH:(d.cons.length:Int)≤c
 ·simp[h0,h1,fE,ce,hn,cL,Dat.cs,bL,AV.isV,aA,dT,bH];exact hF (dV none (by rw[List.getElem?_eq_none (by omega)])) _
 have cc:c.toNat<d.cons.length:=by omega
 have bF:c<d.cons.length:=by omega
 have fF:0≤c:=by omega
 generalize bX:d.cons[c.toNat]=co at *;have dj:co∈d.cons:=by rw[←bX];exact List.getElem_mem cc
 have jq:d.cons[c.toNat]?=some co:=by rw[List.getElem?_eq_getElem cc,bX]
 obtain⟨dz,jI⟩:=lz d hd co dj;have de:=λo=>dV o;rw[jq]at de;simp only at de;have dP:∀ x∈co.args,(subst ks x).nodes≤1000000:=λx hx=>by have h2:=zxL (M:=1000) (by omega) (λy hy=>Nat.le_trans (zg3 (k:=5) (n:=n) y hy) ht) x;have h3:=jI x hx;have:x.nodes*1000≤1000*1000:=Nat.mul_le_mul_right _ h3;omega
 simp[h0,h1,fE,ce,hn,cL,Dat.cs,bL,AV.isV,aA,dT,bH,fF,bF,cc,bX,Con.cs,jq];have aH:∀ m,HSc (H++[.cells [.int .i64 5,.int .i64 n,.sl (VT.css ks) .none],.perm zaZ 3 m]):=λm=>hs.append rfl;unfold znD;refine ALoop.own 8 zaZ 3 rfl ?_;have cg:(H++[AB.cells [.int .i64 5,.int .i64 n,.sl (VT.css ks) .none]]).length=H.length+1:=by simp
 rw[cg,List.append_assoc];show znD (.ptr H.length 0) (.sl [] (.own (H.length+1))) (.sl (VT.css co.args) .none) (.int .i64 co.args.length) (.int .i64 0) (H++[.cells [.int .i64 5,.int .i64 n,.sl (VT.css ks) .none],.perm zaZ 3 0]) (Out H.length K);refine zUw (Inv:=λq t8 t65 H'=>∃ i:Nat,i≤co.args.length∧q=co.args.length-i∧t65=.int .i64 i∧t8=.sl (VT.css ((co.args.map (subst ks)).take i)) (.own (H.length+1))∧(∀ x∈co.args.take i,(subst ks x).nodes≤200)∧H'=H++[.cells [.int .i64 5,.int .i64 n,.sl (VT.css ks) .none],.perm zaZ 3 i]) co.args.length ?_ ?_
 ·intro _;exact⟨0,by omega,by omega,rfl,by simp[VT.css],by simp,rfl⟩
 ·rintro q t8 t65 H' ⟨i,hi,rfl,rfl,rfl,aL,rfl⟩ hsc am aP Kb ar;by_cases ak:i<co.args.length
  ·have bc:=List.getElem_mem ak;have bK:=dP _ bc;obtain⟨x,y,z,az,hx,hy,hz⟩:=zbh co.args[i];simp[zua,ak,az,hx,hy,hz];rw[←az];refine zKY ks (λy hy=>by have:=zg3 (k:=5) (n:=n) y hy;omega) (by omega) _ co.args[i] (Nat.le_refl _) (by have:=jI _ bc;omega) _ _ ?_;obtain⟨x',y',z',hvx',e8,dq,gy⟩:=zbh (subst ks co.args[i]);simp[hvx',e8,dq,gy];rw[←hvx'];refine zCO _ _ (Nat.le_refl _) (by omega) _ _ ?_;by_cases cz:(subst ks co.args[i]).nodes≤200
   ·have fG:¬ (200:Int)<(subst ks co.args[i]).nodes:=by omega
    simp[fG];rw[ze0];simp[zaw,zaL,zaI];refine⟨by omega,by omega,?_⟩;rw[zat (by omega) (by omega),show min i co.args.length=i by omega];refine ar _ _ ⟨co.args.length-(i+1),by omega,Back.at (H2:=H++[.cells [.int .i64 5,.int .i64 n,.sl (VT.css ks) .none],.perm zaZ 3 (i+1)]) (J:=[_,_]) (by simp;exact⟨rfl,rfl⟩) (by simp) (aH _) ?_ ⟨_,_,rfl,i+1,by omega,rfl,by simp,?_,zv6 ak aL cz,rfl⟩⟩
    ·simp[znC,AV.sc,AV.scV,AV.scA,AV.scB]
    ·rw[zgR (by simpa using ak)];simp
   ·have fG:(200:Int)<(subst ks co.args[i]).nodes:=by omega
    simp[fG,AV.isV];refine hF (de none ?_) _;rw[if_neg];intro iH;have:=List.all_eq_true.1 iH (subst ks co.args[i]) (List.mem_map.2 ⟨_,bc,rfl⟩);exact cz (of_decide_eq_true this)
  ·obtain rfl:i=co.args.length:=by omega
   rw[List.take_length]at aL;rw[List.take_of_length_le (by simp)];simp[zua,AV.isV];have fh:=de (some (co.args.map (subst ks))) (if_pos (List.all_eq_true.2 λy hy=>by
    obtain⟨x,hx,rfl⟩:=List.mem_map.1 hy;exact decide_eq_true (aL x hx)))
   rw[fh]at hK;exact Out.tup hs hK ⟨slV,zaW rfl rfl,trivial⟩
theorem zOH:∀ (m:Nat) (v:VT),v.nodes≤m→v.nodes≤1000000000→∀ (H:zaa) (K:AV→zaa→Prop),K (.int .i64 v.nodes) H→ACalls tP zi7 [.agg v.cs] H K:=by
 intro m;induction m with
 | zero=>intro v h;have:=v.nodes_pos;omega
 | succ m ih=>
  intro v hv hb H K hK;obtain⟨k,n,ks⟩:=v;have bY:VT.nodesL ks+1≤1000000000:=by simpa[VT.nodes]using hb
  have bn:=VT.len_le ks;refine ACalls.out (zOF λhs=>?_);simp[VT.cs,zAU];refine zOD (Inv:=λq t3 t4 H'=>∃ i:Nat,i≤ks.length∧q=ks.length-i∧t4=.int .i64 i∧t3=.int .i64 (1+VT.nodesL (ks.take i):Nat)∧H'=H++[.cells [.int .i64 k,.int .i64 n,.sl (VT.css ks) .none]]) ks.length ?_ ?_
  ·intro _;exact⟨0,by omega,by omega,rfl,by simp[VT.nodesL],rfl⟩
  ·rintro q t3 t4 H' ⟨i,hi,rfl,rfl,rfl,rfl⟩ hsc am aP Kb ar;by_cases ak:i<ks.length
   ·have bg:=VT.kid_lt (k:=k) (n:=n) ak;have h1:=VT.nodesL_take ak;have h2:=VT.nodesL_take_le ks (i+1);obtain⟨x,y,z,az,hx,hy,hz⟩:=zbh ks[i];simp[zss,ak,az,hx,hy,hz];rw[←az];refine ih ks[i] (by omega) (by omega) _ _ ?_;simp;rw[zat (by omega) (by omega),zat (by omega) (by omega),zx8];refine ar _ _ ⟨ks.length-(i+1),by omega,Back.same (by simp) hsc ?_ ⟨_,_,rfl,i+1,by omega,rfl,by simp,?_,rfl⟩⟩
    ·simp[zl7,AV.sc,AV.scV,AV.scA,AV.scB]
    ·rw[h1];congr 1;omega
   ·obtain rfl:i=ks.length:=by omega
    simp[zss];refine Out.int rfl (Nat.le_refl _) hs ?_;simpa[VT.nodes,Int.add_comm]using hK
def zcG (f:VT→VT→Bool):List VT→List VT→Bool
 | [],[]=>true
 | a::x,b::y=>f a b && zcG f x y
 | _,_=>false
theorem zoe {f:VT→VT→Bool}:∀ {x y:List VT},x.length≠y.length→zcG f x y=false
 | [],[],h=>(h rfl).elim
 | a::x,b::y,h=>by have:x.length≠y.length:=λe=>h (by simp[e]);simp[zcG,zoe this]
 | [],_::_,_=>rfl
 | _::_,[],_=>rfl
theorem zEH (x:List VT) (hl:x.length≤1000000000) (fv:AV) (H:zaa) (K:AV→zaa→Prop) (jw:fv.sc H.length=true) (Inv:Nat→zaa→Prop) (h0:Inv 0 H)
  (step:∀ (i:Nat) (h:i<x.length) (H':zaa),H.length≤H'.length→Inv i H'→aCallV tP fv [.agg (x[i]).cs] H' λr H''=>(r=.bool false∧Inv (i+1) H'')∨(r=.bool true∧K (.int .i64 i) H''))
  (fin:∀ H',Inv x.length H'→K (.int .i64 (-1)) H'):ACalls tP zpg [.sl (VT.css x) .none,fv] H K:=by
 refine zPv λhs=>?_;simp[zA7];refine zPt (Inv:=λq t8 H'=>∃ i:Nat,i≤x.length∧q=x.length-i∧t8=.int .i64 i∧H.length≤H'.length∧Inv i H') x.length ?_ ?_
 ·intro _;exact⟨0,by omega,by omega,rfl,Nat.le_refl _,h0⟩
 ·rintro q t8 H' ⟨i,hi,rfl,rfl,aS,hI⟩ hsc am aP Kb ar;by_cases ak:i<x.length
  ·simp[zsM,ak];refine (step i ak H' aS hI).mono' λr H'' aM hle' hr=>?_;rcases hr with ⟨rfl,hI'⟩ | ⟨rfl,hk⟩
   ·simp;rw[zat (by omega) (by omega)];refine ar _ _ ⟨x.length-(i+1),by omega,Back.here (by omega) aM ?_ ⟨_,rfl,i+1,by omega,rfl,by simp,by omega,hI'⟩⟩;simp[zml,AV.sc,AV.scV,AV.scA,AV.scB];exact zcc (by omega) jw
   ·simpa using hk
  ·obtain rfl:i=x.length:=by omega
   simp[zsM];exact fin H' hI
theorem zn6 (x:List VT) (hl:x.length≤1000000000) (fv:AV) (H:zaa) (K:AV→zaa→Prop) (jw:fv.sc H.length=true) (Inv:Nat→zaa→Prop) (h0:Inv 0 H)
  (step:∀ (i:Nat) (h:i<x.length) (H':zaa),H.length≤H'.length→Inv i H'→aCallV tP fv [.agg (x[i]).cs] H' λr H''=>(r=.bool false∧Inv (i+1) H'')∨(r=.bool true∧K (.bool true) H''))
  (fin:∀ H',Inv x.length H'→K (.bool false) H'):ACalls tP zfe [.sl (VT.css x) .none,fv] H K:=by
 refine zOx λhs=>?_;unfold zAS;refine zEH x hl fv H _ jw Inv h0 (λi h H' aS hI=>(step i h H' aS hI).mono' λr H'' _ _ hr=>?_) (λH' hI=>?_)
 ·rcases hr with hr | ⟨h1,h2⟩
  ·exact .inl hr
  ·refine .inr ⟨h1,?_⟩;have:decide ((0:Int)≤i)=true:=by simp
   simpa using h2
 ·simpa using fin H' hI
theorem zDN:zd7 tP zi6=true:=by kernel_rfl
section
variable (aa:List Dat) (vars:Int)
theorem zHK:∀ (l:List VT) (i:Nat) (h:i<l.length),zbf aa vars l=true→za3 aa vars l[i]=true:=by
 intro l;induction l with
 | nil=>intro i h;simp at h
 | cons a l ih=>
  intro i h hl;simp[zbf]at hl;cases i with
  | zero=>exact hl.1
  | succ i=>exact ih i (by simpa using h) hl.2
def zbO (left:Int):AB:=.cells [.sl (aa.map Dat.cs) .none,.int .i64 vars,.int .i64 left]
theorem zHU:∀ (m:Nat) (v:VT),v.nodes≤m→v.nodes≤1000000000→∀ (left:Int),left≤1000000→-1≤left→∀ (H:zaa) (id:Nat),H[id]?=some (zbO aa vars left)→∀ (K:AV→zaa→Prop),
  (za3 aa vars v=true→(v.nodes:Int)≤left→K (.bool true) (H.set id (zbO aa vars (left-v.nodes))))→(¬ (za3 aa vars v=true∧(v.nodes:Int)≤left)→∀ l',K (.bool false) (H.set id (zbO aa vars l'))) →
  ACalls tP ziV [.ptr id 0,.agg v.cs] H K:=by
 intro m;induction m with
 | zero=>intro v h;have:=v.nodes_pos;omega
 | succ m ih=>
  intro v hv hb left d8 dQ H id ap K hK hF;obtain⟨k,n,ks⟩:=v;have ak:=zbc ap;have dv:(VT.mk k n ks).nodes=VT.nodesL ks+1:=by simp[VT.nodes]
  have bn:=VT.len_le ks;refine ACalls.out (zMx λhs=>?_)
  -- the heap within: the receiver's copy and the type's
  generalize hJ:([.cells [.ptr id 0],.cells [.int .i64 k,.int .i64 n,.sl (VT.css ks) .none]]:zaa)=J;have gX:J[0]?=some (.cells [.ptr id 0]):=by subst hJ;rfl
  have eR:J[1]?=some (.cells [.int .i64 k,.int .i64 n,.sl (VT.css ks) .none]):=by subst hJ;rfl
  have aA:∀ l',(H.set id (zbO aa vars l')++J)[id]?=some (zbO aa vars l'):=λl'=>zbF (zdo _ ap);have bad:(¬ (za3 aa vars (.mk k n ks)=true∧((VT.mk k n ks).nodes:Int)≤left))→∀ l',Out H.length K (.bool false) (H.set id (zbO aa vars l')++J):=λh l'=>
   Out.bool rfl (by simp) (hs.set rfl) (hF h l')
  have badS:zbg aa vars k n ks.length=false→∀ l',Out H.length K (.bool false) (H.set id (zbO aa vars l')++J):=λh l'=>bad (λ⟨h1,_⟩=>by simp[za3,h]at h1) l'
  -- the arguments
  have args:zbg aa vars k n ks.length=true→1≤left→∀ KK:AV→zaa→Prop,(∀ H',Out H.length K (.bool true) H'→KK (.bool false) H')→(∀ H',Out H.length K (.bool false) H'→KK (.bool true) H') →
    ACalls tP zfe [.sl (VT.css ks) .none,.fn zi6 [.ptr H.length 0]] (H.set id (zbO aa vars (left-1))++J) KK:=by
   intro aR h1 KK hKf hKt;subst hJ;refine zn6 ks (by omega) _ _ _ (by simp[AV.sc,AV.scV,AV.scA,AV.scB]) (λi H'=>(VT.nodesL (ks.take i):Int)+1≤left∧zbf aa vars (ks.take i)=true∧H'=H.set id (zbO aa vars (left-1-VT.nodesL (ks.take i)))++[.cells [.ptr id 0],.cells [.int .i64 k,.int .i64 n,.sl (VT.css ks) .none]]) ⟨by simp[VT.nodesL];omega,by simp[zbf],by simp[VT.nodesL]⟩ ?_ ?_
   ·rintro i hi H' aS ⟨bC,bD,rfl⟩;have bg:=VT.kid_lt (k:=k) (n:=n) hi;have h1:=VT.nodesL_take hi;have h2:=VT.nodesL_take_le ks (i+1);have hokL:zbf aa vars (ks.take (i+1))=(zbf aa vars (ks.take i) && za3 aa vars ks[i]):=by
     rw[List.take_succ_eq_append_getElem hi];have:∀ (l:List VT) (x:VT),zbf aa vars (l++[x])=(zbf aa vars l && za3 aa vars x):=by
      intro l x;induction l with
      | nil=>simp[zbf]
      | cons a l ih=>simp[zbf,ih,Bool.and_assoc]
     exact this _ _
    simp only[aCallV,zDN,List.singleton_append];refine ACalls.out (zOA λbJ=>?_);have cQ:∀ l',HSc (H.set id (zbO aa vars l')++[.cells [.ptr id 0],.cells [.int .i64 k,.int .i64 n,.sl (VT.css ks) .none]]):=λl'=>(hs.set rfl).append (by simp[AB.sc,AV.scA,AV.scB];omega);obtain⟨x1,x2,x3,az,bI,bh,bK⟩:=zbh ks[i];have hll2:(H.set id (zbO aa vars (left-1-VT.nodesL (ks.take i)))).length=H.length:=by simp
    have eq:(H.set id (zbO aa vars (left-1-VT.nodesL (ks.take i)))++[AB.cells [.ptr id 0],.cells [.int .i64 k,.int .i64 n,.sl (VT.css ks) .none],.cells [x1,x2,x3]])[H.length]?=some (.cells [.ptr id 0]):=by rw[List.getElem?_append_right (by simp)];simp
    have lD:(H.set id (zbO aa vars (left-1-VT.nodesL (ks.take i)))++[AB.cells [.ptr id 0],.cells [.int .i64 k,.int .i64 n,.sl (VT.css ks) .none],.cells [x1,x2,x3]])[H.length+2]?=some (.cells [x1,x2,x3]):=by rw[List.getElem?_append_right (by simp)];simp
    simp[zAT,az,eq,lD,hll2];rw[←az];refine ih ks[i] (by omega) (by omega) (left-1-VT.nodesL (ks.take i)) (by omega) (by omega) _ id (zbF (zdo _ ap)) _ ?_ ?_
    ·intro ho hle2;rw[zd5 _ (zdo _ ap),List.set_set,show left-1-(VT.nodesL (ks.take i):Int)-(ks[i]).nodes=left-1-VT.nodesL (ks.take (i+1)) by omega];simp;refine Out.bool (J:=[_]) (H2:=H.set id (zbO aa vars (left-1-VT.nodesL (ks.take (i+1))))++[.cells [.ptr id 0],.cells [.int .i64 k,.int .i64 n,.sl (VT.css ks) .none]]) (by simp;rfl) (by simp) (cQ _) (.inl ⟨rfl,by omega,by rw[hokL,bD,ho];rfl,rfl⟩)
    ·intro ho l';rw[zd5 _ (zdo _ ap),List.set_set];simp;have cV:¬ (za3 aa vars (.mk k n ks)=true∧((VT.mk k n ks).nodes:Int)≤left):=by
      rintro⟨g1,g2⟩;have aL:zbf aa vars ks=true:=by simp[za3]at g1;exact g1.2
      exact ho ⟨zHK aa vars ks i hi aL,by omega⟩
     have hb3:=bad cV l';exact Out.bool (J:=[_]) (H2:=H.set id (zbO aa vars l')++[.cells [.ptr id 0],.cells [.int .i64 k,.int .i64 n,.sl (VT.css ks) .none]]) (by simp;rfl) (by simp) (cQ _) (.inr ⟨rfl,hKt _ hb3⟩)
   ·rintro H' ⟨bC,bD,rfl⟩;rw[List.take_length]at *;refine hKf _ ?_;refine Out.bool rfl (by simp) (hs.set rfl) ?_;have:=hK (by simp[za3,aR,bD]) (by omega);rw[dv]at this;rw[show left-1-(VT.nodesL ks:Int)=left-((VT.nodesL ks+1:Nat):Int) by omega];exact this
  -- behind the shape
  have fin:∀ lo hi:Int,(k≠4→k≠5→n≠0→zbg aa vars k n ks.length=false)→((ks.length:Int)<lo∨hi<(ks.length:Int)→zbg aa vars k n ks.length=false)→1≤left →
    ((k=4∨k=5∨n=0)→lo≤(ks.length:Int)→(ks.length:Int)≤hi→zbg aa vars k n ks.length=true) →
    zgo (.ptr H.length 0) (.ptr (H.length+1) 0) (.int .i64 lo) (.int .i64 hi) (H.set id (zbO aa vars (left-1))++J) (Out H.length K):=by
   intro lo hi hz hr h1 aw;have ko:(H.set id (zbO aa vars (left-1))++J)[H.length+1]?=some (.cells [.int .i64 k,.int .i64 n,.sl (VT.css ks) .none]):=by rw[List.getElem?_append_right (by simp)];subst hJ;simp
   by_cases aD:k=4∨k=5∨n=0
   ·have h3:(k != 4)=false∨((k != 4)=true∧(k != 5)=false)∨((k != 4)=true∧(k != 5)=true∧(n != 0)=false):=by
     by_cases g4:k=4
     ·left;simp[g4]
     ·by_cases g5:k=5
      ·right;left;simp[g5]
      ·right;right;simp[g4,g5];omega
    rcases h3 with g | ⟨g,g'⟩ | ⟨g,g',g''⟩;case' inl=>simp[zgo,ko,eR,g]
    case' inr.inl=>simp[zgo,ko,eR,g,g']
    case' inr.inr=>simp[zgo,ko,eR,g,g',g'']
    all_goals
     by_cases dG:(ks.length:Int)<lo
     ·simp[dG];exact badS (hr (.inl dG)) _
     ·by_cases dF:hi<(ks.length:Int)
      ·simp[dG,dF,eR];exact badS (hr (.inr dF)) _
      ·simp[dG,dF,AV.isB,eR];refine args (aw aD (by omega) (by omega)) h1 _ (λH' ho=>?_) (λH' ho=>?_) <;> simpa using ho
   ·have g:(k != 4)=true:=by simp;omega
    have g':(k != 5)=true:=by simp;omega
    have g'':(n != 0)=true:=by simp;omega
    simp[zgo,ko,eR,g,g',g''];exact badS (hz (by omega) (by omega) (by omega)) _
  have start:(H++J)[id]?=some (zbO aa vars left):=zbF ap;have ew:zrR (.ptr H.length 0) (.ptr (H.length+1) 0) (H.set id (zbO aa vars (left-1))++J) (Out H.length K):=by
   refine zMp λbJ=>?_;have gz:=aA (left-1);unfold zbO at gz;by_cases h0:left-1<0
   ·simp[zrS,gX,zbO,gz,h0];exact bad (λh=>by have:=h.2;rw[dv]at this;omega) _
   have h1:1≤left:=by omega
   simp[zrS,gX,eR,zbO,gz,h0];refine zMs λ_=>?_;have ci:=λlo hi a b c=>fin lo hi a b h1 c;unfold zbO at ci badS
   -- the three without arguments
   by_cases eQ:k=1∨k=2∨k=3
   ·have aR:zbg aa vars k n ks.length=(n == 0 && ks.length == 0):=by rcases eQ with rfl | rfl | rfl <;> rfl
    have:=ci 0 0 (λ_ _ hn=>by rw[aR];simp[hn]) (λh=>by rw[aR];simp;intro _;rintro rfl;simp at h) (λh h2 h3=>by
     have hn:n=0:=by omega
     have hl:ks.length=0:=by omega
     rw[aR,hn,hl];rfl)
    rcases eQ with rfl | rfl | rfl <;> simp[zrT] <;> refine zAe λ_=>?_ <;> simp[zdI,zdt] <;> exact this
   have b1:(k == 1)=false:=by simp;omega
   have b2:(k == 2)=false:=by simp;omega
   have b3:(k == 3)=false:=by simp;omega
   simp[zrT,b1,b2,b3];refine zAe λ_=>?_;by_cases h4:k=4
   ·subst h4;have aR:zbg aa vars 4 n ks.length=(decide (0≤n) && decide (n<vars) && ks.length == 0):=rfl;by_cases g1:n<0
    ·simp[zdI,gX,eR,gz,g1];exact badS (by rw[aR];simp;omega) _
    by_cases g2:vars≤n
    ·simp[zdI,gX,eR,gz,g1,g2];exact badS (by rw[aR];simp;omega) _
    have:=ci 0 0 (λh=>(h rfl).elim) (λh=>by rw[aR];simp;intro _ _;rintro rfl;simp at h) (λh h2 h3=>by
     have hl:ks.length=0:=by omega
     rw[aR,hl];simp;omega)
    simp[zdI,gX,eR,gz,g1,g2,zdt];exact this
   have b4:(k == 4)=false:=by simp;omega
   by_cases h5:k=5
   ·subst h5;have aR:zbg aa vars 5 n ks.length=(decide (0≤n) && (match aa[n.toNat]? with | some d=>(ks.length:Int) == d.vars | none=>false)):=rfl;by_cases g1:n<0
    ·simp[zdI,gX,eR,gz,g1];exact badS (by rw[aR];simp;omega) _
    by_cases g2:(aa.length:Int)≤n
    ·simp[zdI,gX,eR,gz,g1,g2];exact badS (by rw[aR,List.getElem?_eq_none (by omega)];simp) _
    have bY:n.toNat<aa.length:=by omega
    have g2':n<aa.length:=by omega
    have g1':0≤n:=by omega
    rw[List.getElem?_eq_getElem bY]at aR;simp only[g1',decide_true,Bool.true_and]at aR;have:=ci (aa[n.toNat]).vars (aa[n.toNat]).vars (λ_ h=>(h rfl).elim) (λh=>by rw[aR];simp;omega) (λh h2 h3=>by rw[aR];simp;omega);simp[zdI,gX,eR,gz,g1,g2,g1',g2',bY,Dat.cs,zdt];exact this
   have b5:(k == 5)=false:=by simp;omega
   by_cases h6:k=6
   ·subst h6;have aR:zbg aa vars 6 n ks.length=(n == 0 && decide (2≤ks.length) && decide (ks.length≤6)):=rfl;have:=ci 2 6 (λ_ _ hn=>by rw[aR];simp[hn]) (λh=>by rw[aR];simp;intros;omega) (λh h2 h3=>by rw[aR];simp;omega);simp[zdI,zdt];exact this
   have b6:(k == 6)=false:=by simp;omega
   by_cases iF:k=7∨k=8
   ·have aR:zbg aa vars k n ks.length=(n == 0 && ks.length == 1):=by rcases iF with rfl | rfl <;> rfl
    have:=ci 1 1 (λ_ _ hn=>by rw[aR];simp[hn]) (λh=>by rw[aR];simp;intros;omega) (λh h2 h3=>by rw[aR];simp;omega);rcases iF with rfl | rfl <;> simp[zdI] <;> refine zAf λ_=>?_ <;> simp[zlv,zdt] <;> exact this
   have b7:(k == 7)=false:=by simp;omega
   have b8:(k == 8)=false:=by simp;omega
   simp[zdI,b4,b5,b6,b7,b8];refine zAf λ_=>?_;by_cases h9:k=9
   ·subst h9;have aR:zbg aa vars 9 n ks.length=(n == 0 && decide (1≤ks.length) && decide (ks.length≤7)):=rfl;have:=ci 1 7 (λ_ _ hn=>by rw[aR];simp[hn]) (λh=>by rw[aR];simp;intros;omega) (λh h2 h3=>by rw[aR];simp;omega);simp[zlv,zdt];exact this
   ·have b9:(k == 9)=false:=by simp;omega
    simp[zlv,b9];exact badS (by unfold zbg;simp[b1,b2,b3,b4,b5,b6,b7,b8,b9]) _
  subst hJ;unfold zbO at start;simp[zAc,VT.cs,start];rw[zat (by omega) (by omega),zd5 _ ap];exact ew
theorem zy1 (v:VT) (hb:v.nodes≤1000000000) (H:zaa) (K:AV→zaa→Prop) (hK:K (.bool (za1 aa vars v)) H):ACalls tP zhd [.sl (aa.map Dat.cs) .none,.agg v.cs,.int .i64 vars] H K:=by
 refine ACalls.out (zJl λhs=>?_);have hO:∀ J,Out H.length K (.bool (za1 aa vars v)) (H++J):=λJ=>Out.bool rfl (Nat.le_refl _) hs hK;obtain⟨x1,x2,x3,az,bI,bh,bK⟩:=zbh v;simp[zy0,az,zar,zaJ];rw[←az];refine zHU aa vars _ v (Nat.le_refl _) hb 200 (by omega) (by omega) _ (H.length+1) (by simp[zbO]) _ ?_ ?_
 ·intro ho hn;have:za1 aa vars v=true:=by simp[za1,ho];omega
  rw[this]at hO;simp;exact hO _
 ·intro cV l';have:za1 aa vars v=false:=by
   cases h:za1 aa vars v with
   | false=>rfl
   | true=>simp[za1]at h;exact (cV ⟨h.2,by omega⟩).elim
  rw[this]at hO;simp;exact hO _
end
mutual
theorem zxM:∀ v:VT,subst [] v=v
 | .mk k n ks=>by rw[subst,if_neg (by rintro⟨_,h1,h2⟩;simp at h2;omega),zxK ks]
theorem zxK:∀ l:List VT,zaN [] l=l
 | []=>rfl
 | t::ts=>by rw[zaN,zxM t,zxK ts]
end
theorem zOV:∀ (m:Nat) (args:List VT),(∀ x∈args,x.nodes≤1000000)→args.length≤1000000→∀ (v:VT),(if args=[] then v.nodes else v.nodes+1000001)≤m→v.nodes≤1000000→∀ (H:zaa) (K:AV→zaa→Prop),K (.agg (subst args v).cs) H→ACalls tP zhh [.agg v.cs,.sl (VT.css args) .none] H K:=by
 intro m;induction m with
 | zero=>intro args _ _ v h;have:=v.nodes_pos;split at h <;> omega
 | succ m ih=>
  intro args ha dz v hv hb H K hK;obtain⟨k,n,ks⟩:=v;have bY:VT.nodesL ks+1≤1000000:=by simpa[VT.nodes]using hb
  have bn:=VT.len_le ks;refine ACalls.out (zOT λhs=>?_);by_cases cy:k=4∧0≤n∧n<args.length
  ·obtain⟨rfl,h0,h1⟩:=cy;have hn:n.toNat<args.length:=by omega
   have aB:args≠[]:=by rintro rfl;simp at hn
   have cu:K (.agg (args[n.toNat]).cs) H:=by rw[subst,if_pos ⟨rfl,h0,h1⟩,List.getElem?_eq_getElem hn]at hK;exact hK
   have aS:=ha _ (List.getElem_mem hn);simp[VT.cs,zsz,h0,h1,hn];rw[if_neg aB]at hv;refine ACalls.wk (args':=[.agg (args[n.toNat]).cs,.sl (VT.css []) .none]) ?_ ⟨.rfl',.atom .snil,trivial⟩;refine ih [] (by simp) (by simp) _ (by simp;omega) aS _ _ ?_;rw[zxM];generalize args[n.toNat]=x at *;obtain⟨k',n',ks'⟩:=x;simp[VT.cs];exact Out.at rfl (Nat.le_refl _) hs .rfl' rfl rfl cu
  ·have cu:K (.agg (VT.mk k n (zaN args ks)).cs) H:=by rw[subst,if_neg cy]at hK;exact hK
   have go:∀ H1,H1=H++[.cells [.int .i64 k,.int .i64 n,.sl (VT.css ks) .none],.cells [.int .i64 0,.int .i64 0,.snil],.cells [.int .i64 k,.int .i64 n,.snil]]→zh6 (.sl (VT.css args) .none) (.ptr (H.length+1) 0) (.ptr (H.length+2) 0) (.sl (VT.css ks) .none) (.int .i64 ks.length) (.int .i64 0) H1 (Out H.length K):=by
    rintro _ rfl;unfold zh6;refine ALoop.ownC (cs:=[.int .i64 k,.int .i64 n,.snil]) (H.length+2) 2 zaZ 3 (by simp) rfl ?_;have e0:(H++[AB.cells [.int .i64 k,.int .i64 n,.sl (VT.css ks) .none],.cells [.int .i64 0,.int .i64 0,.snil],.cells [.int .i64 k,.int .i64 n,.snil]]).length=H.length+3:=by simp
    rw[e0,zxr,List.append_assoc];have hJ:∀ i X,HSc (H++[.cells [.int .i64 k,.int .i64 n,.sl (VT.css ks) .none],.cells [.int .i64 0,.int .i64 0,.snil],.cells [.int .i64 k,.int .i64 n,.sl X (.own (H.length+3))],.perm zaZ 3 i]):=λi X=>hs.append (by simp[AB.sc,AV.scA,AV.scB]);show zh6 (.sl (VT.css args) .none) (.ptr (H.length+1) 0) (.ptr (H.length+2) 0) (.sl (VT.css ks) .none) (.int .i64 ks.length) (.int .i64 0) (H++[.cells [.int .i64 k,.int .i64 n,.sl (VT.css ks) .none],.cells [.int .i64 0,.int .i64 0,.snil],.cells [.int .i64 k,.int .i64 n,.sl [] (.own (H.length+3))],.perm zaZ 3 0]) (Out H.length K);refine zOR (Inv:=λq t37 H'=>∃ i:Nat,i≤ks.length∧q=ks.length-i∧t37=.int .i64 i∧H'=H++[.cells [.int .i64 k,.int .i64 n,.sl (VT.css ks) .none],.cells [.int .i64 0,.int .i64 0,.snil],.cells [.int .i64 k,.int .i64 n,.sl (VT.css ((zaN args ks).take i)) (.own (H.length+3))],.perm zaZ 3 i]) ks.length ?_ ?_
    ·intro _;exact⟨0,by omega,by omega,rfl,by simp[VT.css]⟩
    ·rintro q t37 H' ⟨i,hi,rfl,rfl,rfl⟩ hsc am aP Kb ar;by_cases ak:i<ks.length
     ·have bg:=VT.kid_lt (k:=k) (n:=n) ak;have dm:(zaN args ks).length=ks.length:=by rw[zem];simp
      have aO:i<(zaN args ks).length:=by omega
      have jH:(zaN args ks)[i]=subst args ks[i]:=by simp[zem]
      obtain⟨x1,x2,x3,az,bI,bh,bK⟩:=zbh ks[i];simp[zsA,ak,az,bI,bh,bK];rw[←az];refine zaC (.agg (subst args ks[i]).cs) (λJ=>ih args ha dz ks[i] (by by_cases he:args=[] <;> simp only[he,if_true,if_false]at hv ⊢ <;> omega) (by omega) _ _ ⟨rfl,rfl⟩) ?_;rw[ze0,←jH];simp[zaw,zaL,zaI,dm];refine⟨by omega,⟨by omega,by omega⟩,?_⟩;rw[zat (by omega) (by omega),show min i ks.length=i by omega];refine ar _ _ ⟨ks.length-(i+1),by omega,Back.at (J:=[_]) (H2:=H++[.cells [.int .i64 k,.int .i64 n,.sl (VT.css ks) .none],.cells [.int .i64 0,.int .i64 0,.snil],.cells [.int .i64 k,.int .i64 n,.sl (VT.css ((zaN args ks).take (i+1))) (.own (H.length+3))],.perm zaZ 3 (i+1)]) (by rw[zgR aO];simp;rfl) (by simp) (hJ _ _) ?_ ⟨_,rfl,i+1,by omega,rfl,by simp,rfl⟩⟩;simp[zmc,AV.sc,AV.scV,AV.scA,AV.scB]
     ·obtain rfl:i=ks.length:=by omega
      have e:(zaN args ks).take ks.length=zaN args ks:=List.take_of_length_le (by rw[zem];simp);rw[e];simp[zsA];exact Out.at rfl (Nat.le_refl _) hs (WkV.agg (ds:=[.int .i64 k,.int .i64 n,.sl (VT.css (zaN args ks)) .none]) ⟨.refl _,.refl _,.sl _ _,trivial⟩) rfl (by simp[AV.scV,AV.scA,AV.scB]) (by simpa[VT.cs]using cu)
   simp only[VT.cs,zsz];by_cases h4:k=4
   ·subst h4;by_cases h0:0≤n
    ·have h1:¬ n<args.length:=λh=>cy ⟨rfl,h0,h⟩;simp[h0,h1,zar,zaJ,Nat.add_assoc];exact go _ rfl
    ·simp[h0,zar,zaJ,Nat.add_assoc];exact go _ rfl
   ·have iG:(k == 4)=false:=by simpa using h4
    simp[iG,zar,zaJ,Nat.add_assoc];exact go _ rfl
def zjQ (args:List VT):AB:=.cells (args.map λx=>.int .i64 x.nodes)
theorem zOO (args:List VT) (ha:∀ x∈args,x.nodes≤1000000) (dz:args.length≤1000000):∀ (m:Nat) (v:VT),v.nodes≤m→v.nodes≤1000000→∀ (H:zaa) (id:Nat),H[id]?=some (zjQ args)→∀ (K:AV→zaa→Prop),
  (∀ r:Nat,(r≤200↔(subst args v).nodes≤200)→(r≤200→r=(subst args v).nodes)→r≤1000000+200*v.nodes→K (.int .i64 r) H)→ACalls tP zi8 [.agg v.cs,.ms id 0 args.length args.length] H K:=by
 intro m;induction m with
 | zero=>intro v h;have:=v.nodes_pos;omega
 | succ m ih=>
  intro v hv hb H id ap K hK;obtain⟨k,n,ks⟩:=v;have bY:VT.nodesL ks+1≤1000000:=by simpa[VT.nodes]using hb
  have bn:=VT.len_le ks;have hidl:=zbc ap;refine ACalls.out (zOM λhs=>?_);by_cases cy:k=4∧0≤n∧n<args.length
  ·obtain⟨rfl,h0,h1⟩:=cy;have hn:n.toNat<args.length:=by omega
   have dP:subst args (.mk 4 n ks)=args[n.toNat]:=by rw[subst,if_pos ⟨rfl,h0,h1⟩,List.getElem?_eq_getElem hn];rfl
   rw[dP]at hK;have hg:(H++[AB.cells [.int .i64 4,.int .i64 n,.sl (VT.css ks) .none]])[id]?=some (zjQ args):=zbF ap;have aS:=ha _ (List.getElem_mem hn);unfold zjQ at hg;simp[VT.cs,zsu,h0,h1,hn,hg,zbo];exact Out.int rfl (Nat.le_refl _) hs (hK _ Iff.rfl (λ_=>rfl) (by omega))
  ·have dP:subst args (.mk k n ks)=.mk k n (zaN args ks):=by rw[subst,if_neg cy]
   have hnodes:(subst args (.mk k n ks)).nodes=VT.nodesL (zaN args ks)+1:=by rw[dP];rfl
   rw[hnodes]at hK;have hO:∀ r:Nat,(r≤200↔VT.nodesL (zaN args ks)+1≤200)→(r≤200→r=VT.nodesL (zaN args ks)+1)→r≤1000000+200*(VT.mk k n ks).nodes→∀ J,Out H.length K (.int .i64 r) (H++J):=λr h1 h2 h3 J=>Out.int rfl (Nat.le_refl _) hs (hK r h1 h2 h3);have dm:(zaN args ks).length=ks.length:=by rw[zem];simp
   have go:zsy (.ms id 0 args.length args.length) (.int .i64 1) (.sl (VT.css ks) .none) (.int .i64 ks.length) (.int .i64 0) (H++[.cells [.int .i64 k,.int .i64 n,.sl (VT.css ks) .none]]) (Out H.length K):=by
    refine zOK (Inv:=λq t5 t31 H'=>∃ i:Nat,i≤ks.length∧q=ks.length-i∧t31=.int .i64 i∧t5=.int .i64 (1+VT.nodesL ((zaN args ks).take i):Nat)∧1+VT.nodesL ((zaN args ks).take i)≤200∧H'=H++[.cells [.int .i64 k,.int .i64 n,.sl (VT.css ks) .none]]) ks.length ?_ ?_
    ·intro _;exact⟨0,by omega,by omega,rfl,by simp[VT.nodesL],by simp[VT.nodesL],rfl⟩
    ·rintro q t5 t31 H' ⟨i,hi,rfl,rfl,rfl,bD,rfl⟩ hsc am aP Kb ar;by_cases ak:i<ks.length
     ·have bg:=VT.kid_lt (k:=k) (n:=n) ak;have aO:i<(zaN args ks).length:=by omega
      have jH:(zaN args ks)[i]=subst args ks[i]:=by simp[zem]
      have h1:=VT.nodesL_take aO;have h2:=VT.nodesL_take_le (zaN args ks) (i+1);rw[jH]at h1;obtain⟨x1,x2,x3,az,bI,bh,bK⟩:=zbh ks[i];simp[zsv,ak,az,bI,bh,bK];rw[←az];refine ih ks[i] (by omega) (by omega) _ id (zbF ap) _ λr fD eu hr3=>?_;simp;rw[zat (by omega) (by omega)];by_cases c6:(200:Int)<1+VT.nodesL ((zaN args ks).take i)+r
      ·simp[c6,zma,zsx];have:=hO (1+VT.nodesL ((zaN args ks).take i)+r) (by constructor <;> intro h <;> omega) (by omega) (by omega);have e:((1+VT.nodesL ((zaN args ks).take i)+r:Nat):Int)=1+(VT.nodesL ((zaN args ks).take i):Int)+r:=by omega
       rw[e]at this;exact this _
      ·have hr:r=(subst args ks[i]).nodes:=eu (by omega);simp[c6];rw[zat (by omega) (by omega),zx8];refine ar _ _ ⟨ks.length-(i+1),by omega,Back.same (by simp) hsc ?_ ⟨_,_,rfl,i+1,by omega,rfl,by simp,?_,by omega,rfl⟩⟩
       ·simp[zl9,AV.sc,AV.scV,AV.scA,AV.scB];omega
       ·congr 1;omega
     ·obtain rfl:i=ks.length:=by omega
      rw[List.take_of_length_le (by omega)]at *;simp[zsv,zma,zsx];have:=hO (1+VT.nodesL (zaN args ks)) (by omega) (by omega) (by omega);have e:((1+VT.nodesL (zaN args ks):Nat):Int)=1+(VT.nodesL (zaN args ks):Int):=by omega
      rw[e]at this;exact this _
   simp only[VT.cs,zsu];by_cases h4:k=4
   ·subst h4;by_cases h0:0≤n
    ·have h1:¬ n<args.length:=λh=>cy ⟨rfl,h0,h⟩;simp[h0,h1];exact go
    ·simp[h0];exact go
   ·have iG:(k == 4)=false:=by simpa using h4
    simp[iG];exact go
def zcV (args:List VT) (i:Nat):List AV:=(args.take i).map (λx=>.int .i64 x.nodes)++List.replicate (args.length-i) (.int .i64 0)
theorem zGw (args:List VT) {i:Nat} (h:i≤args.length):(zcV args i).length=args.length:=by simp[zcV];omega
theorem zGx (args:List VT) {i:Nat} (h:i<args.length):(zcV args i).take i++[.int .i64 (args[i]).nodes]++(zcV args i).drop (i+1)=zcV args (i+1):=by
 have e1:((args.take i).map λx=>AV.int .i64 x.nodes).length=i:=by simp;omega
 unfold zcV;rw[List.take_append_of_le_length (by omega),List.take_of_length_le (by omega),List.drop_append,List.drop_of_length_le (by omega),List.nil_append,e1,List.take_succ_eq_append_getElem h,List.map_append];congr 1;rw[show i+1-i=1 by omega,List.drop_replicate];congr 1
theorem zAj (aa:List Dat) (gM:aa.length≤1000000) (lz:∀ d∈aa,∀ c∈d.cons,c.args.length≤1000∧∀ x∈c.args,x.nodes≤1000) (hdc:∀ d∈aa,d.cons.length≤1000000) (t:VT) (ht:t.nodes≤1000) (c:Int) (H:zaa) (K:AV→zaa→Prop) (hK:K (zcx (zbm aa t c)) H) :
  ACalls tP ziW [.sl (aa.map Dat.cs) .none,.agg t.cs,.int .i64 c] H K:=by
 refine ACalls.out (zMK λhs=>?_);obtain⟨k,n,ks⟩:=t;have cI:VT.nodesL ks+1≤1000:=by simpa[VT.nodes]using ht
 have dL:=VT.len_le ks;have hF:zbm aa (.mk k n ks) c=none→∀ J,Out H.length K (.tup [.snil,.bool false]) (H++J):=λh J=>by rw[h]at hK;exact Out.tup hs hK ⟨zdr,zaW rfl rfl,trivial⟩
 simp only[VT.cs,zAg];by_cases h5:k=5;case neg=>
  have:(k != 5)=true:=by simpa using h5
  simp[this,AV.isV];exact hF (by rw[zc3,if_neg (λh=>h5 h.1)]) _
 subst h5;by_cases h0:n<0
 ·simp[h0,AV.isV];exact hF (by rw[zc3,if_neg (λh=>by have:=h.2.1;omega)]) _
 by_cases h1:(aa.length:Int)≤n
 ·simp[h0,h1,AV.isV];exact hF (by
   rw[zc3];split
   ·rw[List.getElem?_eq_none (by omega)]
   ·rfl) _
 have hn:n.toNat<aa.length:=by omega
 have ce:n<aa.length:=by omega
 have fE:0≤n:=by omega
 generalize cL:aa[n.toNat]=d at *;have hd:d∈aa:=by rw[←cL];exact List.getElem_mem hn
 have aA:aa[n.toNat]?=some d:=by rw[List.getElem?_eq_getElem hn,cL]
 cases hv:((ks.length:Int) == d.vars) with
 | false=>
  have bL:((ks.length:Int) != d.vars)=true:=by simp[bne,hv]
  simp[h0,h1,fE,ce,hn,cL,Dat.cs,bL,AV.isV,aA];exact hF (by
   rw[zc3];split
   ·rw[aA];simp only;rw[if_neg (by simpa using hv)]
   ·rfl) _
 | true=>
 have bL:((ks.length:Int) != d.vars)=false:=by simp[bne,hv]
 have lC:(ks.length:Int)=d.vars:=by simpa using hv
 by_cases dT:c<0
 ·simp[h0,h1,fE,ce,hn,cL,Dat.cs,bL,AV.isV,aA,dT];exact hF (by rw[zc3,if_neg (λh=>by have:=h.2.2;omega)]) _
 have dV:∀ o,(match d.cons[c.toNat]? with | some k=>if (k.args.map (subst ks)).all (λx=>decide (x.nodes≤200))=true then some (k.args.map (subst ks)) else none | none=>none)=o→zbm aa (.mk 5 n ks) c=o:=λo h=>by rw[zc3,if_pos ⟨rfl,fE,by omega⟩,aA];simp only;rw[if_pos lC];exact h
 by_cases bH:(d.cons.length:Int)≤c
 ·simp[h0,h1,fE,ce,hn,cL,Dat.cs,bL,AV.isV,aA,dT,bH];exact hF (dV none (by rw[List.getElem?_eq_none (by omega)])) _
 have cc:c.toNat<d.cons.length:=by omega
 have bF:c<d.cons.length:=by omega
 have fF:0≤c:=by omega
 generalize bX:d.cons[c.toNat]=co at *;have dj:co∈d.cons:=by rw[←bX];exact List.getElem_mem cc
 have jq:d.cons[c.toNat]?=some co:=by rw[List.getElem?_eq_getElem cc,bX]
 obtain⟨dz,jI⟩:=lz d hd co dj;have de:=λo=>dV o;rw[jq]at de;simp only at de;have iI:∀ x∈ks,x.nodes≤1000:=λy hy=>Nat.le_trans (zg3 (k:=5) (n:=n) y hy) ht;simp[h0,h1,fE,ce,hn,cL,Dat.cs,bL,AV.isV,aA,dT,bH,fF,bF,cc,bX,zbp];refine⟨by omega,?_⟩;have ez:List.replicate ks.length (AV.int .i64 0)=zcV ks 0:=by simp[zcV]
 rw[ez];have eS:∀ (l:List AV),(l.all λa=>a.scA (H.length+3))=true→HSc (H++[.cells [.int .i64 5,.int .i64 n,.sl (VT.css ks) .none],.cells [.str d.name,.int .i64 d.vars,.sl (d.cons.map Con.cs) .none],.cells l]):=λl hl=>hs.append (by simp[AB.sc];simpa using hl);have hszsc:∀ i,((zcV ks i).all λa=>a.scA (H.length+3))=true:=λi=>by
  rw[List.all_eq_true];intro x hx;unfold zcV at hx;rcases List.mem_append.1 hx with h | h
  ·obtain⟨y,_,rfl⟩:=List.mem_map.1 h;rfl
  ·rw[List.eq_of_mem_replicate h];rfl
 refine zMG (Inv:=λq t61 H'=>∃ i:Nat,i≤ks.length∧q=ks.length-i∧t61=.int .i64 i∧H'=H++[.cells [.int .i64 5,.int .i64 n,.sl (VT.css ks) .none],.cells [.str d.name,.int .i64 d.vars,.sl (d.cons.map Con.cs) .none],.cells (zcV ks i)]) ks.length ?_ ?_
 ·intro _;exact⟨0,by omega,by omega,rfl,rfl⟩
 ·rintro q t61 H' ⟨i,hi,rfl,rfl,rfl⟩ hsc8 hlen8 hsF8 Kb8 hKb8;by_cases ak:i<ks.length
  ·have aS:=iI _ (List.getElem_mem ak);obtain⟨x1,x2,x3,az,bI,bh,bK⟩:=zbh ks[i];simp[zrX,ak,az,bI,bh,bK];rw[←az];refine zOH _ _ (Nat.le_refl _) (by omega) _ _ ?_;have bn:=zGw ks hi;simp[ak,bn];refine⟨by omega,?_⟩;rw[zat (by omega) (by omega)];have e:=zGx ks ak;rw[List.append_assoc,List.singleton_append]at e;rw[e];refine hKb8 _ _ ⟨ks.length-(i+1),by omega,Back.at (J:=[_]) (H2:=H++[.cells [.int .i64 5,.int .i64 n,.sl (VT.css ks) .none],.cells [.str d.name,.int .i64 d.vars,.sl (d.cons.map Con.cs) .none],.cells (zcV ks (i+1))]) (by simp;rfl) (by simp) (eS _ (hszsc _)) ?_ ⟨_,rfl,i+1,by omega,rfl,by simp,rfl⟩⟩;simp[zlz,AV.sc,AV.scV,AV.scA,AV.scB]
  ·obtain rfl:i=ks.length:=by omega
   have efull:zcV ks ks.length=ks.map λx=>.int .i64 x.nodes:=by simp[zcV]
   have fH:=hsc8;rw[efull]at fH ⊢;simp[zrX,fF,bF,cc,bX,Con.cs,jq];refine zME (Inv:=λq t79 H'=>∃ i:Nat,i≤co.args.length∧q=co.args.length-i∧t79=.int .i64 i∧(∀ x∈co.args.take i,(subst ks x).nodes≤200)∧H'=H++[.cells [.int .i64 5,.int .i64 n,.sl (VT.css ks) .none],.cells [.str d.name,.int .i64 d.vars,.sl (d.cons.map Con.cs) .none],.cells (ks.map λx=>.int .i64 x.nodes)]) co.args.length ?_ ?_
   ·intro _;exact⟨0,by omega,by omega,rfl,by simp,rfl⟩
   ·rintro q t79 H' ⟨i,hi,rfl,rfl,aL,rfl⟩ hsc13 hlen13 hsF13 Kb13 ey;by_cases ak:i<co.args.length
    ·have bc:=List.getElem_mem ak;obtain⟨x1,x2,x3,az,bI,bh,bK⟩:=zbh co.args[i];simp[zrV,ak,az,bI,bh,bK];rw[←az];refine zOO ks (λy hy=>by have:=iI y hy;omega) (by omega) _ co.args[i] (Nat.le_refl _) (by have:=jI _ bc;omega) _ (H.length+2) (by simp[zjQ]) _ λr fD eu hr3=>?_;by_cases c6:r≤200
     ·have cB:¬ (200:Int)<r:=by omega
      simp[cB];rw[zat (by omega) (by omega)];refine ey _ _ ⟨co.args.length-(i+1),by omega,Back.at (J:=[_]) (H2:=H++[.cells [.int .i64 5,.int .i64 n,.sl (VT.css ks) .none],.cells [.str d.name,.int .i64 d.vars,.sl (d.cons.map Con.cs) .none],.cells (ks.map λx=>.int .i64 x.nodes)]) (by simp;rfl) (by simp) fH ?_ ⟨_,rfl,i+1,by omega,rfl,by simp,zv6 ak aL (fD.1 c6),rfl⟩⟩;simp[zlx,AV.sc,AV.scV,AV.scA,AV.scB]
     ·have cB:(200:Int)<r:=by omega
      simp[cB,AV.isV];refine hF (de none ?_) _;rw[if_neg];intro iH;have:=List.all_eq_true.1 iH (subst ks co.args[i]) (List.mem_map.2 ⟨_,bc,rfl⟩);exact c6 (fD.2 (of_decide_eq_true this))
    ·obtain rfl:i=co.args.length:=by omega
     rw[List.take_length]at aL;have fh:=de (some (co.args.map (subst ks))) (if_pos (List.all_eq_true.2 λy hy=>by
      obtain⟨x,hx,rfl⟩:=List.mem_map.1 hy;exact decide_eq_true (aL x hx)))
     rw[fh]at hK;simp[zrV,fF,bF,cc,bX,Con.cs,jq];unfold zlA;refine ALoop.own 14 zaZ 3 rfl ?_;have cg:(H++[AB.cells [.int .i64 5,.int .i64 n,.sl (VT.css ks) .none],.cells [.str d.name,.int .i64 d.vars,.sl (d.cons.map Con.cs) .none],.cells (ks.map λx=>.int .i64 x.nodes)]).length=H.length+3:=by simp
     rw[cg];have aH:∀ m,HSc (H++[.cells [.int .i64 5,.int .i64 n,.sl (VT.css ks) .none],.cells [.str d.name,.int .i64 d.vars,.sl (d.cons.map Con.cs) .none],.cells (ks.map λx=>.int .i64 x.nodes),.perm zaZ 3 m]):=λm=>by have:=fH.append (J:=[.perm zaZ 3 m]) rfl;simpa using this
     rw[List.append_assoc];show zlA (.ptr H.length 0) (.sl [] (.own (H.length+3))) (.sl (VT.css co.args) .none) (.int .i64 co.args.length) (.int .i64 0) (H++[.cells [.int .i64 5,.int .i64 n,.sl (VT.css ks) .none],.cells [.str d.name,.int .i64 d.vars,.sl (d.cons.map Con.cs) .none],.cells (ks.map λx=>.int .i64 x.nodes),.perm zaZ 3 0]) (Out H.length K);refine zMF (Inv:=λq t14 t95 H'=>∃ i:Nat,i≤co.args.length∧q=co.args.length-i∧t95=.int .i64 i∧t14=.sl (VT.css ((co.args.map (subst ks)).take i)) (.own (H.length+3))∧H'=H++[.cells [.int .i64 5,.int .i64 n,.sl (VT.css ks) .none],.cells [.str d.name,.int .i64 d.vars,.sl (d.cons.map Con.cs) .none],.cells (ks.map λx=>.int .i64 x.nodes),.perm zaZ 3 i]) co.args.length ?_ ?_
     ·intro _;exact⟨0,by omega,by omega,rfl,by simp[VT.css],rfl⟩
     ·rintro q t14 t95 H' ⟨i,hi,rfl,rfl,rfl,rfl⟩ hsc20 hlen20 hsF20 Kb20 hKb20;by_cases ak:i<co.args.length
      ·have bc:=List.getElem_mem ak;obtain⟨x1,x2,x3,az,bI,bh,bK⟩:=zbh co.args[i];simp[zrW,ak,az,bI,bh,bK];rw[←az];refine zOV _ ks (λy hy=>by have:=iI y hy;omega) (by omega) co.args[i] (Nat.le_refl _) (by have:=jI _ bc;omega) _ _ ?_;rw[ze0];simp[zaw,zaL,zaI];refine⟨by omega,⟨by omega,by omega⟩,?_⟩;rw[zat (by omega) (by omega),show min i co.args.length=i by omega];refine hKb20 _ _ ⟨co.args.length-(i+1),by omega,Back.at (H2:=H++[.cells [.int .i64 5,.int .i64 n,.sl (VT.css ks) .none],.cells [.str d.name,.int .i64 d.vars,.sl (d.cons.map Con.cs) .none],.cells (ks.map λx=>.int .i64 x.nodes),.perm zaZ 3 (i+1)]) (J:=[_]) (by simp;rfl) (by simp) (aH _) ?_ ⟨_,_,rfl,i+1,by omega,rfl,by simp,?_,rfl⟩⟩
       ·simp[zly,AV.sc,AV.scV,AV.scA,AV.scB]
       ·rw[zgR (by simpa using ak)];simp
      ·obtain rfl:i=co.args.length:=by omega
       rw[List.take_of_length_le (by simp)];simp[zrW,AV.isV];exact Out.tup hs hK ⟨slV,zaW rfl rfl,trivial⟩
def zg2 (i:Nat):VT→Bool
 | .mk k n ks=>k == 4 && n == i && ks.length == 0
def zcH:List VT→Nat→Bool
 | [],_=>true
 | x::l,i=>zg2 i x && zcH l (i+1)
def zb0 (d vars:Int):VT→Bool
 | .mk k n ks=>k == 5 && n == d && (ks.length:Int) == vars && zcH ks 0
mutual
def zcq (d:Int):VT→Bool
 | .mk k n ks=>(k == 5 && n == d) || zeF d ks
def zeF (d:Int):List VT→Bool
 | []=>false
 | t::ts=>zcq d t || zeF d ts
end
theorem zuf (v:VT) (d vars:Int) (hb:v.nodes≤1000000) (H:zaa) (K:AV→zaa→Prop) (hK:K (.bool (zb0 d vars v)) H):ACalls tP zjt [.agg v.cs,.int .i64 d,.int .i64 vars] H K:=by
 refine ACalls.out (zT1 λhs=>?_);obtain⟨k,n,ks⟩:=v;have bY:VT.nodesL ks+1≤1000000:=by simpa[VT.nodes]using hb
 have bn:=VT.len_le ks;have hO:∀ J,Out H.length K (.bool (k == 5 && n == d && (ks.length:Int) == vars && zcH ks 0)) (H++J):=λJ=>Out.bool rfl (Nat.le_refl _) hs (by simpa[zb0]using hK);simp only[VT.cs,zCF];cases h5:(k == 5) with
 | false=>
  have:(k != 5)=true:=by simp[bne,h5]
  rw[h5]at hO;simp[this];exact hO _
 | true=>
 have fI:(k != 5)=false:=by simp[bne,h5]
 cases hn:(n == d) with
 | false=>
  have:(n != d)=true:=by simp[bne,hn]
  rw[h5,hn]at hO;simp[fI,this];exact hO _
 | true=>
 have bM:(n != d)=false:=by simp[bne,hn]
 cases hv:((ks.length:Int) == vars) with
 | false=>
  have:((ks.length:Int) != vars)=true:=by simp[bne,hv]
  rw[h5,hn,hv]at hO;simp[fI,bM,this];exact hO _
 | true=>
 have bL:((ks.length:Int) != vars)=false:=by simp[bne,hv]
 rw[h5,hn,hv]at hO;simp only[Bool.true_and]at hO;simp[fI,bM,bL];refine zTZ (Inv:=λq t7 H'=>∃ i:Nat,i≤ks.length∧q=ks.length-i∧t7=.int .i64 i∧zcH (ks.drop i) i=zcH ks 0∧H'=H++[.cells [.int .i64 k,.int .i64 n,.sl (VT.css ks) .none]]) ks.length ?_ ?_
 ·intro _;exact⟨0,by omega,by omega,rfl,by simp,rfl⟩
 ·rintro q t7 H' ⟨i,hi,rfl,rfl,ho,rfl⟩ hsc am aP Kb ar;by_cases ak:i<ks.length
  ·rw[List.drop_eq_getElem_cons ak,zcH]at ho;obtain⟨k',n',ks',hx⟩:∃ k' n' ks',ks[i]=.mk k' n' ks':=by cases h:ks[i] with | mk a b c=>exact⟨a,b,c,rfl⟩
   rw[hx,zg2]at ho;cases g1:(k' == 4) with
   | false=>
    have:(k' != 4)=true:=by simp[bne,g1]
    rw[g1]at ho;simp only[Bool.false_and]at ho;rw[←ho]at hO;simp[zgx,ak,hx,VT.cs,this];exact hO _
   | true=>
   have g1':(k' != 4)=false:=by simp[bne,g1]
   cases g2:(n' == (i:Int)) with
   | false=>
    have:(n' != (i:Int))=true:=by simp[bne,g2]
    rw[g1,g2]at ho;simp only[Bool.false_and,Bool.and_false]at ho;rw[←ho]at hO;simp[zgx,ak,hx,VT.cs,g1',this];exact hO _
   | true=>
   have g2':(n' != (i:Int))=false:=by simp[bne,g2]
   by_cases g3:ks'.length=0
   ·have g3':¬ (0:Int)<ks'.length:=by omega
    have g3'':¬ 0<ks'.length:=by omega
    rw[g1,g2,g3]at ho;simp only[Bool.true_and,BEq.rfl]at ho;simp[zgx,ak,hx,VT.cs,g1',g2',g3',g3''];rw[zat (by omega) (by omega)];refine ar _ _ ⟨ks.length-(i+1),by omega,Back.here (by simp) hsc ?_ ⟨_,rfl,i+1,by omega,rfl,by simp,ho,rfl⟩⟩;simp[zns,AV.sc,AV.scV,AV.scA,AV.scB]
   ·have g3':(0:Int)<ks'.length:=by omega
    have g3'':0<ks'.length:=by omega
    have g4:(ks'.length == 0)=false:=by simpa using g3
    rw[g4]at ho;simp only[Bool.and_false,Bool.false_and]at ho;rw[←ho]at hO;simp[zgx,ak,hx,VT.cs,g1',g2',g3',g3''];exact hO _
  ·obtain rfl:i=ks.length:=by omega
   rw[List.drop_length,zcH]at ho;rw[←ho]at hO;simp[zgx];exact hO _
theorem zDM:zd7 tP zjb=true:=by kernel_rfl
theorem zv9 (d:Int):∀ l:List VT,zeF d l=l.any (zcq d)
 | []=>rfl
 | t::ts=>by simp[zeF,zv9 d ts]
theorem zPq (d:Int):∀ (m:Nat) (v:VT),v.nodes≤m→v.nodes≤1000000→∀ (H:zaa) (K:AV→zaa→Prop),K (.bool (zcq d v)) H→ACalls tP zja [.agg v.cs,.int .i64 d] H K:=by
 intro m;induction m with
 | zero=>intro v h;have:=v.nodes_pos;omega
 | succ m ih=>
  intro v hv hb H K hK;obtain⟨k,n,ks⟩:=v;have bY:VT.nodesL ks+1≤1000000:=by simpa[VT.nodes]using hb
  have bn:=VT.len_le ks;refine ACalls.out (zPp λhs=>?_);have hO:∀ J,Out H.length K (.bool ((k == 5 && n == d) || ks.any (zcq d))) (H++J):=λJ=>Out.bool rfl (Nat.le_refl _) hs (by simpa[zcq,zv9]using hK);have go:(k == 5 && n == d)=false→∀ KK:AV→zaa→Prop,(∀ b,Out H.length K (.bool b) (H++[.cells [.int .i64 k,.int .i64 n,.sl (VT.css ks) .none],.cells [.int .i64 d]])→KK (.bool b) (H++[.cells [.int .i64 k,.int .i64 n,.sl (VT.css ks) .none],.cells [.int .i64 d]])) →
    ACalls tP zfe [.sl (VT.css ks) .none,.fn zjb [.ptr (H.length+1) 0]] (H++[.cells [.int .i64 k,.int .i64 n,.sl (VT.css ks) .none],.cells [.int .i64 d]]) KK:=by
   intro cV KK hKK;rw[cV,Bool.false_or]at hO;refine zn6 ks (by omega) _ _ _ (by simp[AV.sc,AV.scV,AV.scA,AV.scB]) (λi H'=>(ks.drop i).any (zcq d)=ks.any (zcq d)∧H'=H++[.cells [.int .i64 k,.int .i64 n,.sl (VT.css ks) .none],.cells [.int .i64 d]]) ⟨by simp,rfl⟩ ?_ ?_
   ·rintro i hi H' aS ⟨ho,rfl⟩;have bg:=VT.kid_lt (k:=k) (n:=n) hi;rw[List.drop_eq_getElem_cons hi,List.any_cons]at ho;simp only[aCallV,zDM,List.singleton_append];refine ACalls.out (zPI λbJ=>?_);obtain⟨x1,x2,x3,az,bI,bh,bK⟩:=zbh ks[i];simp[zBb,az];rw[←az];refine ih ks[i] (by omega) (by omega) _ _ ?_;refine Out.bool (J:=[_]) (H2:=H++[.cells [.int .i64 k,.int .i64 n,.sl (VT.css ks) .none],.cells [.int .i64 d]]) (by simp;rfl) (by simp) bJ ?_;cases hb:zcq d ks[i] with
    | false=>rw[hb,Bool.false_or]at ho;exact .inl ⟨rfl,ho,rfl⟩
    | true=>rw[hb,Bool.true_or]at ho;rw[←ho]at hO;exact .inr ⟨rfl,hKK _ (hO _)⟩
   ·rintro H' ⟨ho,rfl⟩;rw[List.drop_length,List.any_nil]at ho;rw[←ho]at hO;exact hKK _ (hO _)
  simp only[VT.cs,zA6];cases h5:(k == 5) with
  | false=>simp[h5,AV.isB];refine go (by rw[h5];rfl) _ λb hb=>?_;simpa using hb
  | true=>
   cases hn:(n == d) with
   | false=>simp[h5,hn,AV.isB];refine go (by rw[hn];simp) _ λb hb=>?_;simpa using hb
   | true=>rw[h5,hn]at hO;simp[h5,hn];exact hO _
def zbC (l:List Bool):List AV:=l.map AV.bool
@[simp] theorem zXm (l:List Bool):(zbC l).length=l.length:=by simp[zbC]
theorem zDH (n:Nat):(List.replicate n [AV.bool false]).flatten=zbC (List.replicate n false):=by
 induction n with
 | zero=>rfl
 | succ n ih=>simp[List.replicate_succ,ih,zbC]
theorem zu2 {l:List Bool} {i:Nat} (h:i<l.length) (b:Bool):(zbC l).take i++.bool b::(zbC l).drop (i+1)=zbC (l.set i b):=by simp[zbC,List.set_eq_take_append_cons_drop,h]
theorem zu1 (m:Nat) (l:List Bool):(zbC l).all (AV.scA m)=true:=by simp[zbC]
theorem zwV:∀ l:List Bool,plain (zbC l)=some (l.map λb=>[AV.bool b]).flatten
 | []=>rfl
 | b::l=>by have:=zwV l;simp[zbC]at this ⊢;simp[plain,this,AV.pd]
theorem zr3 (aa:List Dat) (d:Nat) (c:Nat) (hd:d<aa.length) (hc:c<(aa[d]).cons.length) (hl:aa.length≤1000000) (bo:(aa[d]).cons.length≤1000000) (dz:((aa[d]).cons[c]).args.length≤1000000)
  (hb:∀ x∈((aa[d]).cons[c]).args,x.nodes≤1000000) (H:zaa) (K:AV→zaa→Prop)
  (hK:K (.sl (((aa[d]).cons[c]).args.map λt=>[.bool (zb0 d (aa[d]).vars t)]) .none) H) :
  ACalls tP zfd [.sl (aa.map Dat.cs) .none,.int .i64 d,.int .i64 c] H K:=by
 refine ACalls.out (zMQ λhs=>?_);have e1:(aa.map Dat.cs)[d]?=some (aa[d]).cs:=by simp[hd]
 have e2:((aa[d]).cons.map Con.cs)[c]?=some ((aa[d]).cons[c]).cs:=by simp[hc]
 generalize hD:aa[d]=D at *;generalize hA:D.cons[c]=C at *;have h1:¬ (d:Int)<0:=by omega
 have h2:¬ (aa.length:Int)≤d:=by omega
 have h3:¬ (c:Int)<0:=by omega
 have h4:¬ (D.cons.length:Int)≤c:=by omega
 simp[zAk,h1,h2,h3,h4,e1,e2,Dat.cs,Con.cs,hd,hD,hc,hA];simp only[zbp,Int.toNat_natCast,zDH];refine⟨⟨by omega,by omega,by omega,by omega⟩,?_⟩;refine zMO (Inv:=λq t49 H'=>∃ (i:Nat) (bs:List Bool),i≤C.args.length∧q=C.args.length-i∧t49=.int .i64 i∧bs.length=C.args.length∧(∀ j (hj:j<i) (h':j<C.args.length),bs[j]?=some (zb0 d D.vars C.args[j]))∧H'=H++[.cells (zbC bs)]) C.args.length ?_ ?_
 ·intro _;exact⟨0,_,by omega,by omega,rfl,by simp,by omega,rfl⟩
 ·rintro q t49 H' ⟨i,bs,hi,rfl,rfl,cC,kp,rfl⟩ hsc am aP Kb ar;by_cases ak:i<C.args.length
  ·obtain⟨k,n,ks,hx⟩:∃ k n ks,C.args[i]=.mk k n ks:=by cases h:C.args[i] with | mk a b c=>exact⟨a,b,c,rfl⟩
   have fB:=hb _ (List.getElem_mem ak);rw[hx,VT.nodes]at fB;have bn:=VT.len_le ks;have inner:∀ b0:Bool,b0=(k == 5 && n == (d:Int) && (ks.length:Int) == D.vars) →
     zr2 (.sl (aa.map Dat.cs) .none) (.int .i64 d) (.ms H.length 0 C.args.length C.args.length) (.int .i64 i) (.sl (VT.css C.args) .none) (.int .i64 C.args.length) (.int .i64 i) (.sl (VT.css ks) .none) (.int .i64 ks.length) (.int .i64 0)
      (H++[.cells (zbC (bs.set i b0)),.cells [.int .i64 k,.int .i64 n,.sl (VT.css ks) .none]]) (Out H.length K) Kb:=by
    intro b0 bE;refine zMN (Inv:=λq t80 H'=>∃ (j:Nat) (b:Bool),j≤ks.length∧q=ks.length-j∧t80=.int .i64 j∧(b && zcH (ks.drop j) j)=zb0 d D.vars C.args[i]∧H'=H++[.cells (zbC (bs.set i b)),.cells [.int .i64 k,.int .i64 n,.sl (VT.css ks) .none]]) ks.length ?_ ?_
    ·intro _;exact⟨0,b0,by omega,by omega,rfl,by simp[hx,zb0,bE],rfl⟩
    ·rintro q t80 H' ⟨j,b,hj,rfl,rfl,dX,rfl⟩ iJ cg iK Kb1 d9;have hsc0:∀ b:Bool,HSc (H++[.cells (zbC (bs.set i b))]):=λb=>hs.snoc (by simp[AB.sc,zu1]);have bZ:∀ b:Bool,HSc (H++[.cells (zbC (bs.set i b)),.cells [.int .i64 k,.int .i64 n,.sl (VT.css ks) .none]]):=λb=>hs.append (by simp[AB.sc,zu1]);by_cases aV:j<ks.length
     ·obtain⟨k',n',ks',e8⟩:∃ k' n' ks',ks[j]=.mk k' n' ks':=by cases h:ks[j] with | mk a b c=>exact⟨a,b,c,rfl⟩
      have lr:i<bs.length:=by omega
      rw[List.drop_eq_getElem_cons aV,zcH,e8,zg2]at dX;have eA:∀ (b':Bool) J,(b' && zcH (ks.drop (j+1)) (j+1))=zb0 d D.vars C.args[i]→zr1 (.sl (aa.map Dat.cs) .none) (.int .i64 d) (.ms H.length 0 C.args.length C.args.length) (.int .i64 i) (.sl (VT.css C.args) .none) (.int .i64 C.args.length) (.int .i64 i) (.sl (VT.css ks) .none) (.int .i64 ks.length) (.int .i64 j)
        (H++.cells (zbC (bs.set i b'))::.cells [.int .i64 k,.int .i64 n,.sl (VT.css ks) .none]::J) (Out H.length K) Kb Kb1:=by
       intro b' J jJ;simp[zr1];rw[zat (by omega) (by omega)];refine d9 _ _ ⟨ks.length-(j+1),by omega,Back.at (J:=J) (H2:=H++[.cells (zbC (bs.set i b')),.cells [.int .i64 k,.int .i64 n,.sl (VT.css ks) .none]]) (by simp) (by simp) (bZ _) ?_ ⟨_,rfl,j+1,b',by omega,rfl,by simp,jJ,rfl⟩⟩;simp[zlB,AV.sc,AV.scV,AV.scA,AV.scB]
      have bG:∀ l,List.take i (zbC (bs.set i b))++.bool false::List.drop (i+1) (zbC (bs.set i b))=l→l=zbC (bs.set i false):=by rintro _ rfl;rw[zu2 (by simpa using lr)];simp
      cases g1:(k' == 4) with
      | false=>
       have:(k' != 4)=true:=by simp[bne,g1]
       rw[g1]at dX;simp[zgp,zgq,aV,e8,VT.cs,this,ak,cC,bG _ rfl];refine⟨by omega,eA _ _ ?_⟩;simpa using dX.symm
      | true=>
      have g1':(k' != 4)=false:=by simp[bne,g1]
      cases g2:(n' == (j:Int)) with
      | false=>
       have:(n' != (j:Int))=true:=by simp[bne,g2]
       rw[g1,g2]at dX;simp[zgp,zgq,aV,e8,VT.cs,g1',this,ak,cC,bG _ rfl];refine⟨by omega,eA _ _ ?_⟩;simpa using dX.symm
      | true=>
      have g2':(n' != (j:Int))=false:=by simp[bne,g2]
      by_cases g3:ks'.length=0
      ·have g3':¬ (0:Int)<ks'.length:=by omega
       have g3'':¬ 0<ks'.length:=by omega
       simp[zgp,zgq,aV,e8,VT.cs,g1',g2',g3',g3''];refine eA _ _ ?_;simpa[g1,g2,g3]using dX
      ·have g3':(0:Int)<ks'.length:=by omega
       have g3'':0<ks'.length:=by omega
       have g4:(ks'.length == 0)=false:=by simpa using g3
       rw[g4]at dX;simp[zgp,zgq,aV,e8,VT.cs,g1',g2',g3',g3'',ak,cC,bG _ rfl];refine⟨by omega,eA _ _ ?_⟩;simpa using dX.symm
     ·obtain rfl:j=ks.length:=by omega
      rw[List.drop_length,zcH,Bool.and_true]at dX;simp[zgp];rw[zat (by omega) (by omega)];refine ar _ _ ⟨C.args.length-(i+1),by omega,Back.at (J:=[.cells [.int .i64 k,.int .i64 n,.sl (VT.css ks) .none]]) (H2:=H++[.cells (zbC (bs.set i b))]) (by simp) (by simp) (hsc0 _) ?_ ⟨_,rfl,i+1,bs.set i b,by omega,rfl,by simp,by simpa using cC,?_,rfl⟩⟩
      ·simp[zlC,AV.sc,AV.scV,AV.scA,AV.scB]
      ·intro j hj h';by_cases cJ:j=i
       ·subst cJ;rw[←dX];simp[cC,ak]
       ·rw[List.getElem?_set_ne (by omega)];exact kp j (by omega) h'
   have bG:∀ b l,List.take i (zbC bs)++.bool b::List.drop (i+1) (zbC bs)=l→l=zbC (bs.set i b):=by rintro b _ rfl;rw[zu2 (by omega)]
   cases h5:(k == 5) with
   | false=>simp[zh2,ak,hx,VT.cs,e1,hd,hD,Dat.cs,h5,cC,bG _ _ rfl];refine⟨by omega,inner _ ?_⟩;simp[h5]
   | true=>
   cases hn:(n == (d:Int)) with
   | false=>simp[zh2,ak,hx,VT.cs,e1,hd,hD,Dat.cs,h5,hn,cC,bG _ _ rfl];refine⟨by omega,inner _ ?_⟩;simp[h5,hn]
   | true=>simp[zh2,ak,hx,VT.cs,e1,hd,hD,Dat.cs,h5,hn,cC,bG _ _ rfl];refine⟨by omega,inner _ ?_⟩;simp[h5,hn]
  ·obtain rfl:i=C.args.length:=by omega
   simp[zh2];have ke:bs=C.args.map (zb0 d D.vars):=by refine List.ext_getElem (by simpa using cC) λj h1 h2=>?_;have:=kp j (by omega) (by omega);rw[List.getElem?_eq_getElem h1]at this;simpa using this
   subst ke;refine⟨_,H,_,rfl,Nat.le_refl _,hs,.one (.frz H.length 0 _ _ 1 (zbC (C.args.map (zb0 d D.vars))) (C.args.map λt=>[.bool (zb0 d D.vars t)]) (Nat.le_refl _) (by simp) (by simp) ?_ (by simp) (by simp) (Nat.le_refl _)),hK⟩;rw[List.drop_zero,List.take_of_length_le (by simp),zwV,List.map_map];rfl
end Go.Proofs.YtdmamdnkcefmmaaGreatDoor
namespace Go.Abs
open Go
def zbZ (b:UInt8):Bool:=decide (97≤(b.toNat:Int)) && decide ((b.toNat:Int)≤122)
def bUp (b:UInt8):Bool:=decide (65≤(b.toNat:Int)) && decide ((b.toNat:Int)≤90)
def za2 (b:UInt8):Bool:=decide (48≤(b.toNat:Int)) && decide ((b.toNat:Int)≤57)
def bIn (b:UInt8):Bool:=zbZ b || bUp b || za2 b || b == 95
def zdj (b:UInt8):Bool:=b == 9 || b == 10 || b == 13 || b == 32
def zb8:List UInt8→Int→Bool
 | [],_=>true
 | b::l,n=>let m:=n*10+((b.toNat:Int)-48)
  if m>1000000 then false else zb8 l m
def zdp (r:List UInt8):Bool:=r.take 2 == [45,62] || r.take 2 == [60,61] || r.take 2 == [61,61]
def sgns:List UInt8:=[40,41,44,61,124,43,45,42,47,37,60,59,95]
def sgn (r:List UInt8):Nat:=
 if zdp r=true then 2 else match r with
 | []=>0
 | b::_=>if sgns.contains b=true then 1 else 0
structure Tk where
 kind:Int
 text:List UInt8
 pos:Nat
def tok (kw:List UInt8→Bool) (b:UInt8) (r:List UInt8):Except Int (Int × Nat):=
 if (zbZ b || bUp b)=true then
  let n:=(r.takeWhile bIn).length+1
  if n>24 then .error 9 else .ok (if bUp b=true then 2 else if kw ((b::r).take n)=true then 4 else 1,n)
 else if za2 b=true then
  let n:=(r.takeWhile za2).length+1
  if b == 48 && decide (n>1) then .error 2 else if zb8 ((b::r).take n) 0=true then .ok (3,n) else .error 9
 else
  let n:=sgn (b::r)
  if n=0 then .error 2 else .ok (5,n)
theorem zqo {kw:List UInt8→Bool} {b:UInt8} {r:List UInt8} {k:Int} {n:Nat} (h:tok kw b r=.ok (k,n)):0<n:=by
 unfold tok at h;split at h
 ·simp only at h;split at h <;> simp at h;omega
 ·split at h
  ·simp only at h;split at h
   ·simp at h
   ·split at h <;> simp at h;omega
  ·simp only at h;split at h <;> simp at h;omega
def zbB (kw:List UInt8→Bool) (r:List UInt8) (pos:Nat):Except (Nat × Int) (List Tk):=
 match r with
 | []=>.ok [⟨6,[],pos⟩]
 | b::r'=>
  if zdj b=true then zbB kw r' (pos+1)
  else if b == 35 then zbB kw (r'.dropWhile (· != 10)) (pos+1+(r'.takeWhile (· != 10)).length)
  else match tok kw b r' with
   | .error e=>.error (pos,e)
   | .ok (k,n)=>match zbB kw (r'.drop (n-1)) (pos+n) with
    | .error e=>.error e
    | .ok l=>.ok (⟨k,(b::r').take n,pos⟩::l)
termination_by r.length
decreasing_by
 ·simp
 ·have:=(List.dropWhile_sublist (p:=(· != 10)) (l:=r')).length_le;simp;omega
 ·simp;omega
end Go.Abs
namespace Go.Proofs.YtdmamdnkcefmmaaGreatDoor
open Go Go.Abs
set_option maxRecDepth 100000
section
variable (t0 t5 t6 t7 t8 t9:AV) (H:zaa) (K:Kt) (Kb5 Kb9 Kb10 Kb18 Kb29:Lt)
def zfC:Nat→List Bool | 5=>rl false [0,1,4,2,54] | 9=>rl false [0,1,4,2,54] | _=>[]
noncomputable def zsJ:Code:=Tryz.f227.body.getD .skip
noncomputable def zPm:List ResultVar:=Tryz.f227.results.toList
def zgs:List AV:=t0::ux 4 (t5::t6::ux 54 [])
def zA5:List Bool:=zfC 5
noncomputable def zsK:Code:=zaq [1,0,1,1,1,1,0,0,0] zsJ
def zA2:AExit→List AV→zaa→Prop:=zas tP zfC [1,0,1,1,1,1,0,0] zsJ (zay tP zPm K)
def zmj:Prop:=ALoop tP zsK (zA2 K) (zgs t0 t5 t6) H
def zgt (t0 t5 t6:AV) (H:zaa) (K:Kt) (Kb5:Lt):Prop:=Kb5 (zgs t0 t5 t6) H
def zmh:List AV:=t0::ux 4 (t5::t6::ux 54 [])
def zPk:List Bool:=zfC 9
noncomputable def zPh:Code:=zaq [1,0,1,0,1,0,0,0,0] zsK
def zPg:AExit→List AV→zaa→Prop:=zas tP zfC [1,0,1,0,1,0,0,0] zsK (zb1 zA5 Kb5 (zA2 K))
def zA4:Prop:=ALoop tP zPh (zPg K Kb5) (zmh t0 t5 t6) H
def zA3:Prop:=zah 0 t0 λt57=>zar [(.int .i64 0),(.str []),(.int .i64 0)] [(0,1),(1,1),(2,1)] [(0,(.int .i64 6)),(2,t57)] λt58=>zau 3 [(.int .i64 0),(.str []),(.int .i64 0)] 1 [(0,t58)] λt59=>zaw zeB 3 32 t5 t59 H λt60 H=>zaD [t60,(.int .i64 0),(.int .i64 0)] (K · H)
def zmi:Prop:=zA3 t0 t5 H K
def zsI:Prop:=zah 0 t0 λt28=>zac .lss false t6 t28 λt29=>zag t29 (zbE t0 t6 λt34=>zac .eql false t34 (.int .u8 10) λt35=>zag t35 (zgt t0 t5 t6 H K Kb5) (zac .add false t6 (.int .i64 1) λt31=>Kb9 (zmh t0 t5 t31) H)) (zmi t0 t5 H K)
def zsH:Prop:=zah 0 t0 λt14=>zac .lss false t6 t14 λt15=>zag t15 (zbE t0 t6 λt18=>ACalls tP zpi [t18] H λt19 H=>zag t19 (zac .add false t6 (.int .i64 1) λt21=>zgt t0 t5 t21 H K Kb5) (zbE t0 t6 λt24=>zac .eql false t24 (.int .u8 35) λt25=>zag t25 (zA4 t0 t5 t6 H K Kb5) (ACalls tP zpj [t0,t6] H λt39 H=>zaz t39 0 λt40=>zaz t39 1 λt41=>zax [(.int .i64 0),(.str []),(.int .i64 0)] H λt7 H=>zan 3 t7 t40 H λH=>zac .neq false t41 (.int .i64 0) λt43=>zag t43 (zaD [.snil,t6,t41] (K · H)) (zae true 3 t7 H λt47=>zau 3 [(.int .i64 0),(.str []),(.int .i64 0)] 1 [(0,t47)] λt48=>zaw zeB 3 32 t5 t48 H λt49 H=>zaf 1 t7 λt51=>zae false 1 t51 H λt52=>zah 0 t52 λt53=>zac .add false t6 t53 λt54=>zgt t0 t49 t54 H K Kb5)))) (zmi t0 t5 H K)
def zsG:Prop:=zah 0 t0 λt10=>zac .gtr false t10 (.int .i64 16384) λt11=>zag t11 (zaD [.snil,(.int .i64 0),(.int .i64 9)] (K · H)) (zmj t0 .snil (.int .i64 0) H K)
def zdb:Nat→List Bool | 5=>rl false [0,1,4,2,193] | 10=>rl false [0,1,4,2,193] | 18=>rl false [0,1,4,4,191] | 29=>rl false [0,1,4,4,191] | _=>[]
noncomputable def zrn:Code:=Tryz.f145.body.getD .skip
noncomputable def zKR:List ResultVar:=Tryz.f145.results.toList
def zfw:List AV:=t0::ux 4 (t5::t6::ux 193 [])
def zk5:List Bool:=zdb 5
noncomputable def zfv:Code:=zaq [1,1,1,0,1,0,0] zrn
def zkZ:AExit→List AV→zaa→Prop:=zas tP zdb [1,1,1,0,1,0] zrn (zay tP zKR K)
def zk4:Prop:=ALoop tP zfv (zkZ K) (zfw t0 t5 t6) H
def zeO (t0 t5 t6:AV) (H:zaa) (K:Kt) (Kb5:Lt):Prop:=Kb5 (zfw t0 t5 t6) H
def zk2:List AV:=t0::ux 4 (t5::t6::ux 193 [])
def zKN:List Bool:=zdb 10
noncomputable def zKG:Code:=zaq [1,0,1,1,0,1,0,0,0,0] zfv
def zKD:AExit→List AV→zaa→Prop:=zas tP zdb [1,0,1,1,0,1,0,0,0] zfv (zb1 zk5 Kb5 (zkZ K))
def zzr:Prop:=ALoop tP zKG (zKD K Kb5) (zk2 t0 t5 t6) H
def zrk:Prop:=zah 0 t0 λt42=>zac .lss false t6 t42 λt43=>zad t43 true H (λK'=>K' t0 H) λt45 H=>zad t43 true H (λK'=>K' t6 H) λt46 H=>zad t43 true H (λK'=>zbE t45 t46 (K' · H)) λt47 H=>zad t43 true H (λK'=>zac .neq false t47 (.int .u8 10) (K' · H)) λt48 H=>zaj t43 t48 (.bool false) λt49=>zag t49 (zac .add false t6 (.int .i64 1) λt51=>Kb10 (zk2 t0 t5 t51) H) (zeO t0 t5 t6 H K Kb5)
def zhX:List AV:=t0::ux 4 (t5::t6::t7::t8::ux 191 [])
def zKO:List Bool:=zdb 18
noncomputable def zKH:Code:=zaq [1,0,1,1,1,1,0,0,1,0,0,0,0] zfv
def zKE:AExit→List AV→zaa→Prop:=zas tP zdb [1,0,1,1,1,1,0,0,1,0,0,0] zfv (zb1 zk5 Kb5 (zkZ K))
def zro:Prop:=ALoop tP zKH (zKE K Kb5) (zhX t0 t5 t6 t7 t8) H
def zhY:Prop:=zac .add false t6 t8 λt193=>zeO t0 t5 t193 H K Kb5
def zeQ:Prop:=zhY t0 t5 t6 t8 H K Kb5
def zeP:Prop:=zac .add false t6 t8 λt135=>zaR 0 0 t0 (some t6) (some t135) λt136=>zar [(.int .i64 0),(.str []),(.int .i64 0)] [(0,1),(1,1),(2,1)] [(0,t9),(1,t136),(2,t6)] λt138=>zau 3 [(.int .i64 0),(.str []),(.int .i64 0)] 1 [(0,t138)] λt139=>zaw zbt 3 32 t5 t139 H λt140 H=>zeQ t0 t140 t6 t8 H K Kb5
def zrl:Prop:=zac .add false t6 t8 λt79=>zah 0 t0 λt81=>zac .lss false t79 t81 λt82=>zad t82 true H (λK'=>K' t0 H) λt84 H=>zad t82 true H (λK'=>K' t6 H) λt85 H=>zad t82 true H (λK'=>K' t8 H) λt86 H=>zad t82 true H (λK'=>zac .add false t85 t86 (K' · H)) λt87 H=>zad t82 true H (λK'=>zbE t84 t87 (K' · H)) λt88 H=>zad t82 true H (λK'=>ACalls tP zi0 [t88] H K') λt89 H=>zad t82 true H (λK'=>K' t89 H) λt90 H=>zad t90 false H (λK'=>K' t0 H) λt91 H=>zad t90 false H (λK'=>K' t6 H) λt92 H=>zad t90 false H (λK'=>K' t8 H) λt93 H=>zad t90 false H (λK'=>zac .add false t92 t93 (K' · H)) λt94 H=>zad t90 false H (λK'=>zbE t91 t94 (K' · H)) λt95 H=>zad t90 false H (λK'=>ACalls tP zf1 [t95] H K') λt96 H=>zad t82 true H (λK'=>zaj t90 (.bool true) t96 (K' · H)) λt97 H=>zad t82 true H (λK'=>K' t97 H) λt98 H=>zad t98 false H (λK'=>K' t0 H) λt99 H=>zad t98 false H (λK'=>K' t6 H) λt100 H=>zad t98 false H (λK'=>K' t8 H) λt101 H=>zad t98 false H (λK'=>zac .add false t100 t101 (K' · H)) λt102 H=>zad t98 false H (λK'=>zbE t99 t102 (K' · H)) λt103 H=>zad t98 false H (λK'=>ACalls tP zhf [t103] H K') λt104 H=>zad t82 true H (λK'=>zaj t98 (.bool true) t104 (K' · H)) λt105 H=>zad t82 true H (λK'=>K' t105 H) λt106 H=>zad t106 false H (λK'=>K' t0 H) λt107 H=>zad t106 false H (λK'=>K' t6 H) λt108 H=>zad t106 false H (λK'=>K' t8 H) λt109 H=>zad t106 false H (λK'=>zac .add false t108 t109 (K' · H)) λt110 H=>zad t106 false H (λK'=>zbE t107 t110 (K' · H)) λt111 H=>zad t106 false H (λK'=>zac .eql false t111 (.int .u8 95) (K' · H)) λt112 H=>zad t82 true H (λK'=>zaj t106 (.bool true) t112 (K' · H)) λt113 H=>zaj t82 t113 (.bool false) λt114=>zag t114 (zac .add false t8 (.int .i64 1) λt116=>Kb18 (zhX t0 t5 t6 t7 t116) H) (zac .gtr false t8 (.int .i64 24) λt118=>zag t118 (zaD [.snil,t6,(.int .i64 9)] (K · H)) (ACalls tP zf1 [t7] H λt121 H=>zag t121 (zeP t0 t5 t6 t8 (.int .i64 2) H K Kb5) (zac .add false t6 t8 λt126=>zaR 0 0 t0 (some t6) (some t126) λt127=>ACalls tP zi1 [t127] H λt128 H=>zag t128 (zeP t0 t5 t6 t8 (.int .i64 4) H K Kb5) (zeP t0 t5 t6 t8 (.int .i64 1) H K Kb5))))
def zk3:List AV:=t0::ux 4 (t5::t6::t7::t8::ux 191 [])
def zKP:List Bool:=zdb 29
noncomputable def zKI:Code:=zaq [1,0,1,1,1,1,0,0,1,1,1,0,0,0,0] zfv
def zKF:AExit→List AV→zaa→Prop:=zas tP zdb [1,0,1,1,1,1,0,0,1,1,1,0,0,0] zfv (zb1 zk5 Kb5 (zkZ K))
def zrp:Prop:=ALoop tP zKI (zKF K Kb5) (zk3 t0 t5 t6 t7 t8) H
def zrm:Prop:=zac .add false t6 t8 λt146=>zah 0 t0 λt148=>zac .lss false t146 t148 λt149=>zad t149 true H (λK'=>K' t0 H) λt151 H=>zad t149 true H (λK'=>K' t6 H) λt152 H=>zad t149 true H (λK'=>K' t8 H) λt153 H=>zad t149 true H (λK'=>zac .add false t152 t153 (K' · H)) λt154 H=>zad t149 true H (λK'=>zbE t151 t154 (K' · H)) λt155 H=>zad t149 true H (λK'=>ACalls tP zhf [t155] H K') λt156 H=>zaj t149 t156 (.bool false) λt157=>zag t157 (zac .add false t8 (.int .i64 1) λt159=>Kb29 (zk3 t0 t5 t6 t7 t159) H) (zac .gtr false t8 (.int .i64 1) λt161=>zad t161 true H (λK'=>K' t7 H) λt163 H=>zad t161 true H (λK'=>zac .eql false t163 (.int .u8 48) (K' · H)) λt164 H=>zaj t161 t164 (.bool false) λt165=>zag t165 (zaD [.snil,t6,(.int .i64 2)] (K · H)) (zac .add false t6 t8 λt172=>zaR 0 0 t0 (some t6) (some t172) λt173=>ACalls tP zf2 [t173] H λt174 H=>zaz t174 0 λt175=>zaz t174 1 λt176=>aUn .not t176 λt178=>zag t178 (zaD [.snil,t6,(.int .i64 9)] (K · H)) (zac .add false t6 t8 λt185=>zaR 0 0 t0 (some t6) (some t185) λt186=>zar [(.int .i64 0),(.str []),(.int .i64 0)] [(0,1),(1,1),(2,1)] [(0,(.int .i64 3)),(1,t186),(2,t6)] λt188=>zau 3 [(.int .i64 0),(.str []),(.int .i64 0)] 1 [(0,t188)] λt189=>zaw zbt 3 32 t5 t189 H λt190 H=>zeQ t0 t190 t6 t8 H K Kb5)))
def zk0:Prop:=zah 0 t0 λt17=>zac .lss false t6 t17 λt18=>zag t18 (zbE t0 t6 λt21=>zac .eql false t21 (.int .u8 9) λt23=>zad t23 false H (λK'=>K' t21 H) λt25 H=>zad t23 false H (λK'=>zac .eql false t25 (.int .u8 10) (K' · H)) λt26 H=>zaj t23 (.bool true) t26 λt27=>zad t27 false H (λK'=>K' t21 H) λt29 H=>zad t27 false H (λK'=>zac .eql false t29 (.int .u8 13) (K' · H)) λt30 H=>zaj t27 (.bool true) t30 λt31=>zad t31 false H (λK'=>K' t21 H) λt33 H=>zad t31 false H (λK'=>zac .eql false t33 (.int .u8 32) (K' · H)) λt34 H=>zaj t31 (.bool true) t34 λt35=>zag t35 (zac .add false t6 (.int .i64 1) λt37=>zeO t0 t5 t37 H K Kb5) (zac .eql false t21 (.int .u8 35) λt39=>zag t39 (zzr t0 t5 t6 H K Kb5) (ACalls tP zi0 [t21] H λt72 H=>zad t72 false H (λK'=>K' t21 H) λt74 H=>zad t72 false H (λK'=>ACalls tP zf1 [t74] H K') λt75 H=>zaj t72 (.bool true) t75 λt76=>zag t76 (zro t0 t5 t6 t21 (.int .i64 1) H K Kb5) (ACalls tP zhf [t21] H λt143 H=>zag t143 (zrp t0 t5 t6 t21 (.int .i64 1) H K Kb5) (zaR 0 0 t0 (some t6) none λt54=>ACalls tP zo8 [t54] H λt55 H=>zac .eql false t55 (.int .i64 0) λt57=>zag t57 (zaD [.snil,t6,(.int .i64 2)] (K · H)) (zac .add false t6 t55 λt64=>zaR 0 0 t0 (some t6) (some t64) λt65=>zar [(.int .i64 0),(.str []),(.int .i64 0)] [(0,1),(1,1),(2,1)] [(0,(.int .i64 5)),(1,t65),(2,t6)] λt67=>zau 3 [(.int .i64 0),(.str []),(.int .i64 0)] 1 [(0,t67)] λt68=>zaw zbt 3 32 t5 t68 H λt69 H=>zeQ t0 t69 t6 t55 H K Kb5)))))) (zah 0 t0 λt196=>zar [(.int .i64 0),(.str []),(.int .i64 0)] [(0,1),(1,1),(2,1)] [(0,(.int .i64 6)),(1,(.str [])),(2,t196)] λt197=>zau 3 [(.int .i64 0),(.str []),(.int .i64 0)] 1 [(0,t197)] λt198=>zaw zbt 3 32 t5 t198 H λt199 H=>zaD [t199,(.int .i64 0),(.int .i64 0)] (K · H))
def zrj:Prop:=zah 0 t0 λt13=>zac .gtr false t13 (.int .i64 16384) λt14=>zag t14 (zaD [.snil,(.int .i64 0),(.int .i64 9)] (K · H)) (zk4 t0 .snil (.int .i64 0) H K)
def zPA (_:Nat):List Bool:=[]
noncomputable def zPB:Code:=Tryz.f245.body.getD .skip
def zA9:Prop:=zac .eql false t0 (.int .u8 9) λt4=>zad t4 false H (λK'=>K' t0 H) λt6 H=>zad t4 false H (λK'=>zac .eql false t6 (.int .u8 10) (K' · H)) λt7 H=>zaj t4 (.bool true) t7 λt8=>zad t8 false H (λK'=>K' t0 H) λt10 H=>zad t8 false H (λK'=>zac .eql false t10 (.int .u8 13) (K' · H)) λt11 H=>zaj t8 (.bool true) t11 λt12=>zad t12 false H (λK'=>K' t0 H) λt14 H=>zad t12 false H (λK'=>zac .eql false t14 (.int .u8 32) (K' · H)) λt15 H=>zaj t12 (.bool true) t15 λt16=>K t16 H
variable {t0 t5 t6 t7 t8 t9} {H} {K} {Kb5 Kb9 Kb10 Kb18 Kb29}
theorem zPj (Inv:Nat→AV→zaa→Prop) (n:Nat) (h0:HSc H→Inv n t6 H)
  (ac:Rd1 (λt6=>zmh t0 t5 t6) (λt6=>λH Kb9=>zsI t0 t5 t6 H K Kb5 Kb9) H Inv):zA4 t0 t5 t6 H K Kb5:=
 lp1 (M:=zfC) zPk t6 (by kernel_rfl) Inv n h0 ac
theorem zPi (Inv:Nat→AV→AV→zaa→Prop) (n:Nat) (h0:HSc H→Inv n t5 t6 H)
  (ac:Rd2 (λt5=>λt6=>zgs t0 t5 t6) (λt5=>λt6=>λH Kb5=>zsH t0 t5 t6 H K Kb5) H Inv):zmj t0 t5 t6 H K:=
 lp2 (M:=zfC) zA5 t5 t6 (by kernel_rfl) Inv n h0 ac
theorem zPl (h:HSc H→zsG t0 H K):ACalls tP zpf [t0] H K:=
 acb zfC Tryz.func227 zsJ (by kernel_rfl) (by kernel_rfl) h
theorem zKJ (Inv:Nat→AV→zaa→Prop) (n:Nat) (h0:HSc H→Inv n t6 H)
  (ac:Rd1 (λt6=>zk2 t0 t5 t6) (λt6=>λH Kb10=>zrk t0 t5 t6 H K Kb5 Kb10) H Inv):zzr t0 t5 t6 H K Kb5:=
 lp1 (M:=zdb) zKN t6 (by kernel_rfl) Inv n h0 ac
theorem zKK (Inv:Nat→AV→zaa→Prop) (n:Nat) (h0:HSc H→Inv n t8 H)
  (ac:Rd1 (λt8=>zhX t0 t5 t6 t7 t8) (λt8=>λH Kb18=>zrl t0 t5 t6 t7 t8 H K Kb5 Kb18) H Inv):zro t0 t5 t6 t7 t8 H K Kb5:=
 lp1 (M:=zdb) zKO t8 (by kernel_rfl) Inv n h0 ac
theorem zKL (Inv:Nat→AV→zaa→Prop) (n:Nat) (h0:HSc H→Inv n t8 H)
  (ac:Rd1 (λt8=>zk3 t0 t5 t6 t7 t8) (λt8=>λH Kb29=>zrm t0 t5 t6 t7 t8 H K Kb5 Kb29) H Inv):zrp t0 t5 t6 t7 t8 H K Kb5:=
 lp1 (M:=zdb) zKP t8 (by kernel_rfl) Inv n h0 ac
theorem zKM (Inv:Nat→AV→AV→zaa→Prop) (n:Nat) (h0:HSc H→Inv n t5 t6 H)
  (ac:Rd2 (λt5=>λt6=>zfw t0 t5 t6) (λt5=>λt6=>λH Kb5=>zk0 t0 t5 t6 H K Kb5) H Inv):zk4 t0 t5 t6 H K:=
 lp2 (M:=zdb) zk5 t5 t6 (by kernel_rfl) Inv n h0 ac
theorem zKQ (h:HSc H→zrj t0 H K):ACalls tP zoW [t0] H K:=
 acb zdb Tryz.func145 zrn (by kernel_rfl) (by kernel_rfl) h
theorem zPC (h:HSc H→zA9 t0 H K):ACalls tP zpi [t0] H K:=
 acb zPA Tryz.func245 zPB (by kernel_rfl) (by kernel_rfl) h
end
section
variable (t0 t1 t3 t4 t5 t6 t7:AV) (H:zaa) (K:Kt) (Kb2 Kb3 Kb5:Lt)
def zPD (_:Nat):List Bool:=[]
noncomputable def zPE:Code:=Tryz.f246.body.getD .skip
def zBa:Prop:=zae true 3 t6 H λt74=>zan 3 t4 t74 H λH=>zae true 3 t4 H λr0=>zaD [r0,(.int .i64 0)] (K · H)
def zgv:Prop:=zBa t4 t6 H K
def zgu:Prop:=zgv t4 t6 H K
def zsQ:Prop:=zax [(.int .i64 0),(.str []),(.int .i64 0)] H λt4 H=>zar [(.int .i64 0),(.str []),(.int .i64 0)] [(0,1),(1,1),(2,1)] [(2,t1)] λt9=>zax [(.int .i64 0),(.str []),(.int .i64 0)] H λt6 H=>zan 3 t6 t9 H λH=>zbE t0 t1 λt12=>ACalls tP zjc [t12] H λt25 H=>zad t25 false H (λK'=>K' t12 H) λt27 H=>zad t25 false H (λK'=>ACalls tP zhi [t27] H K') λt28 H=>zaj t25 (.bool true) t28 λt29=>zag t29 (zaR 0 0 t0 (some t1) none λt32=>ACalls tP zjd [t32,(.fn zhj [])] H λt33 H=>zaf 1 t6 λt34=>zan 1 t34 t33 H λH=>zaf 1 t6 λt37=>zae false 1 t37 H λt38=>zah 0 t38 λt39=>zac .gtr false t39 (.int .i64 24) λt40=>zag t40 (zar [(.int .i64 0),(.str []),(.int .i64 0)] [(0,1),(1,1),(2,1)] [] λt41=>zan 3 t4 t41 H λH=>zae true 3 t4 H λr0=>zaD [r0,(.int .i64 9)] (K · H)) (ACalls tP zhi [t12] H λt44 H=>zag t44 (zaf 0 t6 λt45=>zan 1 t45 (.int .i64 2) H λH=>zgu t4 t6 H K) (zaf 1 t6 λt47=>zae false 1 t47 H λt48=>ACalls tP zpk [t48] H λt49 H=>zag t49 (zaf 0 t6 λt50=>zan 1 t50 (.int .i64 4) H λH=>zgu t4 t6 H K) (zaf 0 t6 λt35=>zan 1 t35 (.int .i64 1) H λH=>zgu t4 t6 H K)))) (ACalls tP zff [t12] H λt53 H=>zag t53 (zaf 0 t6 λt54=>zan 1 t54 (.int .i64 3) H λH=>zaR 0 0 t0 (some t1) none λt57=>ACalls tP zjd [t57,(.fn zff [])] H λt58 H=>zaf 1 t6 λt59=>zan 1 t59 t58 H λH=>zac .eql false t12 (.int .u8 48) λt61=>zad t61 true H (λK'=>zaf 1 t6 (K' · H)) λt63 H=>zad t61 true H (λK'=>zae false 1 t63 H (K' · H)) λt64 H=>zad t61 true H (λK'=>zah 0 t64 (K' · H)) λt65 H=>zad t61 true H (λK'=>zac .gtr false t65 (.int .i64 1) (K' · H)) λt66 H=>zaj t61 t66 (.bool false) λt67=>zag t67 (zar [(.int .i64 0),(.str []),(.int .i64 0)] [(0,1),(1,1),(2,1)] [] λt68=>zan 3 t4 t68 H λH=>zae true 3 t4 H λr0=>zaD [r0,(.int .i64 2)] (K · H)) (zaf 1 t6 λt69=>zae false 1 t69 H λt70=>ACalls tP zhk [t70] H λt71 H=>aUn .not t71 λt72=>zag t72 (zar [(.int .i64 0),(.str []),(.int .i64 0)] [(0,1),(1,1),(2,1)] [] λt73=>zan 3 t4 t73 H λH=>zae true 3 t4 H λr0=>zaD [r0,(.int .i64 9)] (K · H)) (zgv t4 t6 H K))) (zaf 0 t6 λt13=>zan 1 t13 (.int .i64 5) H λH=>zaR 0 0 t0 (some t1) none λt16=>ACalls tP zpl [t16] H λt17 H=>zaf 1 t6 λt18=>zan 1 t18 t17 H λH=>zaf 1 t6 λt19=>zae false 1 t19 H λt20=>zac .eql false t20 (.str []) λt21=>zag t21 (zar [(.int .i64 0),(.str []),(.int .i64 0)] [(0,1),(1,1),(2,1)] [] λt22=>zan 3 t4 t22 H λH=>zae true 3 t4 H λr0=>zaD [r0,(.int .i64 2)] (K · H)) (zgv t4 t6 H K)))
def zNo (_:Nat):List Bool:=[]
noncomputable def zNp:Code:=Tryz.f188.body.getD .skip
def zAv:Prop:=zac .geq false t0 (.int .u8 97) λt4=>zad t4 true H (λK'=>K' t0 H) λt6 H=>zad t4 true H (λK'=>zac .leq false t6 (.int .u8 122) (K' · H)) λt7 H=>zaj t4 t7 (.bool false) λt8=>K t8 H
def zNr (_:Nat):List Bool:=[]
noncomputable def zNs:Code:=Tryz.f189.body.getD .skip
def zAw:Prop:=zac .geq false t0 (.int .u8 65) λt4=>zad t4 true H (λK'=>K' t0 H) λt6 H=>zad t4 true H (λK'=>zac .leq false t6 (.int .u8 90) (K' · H)) λt7 H=>zaj t4 t7 (.bool false) λt8=>K t8 H
def zNu (_:Nat):List Bool:=[]
noncomputable def zNv:Code:=Tryz.f190.body.getD .skip
def zAx:Prop:=zac .geq false t0 (.int .u8 48) λt4=>zad t4 true H (λK'=>K' t0 H) λt6 H=>zad t4 true H (λK'=>zac .leq false t6 (.int .u8 57) (K' · H)) λt7 H=>zaj t4 t7 (.bool false) λt8=>K t8 H
def zlQ:Nat→List Bool | 3=>rl false [0,1,2,2,13] | _=>[]
noncomputable def zsa:Code:=Tryz.f191.body.getD .skip
noncomputable def zNC:List ResultVar:=Tryz.f191.results.toList
def zlS:List AV:=t0::ux 2 (t3::t4::ux 13 [])
def zNA:List Bool:=zlQ 3
noncomputable def zNy:Code:=zaq [1,1,0,1,0,0] zsa
def zNx:AExit→List AV→zaa→Prop:=zas tP zlQ [1,1,0,1,0] zsa (zay tP zNC K)
def zsb:Prop:=ALoop tP zNy (zNx K) (zlS t0 t3 t4) H
def zlR:Prop:=zah 1 t3 λt8=>zac .lss false t4 t8 λt9=>zag t9 (zai 1 t3 t4 λt14=>zae false 1 t14 H λt15=>zac .eql false t15 t0 λt17=>zag t17 (K (.bool true) H) (zac .add false t4 (.int .i64 1) λt11=>Kb3 (zlS t0 t3 t11) H)) (K (.bool false) H)
def zAy:Prop:=zau 1 [(.str [])] 28 [(0,(.str [97,114,114,97,121])),(1,(.str [98,111,111,108])),(2,(.str [99,97,116,99,104])),(3,(.str [100,97,116,97])),(4,(.str [101,108,115,101])),(5,(.str [101,110,100])),(6,(.str [102,97,108,115,101])),(7,(.str [102,110])),(8,(.str [102,117,110])),(9,(.str [103,101,116])),(10,(.str [105,102])),(11,(.str [105,110])),(12,(.str [105,110,116])),(13,(.str [108,101,110])),(14,(.str [108,101,116])),(15,(.str [109,97,116,99,104])),(16,(.str [110,101,119])),(17,(.str [114,97,105,115,101])),(18,(.str [114,101,97,100])),(19,(.str [114,101,102])),(20,(.str [115,101,116])),(21,(.str [116,104,101,110])),(22,(.str [116,105,99,107])),(23,(.str [116,114,117,101])),(24,(.str [116,114,121])),(25,(.str [117,110,105,116])),(26,(.str [119,105,116,104])),(27,(.str [119,114,105,116,101]))] λt5=>zsb t0 t5 (.int .i64 0) H K
def zlT:Nat→List Bool | 3=>rl false [0,1,3,2,17] | _=>[]
noncomputable def zsd:Code:=Tryz.f192.body.getD .skip
noncomputable def zNI:List ResultVar:=Tryz.f192.results.toList
def zlU:List AV:=t0::ux 3 (t4::t5::ux 17 [])
def zNG:List Bool:=zlT 3
noncomputable def zNE:Code:=zaq [1,1,0,1,0,0] zsd
def zND:AExit→List AV→zaa→Prop:=zas tP zlT [1,1,0,1,0] zsd (zay tP zNI K)
def zAB:Prop:=ALoop tP zNE (zND K) (zlU t0 t4 t5) H
def zsc:Prop:=zah 0 t0 λt8=>zac .lss false t5 t8 λt9=>zag t9 (zac .mul false t4 (.int .i64 10) λt13=>zbE t0 t5 λt16=>zac .sub false t16 (.int .u8 48) λt17=>za4 .i64 t17 λt18=>zac .add false t13 t18 λt19=>zac .gtr false t19 (.int .i64 1000000) λt21=>zag t21 (zaD [(.int .i64 0),(.bool false)] (K · H)) (zac .add false t5 (.int .i64 1) λt11=>Kb3 (zlU t0 t19 t11) H)) (zaD [t4,(.bool true)] (K · H))
def zAA:Prop:=zAB t0 (.int .i64 0) (.int .i64 0) H K
def zlV:Nat→List Bool | 5=>rl false [0,1,2,2,30] | _=>[]
noncomputable def zse:Code:=Tryz.f193.body.getD .skip
noncomputable def zNO:List ResultVar:=Tryz.f193.results.toList
def zlX:List AV:=t0::ux 2 (t3::t4::ux 30 [])
def zNM:List Bool:=zlV 5
noncomputable def zNK:Code:=zaq [1,1,1,0,1,0,0] zse
def zNJ:AExit→List AV→zaa→Prop:=zas tP zlV [1,1,1,0,1,0] zse (zay tP zNO K)
def zsf:Prop:=ALoop tP zNK (zNJ K) (zlX t0 t3 t4) H
def zlW:Prop:=zah 0 t3 λt25=>zac .lss false t4 t25 λt26=>zag t26 (zab H (λK'=>K' t0 H) λt29=>zab H (λK'=>zbE t29 (.int .i64 0) (K' · H)) λt30=>zab H (λK'=>K' t3 H) λt31=>zab H (λK'=>K' t4 H) λt32=>zab H (λK'=>zbE t31 t32 (K' · H)) λt33=>zab H (λK'=>zac .eql false t30 t33 (K' · H)) λt34=>zag t34 (K (.int .i64 1) H) (zac .add false t4 (.int .i64 1) λt28=>Kb5 (zlX t0 t3 t28) H)) (K (.int .i64 0) H)
def zgr:Prop:=zah 0 t0 λt6=>zac .geq false t6 (.int .i64 2) λt7=>zad t7 true H (λK'=>K' t0 H) λt9 H=>zad t7 true H (λK'=>zaR 0 0 t9 none (some (.int .i64 2)) (K' · H)) λt10 H=>zad t7 true H (λK'=>zac .eql false t10 (.str [45,62]) (K' · H)) λt11 H=>zad t7 true H (λK'=>K' t11 H) λt12 H=>zad t12 false H (λK'=>K' t0 H) λt13 H=>zad t12 false H (λK'=>zaR 0 0 t13 none (some (.int .i64 2)) (K' · H)) λt14 H=>zad t12 false H (λK'=>zac .eql false t14 (.str [60,61]) (K' · H)) λt15 H=>zad t7 true H (λK'=>zaj t12 (.bool true) t15 (K' · H)) λt16 H=>zad t7 true H (λK'=>K' t16 H) λt17 H=>zad t17 false H (λK'=>K' t0 H) λt18 H=>zad t17 false H (λK'=>zaR 0 0 t18 none (some (.int .i64 2)) (K' · H)) λt19 H=>zad t17 false H (λK'=>zac .eql false t19 (.str [61,61]) (K' · H)) λt20 H=>zad t7 true H (λK'=>zaj t17 (.bool true) t20 (K' · H)) λt21 H=>zaj t7 t21 (.bool false) λt22=>zag t22 (K (.int .i64 2) H) (zsf t0 (.str [40,41,44,61,124,43,45,42,47,37,60,59,95]) (.int .i64 0) H K)
def zPS (_:Nat):List Bool:=[]
noncomputable def zPT:Code:=Tryz.f255.body.getD .skip
def zBg:Prop:=zac .geq false t0 (.int .u8 97) λt4=>zad t4 true H (λK'=>K' t0 H) λt6 H=>zad t4 true H (λK'=>zac .leq false t6 (.int .u8 122) (K' · H)) λt7 H=>zaj t4 t7 (.bool false) λt8=>K t8 H
def zPV (_:Nat):List Bool:=[]
noncomputable def zPW:Code:=Tryz.f256.body.getD .skip
def zBh:Prop:=zac .geq false t0 (.int .u8 65) λt4=>zad t4 true H (λK'=>K' t0 H) λt6 H=>zad t4 true H (λK'=>zac .leq false t6 (.int .u8 90) (K' · H)) λt7 H=>zaj t4 t7 (.bool false) λt8=>K t8 H
def zmq:Nat→List Bool | 2=>rl false [0,2,3,1,16] | _=>[]
noncomputable def zsX:Code:=Tryz.f257.body.getD .skip
noncomputable def zP3:List ResultVar:=Tryz.f257.results.toList
def zmr:List AV:=t0::t1::ux 3 (t5::ux 16 [])
def zP1:List Bool:=zmq 2
noncomputable def zPZ:Code:=zaq [1,1,0,0,0] zsX
def zPY:AExit→List AV→zaa→Prop:=zas tP zmq [1,1,0,0] zsX (zay tP zP3 K)
def zBj:Prop:=ALoop tP zPZ (zPY K) (zmr t0 t1 t5) H
def zsW:Prop:=zah 0 t0 λt8=>zac .lss false t5 t8 λt9=>zad t9 true H (λK'=>K' t1 H) λt11 H=>zad t9 true H (λK'=>K' t0 H) λt12 H=>zad t9 true H (λK'=>K' t5 H) λt13 H=>zad t9 true H (λK'=>zbE t12 t13 (K' · H)) λt14 H=>zad t9 true H (λK'=>aCallV tP t11 [t14] H K') λt15 H=>zaj t9 t15 (.bool false) λt16=>zag t16 (zac .add false t5 (.int .i64 1) λt18=>Kb2 (zmr t0 t1 t18) H) (zaR 0 0 t0 none (some t5) λt21=>K t21 H)
def zBi:Prop:=zBj t0 t1 (.int .i64 0) H K
def zP4 (_:Nat):List Bool:=[]
noncomputable def zP5:Code:=Tryz.f258.body.getD .skip
def zBk:Prop:=ACalls tP zjc [t0] H λt4 H=>zad t4 false H (λK'=>K' t0 H) λt6 H=>zad t4 false H (λK'=>ACalls tP zhi [t6] H K') λt7 H=>zaj t4 (.bool true) t7 λt8=>zad t8 false H (λK'=>K' t0 H) λt10 H=>zad t8 false H (λK'=>ACalls tP zff [t10] H K') λt11 H=>zaj t8 (.bool true) t11 λt12=>zad t12 false H (λK'=>K' t0 H) λt14 H=>zad t12 false H (λK'=>zac .eql false t14 (.int .u8 95) (K' · H)) λt15 H=>zaj t12 (.bool true) t15 λt16=>K t16 H
def zP7 (_:Nat):List Bool:=[]
noncomputable def zP8:Code:=Tryz.f259.body.getD .skip
def zbn:Prop:=zag t4 (K (.bool true) H) (K (.bool false) H)
def zBl:Prop:=zac .eql false t0 (.str [97,114,114,97,121]) λt5=>zag t5 (zbn t5 H K) (zac .eql false t0 (.str [98,111,111,108]) λt6=>zag t6 (zbn t6 H K) (zac .eql false t0 (.str [99,97,116,99,104]) λt7=>zag t7 (zbn t7 H K) (zac .eql false t0 (.str [100,97,116,97]) λt8=>zag t8 (zbn t8 H K) (zac .eql false t0 (.str [101,108,115,101]) λt9=>zag t9 (zbn t9 H K) (zac .eql false t0 (.str [101,110,100]) λt10=>zag t10 (zbn t10 H K) (zac .eql false t0 (.str [102,97,108,115,101]) λt11=>zag t11 (zbn t11 H K) (zac .eql false t0 (.str [102,110]) λt12=>zag t12 (zbn t12 H K) (zac .eql false t0 (.str [102,117,110]) λt13=>zag t13 (zbn t13 H K) (zac .eql false t0 (.str [103,101,116]) λt14=>zag t14 (zbn t14 H K) (zac .eql false t0 (.str [105,102]) λt15=>zag t15 (zbn t15 H K) (zac .eql false t0 (.str [105,110]) λt16=>zag t16 (zbn t16 H K) (zac .eql false t0 (.str [105,110,116]) λt17=>zag t17 (zbn t17 H K) (zac .eql false t0 (.str [108,101,110]) λt18=>zag t18 (zbn t18 H K) (zac .eql false t0 (.str [108,101,116]) λt19=>zag t19 (zbn t19 H K) (zac .eql false t0 (.str [109,97,116,99,104]) λt20=>zag t20 (zbn t20 H K) (zac .eql false t0 (.str [110,101,119]) λt21=>zag t21 (zbn t21 H K) (zac .eql false t0 (.str [114,97,105,115,101]) λt22=>zag t22 (zbn t22 H K) (zac .eql false t0 (.str [114,101,97,100]) λt23=>zag t23 (zbn t23 H K) (zac .eql false t0 (.str [114,101,102]) λt24=>zag t24 (zbn t24 H K) (zac .eql false t0 (.str [115,101,116]) λt25=>zag t25 (zbn t25 H K) (zac .eql false t0 (.str [116,104,101,110]) λt26=>zag t26 (zbn t26 H K) (zac .eql false t0 (.str [116,105,99,107]) λt27=>zag t27 (zbn t27 H K) (zac .eql false t0 (.str [116,114,117,101]) λt28=>zag t28 (zbn t28 H K) (zac .eql false t0 (.str [116,114,121]) λt29=>zag t29 (zbn t29 H K) (zac .eql false t0 (.str [117,110,105,116]) λt30=>zag t30 (zbn t30 H K) (zac .eql false t0 (.str [119,105,116,104]) λt31=>zag t31 (zbn t31 H K) (zac .eql false t0 (.str [119,114,105,116,101]) λt32=>zbn t32 H K)))))))))))))))))))))))))))
def zQa (_:Nat):List Bool:=[]
noncomputable def zQb:Code:=Tryz.f260.body.getD .skip
def zBm:Prop:=zac .geq false t0 (.int .u8 48) λt4=>zad t4 true H (λK'=>K' t0 H) λt6 H=>zad t4 true H (λK'=>zac .leq false t6 (.int .u8 57) (K' · H)) λt7 H=>zaj t4 t7 (.bool false) λt8=>K t8 H
def zms:Nat→List Bool | 3=>rl false [0,1,2,1,2,2,13] | _=>[]
noncomputable def zsZ:Code:=Tryz.f261.body.getD .skip
noncomputable def zQi:List ResultVar:=Tryz.f261.results.toList
def zmt:List AV:=t0::ux 2 (t3::ux 2 (t6::t7::ux 13 []))
def zQg:List Bool:=zms 3
noncomputable def zQe:Code:=zaq [1,1,0,1,0,0] zsZ
def zQd:AExit→List AV→zaa→Prop:=zas tP zms [1,1,0,1,0] zsZ (zay tP zQi K)
def zBo:Prop:=ALoop tP zQe (zQd K) (zmt t0 t3 t6 t7) H
def zsY:Prop:=zac .lss false t7 t6 λt8=>zag t8 (zac .mul false t3 (.int .i64 10) λt11=>zbE t0 t7 λt14=>zac .sub false t14 (.int .u8 48) λt15=>za4 .i64 t15 λt16=>zac .add false t11 t16 λt17=>zac .gtr false t17 (.int .i64 1000000) λt19=>zag t19 (K (.bool false) H) (zac .add false t7 (.int .i64 1) λt20=>Kb3 (zmt t0 t17 t6 t20) H)) (K (.bool true) H)
def zBn:Prop:=zah 0 t0 λt6=>zBo t0 (.int .i64 0) t6 (.int .i64 0) H K
variable {t0 t1 t3 t4 t5 t6 t7} {H} {K} {Kb2 Kb3 Kb5}
theorem zPF (h:HSc H→zsQ t0 t1 H K):ACalls tP zpj [t0,t1] H K:=
 acb zPD Tryz.func246 zPE (by kernel_rfl) (by kernel_rfl) h
theorem zNq (h:HSc H→zAv t0 H K):ACalls tP zi0 [t0] H K:=
 acb zNo Tryz.func188 zNp (by kernel_rfl) (by kernel_rfl) h
theorem zNt (h:HSc H→zAw t0 H K):ACalls tP zf1 [t0] H K:=
 acb zNr Tryz.func189 zNs (by kernel_rfl) (by kernel_rfl) h
theorem zNw (h:HSc H→zAx t0 H K):ACalls tP zhf [t0] H K:=
 acb zNu Tryz.func190 zNv (by kernel_rfl) (by kernel_rfl) h
theorem zNz (Inv:Nat→AV→zaa→Prop) (n:Nat) (h0:HSc H→Inv n t4 H)
  (ac:Rd1 (λt4=>zlS t0 t3 t4) (λt4=>λH Kb3=>zlR t0 t3 t4 H K Kb3) H Inv):zsb t0 t3 t4 H K:=
 lp1 (M:=zlQ) zNA t4 (by kernel_rfl) Inv n h0 ac
theorem zNB (h:HSc H→zAy t0 H K):ACalls tP zi1 [t0] H K:=
 acb zlQ Tryz.func191 zsa (by kernel_rfl) (by kernel_rfl) h
theorem zNF (Inv:Nat→AV→AV→zaa→Prop) (n:Nat) (h0:HSc H→Inv n t4 t5 H)
  (ac:Rd2 (λt4=>λt5=>zlU t0 t4 t5) (λt4=>λt5=>λH Kb3=>zsc t0 t4 t5 H K Kb3) H Inv):zAB t0 t4 t5 H K:=
 lp2 (M:=zlT) zNG t4 t5 (by kernel_rfl) Inv n h0 ac
theorem zNH (h:HSc H→zAA t0 H K):ACalls tP zf2 [t0] H K:=
 acb zlT Tryz.func192 zsd (by kernel_rfl) (by kernel_rfl) h
theorem zNL (Inv:Nat→AV→zaa→Prop) (n:Nat) (h0:HSc H→Inv n t4 H)
  (ac:Rd1 (λt4=>zlX t0 t3 t4) (λt4=>λH Kb5=>zlW t0 t3 t4 H K Kb5) H Inv):zsf t0 t3 t4 H K:=
 lp1 (M:=zlV) zNM t4 (by kernel_rfl) Inv n h0 ac
theorem zNN (h:HSc H→zgr t0 H K):ACalls tP zo8 [t0] H K:=
 acb zlV Tryz.func193 zse (by kernel_rfl) (by kernel_rfl) h
theorem zPU (h:HSc H→zBg t0 H K):ACalls tP zjc [t0] H K:=
 acb zPS Tryz.func255 zPT (by kernel_rfl) (by kernel_rfl) h
theorem zPX (h:HSc H→zBh t0 H K):ACalls tP zhi [t0] H K:=
 acb zPV Tryz.func256 zPW (by kernel_rfl) (by kernel_rfl) h
theorem zP0 (Inv:Nat→AV→zaa→Prop) (n:Nat) (h0:HSc H→Inv n t5 H)
  (ac:Rd1 (λt5=>zmr t0 t1 t5) (λt5=>λH Kb2=>zsW t0 t1 t5 H K Kb2) H Inv):zBj t0 t1 t5 H K:=
 lp1 (M:=zmq) zP1 t5 (by kernel_rfl) Inv n h0 ac
theorem zP2 (h:HSc H→zBi t0 t1 H K):ACalls tP zjd [t0,t1] H K:=
 acb zmq Tryz.func257 zsX (by kernel_rfl) (by kernel_rfl) h
theorem zP6 (h:HSc H→zBk t0 H K):ACalls tP zhj [t0] H K:=
 acb zP4 Tryz.func258 zP5 (by kernel_rfl) (by kernel_rfl) h
theorem zP9 (h:HSc H→zBl t0 H K):ACalls tP zpk [t0] H K:=
 acb zP7 Tryz.func259 zP8 (by kernel_rfl) (by kernel_rfl) h
theorem zQc (h:HSc H→zBm t0 H K):ACalls tP zff [t0] H K:=
 acb zQa Tryz.func260 zQb (by kernel_rfl) (by kernel_rfl) h
theorem zQf (Inv:Nat→AV→AV→zaa→Prop) (n:Nat) (h0:HSc H→Inv n t3 t7 H)
  (ac:Rd2 (λt3=>λt7=>zmt t0 t3 t6 t7) (λt3=>λt7=>λH Kb3=>zsY t0 t3 t6 t7 H K Kb3) H Inv):zBo t0 t3 t6 t7 H K:=
 lp2 (M:=zms) zQg t3 t7 (by kernel_rfl) Inv n h0 ac
theorem zQh (h:HSc H→zBn t0 H K):ACalls tP zhk [t0] H K:=
 acb zms Tryz.func261 zsZ (by kernel_rfl) (by kernel_rfl) h
end
end Go.Proofs.YtdmamdnkcefmmaaGreatDoor
