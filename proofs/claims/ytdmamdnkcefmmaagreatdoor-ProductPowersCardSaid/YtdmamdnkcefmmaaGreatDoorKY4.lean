import Derived.Test.YtdmamdnkcefmmaaGreatDoorIT
import Derived.Test.YtdmamdnkcefmmaaGreatDoorAbsU
import Derived.Test.YtdmamdnkcefmmaaGreatDoorVO
import Derived.Test.YtdmamdnkcefmmaaGreatDoorKN4
import Derived.Test.YtdmamdnkcefmmaaGreatDoorKNum
import Derived.Test.YtdmamdnkcefmmaaGreatDoorProg
import Derived.KernelRfl
set_option linter.unusedSimpArgs false
set_option linter.unusedVariables false
set_option maxRecDepth 100000
namespace Go.Proofs.YtdmamdnkcefmmaaGreatDoor
def zbF:List (IT × Nat)→IT→Nat→List (IT × Nat)
 |[],i,c=>[(i,c)]
 |p::s,i,c=>if IT.cmp p.1 i<0 then p::zbF s i c else if IT.cmp p.1 i=0 then (p.1,p.2+c)::s else (i,c)::p::s
theorem zxP:∀ (a s:List (IT × Nat)) (i:IT) (c:Nat),(∀ p∈a,IT.cmp p.1 i<0)→zbF (a++s) i c=a++zbF s i c
 |[],s,i,c,_=>rfl
 |p::a,s,i,c,h=>by rw[List.cons_append,zbF,az (h p (by simp)),zxP a s i c (λq hq=>h q (by simp[hq]))];rfl
theorem zxO(s:List (IT×Nat))(i:IT)(c k:Nat)(hk:k≤s.length)(hl:∀(j:Nat) (h:j<k),IT.cmp (s[j]'(by omega)).1 i<0):zbF s i c=s.take k++zbF (s.drop k) i c:=by
 have h:=zxP (s.take k) (s.drop k) i c (λp hp=>by
  obtain⟨j,hj,rfl⟩:=be hp;rw[List.getElem_take];exact hl j (by simp at hj;omega))
 rwa [aJ]at h
theorem zHw(s:List (IT×Nat))(i:IT)(c k:Nat)(hk:k<s.length)(hl:∀(j:Nat) (h:j<k),IT.cmp (s[j]'(by omega)).1 i<0)(h0:IT.cmp s[k].1 i=0):zbF s i c=s.set k (s[k].1,s[k].2+c):=by rw[zxO s i c k (by omega) hl,ag hk,zbF,au (by omega),az h0,bh,az hk]
theorem zHy(s:List (IT×Nat))(i:IT)(c k:Nat)(hk:k≤s.length)(hl:∀(j:Nat) (h:j<k),IT.cmp (s[j]'(by omega)).1 i<0)(h0:∀h:k<s.length,0<IT.cmp s[k].1 i):zbF s i c=s.take k++(i,c)::s.drop k:=by
 rw[zxO s i c k hk hl];by_cases h:k<s.length
 ·have:=h0 h;rw[ag h,zbF,au (by omega),au (by omega)]
 ·rw[aW (by omega),zbF]
theorem zHx{s:List (IT×Nat)}{i:IT}{c:Nat}:∀p∈zbF s i c,(p∈s∨p=(i,c))∨∃q∈s,p=(q.1,q.2+c):=by
 induction s with
 |nil=>intro p hp;simp[zbF]at hp;exact .inl (.inr hp)
 |cons q s ih=>
  intro p hp;rw[zbF]at hp;split at hp
  ·rcases aP.1 hp with rfl | hp
   ·exact .inl (.inl (by simp))
   ·rcases ih p hp with (h | h) | ⟨r,hr,h⟩
    ·exact .inl (.inl (by simp[h]))
    ·exact .inl (.inr h)
    ·exact .inr ⟨r,by simp[hr],h⟩
  ·split at hp
   ·rcases aP.1 hp with rfl | hp
    ·exact .inr ⟨q,by simp,rfl⟩
    ·exact .inl (.inl (by simp[hp]))
   ·rcases aP.1 hp with rfl | hp
    ·exact .inl (.inr rfl)
    ·exact .inl (.inl hp)
def zaH(f:IT→Nat)(s:List (IT×Nat)):Nat:=(s.map λp=>p.2*f p.1).foldr (·+·) 0
@[simp] theorem zcw(f:IT→Nat):zaH f []=0:=rfl
@[simp] theorem zc5(f:IT→Nat)(p:IT×Nat)(s:List (IT×Nat)):zaH f (p::s)=p.2*f p.1+zaH f s:=rfl
theorem zf2(f:IT→Nat):∀ a b:List (IT × Nat),zaH f (a++b)=zaH f a+zaH f b
 |[],b=>by simp
 |p::a,b=>by simp[zf2 f a b];omega
mutual
theorem same_eq:∀ v w:IT,IT.same v w=true→v=w
 |.mk n ks,.mk n' ks',h=>by simp only[IT.same,aj,ba]at h;rw[h.1,sameL_eq ks ks' h.2]
theorem sameL_eq:∀ v w:List IT,IT.sameL v w=true→v=w
 |v::vs,w::ws,h=>by simp only[IT.sameL,aj]at h;rw[same_eq v w h.1,sameL_eq vs ws h.2]
 |[],[],_=>rfl
 |[],_::_,h=>by simp[IT.sameL]at h
 |_::_,[],h=>by simp[IT.sameL]at h
end
theorem zjL{v w:IT}(h:IT.cmp v w=0):v=w:=same_eq v w ((IT.cmp_zero v w).1 h)
theorem zBc(f:IT→Nat)(i:IT)(c:Nat):∀ s:List (IT × Nat),zaH f (zbF s i c)=zaH f s+c*f i
 |[]=>by simp[zbF]
 |p::s=>by
  rw[zbF];split
  ·rw[zc5,zc5,zBc f i c s];omega
  ·split
   ·rename_i h;have e:=zjL h;subst e;simp only[zc5,a8];omega
   ·rw[zc5];simp only;omega
def za5(s:List (IT×Nat))(i:IT)(c:Nat):List (IT×Nat):=if c=0 then s else zbF s i c
theorem zLy(f:IT→Nat)(i:IT)(c:Nat)(s:List (IT×Nat)):zaH f (za5 s i c)=zaH f s+c*f i:=by
 unfold za5;split
 ·rename_i h;rw[h];simp
 ·exact zBc f i c s
def zaA(s l:List (IT×Nat)):List (IT×Nat):=l.foldl (λs p=>za5 s p.1 p.2) s
theorem zxM(s l:List (IT×Nat))(p:IT×Nat):zaA s (l++[p])=za5 (zaA s l) p.1 p.2:=by simp[zaA]
theorem zcl(f:IT→Nat):∀ (l s:List (IT × Nat)),zaH f (zaA s l)=zaH f s+zaH f l
 |[],s=>by simp[zaA]
 |p::l,s=>by have h:=zcl f l (za5 s p.1 p.2);rw[zLy]at h;show zaH f (zaA (za5 s p.1 p.2) l)=_;rw[h,zc5];omega
structure Con where
 name:List UInt8
 args:List VT
structure Dat where
 name:List UInt8
 vars:Int
 cons:List Con
def ints(l:List Int):List (List AV):=l.map λn=>[.int .i64 n]
def rows(l:List (List Int)):List (List AV):=l.map λr=>[.sl (ints r) .none]
def Con.cs(c:Con):List AV:=[.str c.name,.sl (VT.css c.args) .none]
def Dat.cs(d:Dat):List AV:=[.str d.name,.int .i64 d.vars,.sl (d.cons.map Con.cs) .none]
@[simp] theorem yd7(l:List Int):(ints l).length=l.length:=by simp[ints]
@[simp] theorem yet(l:List (List Int)):(rows l).length=l.length:=by simp[rows]
def VT.kind:VT→Int|.mk k _ _=>k
def VT.num:VT→Int|.mk _ n _=>n
def VT.kids:VT→List VT|.mk _ _ ks=>ks
def zbu(d7:List Dat)(vars k n:Int)(len:Nat):Bool:=
 if k == 1 || k == 2 || k == 3 then n == 0 && len == 0
 else if k == 4 then decide (0≤n) && decide (n<vars) && len == 0
 else if k == 5 then decide (0≤n) && (match d7[n.toNat]? with|some d=>(len:Int) == d.vars|none=>false)
 else if k == 6 then n == 0 && decide (2≤len) && decide (len≤6)
 else if k == 7 || k == 8 then n == 0 && len == 1
 else if k == 9 then n == 0 && decide (1≤len) && decide (len≤7)
 else false
mutual
def zbb(d7:List Dat)(vars:Int):VT→Bool
 |.mk k n asx=>zbu d7 vars k n asx.length && zbs d7 vars asx
def zbs(d7:List Dat)(vars:Int):List VT→Bool
 |[]=>true
 |t::ts=>zbb d7 vars t && zbs d7 vars ts
end
def za0(d7:List Dat)(vars:Int)(t:VT):Bool:=decide (t.nodes≤200) && zbb d7 vars t
mutual
def subst(args:List VT):VT→VT
 |.mk k n ks=>if k=4∧0≤n∧n<args.length then (args[n.toNat]?).getD (.mk 0 0 []) else .mk k n (zaX args ks)
def zaX(args:List VT):List VT→List VT
 |[]=>[]
 |t::ts=>subst args t::zaX args ts
end
def zbt(d7:List Dat)(t:VT)(c:Int):Option (List VT):=
 if t.kind=5∧0≤t.num∧0≤c then
  match d7[t.num.toNat]? with
  | some d=>if (t.kids.length:Int)=d.vars then
    match d.cons[c.toNat]? with
    | some k=>let l:=k.args.map (subst t.kids)
     if l.all (λx=>decide (x.nodes≤200))=true then some l else none
    |none=>none
   else none
  |none=>none
 else none
section
variable (t0 t1 t2 t3 t5 t6 t7 t8 t13 t14 t15 t20 t21 t30 t31 t32 t47 t48 t49 t74:AV) (H:zaa) (K:Kt) (Kb2 Kb4 Kb5 Kb9:Lt)
def zo9:Nat→List Bool|5=>rl false [1,2,2,1,24]|_=>[]
noncomputable def zwx:=Tryz.f72.body.getD .skip
noncomputable def zYr:=Tryz.f72.results.toList
def zpa:=ux 1 (t1::t2::ux 2 (t5::ux 24 []))
def zYp:=zo9 5
noncomputable def zYn:=zar [1,1,1,0,1,0,0] zwx
def zYm:=zas tP zo9 [1,1,1,0,1,0] zwx (zaB tP zYr K)
def zF2:=ALoop tP zYn (zYm K) (zpa t1 t2 t5) H
def zww:=zaf 2 t2 λt16=>zae false 1 t16 H λt17=>zah 1 t17 λt18=>zac .lss false t5 t18 λt19=>zag t19 (zaf 2 t2 λt22=>zae false 1 t22 H λt23=>zak 3 t23 t5 λt25=>zae true 3 t25 H λt26=>ACalls tP zir [t26,t1] H λt28 H=>aUn .not t28 λt29=>zag t29 (K (.bool false) H) (zac .add false t5 (.int .i64 1) λt21=>Kb5 (zpa t1 t2 t21) H)) (K (.bool true) H)
def zF1:=zav t0 H λt2 H=>zbf t1 λt7=>zae false 1 t7 H λt8=>zac .sub false t8 (.int .i64 1) λt9=>zbf t1 λt10=>zan 1 t10 t9 H λH=>zbf t1 λt12=>zae false 1 t12 H λt13=>zac .lss false t13 (.int .i64 0) λt14=>zag t14 (K (.bool false) H) (zF2 t1 t2 (.int .i64 0) H K)
def zVO(_:Nat):List Bool:=[]
noncomputable def zVP:=Tryz.f38.body.getD .skip
def zFf:=zav t0 H λt1 H=>zaz [(.int .i64 0)] H λt3 H=>zan 1 t3 (.int .i64 250) H λH=>zae true 3 t1 H λt4=>ACalls tP zir [t4,t3] H λt5 H=>K t5 H
def zeq:Nat→List Bool|4=>rl false [13,3,43]|9=>rl false [13,3,14,3,26]|15=>rl false [7,1,5,3,14,3,14,3,9]|_=>[]
noncomputable def zvI:=Tryz.f37.body.getD .skip
noncomputable def zVM:=Tryz.f37.results.toList
def zja:=ux 13 (t13::t14::t15::ux 43 [])
def zFd:=zeq 4
noncomputable def zvJ:=zar [1,1,0,1,0,0] zvI
def zE8:=zas tP zeq [1,1,0,1,0] zvI (zaB tP zVM K)
def zFb:=ALoop tP zvJ (zE8 K) (zja t13 t14 t15) H
def zoj:=ux 13 (t13::t14::t15::ux 14 (t30::t31::t32::ux 26 []))
def zFe:=zeq 9
noncomputable def zvK:=zar [1,1,0,0,1,1,1,0,0] zvJ
def zE9:=zas tP zeq [1,1,0,0,1,1,1,0] zvJ (zbC zFd Kb4 (zE8 K))
def zFc:=ALoop tP zvK (zE9 K Kb4) (zoj t13 t14 t15 t30 t31 t32) H
def zoi:=ux 7 (t7::ux 5 (t13::t14::t15::ux 14 (t30::t31::t32::ux 14 (t47::t48::t49::ux 9 []))))
def zVK:=zeq 15
noncomputable def zVG:=zar [1,1,0,0,1,1,1,1,0,0] zvK
def zVF:=zas tP zeq [1,1,0,0,1,1,1,1,0] zvK (zbC zFe Kb9 (zE9 K Kb4))
def zFa:=ALoop tP zVG (zVF K Kb4 Kb9) (zoi t7 t13 t14 t15 t30 t31 t32 t47 t48 t49) H
def zvF(t7 t13 t14 t15 t30 t31 t32 t47 t48 t49:AV)(H:zaa)(K:Kt)(Kb4:Lt)(Kb9:Lt)(Kb15:Lt):Prop:=zac .lss false t49 t48 λt50=>zag t50 (zak 3 t47 t49 λt51=>zae true 3 t51 H λt52=>zaz [(.int .i64 0),(.int .i64 0),.snil] H λt9 H=>zan 3 t9 t52 H λH=>zae true 3 t9 H λt53=>ACalls tP zir [t53,t7] H λt54 H=>aUn .not t54 λt55=>zag t55 (K (.bool false) H) (zac .add false t49 (.int .i64 1) λt56=>Kb15 (zoi t7 t13 t14 t15 t30 t31 t32 t47 t48 t56) H)) (zac .add false t32 (.int .i64 1) λt57=>Kb9 (zoj t13 t14 t15 t30 t31 t57) H)
def zvH:=zac .lss false t32 t31 λt33=>zag t33 (zak 2 t30 t32 λt34=>zae true 2 t34 H λt35=>zaz [(.str []),.snil] H λt6 H=>zan 2 t6 t35 H λH=>zaf 0 t6 λt36=>zae false 1 t36 H λt37=>zah 0 t37 λt38=>zac .gtr false t38 (.int .i64 40) λt39=>zad t39 false H (λK'=>zaf 1 t6 (K' · H)) λt41 H=>zad t39 false H (λK'=>zae false 1 t41 H (K' · H)) λt42 H=>zad t39 false H (λK'=>zah 1 t42 (K' · H)) λt43 H=>zad t39 false H (λK'=>zac .gtr false t43 (.int .i64 8) (K' · H)) λt44 H=>zam t39 (.bool true) t44 λt45=>zag t45 (K (.bool false) H) (zaz [(.int .i64 0)] H λt7 H=>zan 1 t7 (.int .i64 20) H λH=>zaf 1 t6 λt46=>zae false 1 t46 H λt47=>zah 1 t47 λt48=>zFa t7 t13 t14 t15 t30 t31 t32 t47 t48 (.int .i64 0) H K Kb4 Kb9)) (zac .add false t15 (.int .i64 1) λt58=>Kb4 (zja t13 t14 t58) H)
def zvG:=zac .lss false t15 t14 λt16=>zag t16 (zak 3 t13 t15 λt17=>zae true 3 t17 H λt18=>zaz [(.str []),(.int .i64 0),.snil] H λt4 H=>zan 3 t4 t18 H λH=>zaf 0 t4 λt19=>zae false 1 t19 H λt20=>zah 0 t20 λt21=>zac .gtr false t21 (.int .i64 40) λt22=>zad t22 false H (λK'=>zaf 2 t4 (K' · H)) λt24 H=>zad t22 false H (λK'=>zae false 1 t24 H (K' · H)) λt25 H=>zad t22 false H (λK'=>zah 1 t25 (K' · H)) λt26 H=>zad t22 false H (λK'=>zac .gtr false t26 (.int .i64 10) (K' · H)) λt27 H=>zam t22 (.bool true) t27 λt28=>zag t28 (K (.bool false) H) (zaf 2 t4 λt29=>zae false 1 t29 H λt30=>zah 1 t30 λt31=>zFc t13 t14 t15 t30 t31 (.int .i64 0) H K Kb4)) (K (.bool true) H)
def zvE:=zah 1 t0 λt11=>zac .gtr false t11 (.int .i64 14) λt12=>zag t12 (K (.bool false) H) (zah 1 t0 λt14=>zFb t0 t14 (.int .i64 0) H K)
def zNN(_:Nat):List Bool:=[]
noncomputable def zNO:=Tryz.f123.body.getD .skip
def zCr:=zav t1 H λt4 H=>zaq [.snil,(.int .i64 0),(.int .i64 0)] [(0,1),(1,1),(2,1)] [(0,t0),(1,t2),(2,(.int .i64 200))] λt10=>zav t10 H λt11 H=>zae true 3 t4 H λt13=>ACalls tP zkf [t11,t13] H λt14 H=>K t14 H
def zeW:Nat→List Bool|171022=>rl false [2,2,16,1,53,1,34]|150010=>rl false [2,2,1,2,13,2,87]|100007=>rl false [2,2,1,2,13,1,88]|100002=>rl false [2,2,105]|_=>[]
noncomputable def zeX:=Tryz.f166.body.getD .skip
noncomputable def zna:=Tryz.f166.results.toList
def zhj:=zaf 0 t3 λt79=>zae false 1 t79 H λt80=>zac .neq false t80 (.int .i64 4) λt81=>zad t81 true H (λK'=>zaf 0 t3 (K' · H)) λt83 H=>zad t81 true H (λK'=>zae false 1 t83 H (K' · H)) λt84 H=>zad t81 true H (λK'=>zac .neq false t84 (.int .i64 5) (K' · H)) λt85 H=>zam t81 t85 (.bool false) λt86=>zad t86 true H (λK'=>zaf 1 t3 (K' · H)) λt88 H=>zad t86 true H (λK'=>zae false 1 t88 H (K' · H)) λt89 H=>zad t86 true H (λK'=>zac .neq false t89 (.int .i64 0) (K' · H)) λt90 H=>zam t86 t90 (.bool false) λt91=>zag t91 (K (.bool false) H) (zaf 2 t3 λt92=>zae false 1 t92 H λt93=>zah 1 t93 λt94=>zac .lss false t94 t5 λt96=>zad t96 false H (λK'=>zaf 2 t3 (K' · H)) λt98 H=>zad t96 false H (λK'=>zae false 1 t98 H (K' · H)) λt99 H=>zad t96 false H (λK'=>zah 1 t99 (K' · H)) λt100 H=>zad t96 false H (λK'=>K' t6 H) λt101 H=>zad t96 false H (λK'=>zac .gtr false t100 t101 (K' · H)) λt102 H=>zam t96 (.bool true) t102 λt103=>zag t103 (K (.bool false) H) (zaf 2 t3 λt104=>zae false 1 t104 H λt105=>zcN zkq [t2] λt106=>ACalls tP zfR [t105,t106] H λt107 H=>aUn .not t107 λt108=>K t108 H))
def zdR:=zhj t2 t3 t5 t6 H K
noncomputable def zRo:=zar [1,1,1,1,0,1,0,1,1,1,1,1,1,1,1,1] zeX
def zRn:=zas tP zeW [1,1,1,1,0,1,0,1,1,1,1,1,1,1,1,1] zeX (zaB tP zna K)
def zus:=AWp tP zRo (zRn K) (ux 2 (t2::t3::ux 16 (t20::ux 53 (t74::ux 34 [])))) H
def zm9:=zag t74 (zdR t2 t3 (.int .i64 1) (.int .i64 1) H K) (zac .eql false t20 (.int .i64 9) λt78=>zag t78 (zdR t2 t3 (.int .i64 1) (.int .i64 7) H K) (K (.bool false) H))
noncomputable def zRm:=zar [1,1,1,1,0,1,0,1] zeX
def zRl:=zas tP zeW [1,1,1,1,0,1,0,1] zeX (zaB tP zna K)
def zm8:=AWp tP zRm (zRl K) (ux 2 (t2::t3::ux 1 (t5::t6::ux 13 (t20::t21::ux 87 [])))) H
def zd8:=zag t21 (zdR t2 t3 t5 t6 H K) (zac .eql false t20 (.int .i64 4) λt26=>zag t26 (apu H (zaf 1 t3) λt27=>apu H (zaj false 1 t27 H) λt28=>apu H (zac .lss false t28 (.int .i64 0)) λt29=>apm H t29 λt30=>zad t30 false H (λK'=>zab H (λK''=>zaf 1 t3 (K'' · H)) (K' · H)) λt31 H=>zad t30 false H (λK'=>zab H (λK''=>zaj false 1 t31 H (K'' · H)) (K' · H)) λt32 H=>zad t30 false H (λK'=>zab H (λK''=>zaj false 1 t2 H (K'' · H)) (K' · H)) λt33 H=>zad t30 false H (λK'=>zab H (λK''=>zbf t33 (K'' · H)) (K' · H)) λt34 H=>zad t30 false H (λK'=>zab H (λK''=>zaf 1 t34 (K'' · H)) (K' · H)) λt35 H=>zad t30 false H (λK'=>zab H (λK''=>zaj false 1 t35 H (K'' · H)) (K' · H)) λt36 H=>zad t30 false H (λK'=>zab H (λK''=>zac .geq false t32 t36 (K'' · H)) (K' · H)) λt37 H=>apu H (zam t30 (.bool true) t37) λt38=>zag t38 (K (.bool false) H) (zdR t2 t3 t5 t6 H K)) (zac .eql false t20 (.int .i64 5) λt40=>zag t40 (apu H (zaf 1 t3) λt41=>apu H (zaj false 1 t41 H) λt42=>apu H (zac .lss false t42 (.int .i64 0)) λt43=>apm H t43 λt44=>zad t44 false H (λK'=>zab H (λK''=>zaf 1 t3 (K'' · H)) (K' · H)) λt45 H=>zad t44 false H (λK'=>zab H (λK''=>zaj false 1 t45 H (K'' · H)) (K' · H)) λt46 H=>zad t44 false H (λK'=>zab H (λK''=>zaj false 1 t2 H (K'' · H)) (K' · H)) λt47 H=>zad t44 false H (λK'=>zab H (λK''=>zbf t47 (K'' · H)) (K' · H)) λt48 H=>zad t44 false H (λK'=>zab H (λK''=>zaf 0 t48 (K'' · H)) (K' · H)) λt49 H=>zad t44 false H (λK'=>zab H (λK''=>zaj false 1 t49 H (K'' · H)) (K' · H)) λt50 H=>zad t44 false H (λK'=>zab H (λK''=>zah 1 t50 (K'' · H)) (K' · H)) λt51 H=>zad t44 false H (λK'=>zab H (λK''=>zac .geq false t46 t51 (K'' · H)) (K' · H)) λt52 H=>apu H (zam t44 (.bool true) t52) λt53=>zag t53 (K (.bool false) H) (apu H (zaj false 1 t2 H) λt54=>apu H (zbf t54) λt55=>apu H (zaf 0 t55) λt56=>apu H (zaj false 1 t56 H) λt57=>apu H (zaf 1 t3) λt58=>apu H (zaj false 1 t58 H) λt59=>apu H (zak 3 t57 t59) λt60=>apu H (zaf 1 t60) λt61=>apu H (zaj false 1 t61 H) λt62=>apu H (zaj false 1 t2 H) λt63=>apu H (zbf t63) λt64=>apu H (zaf 0 t64) λt65=>apu H (zaj false 1 t65 H) λt66=>apu H (zaf 1 t3) λt67=>apu H (zaj false 1 t67 H) λt68=>apu H (zak 3 t66 t68) λt69=>apu H (zaf 1 t69) λt70=>apu H (zaj false 1 t70 H) λt71=>apm H t62 λt5=>apm H t71 λt6=>zdR t2 t3 t5 t6 H K)) (zac .eql false t20 (.int .i64 6) λt73=>zag t73 (zdR t2 t3 (.int .i64 2) (.int .i64 6) H K) (zac .eql false t20 (.int .i64 7) λt75=>zag t75 (zus t2 t3 t20 t75 H K) (zac .eql false t20 (.int .i64 8) λt76=>zus t2 t3 t20 t76 H K)))))
noncomputable def zRj:=zar [1,1,1,1,0,1] zeX
def zRi:=zas tP zeW [1,1,1,1,0,1] zeX (zaB tP zna K)
def zDI:=AWp tP zRj (zRi K) (ux 2 (t2::t3::ux 1 (t5::t6::ux 13 (t20::ux 88 [])))) H
def zur:=zac .eql false t20 (.int .i64 1) λt22=>zag t22 (zm8 t2 t3 t5 t6 t20 t22 H K) (zac .eql false t20 (.int .i64 2) λt23=>zag t23 (zm8 t2 t3 t5 t6 t20 t23 H K) (zac .eql false t20 (.int .i64 3) λt24=>zm8 t2 t3 t5 t6 t20 t24 H K))
noncomputable def zRg:=zar [1,1] zeX
def zRf:=zas tP zeW [1,1] zeX (zaB tP zna K)
def zup:=AWp tP zRg (zRf K) (ux 2 (t2::t3::ux 105 [])) H
def zuq:=zae false 1 t2 H λt14=>zbf t14 λt15=>zaf 2 t15 λt16=>zae false 1 t16 H λt17=>zac .lss false t17 (.int .i64 0) λt18=>zag t18 (K (.bool false) H) (zaf 0 t3 λt19=>zae false 1 t19 H λt20=>zDI t2 t3 (.int .i64 0) (.int .i64 0) t20 H K)
def zDH:=zav t0 H λt2 H=>zav t1 H λt3 H=>zae false 1 t2 H λt7=>zbf t7 λt8=>zaf 2 t8 λt9=>zae false 1 t9 H λt10=>zac .sub false t10 (.int .i64 1) λt11=>zbf t7 λt12=>zaf 2 t12 λt13=>zan 1 t13 t11 H λH=>zup t2 t3 H K
def zTq(_:Nat):List Bool:=[]
noncomputable def zTr:=Tryz.f210.body.getD .skip
def zEp:=zav t0 H λt2 H=>zae false 1 t1 H λt4=>zae true 3 t2 H λt5=>ACalls tP zkf [t4,t5] H λt6 H=>aUn .not t6 λt7=>K t7 H
def zTn(_:Nat):List Bool:=[]
noncomputable def zTo:=Tryz.f202.body.getD .skip
def zEo:=ACalls tP zrI [t0,t1] H λt7 H=>zac .geq false t7 (.int .i64 0) λt8=>K t8 H
def znY:Nat→List Bool|2=>rl false [0,2,5,2,10]|_=>[]
noncomputable def zvk:=Tryz.f229.body.getD .skip
noncomputable def zUq:=Tryz.f229.results.toList
def znZ:=t0::t1::ux 5 (t7::t8::ux 10 [])
def zUo:=znY 2
noncomputable def zUm:=zar [1,0,1,0,0] zvk
def zUl:=zas tP znY [1,0,1,0] zvk (zaB tP zUq K)
def zEG:=ALoop tP zUm (zUl K) (znZ t0 t1 t7 t8) H
def zvj:=zac .lss false t8 t7 λt9=>zag t9 (zak 3 t0 t8 λt14=>zae true 3 t14 H λt15=>aCallV tP t1 [t15] H λt16 H=>zag t16 (K t8 H) (zac .add false t8 (.int .i64 1) λt18=>Kb2 (znZ t0 t1 t7 t18) H)) (K (.int .i64 (-1)) H)
def zEF:=zah 1 t0 λt7=>zEG t0 t1 t7 (.int .i64 0) H K
variable {t0 t1 t2 t3 t5 t6 t7 t8 t13 t14 t15 t20 t21 t30 t31 t32 t47 t48 t49 t74} {H} {K} {Kb2 Kb4 Kb5 Kb9}
theorem zYo:Lo1 (λt5=>zpa t1 t2 t5) (λt5 H Kb5=>zww t1 t2 t5 H K Kb5) t5 H (zF2 t1 t2 t5 H K):=lq1 zo9 zYp
theorem zYq(h:HSc H→zF1 t0 t1 H K):ACalls tP zir [t0,t1] H K:=
 acb zo9 Tryz.func72 zwx h
theorem zVQ(h:HSc H→zFf t0 H K):ACalls tP zrP [t0] H K:=
 acb zVO Tryz.func38 zVP h
theorem zVH:Lo1 (λt49=>zoi t7 t13 t14 t15 t30 t31 t32 t47 t48 t49) (λt49 H Kb15=>zvF t7 t13 t14 t15 t30 t31 t32 t47 t48 t49 H K Kb4 Kb9 Kb15) t49 H (zFa t7 t13 t14 t15 t30 t31 t32 t47 t48 t49 H K Kb4 Kb9):=lq1 zeq zVK
theorem zVJ:Lo1 (λt32=>zoj t13 t14 t15 t30 t31 t32) (λt32 H Kb9=>zvH t13 t14 t15 t30 t31 t32 H K Kb4 Kb9) t32 H (zFc t13 t14 t15 t30 t31 t32 H K Kb4):=lq1 zeq zFe
theorem zVI:Lo1 (λt15=>zja t13 t14 t15) (λt15 H Kb4=>zvG t13 t14 t15 H K Kb4) t15 H (zFb t13 t14 t15 H K):=lq1 zeq zFd
theorem zVL(h:HSc H→zvE t0 H K):ACalls tP zrO [t0] H K:=
 acb zeq Tryz.func37 zvI h
theorem zNP(h:HSc H→zCr t0 t1 t2 H K):ACalls tP zib [t0,t1,t2] H K:=
 acb zNN Tryz.func123 zNO h
theorem zDK(h:HSc H→zm9 t2 t3 t20 t74 H K):zus t2 t3 t20 t74 H K:=
 λB w G a hH hF hd=>zgB (M:=zeW) _ _ _ _ (Eq.mpr (by kernel_rfl) (h hH.sc)) B w G a hH hF hd
theorem zDJ(h:HSc H→zd8 t2 t3 t5 t6 t20 t21 H K):zm8 t2 t3 t5 t6 t20 t21 H K:=
 λB w G a hH hF hd=>zgB (M:=zeW) _ _ _ _ (Eq.mpr (by kernel_rfl) (h hH.sc)) B w G a hH hF hd
theorem zRk(h:HSc H→zur t2 t3 t5 t6 t20 H K):zDI t2 t3 t5 t6 t20 H K:=
 λB w G a hH hF hd=>zgB (M:=zeW) _ _ _ _ (Eq.mpr (by kernel_rfl) (h hH.sc)) B w G a hH hF hd
theorem zRh(h:HSc H→zuq t2 t3 H K):zup t2 t3 H K:=
 λB w G a hH hF hd=>zgB (M:=zeW) _ _ _ _ (Eq.mpr (by kernel_rfl) (h hH.sc)) B w G a hH hF hd
theorem zRp(h:HSc H→zDH t0 t1 H K):ACalls tP zkf [t0,t1] H K:=
 acb zeW Tryz.func166 zeX h
theorem zTs(h:HSc H→zEp t0 t1 H K):ACalls tP zkq [t0,t1] H K:=
 acb zTq Tryz.func210 zTr h
theorem zTp(h:HSc H→zEo t0 t1 H K):ACalls tP zfR [t0,t1] H K:=
 acb zTn Tryz.func202 zTo h
theorem zUn:Lo1 (λt8=>znZ t0 t1 t7 t8) (λt8 H Kb2=>zvj t0 t1 t7 t8 H K Kb2) t8 H (zEG t0 t1 t7 t8 H K):=lq1 znY zUo
theorem zUp(h:HSc H→zEF t0 t1 H K):ACalls tP zrI [t0,t1] H K:=
 acb znY Tryz.func229 zvk h
end
section
variable (t0 t1 t2 t3 t4 t5 t7 t8 t9 t14 t29 t30 t31 t35 t36 t37 t59 t60 t61 t77 t78 t79 t93 t94 t95:AV) (H:zaa) (K:Kt) (Kb3 Kb5 Kb8 Kb13 Kb20:Lt)
def zeo:Nat→List Bool|8=>rl false [2,1,1,1,3,2,49,3,46]|13=>rl false [2,1,1,1,3,2,67,3,28]|20=>rl false [4,1,9,1,78,3,12]|_=>[]
noncomputable def zgf:=Tryz.f167.body.getD .skip
noncomputable def zuw:=Tryz.f167.results.toList
def znd:=ux 2 (t2::ux 1 (t4::ux 3 (t8::t9::ux 49 (t59::t60::t61::ux 46 []))))
def zRB:=zeo 8
noncomputable def zRv:=zar [1,1,1,1,1,0,1,0,0] zgf
def zRs:=zas tP zeo [1,1,1,1,1,0,1,0] zgf (zaB tP zuw K)
def zDN:=ALoop tP zRv (zRs K) (znd t2 t4 t8 t9 t59 t60 t61) H
def znb:=ux 2 (t2::ux 1 (t4::ux 3 (t8::t9::ux 67 (t77::t78::t79::ux 28 []))))
def zRz:=zeo 13
noncomputable def zRt:=zar [1,1,1,1,1,1,0,1,0,0] zgf
def zRq:=zas tP zeo [1,1,1,1,1,1,0,1,0] zgf (zaB tP zuw K)
def zDM:=ALoop tP zRt (zRq K) (znb t2 t4 t8 t9 t77 t78 t79) H
def znc:=ux 4 (t4::ux 9 (t14::ux 78 (t93::t94::t95::ux 12 [])))
def zRA:=zeo 20
noncomputable def zRu:=zar [1,1,1,1,1,1,1,1,0,1,0,0] zgf
def zRr:=zas tP zeo [1,1,1,1,1,1,1,1,0,1,0] zgf (zaB tP zuw K)
def zne:=ALoop tP zRu (zRr K) (znc t4 t14 t93 t94 t95) H
def zuu:=zac .lss false t95 t94 λt96=>zag t96 (zak 3 t93 t95 λt97=>zae true 3 t97 H λt98=>zaz [(.int .i64 0),(.int .i64 0),.snil] H λt16 H=>zan 3 t16 t98 H λH=>zae true 3 t16 H λt100=>zaf 2 t4 λt101=>zae false 1 t101 H λt102=>ACalls tP zig [t100,t102] H λt103 H=>zaw 3 [(.int .i64 0),(.int .i64 0),.snil] 1 [(0,t103)] λt104=>zax za9 3 40 t14 t104 H λt105 H=>zac .add false t95 (.int .i64 1) λt106=>Kb20 (znc t4 t105 t93 t94 t106) H) (zaF [t14,(.bool true)] (K · H))
def zut:=zac .lss false t79 t78 λt80=>zag t80 (zak 3 t77 t79 λt81=>zae true 3 t81 H λt82=>zaz [(.int .i64 0),(.int .i64 0),.snil] H λt13 H=>zan 3 t13 t82 H λH=>zae true 3 t13 H λt83=>ACalls tP zks [t83,t9] H λt85 H=>zac .gtr false t85 (.int .i64 200) λt86=>zag t86 (zaF [.snil,(.bool false)] (K · H)) (zac .add false t79 (.int .i64 1) λt87=>Kb13 (znb t2 t4 t8 t9 t77 t78 t87) H)) (zaf 2 t8 λt88=>zae false 1 t88 H λt89=>zak 2 t89 t2 λt91=>zaf 1 t91 λt92=>zae false 1 t92 H λt93=>zah 1 t93 λt94=>zne t4 .snil t93 t94 (.int .i64 0) H K)
def zuv:=zac .lss false t61 t60 λt62=>zag t62 (zak 3 t59 t61 λt64=>zae true 3 t64 H λt65=>zaz [(.int .i64 0),(.int .i64 0),.snil] H λt11 H=>zan 3 t11 t65 H λH=>zae true 3 t11 H λt68=>ACalls tP zkr [t68] H λt69 H=>zak 1 t9 t61 λt70=>zan 1 t70 t69 H λH=>zac .add false t61 (.int .i64 1) λt71=>Kb8 (znd t2 t4 t8 t9 t59 t60 t71) H) (zaf 2 t8 λt72=>zae false 1 t72 H λt73=>zak 2 t73 t2 λt75=>zaf 1 t75 λt76=>zae false 1 t76 H λt77=>zah 1 t77 λt78=>zDM t2 t4 t8 t9 t77 t78 (.int .i64 0) H K)
def zDL:=zav t1 H λt4 H=>zaf 0 t4 λt17=>zae false 1 t17 H λt18=>zac .neq false t18 (.int .i64 5) λt19=>zad t19 false H (λK'=>zaf 1 t4 (K' · H)) λt21 H=>zad t19 false H (λK'=>zae false 1 t21 H (K' · H)) λt22 H=>zad t19 false H (λK'=>zac .lss false t22 (.int .i64 0) (K' · H)) λt23 H=>zam t19 (.bool true) t23 λt24=>zad t24 false H (λK'=>zaf 1 t4 (K' · H)) λt26 H=>zad t24 false H (λK'=>zae false 1 t26 H (K' · H)) λt27 H=>zad t24 false H (λK'=>K' t0 H) λt28 H=>zad t24 false H (λK'=>zah 1 t28 (K' · H)) λt29 H=>zad t24 false H (λK'=>zac .geq false t27 t29 (K' · H)) λt30 H=>zam t24 (.bool true) t30 λt31=>zag t31 (zaF [.snil,(.bool false)] (K · H)) (zaf 1 t4 λt33=>zae false 1 t33 H λt34=>zak 3 t0 t34 λt35=>zae true 3 t35 H λt36=>zaz [(.str []),(.int .i64 0),.snil] H λt8 H=>zan 3 t8 t36 H λH=>zaf 2 t4 λt37=>zae false 1 t37 H λt38=>zah 1 t38 λt39=>zaf 1 t8 λt40=>zae false 1 t40 H λt41=>zac .neq false t39 t41 λt42=>zad t42 false H (λK'=>K' t2 H) λt44 H=>zad t42 false H (λK'=>zac .lss false t44 (.int .i64 0) (K' · H)) λt45 H=>zam t42 (.bool true) t45 λt46=>zad t46 false H (λK'=>K' t2 H) λt48 H=>zad t46 false H (λK'=>zaf 2 t8 (K' · H)) λt49 H=>zad t46 false H (λK'=>zae false 1 t49 H (K' · H)) λt50 H=>zad t46 false H (λK'=>zah 1 t50 (K' · H)) λt51 H=>zad t46 false H (λK'=>zac .geq false t48 t51 (K' · H)) λt52 H=>zam t46 (.bool true) t52 λt53=>zag t53 (zaF [.snil,(.bool false)] (K · H)) (zaf 2 t4 λt54=>zae false 1 t54 H λt55=>zah 1 t55 λt56=>zbp 8 [(.int .i64 0)] t56 t56 H λt57 H=>zaf 2 t4 λt58=>zae false 1 t58 H λt59=>zah 1 t59 λt60=>zDN t2 t4 t8 t57 t59 t60 (.int .i64 0) H K))
def znK:Nat→List Bool|3=>rl false [3,1,3,3,9]|_=>[]
noncomputable def zu1:=Tryz.f211.body.getD .skip
noncomputable def zTy:=Tryz.f211.results.toList
def znL:=ux 3 (t3::ux 3 (t7::t8::t9::ux 9 []))
def zTw:=znK 3
noncomputable def zTu:=zar [1,1,0,1,0,0] zu1
def zTt:=zas tP znK [1,1,0,1,0] zu1 (zaB tP zTy K)
def zEr:=ALoop tP zTu (zTt K) (znL t3 t7 t8 t9) H
def zu0:=zac .lss false t9 t8 λt10=>zag t10 (zak 3 t7 t9 λt11=>zae true 3 t11 H λt12=>zaz [(.int .i64 0),(.int .i64 0),.snil] H λt5 H=>zan 3 t5 t12 H λH=>zae true 3 t5 H λt14=>ACalls tP zkr [t14] H λt15 H=>zac .add false t3 t15 λt16=>zac .add false t9 (.int .i64 1) λt17=>Kb3 (znL t16 t7 t8 t17) H) (K t3 H)
def zEq:=zav t0 H λt1 H=>zaf 2 t1 λt6=>zae false 1 t6 H λt7=>zah 1 t7 λt8=>zEr (.int .i64 1) t7 t8 (.int .i64 0) H K
def znM:Nat→List Bool|5=>rl false [1,1,3,1,23,3,12]|_=>[]
noncomputable def zu4:=Tryz.f212.body.getD .skip
noncomputable def zTI:=Tryz.f212.results.toList
def znN:=ux 1 (t1::ux 3 (t5::ux 23 (t29::t30::t31::ux 12 [])))
def zTG:=znM 5
noncomputable def zTE:=zar [1,1,1,0,1,0,0] zu4
def zTD:=zas tP znM [1,1,1,0,1,0] zu4 (zaB tP zTI K)
def zu6:=ALoop tP zTE (zTD K) (znN t1 t5 t29 t30 t31) H
def zu5:=K t5 H
def znO:=zu5 t5 H K
def zu3:=zac .lss false t31 t30 λt32=>zag t32 (zak 3 t29 t31 λt33=>zae true 3 t33 H λt34=>zaz [(.int .i64 0),(.int .i64 0),.snil] H λt7 H=>zan 3 t7 t34 H λH=>zae true 3 t7 H λt36=>ACalls tP zks [t36,t1] H λt38 H=>zac .add false t5 t38 λt39=>zac .gtr false t39 (.int .i64 200) λt41=>zag t41 (znO t39 H K) (zac .add false t31 (.int .i64 1) λt42=>Kb5 (znN t1 t39 t29 t30 t42) H)) (znO t5 H K)
def zu2:=zav t0 H λt2 H=>zaf 0 t2 λt8=>zae false 1 t8 H λt9=>zac .eql false t9 (.int .i64 4) λt10=>zad t10 true H (λK'=>zaf 1 t2 (K' · H)) λt12 H=>zad t10 true H (λK'=>zae false 1 t12 H (K' · H)) λt13 H=>zad t10 true H (λK'=>zac .geq false t13 (.int .i64 0) (K' · H)) λt14 H=>zam t10 t14 (.bool false) λt15=>zad t15 true H (λK'=>zaf 1 t2 (K' · H)) λt17 H=>zad t15 true H (λK'=>zae false 1 t17 H (K' · H)) λt18 H=>zad t15 true H (λK'=>K' t1 H) λt19 H=>zad t15 true H (λK'=>zah 1 t19 (K' · H)) λt20 H=>zad t15 true H (λK'=>zac .lss false t18 t20 (K' · H)) λt21 H=>zam t15 t21 (.bool false) λt22=>zag t22 (zaf 1 t2 λt24=>zae false 1 t24 H λt25=>zak 1 t1 t25 λt26=>zae false 1 t26 H λt27=>K t27 H) (zaf 2 t2 λt28=>zae false 1 t28 H λt29=>zah 1 t29 λt30=>zu6 t1 (.int .i64 1) t29 t30 (.int .i64 0) H K)
def znP:Nat→List Bool|5=>rl false [1,1,2,2,29,3,13]|_=>[]
noncomputable def zu9:=Tryz.f213.body.getD .skip
noncomputable def zTP:=Tryz.f213.results.toList
def znQ:=ux 1 (t1::ux 2 (t4::t5::ux 29 (t35::t36::t37::ux 13 [])))
def zTN:=znP 5
noncomputable def zTL:=zar [1,1,1,0,1,0,0] zu9
def zTK:=zas tP znP [1,1,1,0,1,0] zu9 (zaB tP zTP K)
def zi9:=ALoop tP zTL (zTK K) (znQ t1 t4 t5 t35 t36 t37) H
def zu8:=zac .lss false t37 t36 λt38=>zag t38 (zak 3 t35 t37 λt39=>zae true 3 t39 H λt40=>zaz [(.int .i64 0),(.int .i64 0),.snil] H λt7 H=>zan 3 t7 t40 H λH=>apu H (zaf 2 t5) λt41=>apu H (zaj false 1 t41 H) λt42=>apu H (zaj true 3 t7 H) λt43=>apm H t1 λt44=>zaC H (λH K'=>ACalls tP zig [t43,t44] H K') λt45=>apu H (zaw 3 [(.int .i64 0),(.int .i64 0),.snil] 1 [(0,t45)]) λt46=>zax za9 3 40 t42 t46 H λt47 H=>apu H (zaf 2 t5) λt48=>zan 1 t48 t47 H λH=>zac .add false t37 (.int .i64 1) λt49=>Kb5 (znQ t1 t4 t5 t35 t36 t49) H) (zae true 3 t5 H λt50=>zan 3 t4 t50 H λH=>zae true 3 t4 H λr0=>K r0 H)
def zu7:=zav t0 H λt2 H=>zaz [(.int .i64 0),(.int .i64 0),.snil] H λt4 H=>zaf 0 t2 λt8=>zae false 1 t8 H λt9=>zac .eql false t9 (.int .i64 4) λt10=>zad t10 true H (λK'=>zaf 1 t2 (K' · H)) λt12 H=>zad t10 true H (λK'=>zae false 1 t12 H (K' · H)) λt13 H=>zad t10 true H (λK'=>zac .geq false t13 (.int .i64 0) (K' · H)) λt14 H=>zam t10 t14 (.bool false) λt15=>zad t15 true H (λK'=>zaf 1 t2 (K' · H)) λt17 H=>zad t15 true H (λK'=>zae false 1 t17 H (K' · H)) λt18 H=>zad t15 true H (λK'=>K' t1 H) λt19 H=>zad t15 true H (λK'=>zah 1 t19 (K' · H)) λt20 H=>zad t15 true H (λK'=>zac .lss false t18 t20 (K' · H)) λt21 H=>zam t15 t21 (.bool false) λt22=>zag t22 (zaf 1 t2 λt24=>zae false 1 t24 H λt25=>zak 3 t1 t25 λt26=>zae true 3 t26 H λt27=>ACalls tP zig [t27,.snil] H λt28 H=>zan 3 t4 t28 H λH=>zae true 3 t4 H λr0=>K r0 H) (zaf 0 t2 λt29=>zae false 1 t29 H λt30=>zaf 1 t2 λt31=>zae false 1 t31 H λt32=>zaq [(.int .i64 0),(.int .i64 0),.snil] [(0,1),(1,1),(2,1)] [(0,t30),(1,t32)] λt33=>zaz [(.int .i64 0),(.int .i64 0),.snil] H λt5 H=>zan 3 t5 t33 H λH=>zaf 2 t2 λt34=>zae false 1 t34 H λt35=>zah 1 t35 λt36=>zi9 t1 t4 t5 t35 t36 (.int .i64 0) H K)
def zW1(_:Nat):List Bool:=[]
noncomputable def zW2:=Tryz.f49.body.getD .skip
def zFB:=zav t1 H λt4 H=>zae true 3 t4 H λt7=>ACalls tP ziu [t7] H λt8 H=>zac .leq false t8 (.int .i64 200) λt9=>zad t9 true H (λK'=>K' t0 H) λt11 H=>zad t9 true H (λK'=>zae true 3 t4 H (K' · H)) λt12 H=>zad t9 true H (λK'=>K' t2 H) λt13 H=>zad t9 true H (λK'=>ACalls tP zkR [t11,t12,t13] H K') λt14 H=>zam t9 t14 (.bool false) λt15=>K t15 H
def zpI:Nat→List Bool|3=>rl false [1,1,1,2,16]|_=>[]
noncomputable def zw9:=Tryz.f95.body.getD .skip
noncomputable def yav:=Tryz.f95.results.toList
def zpJ:=ux 1 (t1::ux 1 (t3::t4::ux 16 []))
def yat:=zpI 3
noncomputable def yar:=zar [1,1,0,1,0,0] zw9
def yaq:=zas tP zpI [1,1,0,1,0] zw9 (zaB tP yav K)
def zGR:=ALoop tP yar (yaq K) (zpJ t1 t3 t4) H
def zw8:=zaf 2 t1 λt6=>zae false 1 t6 H λt7=>zah 1 t7 λt8=>zac .lss false t4 t8 λt9=>zag t9 (zaf 2 t1 λt13=>zae false 1 t13 H λt14=>zak 3 t14 t4 λt16=>zae true 3 t16 H λt17=>ACalls tP ziu [t17] H λt18 H=>zac .add false t3 t18 λt19=>zac .add false t4 (.int .i64 1) λt11=>Kb3 (zpJ t1 t19 t11) H) (K t3 H)
def zGQ:=zav t0 H λt1 H=>zGR t1 (.int .i64 1) (.int .i64 0) H K
variable {t0 t1 t2 t3 t4 t5 t7 t8 t9 t14 t29 t30 t31 t35 t36 t37 t59 t60 t61 t77 t78 t79 t93 t94 t95} {H} {K} {Kb3 Kb5 Kb8 Kb13 Kb20}
theorem zRx:Lo2 (λt14 t95=>znc t4 t14 t93 t94 t95) (λt14 t95 H Kb20=>zuu t4 t14 t93 t94 t95 H K Kb20) t14 t95 H (zne t4 t14 t93 t94 t95 H K):=lq2 zeo zRA
theorem zRw:Lo1 (λt79=>znb t2 t4 t8 t9 t77 t78 t79) (λt79 H Kb13=>zut t2 t4 t8 t9 t77 t78 t79 H K Kb13) t79 H (zDM t2 t4 t8 t9 t77 t78 t79 H K):=lq1 zeo zRz
theorem zRy:Lo1 (λt61=>znd t2 t4 t8 t9 t59 t60 t61) (λt61 H Kb8=>zuv t2 t4 t8 t9 t59 t60 t61 H K Kb8) t61 H (zDN t2 t4 t8 t9 t59 t60 t61 H K):=lq1 zeo zRB
theorem zRC(h:HSc H→zDL t0 t1 t2 H K):ACalls tP zkg [t0,t1,t2] H K:=
 acb zeo Tryz.func167 zgf h
theorem zTv:Lo2 (λt3 t9=>znL t3 t7 t8 t9) (λt3 t9 H Kb3=>zu0 t3 t7 t8 t9 H K Kb3) t3 t9 H (zEr t3 t7 t8 t9 H K):=lq2 znK zTw
theorem zTx(h:HSc H→zEq t0 H K):ACalls tP zkr [t0] H K:=
 acb znK Tryz.func211 zu1 h
theorem zTF:Lo2 (λt5 t31=>znN t1 t5 t29 t30 t31) (λt5 t31 H Kb5=>zu3 t1 t5 t29 t30 t31 H K Kb5) t5 t31 H (zu6 t1 t5 t29 t30 t31 H K):=lq2 znM zTG
theorem zTH(h:HSc H→zu2 t0 t1 H K):ACalls tP zks [t0,t1] H K:=
 acb znM Tryz.func212 zu4 h
theorem zTM:Lo1 (λt37=>znQ t1 t4 t5 t35 t36 t37) (λt37 H Kb5=>zu8 t1 t4 t5 t35 t36 t37 H K Kb5) t37 H (zi9 t1 t4 t5 t35 t36 t37 H K):=lq1 znP zTN
theorem zTO(h:HSc H→zu7 t0 t1 H K):ACalls tP zig [t0,t1] H K:=
 acb znP Tryz.func213 zu9 h
theorem zW3(h:HSc H→zFB t0 t1 t2 H K):ACalls tP zkE [t0,t1,t2] H K:=
 acb zW1 Tryz.func49 zW2 h
theorem yas:Lo2 (λt3 t4=>zpJ t1 t3 t4) (λt3 t4 H Kb3=>zw8 t1 t3 t4 H K Kb3) t3 t4 H (zGR t1 t3 t4 H K):=lq2 zpI yat
theorem yau(h:HSc H→zGQ t0 H K):ACalls tP ziu [t0] H K:=
 acb zpI Tryz.func95 zw9 h
end
section
variable (t0 t1 t2 t3 t4 t5 t6 t7 t8 t13 t14 t63 t64 t65 t75:AV) (H:zaa) (K:Kt) (Kb3 Kb5 Kb24:Lt)
def zpK:Nat→List Bool|24=>rl false [0,1,1,1,1,1,2,2,103]|_=>[]
noncomputable def zxb:=Tryz.f96.body.getD .skip
noncomputable def yaB:=Tryz.f96.results.toList
def zpL:=t0::ux 1 (t2::ux 1 (t4::ux 2 (t7::t8::ux 103 [])))
def yaz:=zpK 24
noncomputable def yax:=zar [1,1,1,0,1,0,0] zxb
def yaw:=zas tP zpK [1,1,1,0,1,0] zxb (zaB tP yaB K)
def zxc:=ALoop tP yax (yaw K) (zpL t0 t2 t4 t7 t8) H
def zxa:=zac .lss false t8 t7 λt100=>zag t100 (zaf 2 t4 λt104=>zae false 1 t104 H λt105=>zak 3 t105 t8 λt107=>zae true 3 t107 H λt108=>ACalls tP zkR [t0,t108,t2] H λt110 H=>aUn .not t110 λt111=>zag t111 (K (.bool false) H) (zac .add false t8 (.int .i64 1) λt102=>Kb24 (zpL t0 t2 t4 t7 t102) H)) (K (.bool true) H)
def zjp:=zxc t0 t2 t4 t7 (.int .i64 0) H K
def zfy:=zjp t0 t2 t4 t7 H K
def zex:=zag t75 (zaf 1 t4 λt78=>zae false 1 t78 H λt79=>zac .neq false t79 (.int .i64 0) λt80=>zad t80 false H (λK'=>K' t7 H) λt82 H=>zad t80 false H (λK'=>zac .neq false t82 (.int .i64 1) (K' · H)) λt83 H=>zam t80 (.bool true) t83 λt84=>zag t84 (K (.bool false) H) (zfy t0 t2 t4 t7 H K)) (zac .eql false t13 (.int .i64 9) λt86=>zag t86 (zaf 1 t4 λt87=>zae false 1 t87 H λt88=>zac .neq false t88 (.int .i64 0) λt89=>zad t89 false H (λK'=>K' t7 H) λt91 H=>zad t89 false H (λK'=>zac .lss false t91 (.int .i64 1) (K' · H)) λt92 H=>zam t89 (.bool true) t92 λt93=>zad t93 false H (λK'=>K' t7 H) λt95 H=>zad t93 false H (λK'=>zac .gtr false t95 (.int .i64 7) (K' · H)) λt96 H=>zam t93 (.bool true) t96 λt97=>zag t97 (K (.bool false) H) (zfy t0 t2 t4 t7 H K)) (K (.bool false) H))
def zb7:=zag t14 (zaf 1 t4 λt18=>zae false 1 t18 H λt19=>zac .eql false t19 (.int .i64 0) λt20=>zad t20 true H (λK'=>K' t7 H) λt22 H=>zad t20 true H (λK'=>zac .eql false t22 (.int .i64 0) (K' · H)) λt23 H=>zam t20 t23 (.bool false) λt24=>K t24 H) (zac .eql false t13 (.int .i64 4) λt26=>zag t26 (zaf 1 t4 λt27=>zae false 1 t27 H λt28=>zac .geq false t28 (.int .i64 0) λt29=>zad t29 true H (λK'=>zaf 1 t4 (K' · H)) λt31 H=>zad t29 true H (λK'=>zae false 1 t31 H (K' · H)) λt32 H=>zad t29 true H (λK'=>K' t2 H) λt33 H=>zad t29 true H (λK'=>zac .lss false t32 t33 (K' · H)) λt34 H=>zam t29 t34 (.bool false) λt35=>zad t35 true H (λK'=>K' t7 H) λt37 H=>zad t35 true H (λK'=>zac .eql false t37 (.int .i64 0) (K' · H)) λt38 H=>zam t35 t38 (.bool false) λt39=>K t39 H) (zac .eql false t13 (.int .i64 5) λt41=>zag t41 (zaf 1 t4 λt42=>zae false 1 t42 H λt43=>zac .lss false t43 (.int .i64 0) λt44=>zad t44 false H (λK'=>zaf 1 t4 (K' · H)) λt46 H=>zad t44 false H (λK'=>zae false 1 t46 H (K' · H)) λt47 H=>zad t44 false H (λK'=>K' t0 H) λt48 H=>zad t44 false H (λK'=>zah 1 t48 (K' · H)) λt49 H=>zad t44 false H (λK'=>zac .geq false t47 t49 (K' · H)) λt50 H=>zam t44 (.bool true) t50 λt51=>zad t51 false H (λK'=>K' t7 H) λt53 H=>zad t51 false H (λK'=>K' t0 H) λt54 H=>zad t51 false H (λK'=>zaf 1 t4 (K' · H)) λt55 H=>zad t51 false H (λK'=>zae false 1 t55 H (K' · H)) λt56 H=>zad t51 false H (λK'=>zak 3 t54 t56 (K' · H)) λt57 H=>zad t51 false H (λK'=>zaf 1 t57 (K' · H)) λt58 H=>zad t51 false H (λK'=>zae false 1 t58 H (K' · H)) λt59 H=>zad t51 false H (λK'=>zac .neq false t53 t59 (K' · H)) λt60 H=>zam t51 (.bool true) t60 λt61=>zag t61 (K (.bool false) H) (zfy t0 t2 t4 t7 H K)) (zac .eql false t13 (.int .i64 6) λt63=>zag t63 (zaf 1 t4 λt64=>zae false 1 t64 H λt65=>zac .neq false t65 (.int .i64 0) λt66=>zad t66 false H (λK'=>K' t7 H) λt68 H=>zad t66 false H (λK'=>zac .lss false t68 (.int .i64 2) (K' · H)) λt69 H=>zam t66 (.bool true) t69 λt70=>zad t70 false H (λK'=>K' t7 H) λt72 H=>zad t70 false H (λK'=>zac .gtr false t72 (.int .i64 6) (K' · H)) λt73 H=>zam t70 (.bool true) t73 λt74=>zag t74 (K (.bool false) H) (zfy t0 t2 t4 t7 H K)) (zac .eql false t13 (.int .i64 7) λt76=>zag t76 (zex t0 t2 t4 t7 t13 t76 H K) (zac .eql false t13 (.int .i64 8) λt77=>zex t0 t2 t4 t7 t13 t77 H K)))))
def zcV:=zav t1 H λt4 H=>zaf 2 t4 λt9=>zae false 1 t9 H λt10=>zah 1 t10 λt11=>zaf 0 t4 λt12=>zae false 1 t12 H λt13=>zac .eql false t13 (.int .i64 1) λt15=>zag t15 (zb7 t0 t2 t4 t11 t13 t15 H K) (zac .eql false t13 (.int .i64 2) λt16=>zag t16 (zb7 t0 t2 t4 t11 t13 t16 H K) (zac .eql false t13 (.int .i64 3) λt17=>zb7 t0 t2 t4 t11 t13 t17 H K))
def zpO:Nat→List Bool|5=>rl false [4,1,3,1,54,3,16]|_=>[]
noncomputable def zxh:=Tryz.f98.body.getD .skip
noncomputable def yaO:=Tryz.f98.results.toList
def zpP:=ux 4 (t4::ux 3 (t8::ux 54 (t63::t64::t65::ux 16 [])))
def yaM:=zpO 5
noncomputable def yaK:=zar [1,1,1,0,1,0,0] zxh
def yaJ:=zas tP zpO [1,1,1,0,1,0] zxh (zaB tP yaO K)
def zpQ:=ALoop tP yaK (yaJ K) (zpP t4 t8 t63 t64 t65) H
def zxg:=zac .lss false t65 t64 λt66=>zag t66 (zak 3 t63 t65 λt67=>zae true 3 t67 H λt68=>zaz [(.int .i64 0),(.int .i64 0),.snil] H λt10 H=>zan 3 t10 t68 H λH=>zae true 3 t10 H λt69=>zaf 2 t4 λt70=>zae false 1 t70 H λt71=>ACalls tP zkb [t69,t71] H λt72 H=>zaz [(.int .i64 0),(.int .i64 0),.snil] H λt11 H=>zan 3 t11 t72 H λH=>zae true 3 t11 H λt73=>ACalls tP ziu [t73] H λt74 H=>zac .gtr false t74 (.int .i64 200) λt75=>zag t75 (zaF [.snil,(.bool false)] (K · H)) (zae true 3 t11 H λt77=>zaw 3 [(.int .i64 0),(.int .i64 0),.snil] 1 [(0,t77)] λt78=>zax za9 3 40 t8 t78 H λt79 H=>zac .add false t65 (.int .i64 1) λt80=>Kb5 (zpP t4 t79 t63 t64 t80) H)) (zaF [t8,(.bool true)] (K · H))
def zGV:=zav t1 H λt4 H=>apu H (zaf 0 t4) λt12=>apu H (zaj false 1 t12 H) λt13=>apu H (zac .neq false t13 (.int .i64 5)) λt14=>apm H t14 λt15=>zad t15 false H (λK'=>zab H (λK''=>zaf 1 t4 (K'' · H)) (K' · H)) λt16 H=>zad t15 false H (λK'=>zab H (λK''=>zaj false 1 t16 H (K'' · H)) (K' · H)) λt17 H=>zad t15 false H (λK'=>zab H (λK''=>zac .lss false t17 (.int .i64 0) (K'' · H)) (K' · H)) λt18 H=>apu H (zam t15 (.bool true) t18) λt19=>apm H t19 λt20=>zad t20 false H (λK'=>zab H (λK''=>zaf 1 t4 (K'' · H)) (K' · H)) λt21 H=>zad t20 false H (λK'=>zab H (λK''=>zaj false 1 t21 H (K'' · H)) (K' · H)) λt22 H=>zad t20 false H (λK'=>zab H (λK''=>K'' t0 H) (K' · H)) λt23 H=>zad t20 false H (λK'=>zab H (λK''=>zah 1 t23 (K'' · H)) (K' · H)) λt24 H=>zad t20 false H (λK'=>zab H (λK''=>zac .geq false t22 t24 (K'' · H)) (K' · H)) λt25 H=>apu H (zam t20 (.bool true) t25) λt26=>apm H t26 λt27=>zad t27 false H (λK'=>zab H (λK''=>zaf 2 t4 (K'' · H)) (K' · H)) λt28 H=>zad t27 false H (λK'=>zab H (λK''=>zaj false 1 t28 H (K'' · H)) (K' · H)) λt29 H=>zad t27 false H (λK'=>zab H (λK''=>zah 1 t29 (K'' · H)) (K' · H)) λt30 H=>zad t27 false H (λK'=>zab H (λK''=>K'' t0 H) (K' · H)) λt31 H=>zad t27 false H (λK'=>zab H (λK''=>zaf 1 t4 (K'' · H)) (K' · H)) λt32 H=>zad t27 false H (λK'=>zab H (λK''=>zaj false 1 t32 H (K'' · H)) (K' · H)) λt33 H=>zad t27 false H (λK'=>zab H (λK''=>zak 3 t31 t33 (K'' · H)) (K' · H)) λt34 H=>zad t27 false H (λK'=>zab H (λK''=>zaf 1 t34 (K'' · H)) (K' · H)) λt35 H=>zad t27 false H (λK'=>zab H (λK''=>zaj false 1 t35 H (K'' · H)) (K' · H)) λt36 H=>zad t27 false H (λK'=>zab H (λK''=>zac .neq false t30 t36 (K'' · H)) (K' · H)) λt37 H=>apu H (zam t27 (.bool true) t37) λt38=>apm H t38 λt39=>zad t39 false H (λK'=>zab H (λK''=>K'' t2 H) (K' · H)) λt40 H=>zad t39 false H (λK'=>zab H (λK''=>zac .lss false t40 (.int .i64 0) (K'' · H)) (K' · H)) λt41 H=>apu H (zam t39 (.bool true) t41) λt42=>apm H t42 λt43=>zad t43 false H (λK'=>zab H (λK''=>K'' t2 H) (K' · H)) λt44 H=>zad t43 false H (λK'=>zab H (λK''=>K'' t0 H) (K' · H)) λt45 H=>zad t43 false H (λK'=>zab H (λK''=>zaf 1 t4 (K'' · H)) (K' · H)) λt46 H=>zad t43 false H (λK'=>zab H (λK''=>zaj false 1 t46 H (K'' · H)) (K' · H)) λt47 H=>zad t43 false H (λK'=>zab H (λK''=>zak 3 t45 t47 (K'' · H)) (K' · H)) λt48 H=>zad t43 false H (λK'=>zab H (λK''=>zaf 2 t48 (K'' · H)) (K' · H)) λt49 H=>zad t43 false H (λK'=>zab H (λK''=>zaj false 1 t49 H (K'' · H)) (K' · H)) λt50 H=>zad t43 false H (λK'=>zab H (λK''=>zah 1 t50 (K'' · H)) (K' · H)) λt51 H=>zad t43 false H (λK'=>zab H (λK''=>zac .geq false t44 t51 (K'' · H)) (K' · H)) λt52 H=>apu H (zam t43 (.bool true) t52) λt53=>zag t53 (zaF [.snil,(.bool false)] (K · H)) (zaf 1 t4 λt55=>zae false 1 t55 H λt56=>zak 3 t0 t56 λt57=>zaf 2 t57 λt58=>zae false 1 t58 H λt59=>zak 2 t59 t2 λt61=>zaf 1 t61 λt62=>zae false 1 t62 H λt63=>zah 1 t63 λt64=>zpQ t4 .snil t63 t64 (.int .i64 0) H K)
def zmI:Nat→List Bool|5=>rl false [1,2,1,3,46]|_=>[]
noncomputable def ztY:=Tryz.f146.body.getD .skip
noncomputable def zPG:=Tryz.f146.results.toList
def zmJ:=ux 1 (t1::t2::ux 1 (t4::t5::t6::ux 46 []))
def zPE:=zmI 5
noncomputable def zPC:=zar [1,1,1,0,1,0,0] ztY
def zPB:=zas tP zmI [1,1,1,0,1,0] ztY (zaB tP zPG K)
def ztZ:=ALoop tP zPC (zPB K) (zmJ t1 t2 t4 t5 t6) H
def ztX:=zaf 2 t2 λt34=>zae false 1 t34 H λt35=>zah 1 t35 λt36=>zac .lss false t6 t36 λt37=>zag t37 (apu H (zaf 2 t5) λt40=>apu H (zaj false 1 t40 H) λt41=>apu H (zaf 2 t2) λt42=>apu H (zaj false 1 t42 H) λt43=>apm H t6 λt44=>apu H (zak 3 t43 t44) λt45=>apu H (zaj true 3 t45 H) λt46=>apm H t1 λt47=>zaC H (λH K'=>ACalls tP zkb [t46,t47] H K') λt48=>apu H (zaw 3 [(.int .i64 0),(.int .i64 0),.snil] 1 [(0,t48)]) λt49=>zax za9 3 40 t41 t49 H λt50 H=>apu H (zaf 2 t5) λt51=>zan 1 t51 t50 H λH=>zac .add false t6 (.int .i64 1) λt39=>Kb5 (zmJ t1 t2 t4 t5 t39) H) (zae true 3 t5 H λt52=>zan 3 t4 t52 H λH=>zae true 3 t4 H λr0=>K r0 H)
def ztW:=zav t0 H λt2 H=>zaz [(.int .i64 0),(.int .i64 0),.snil] H λt4 H=>zaf 0 t2 λt7=>zae false 1 t7 H λt8=>zac .eql false t8 (.int .i64 4) λt9=>zad t9 true H (λK'=>zaf 1 t2 (K' · H)) λt11 H=>zad t9 true H (λK'=>zae false 1 t11 H (K' · H)) λt12 H=>zad t9 true H (λK'=>zac .geq false t12 (.int .i64 0) (K' · H)) λt13 H=>zam t9 t13 (.bool false) λt14=>zad t14 true H (λK'=>zaf 1 t2 (K' · H)) λt16 H=>zad t14 true H (λK'=>zae false 1 t16 H (K' · H)) λt17 H=>zad t14 true H (λK'=>K' t1 H) λt18 H=>zad t14 true H (λK'=>zah 1 t18 (K' · H)) λt19 H=>zad t14 true H (λK'=>zac .lss false t17 t19 (K' · H)) λt20 H=>zam t14 t20 (.bool false) λt21=>zag t21 (zaf 1 t2 λt23=>zae false 1 t23 H λt24=>zak 3 t1 t24 λt25=>zae true 3 t25 H λt26=>ACalls tP zkn [t26] H λt27 H=>zan 3 t4 t27 H λH=>zae true 3 t4 H λr0=>K r0 H) (zaf 0 t2 λt28=>zae false 1 t28 H λt29=>zaf 1 t2 λt30=>zae false 1 t30 H λt31=>zaq [(.int .i64 0),(.int .i64 0),.snil] [(0,1),(1,1),(2,1)] [(0,t29),(1,t31)] λt32=>zaz [(.int .i64 0),(.int .i64 0),.snil] H λt5 H=>zan 3 t5 t32 H λH=>ztZ t1 t2 t4 t5 (.int .i64 0) H K)
def znC:Nat→List Bool|3=>rl false [1,4,24]|_=>[]
noncomputable def zuP:=Tryz.f194.body.getD .skip
noncomputable def zSM:=Tryz.f194.results.toList
def znD:=ux 1 (t1::t2::t3::t4::ux 24 [])
def zSK:=znC 3
noncomputable def zSI:=zar [1,1,0,1,0,0] zuP
def zSH:=zas tP znC [1,1,0,1,0] zuP (zaB tP zSM K)
def zD8:=ALoop tP zSI (zSH K) (znD t1 t2 t3 t4) H
def zuO:=zaf 2 t1 λt11=>zae false 1 t11 H λt12=>zah 1 t12 λt13=>zac .lss false t4 t13 λt14=>zag t14 (apu H (zaf 2 t3) λt17=>apu H (zaj false 1 t17 H) λt18=>apu H (zaf 2 t1) λt19=>apu H (zaj false 1 t19 H) λt20=>apm H t4 λt21=>apu H (zak 3 t20 t21) λt22=>apu H (zaj true 3 t22 H) λt23=>zaC H (λH K'=>ACalls tP zkn [t23] H K') λt24=>apu H (zaw 3 [(.int .i64 0),(.int .i64 0),.snil] 1 [(0,t24)]) λt25=>zax za9 3 40 t18 t25 H λt26 H=>apu H (zaf 2 t3) λt27=>zan 1 t27 t26 H λH=>zac .add false t4 (.int .i64 1) λt16=>Kb3 (znD t1 t2 t3 t16) H) (zae true 3 t3 H λt28=>zan 3 t2 t28 H λH=>zae true 3 t2 H λr0=>K r0 H)
def zD7:=zav t0 H λt1 H=>zaz [(.int .i64 0),(.int .i64 0),.snil] H λt2 H=>zaf 0 t1 λt5=>zae false 1 t5 H λt6=>zaf 1 t1 λt7=>zae false 1 t7 H λt8=>zaq [(.int .i64 0),(.int .i64 0),.snil] [(0,1),(1,1),(2,1)] [(0,t6),(1,t8)] λt9=>zaz [(.int .i64 0),(.int .i64 0),.snil] H λt3 H=>zan 3 t3 t9 H λH=>zD8 t1 t2 t3 (.int .i64 0) H K
variable {t0 t1 t2 t3 t4 t5 t6 t7 t8 t13 t14 t63 t64 t65 t75} {H} {K} {Kb3 Kb5 Kb24}
theorem yay:Lo1 (λt8=>zpL t0 t2 t4 t7 t8) (λt8 H Kb24=>zxa t0 t2 t4 t7 t8 H K Kb24) t8 H (zxc t0 t2 t4 t7 t8 H K):=lq1 zpK yaz
theorem yaA(h:HSc H→zcV t0 t1 t2 H K):ACalls tP zkR [t0,t1,t2] H K:=
 acb zpK Tryz.func96 zxb h
theorem yaL:Lo2 (λt8 t65=>zpP t4 t8 t63 t64 t65) (λt8 t65 H Kb5=>zxg t4 t8 t63 t64 t65 H K Kb5) t8 t65 H (zpQ t4 t8 t63 t64 t65 H K):=lq2 zpO yaM
theorem yaN(h:HSc H→zGV t0 t1 t2 H K):ACalls tP ziv [t0,t1,t2] H K:=
 acb zpO Tryz.func98 zxh h
theorem zPD:Lo1 (λt6=>zmJ t1 t2 t4 t5 t6) (λt6 H Kb5=>ztX t1 t2 t4 t5 t6 H K Kb5) t6 H (ztZ t1 t2 t4 t5 t6 H K):=lq1 zmI zPE
theorem zPF(h:HSc H→ztW t0 t1 H K):ACalls tP zkb [t0,t1] H K:=
 acb zmI Tryz.func146 ztY h
theorem zSJ:Lo1 (λt4=>znD t1 t2 t3 t4) (λt4 H Kb3=>zuO t1 t2 t3 t4 H K Kb3) t4 H (zD8 t1 t2 t3 t4 H K):=lq1 znC zSK
theorem zSL(h:HSc H→zD7 t0 H K):ACalls tP zkn [t0] H K:=
 acb znC Tryz.func194 zuP h
end
section
variable (t0 t1 t2 t3 t7 t8 t9 t47 t48 t49 t78 t79 t80:AV) (H:zaa) (K:Kt) (Kb4 Kb6 Kb10:Lt)
def zgg:Nat→List Bool|6=>rl false [0,2,6,1,38,3,56]|10=>rl false [0,2,6,2,37,3,28,3,25]|_=>[]
noncomputable def zux:=Tryz.f168.body.getD .skip
noncomputable def zRJ:=Tryz.f168.results.toList
def zng:=t0::t1::ux 6 (t8::ux 38 (t47::t48::t49::ux 56 []))
def zDS:=zgg 6
noncomputable def zuy:=zar [1,1,1,1,0,1,0,0] zux
def zDQ:=zas tP zgg [1,1,1,1,0,1,0] zux (zaB tP zRJ K)
def zDR:=ALoop tP zuy (zDQ K) (zng t0 t1 t8 t47 t48 t49) H
def znf:=t0::t1::ux 6 (t8::t9::ux 37 (t47::t48::t49::ux 28 (t78::t79::t80::ux 25 [])))
def zRH:=zgg 10
noncomputable def zRE:=zar [1,1,0,0,1,1,1,0,0] zuy
def zRD:=zas tP zgg [1,1,0,0,1,1,1,0] zuy (zbC zDS Kb6 (zDQ K))
def zuA:=ALoop tP zRE (zRD K Kb6) (znf t0 t1 t8 t9 t47 t48 t49 t78 t79 t80) H
def zuz(t0 t1 t8 t9 t47 t48 t49 t78 t79 t80:AV)(H:zaa)(K:Kt)(Kb6:Lt)(Kb10:Lt):Prop:=zac .add false t80 (.int .i64 1) λt103=>Kb10 (znf t0 t1 t8 t9 t47 t48 t49 t78 t79 t103) H
def zhl:=zuz t0 t1 t8 t9 t47 t48 t49 t78 t79 t80 H K Kb6 Kb10
def zhk:=zac .lss false t80 t79 λt81=>zag t81 (zak 3 t78 t80 λt83=>zae true 3 t83 H λt84=>zaz [(.int .i64 0),(.int .i64 0),.snil] H λt12 H=>zan 3 t12 t84 H λH=>zaf 0 t12 λt85=>zae false 1 t85 H λt86=>zac .neq false t86 (.int .i64 4) λt87=>zad t87 false H (λK'=>zaf 1 t12 (K' · H)) λt89 H=>zad t87 false H (λK'=>zae false 1 t89 H (K' · H)) λt90 H=>zad t87 false H (λK'=>K' t80 H) λt91 H=>zad t87 false H (λK'=>zac .neq false t90 t91 (K' · H)) λt92 H=>zam t87 (.bool true) t92 λt93=>zad t93 false H (λK'=>zaf 2 t12 (K' · H)) λt95 H=>zad t93 false H (λK'=>zae false 1 t95 H (K' · H)) λt96 H=>zad t93 false H (λK'=>zah 1 t96 (K' · H)) λt97 H=>zad t93 false H (λK'=>zac .gtr false t97 (.int .i64 0) (K' · H)) λt98 H=>zam t93 (.bool true) t98 λt99=>zag t99 (zak 1 t8 t9 λt102=>zan 1 t102 (.bool false) H λH=>zhl t0 t1 t8 t9 t47 t48 t49 t78 t79 t80 H K Kb6 Kb10) (zhl t0 t1 t8 t9 t47 t48 t49 t78 t79 t80 H K Kb6 Kb10)) (zac .add false t49 (.int .i64 1) λt104=>Kb6 (zng t0 t1 t8 t47 t48 t104) H)
def zi5:=zac .lss false t49 t48 λt50=>zag t50 (zak 3 t47 t49 λt52=>zae true 3 t52 H λt53=>zaz [(.int .i64 0),(.int .i64 0),.snil] H λt10 H=>zan 3 t10 t53 H λH=>apm H t8 λt54=>apm H t49 λt55=>apu H (zaf 0 t10) λt56=>apu H (zaj false 1 t56 H) λt57=>apu H (zac .eql false t57 (.int .i64 5)) λt58=>apm H t58 λt59=>zad t59 true H (λK'=>zab H (λK''=>zaf 1 t10 (K'' · H)) (K' · H)) λt60 H=>zad t59 true H (λK'=>zab H (λK''=>zaj false 1 t60 H (K'' · H)) (K' · H)) λt61 H=>zad t59 true H (λK'=>zab H (λK''=>K'' t1 H) (K' · H)) λt62 H=>zad t59 true H (λK'=>zab H (λK''=>zac .eql false t61 t62 (K'' · H)) (K' · H)) λt63 H=>apu H (zam t59 t63 (.bool false)) λt64=>apm H t64 λt65=>zad t65 true H (λK'=>zab H (λK''=>zaf 2 t10 (K'' · H)) (K' · H)) λt66 H=>zad t65 true H (λK'=>zab H (λK''=>zaj false 1 t66 H (K'' · H)) (K' · H)) λt67 H=>zad t65 true H (λK'=>zab H (λK''=>zah 1 t67 (K'' · H)) (K' · H)) λt68 H=>zad t65 true H (λK'=>zab H (λK''=>K'' t0 H) (K' · H)) λt69 H=>zad t65 true H (λK'=>zab H (λK''=>K'' t1 H) (K' · H)) λt70 H=>zad t65 true H (λK'=>zab H (λK''=>zak 3 t69 t70 (K'' · H)) (K' · H)) λt71 H=>zad t65 true H (λK'=>zab H (λK''=>zaf 1 t71 (K'' · H)) (K' · H)) λt72 H=>zad t65 true H (λK'=>zab H (λK''=>zaj false 1 t72 H (K'' · H)) (K' · H)) λt73 H=>zad t65 true H (λK'=>zab H (λK''=>zac .eql false t68 t73 (K'' · H)) (K' · H)) λt74 H=>apu H (zam t65 t74 (.bool false)) λt75=>apu H (zak 1 t54 t55) λt76=>zan 1 t76 t75 H λH=>zaf 2 t10 λt77=>zae false 1 t77 H λt78=>zah 1 t78 λt79=>zuA t0 t1 t8 t49 t47 t48 t49 t78 t79 (.int .i64 0) H K Kb6) (K t8 H)
def zDP:=zac .lss false t1 (.int .i64 0) λt14=>zad t14 false H (λK'=>K' t1 H) λt16 H=>zad t14 false H (λK'=>K' t0 H) λt17 H=>zad t14 false H (λK'=>zah 1 t17 (K' · H)) λt18 H=>zad t14 false H (λK'=>zac .geq false t16 t18 (K' · H)) λt19 H=>zam t14 (.bool true) t19 λt20=>zad t20 false H (λK'=>K' t2 H) λt22 H=>zad t20 false H (λK'=>zac .lss false t22 (.int .i64 0) (K' · H)) λt23 H=>zam t20 (.bool true) t23 λt24=>zad t24 false H (λK'=>K' t2 H) λt26 H=>zad t24 false H (λK'=>K' t0 H) λt27 H=>zad t24 false H (λK'=>K' t1 H) λt28 H=>zad t24 false H (λK'=>zak 3 t27 t28 (K' · H)) λt29 H=>zad t24 false H (λK'=>zaf 2 t29 (K' · H)) λt30 H=>zad t24 false H (λK'=>zae false 1 t30 H (K' · H)) λt31 H=>zad t24 false H (λK'=>zah 1 t31 (K' · H)) λt32 H=>zad t24 false H (λK'=>zac .geq false t26 t32 (K' · H)) λt33 H=>zam t24 (.bool true) t33 λt34=>zag t34 (K .snil H) (zak 3 t0 t1 λt37=>zaf 2 t37 λt38=>zae false 1 t38 H λt39=>zak 2 t39 t2 λt41=>zaf 1 t41 λt42=>zae false 1 t42 H λt43=>zah 1 t43 λt45=>zbp 1 [(.bool false)] t45 t45 H λt46 H=>zah 1 t43 λt48=>zDR t0 t1 t46 t43 t48 (.int .i64 0) H K)
def zUh(_:Nat):List Bool:=[]
noncomputable def zUi:=Tryz.f228.body.getD .skip
def zEE:=zav t0 H λt2 H=>zav t1 H λt3 H=>zaf 0 t2 λt5=>zae false 1 t5 H λt6=>zac .eql false t6 (.int .i64 5) λt7=>zad t7 true H (λK'=>zaf 1 t2 (K' · H)) λt9 H=>zad t7 true H (λK'=>zae false 1 t9 H (K' · H)) λt10 H=>zad t7 true H (λK'=>zae false 1 t3 H (K' · H)) λt11 H=>zad t7 true H (λK'=>zac .eql false t10 t11 (K' · H)) λt12 H=>zam t7 t12 (.bool false) λt13=>zad t13 false H (λK'=>zaf 2 t2 (K' · H)) λt15 H=>zad t13 false H (λK'=>zae false 1 t15 H (K' · H)) λt16 H=>zad t13 false H (λK'=>zcN zkw [t3] (K' · H)) λt17 H=>zad t13 false H (λK'=>ACalls tP zfR [t16,t17] H K') λt18 H=>zam t13 (.bool true) t18 λt19=>K t19 H
def zUD(_:Nat):List Bool:=[]
noncomputable def zUE:=Tryz.f247.body.getD .skip
def zEK:=zav t0 H λt2 H=>zae true 3 t2 H λt4=>zae false 1 t1 H λt5=>ACalls tP zku [t4,t5] H λt6 H=>K t6 H
def zpE:Nat→List Bool|4=>rl false [3,1,3,1,50]|_=>[]
noncomputable def zw3:=Tryz.f93.body.getD .skip
noncomputable def yah:=Tryz.f93.results.toList
def zpF:=ux 3 (t3::ux 3 (t7::ux 50 []))
def yaf:=zpE 4
noncomputable def yad:=zar [1,1,0,1,0,0] zw3
def yac:=zas tP zpE [1,1,0,1,0] zw3 (zaB tP yah K)
def zGK:=ALoop tP yad (yac K) (zpF t3 t7) H
def zht:=zaf 2 t3 λt25=>zae false 1 t25 H λt26=>zah 1 t26 λt27=>zac .lss false t7 t27 λt28=>zag t28 (zaf 2 t3 λt31=>zae false 1 t31 H λt32=>zak 3 t32 t7 λt34=>zaf 0 t34 λt35=>zae false 1 t35 H λt36=>zac .neq false t36 (.int .i64 4) λt37=>zad t37 false H (λK'=>zaf 2 t3 (K' · H)) λt39 H=>zad t37 false H (λK'=>zae false 1 t39 H (K' · H)) λt40 H=>zad t37 false H (λK'=>K' t7 H) λt41 H=>zad t37 false H (λK'=>zak 3 t40 t41 (K' · H)) λt42 H=>zad t37 false H (λK'=>zaf 1 t42 (K' · H)) λt43 H=>zad t37 false H (λK'=>zae false 1 t43 H (K' · H)) λt44 H=>zad t37 false H (λK'=>K' t7 H) λt45 H=>zad t37 false H (λK'=>zac .neq false t44 t45 (K' · H)) λt46 H=>zam t37 (.bool true) t46 λt47=>zad t47 false H (λK'=>zaf 2 t3 (K' · H)) λt49 H=>zad t47 false H (λK'=>zae false 1 t49 H (K' · H)) λt50 H=>zad t47 false H (λK'=>K' t7 H) λt51 H=>zad t47 false H (λK'=>zak 3 t50 t51 (K' · H)) λt52 H=>zad t47 false H (λK'=>zaf 2 t52 (K' · H)) λt53 H=>zad t47 false H (λK'=>zae false 1 t53 H (K' · H)) λt54 H=>zad t47 false H (λK'=>zah 1 t54 (K' · H)) λt55 H=>zad t47 false H (λK'=>zac .gtr false t55 (.int .i64 0) (K' · H)) λt56 H=>zam t47 (.bool true) t56 λt57=>zag t57 (K (.bool false) H) (zac .add false t7 (.int .i64 1) λt30=>Kb4 (zpF t3 t30) H)) (K (.bool true) H)
def zGJ:=zav t0 H λt3 H=>zaf 0 t3 λt8=>zae false 1 t8 H λt9=>zac .neq false t9 (.int .i64 5) λt10=>zad t10 false H (λK'=>zaf 1 t3 (K' · H)) λt12 H=>zad t10 false H (λK'=>zae false 1 t12 H (K' · H)) λt13 H=>zad t10 false H (λK'=>K' t1 H) λt14 H=>zad t10 false H (λK'=>zac .neq false t13 t14 (K' · H)) λt15 H=>zam t10 (.bool true) t15 λt16=>zad t16 false H (λK'=>zaf 2 t3 (K' · H)) λt18 H=>zad t16 false H (λK'=>zae false 1 t18 H (K' · H)) λt19 H=>zad t16 false H (λK'=>zah 1 t19 (K' · H)) λt20 H=>zad t16 false H (λK'=>K' t2 H) λt21 H=>zad t16 false H (λK'=>zac .neq false t20 t21 (K' · H)) λt22 H=>zam t16 (.bool true) t22 λt23=>zag t23 (K (.bool false) H) (zGK t3 (.int .i64 0) H K)
variable {t0 t1 t2 t3 t7 t8 t9 t47 t48 t49 t78 t79 t80} {H} {K} {Kb4 Kb6 Kb10}
theorem zRF:Lo1 (λt80=>znf t0 t1 t8 t9 t47 t48 t49 t78 t79 t80) (λt80 H Kb10=>zhk t0 t1 t8 t9 t47 t48 t49 t78 t79 t80 H K Kb6 Kb10) t80 H (zuA t0 t1 t8 t9 t47 t48 t49 t78 t79 t80 H K Kb6):=lq1 zgg zRH
theorem zRG:Lo1 (λt49=>zng t0 t1 t8 t47 t48 t49) (λt49 H Kb6=>zi5 t0 t1 t8 t47 t48 t49 H K Kb6) t49 H (zDR t0 t1 t8 t47 t48 t49 H K):=lq1 zgg zDS
theorem zRI(h:HSc H→zDP t0 t1 t2 H K):ACalls tP zfQ [t0,t1,t2] H K:=
 acb zgg Tryz.func168 zux h
theorem zUj(h:HSc H→zEE t0 t1 H K):ACalls tP zku [t0,t1] H K:=
 acb zUh Tryz.func228 zUi h
theorem zUF(h:HSc H→zEK t0 t1 H K):ACalls tP zkw [t0,t1] H K:=
 acb zUD Tryz.func247 zUE h
theorem yae:Lo1 (λt7=>zpF t3 t7) (λt7 H Kb4=>zht t3 t7 H K Kb4) t7 H (zGK t3 t7 H K):=lq1 zpE yaf
theorem yag(h:HSc H→zGJ t0 t1 t2 H K):ACalls tP zkQ [t0,t1,t2] H K:=
 acb zpE Tryz.func93 zw3 h
end
theorem zF3:∀ (m:Nat) (v:VT),v.nodes≤m→∀ (left:Int),left≤1000000→-1≤left→∀ (H:zaa) (id:Nat),H[id]?=some (.cells [.int .i64 left])→∀ (K:AV→zaa→Prop),
  ((v.nodes:Int)≤left→K (.bool true) (H.set id (.cells [.int .i64 (left-v.nodes)])))→(¬(v.nodes:Int)≤left→∀l',K (.bool false) (H.set id (.cells [.int .i64 l']))) →
  ACalls tP zir [.agg v.cs,.ptr id 0] H K:=by
 intro m;induction m with
 |zero=>intro v h;have:=v.nodes_pos;omega
 |succ m ih=>
  intro v hv left i9 ik H id en K hK hF;obtain⟨k,n,ks⟩:=v;have ei:=zbm en;have iK:(VT.mk k n ks).nodes=VT.nodesL ks+1:=by simp[VT.nodes]
  refine ACalls.out (zYq λhs=>?_);have eA:(H++[AB.cells [.int .i64 k,.int .i64 n,.sl (VT.css ks) .none]])[id]?=some (.cells [.int .i64 left]):=zbK en;have bad:(¬((VT.mk k n ks).nodes:Int)≤left)→∀l' H',H'=H.set id (.cells [.int .i64 l'])++[.cells [.int .i64 k,.int .i64 n,.sl (VT.css ks) .none]]→Out H.length K (.bool false) H':=by intro h l' H' he;exact Out.bool he (by simp) (hs.set rfl) (hF h l')
  simp[zF1,VT.cs,eA,AV.known];rw[zay (by omega) (by omega),zeB _ en,zbK (zdO _ en)];by_cases h0:left-1<0
  ·simp[h0];exact bad (by omega) _ _ rfl
  ·simp[h0];refine zYo (Inv:=λq t5 H'=>∃i:Nat,i≤ks.length∧q=ks.length-i∧t5=.int .i64 i∧((VT.nodesL (ks.take i):Int)+1≤left)∧H'=H.set id (.cells [.int .i64 (left-1-VT.nodesL (ks.take i))])++[.cells [.int .i64 k,.int .i64 n,.sl (VT.css ks) .none]]) ks.length ?_ ?_
   ·intro _;exact⟨0,by omega,by omega,rfl,by simp[VT.nodesL];omega,by simp[VT.nodesL]⟩
   ·rintro q t5 H' ⟨i,hi,rfl,rfl,hb,rfl⟩ hsc ek eK Kb eq;by_cases fg:i<ks.length
    ·have fm:=VT.kid_lt (k:=k) (n:=n) fg;have h1:=VT.nodesL_take fg;have h2:=VT.nodesL_take_le ks (i+1);have fh:=VT.len_le (ks.take i);simp only[aT]at fh;have gK:(H.set id (.cells [.int .i64 (left-1-VT.nodesL (ks.take i))])++[AB.cells [.int .i64 k,.int .i64 n,.sl (VT.css ks) .none]])[id]?=some (.cells [.int .i64 (left-1-VT.nodesL (ks.take i))]):=zbK (zdO _ en);simp[zww,fg];refine ih ks[i] (by omega) (left-1-VT.nodesL (ks.take i)) (by omega) (by omega) _ id gK _ ?_ ?_
     ·intro eP;rw[zeB _ (zdO _ en),bD];simp;rw[zay (by omega) (by omega)];refine eq _ _ ⟨ks.length-(i+1),by omega,Back.here (by simp) ((hs.set rfl).snoc rfl) ?_ ⟨_,rfl,i+1,by omega,rfl,by simp,by omega,?_⟩⟩
      ·simp[zpa,AV.sc,AV.scV,AV.scA,AV.scB];omega
      ·rw[h1];congr 5;omega
     ·intro eP l';rw[zeB _ (zdO _ en),bD];simp;exact bad (by omega) _ _ rfl
    ·obtain rfl:i=ks.length:=by omega
     rw[ak]at hb ⊢;simp[zww];refine Out.bool rfl (by simp) (hs.set rfl) ?_;have:=hK (by omega);rw[iK]at this;rw[show left-1-(VT.nodesL ks:Int)=left-((VT.nodesL ks+1:Nat):Int) by omega];exact this
theorem zVR(v:VT)(H:zaa)(K:AV→zaa→Prop)(hK:∀b,(b=true→v.nodes≤250)→K (.bool b) H):ACalls tP zrP [.agg v.cs] H K:=by
 refine ACalls.out (zVQ λhs=>?_);simp[zFf,AV.known];refine zF3 _ v (ac _) 250 (by omega) (by omega) _ (H.length+1) (by simp) _ ?_ ?_
 ·intro h;exact Out.bool (J:=[_,_]) (by simp;exact⟨rfl,rfl⟩) (ac _) hs (hK true λ_=>by omega)
 ·intro h l';exact Out.bool (J:=[_,_]) (by simp;exact⟨rfl,rfl⟩) (ac _) hs (hK false λh=>by cases h)
theorem zGS:∀(m:Nat) (v:VT),v.nodes≤m→v.nodes≤1000000000→∀(H:zaa) (K:AV→zaa→Prop),K (.int .i64 v.nodes) H→ACalls tP ziu [.agg v.cs] H K:=by
 intro m;induction m with
 |zero=>intro v h;have:=v.nodes_pos;omega
 |succ m ih=>
  intro v hv hb H K hK;obtain⟨k,n,ks⟩:=v;have gd:VT.nodesL ks+1≤1000000000:=by simpa[VT.nodes]using hb
  have fh:=VT.len_le ks;refine ACalls.out (yau λhs=>?_);simp[VT.cs,zGQ];refine yas (Inv:=λq t3 t4 H'=>∃i:Nat,i≤ks.length∧q=ks.length-i∧t4=.int .i64 i∧t3=.int .i64 (1+VT.nodesL (ks.take i):Nat)∧H'=H++[.cells [.int .i64 k,.int .i64 n,.sl (VT.css ks) .none]]) ks.length ?_ ?_
  ·intro _;exact⟨0,by omega,by omega,rfl,by simp[VT.nodesL],rfl⟩
  ·rintro q t3 t4 H' ⟨i,hi,rfl,rfl,rfl,rfl⟩ hsc ek eK Kb eq;by_cases ei:i<ks.length
   ·have fm:=VT.kid_lt (k:=k) (n:=n) ei;have h1:=VT.nodesL_take ei;have h2:=VT.nodesL_take_le ks (i+1);simp[zw8,ei];refine ih ks[i] (by omega) (by omega) _ _ ?_;simp;rw[zay (by omega) (by omega),zay (by omega) (by omega)];refine eq _ _ ⟨ks.length-(i+1),by omega,Back.here (by simp) hsc ?_ ⟨_,_,rfl,i+1,by omega,rfl,by simp,?_,rfl⟩⟩
    ·simp[zpJ,AV.sc,AV.scV,AV.scA,AV.scB]
    ·rw[h1];congr 1;omega
   ·obtain rfl:i=ks.length:=by omega
    simp[zw8];refine Out.int rfl (ac _) hs ?_;simpa[VT.nodes,Int.add_comm]using hK
end Go.Proofs.YtdmamdnkcefmmaaGreatDoor
