import Derived.Test.YtdmamdnkcefmmaaGreatDoorIT
set_option linter.unusedSimpArgs false
set_option linter.unusedVariables false
set_option linter.unusedSectionVars false
set_option linter.defProp false
set_option maxRecDepth 100000
namespace Go.Proofs.YtdmamdnkcefmmaaGreatDoor
def yY:List (IT × Nat)→IT→Nat→List (IT × Nat)
 |[],i,c=>[(i,c)]
 |p::s,i,c=>if IT.cmp p.1 i<0 then p::yY s i c else if IT.cmp p.1 i=0 then (p.1,p.2+c)::s else (i,c)::p::s
def zKy{s:List (IT×Nat)}{i:IT}{c:Nat}:∀p∈yY s i c,(p∈s∨p=(i,c))∨∃q∈s,p=(q.1,q.2+c):=by
 induction s with
 |nil=>intro p hp;simp[yY]at hp;exact .inl (.inr hp)
 |cons q s ih=>
  intro p hp;rw[yY]at hp;split at hp
  ·rcases aT.1 hp with rfl | hp
   ·exact .inl (.inl (by simp))
   ·rcases ih p hp with (h | h) | ⟨r,hr,h⟩
    ·exact .inl (.inl (by simp[h]))
    ·exact .inl (.inr h)
    ·exact .inr ⟨r,by simp[hr],h⟩
  ·split at hp
   ·rcases aT.1 hp with rfl | hp
    ·exact .inr ⟨q,by simp,rfl⟩
    ·exact .inl (.inl (by simp[hp]))
   ·rcases aT.1 hp with rfl | hp
    ·exact .inl (.inr rfl)
    ·exact .inl (.inl hp)
def uB(f:IT→Nat)(s:List (IT×Nat)):Nat:=(s.map λp=>p.2*f p.1).foldr (·+·) 0
@[simp] theorem x9(f:IT→Nat):uB f []=0:=rfl
@[simp] theorem yu(f:IT→Nat)(p:IT×Nat)(s:List (IT×Nat)):uB f (p::s)=p.2*f p.1+uB f s:=rfl
theorem JA(f:IT→Nat):∀ a b:List (IT × Nat),uB f (a++b)=uB f a+uB f b
 |[],b=>by simp
 |p::a,b=>by simp[JA f a b];omega
mutual
theorem same_eq:∀ v w:IT,IT.same v w=true→v=w
 |.mk n ks,.mk n' ks',h=>by simp only[IT.same,ap,bt]at h;rw[h.1,sameL_eq ks ks' h.2]
theorem sameL_eq:∀ v w:List IT,IT.ZL v w=true→v=w
 |v::vs,w::ws,h=>by simp only[IT.ZL,ap]at h;rw[same_eq v w h.1,sameL_eq vs ws h.2]
 |[],[],_=>rfl
 |[],_::_,h=>by simp[IT.ZL]at h
 |_::_,[],h=>by simp[IT.ZL]at h
end
def Qg{v w:IT}(h:IT.cmp v w=0):v=w:=same_eq v w ((IT.cmp_zero v w).1 h)
theorem Ys(f:IT→Nat)(i:IT)(c:Nat):∀ s:List (IT × Nat),uB f (yY s i c)=uB f s+c*f i
 |[]=>by simp[yY]
 |p::s=>by
  rw[yY];split
  ·rw[yu,yu,Ys f i c s];omega
  ·split
   ·rename_i h;have e:=Qg h;subst e;simp only[yu,bp];omega
   ·rw[yu];simp only;omega
def vU(s:List (IT×Nat))(i:IT)(c:Nat):List (IT×Nat):=if c=0 then s else yY s i c
def zPq(f:IT→Nat)(i:IT)(c:Nat)(s:List (IT×Nat)):uB f (vU s i c)=uB f s+c*f i:=by
 unfold vU;split
 ·rename_i h;rw[h];simp
 ·exact Ys f i c s
def uu(s l:List (IT×Nat)):List (IT×Nat):=l.foldl (λs p=>vU s p.1 p.2) s
def zKx(s l:List (IT×Nat))(p:IT×Nat):uu s (l++[p])=vU (uu s l) p.1 p.2:=by simp[uu]
theorem xm(f:IT→Nat):∀ (l s:List (IT × Nat)),uB f (uu s l)=uB f s+uB f l
 |[],s=>by simp[uu]
 |p::l,s=>by have h:=xm f l (vU s p.1 p.2);rw[zPq]at h;show uB f (uu (vU s p.1 p.2) l)=_;rw[h,yu];omega
section
variable (t0 t1 t2 t3 t6 t7 t8 t10 t11 t12 t13 t19 t20:AV) (H:or) (K:Kt) (Kb2 Kb3 Kb4:Lt)
def JB:Nat→List Bool|4=>rl false [2,2,6,3,12]|_=>[]
noncomputable def Yt:=bd Tryz.f112
def JC:=ux 2 (t2::t3::ux 6 (t10::t11::t12::ux 12 []))
def zRh:=JB 4
noncomputable def zRf:=uc [1,1,0,1,0,1,0,0] Yt
def zRe:=ud tP JB [1,1,0,1,0,1,0] Yt (uq tP Tryz.f112.results.toList K)
def JD:=tM tP zRf (zRe K) (JC t2 t3 t10 t11 t12) H
def JE:=tL true 2 t3 H λt24=>ua 2 t2 t24 H λH=>tL true 2 t2 H λr0=>K r0 H
def Qh:=gt .lss false t12 t11 λt13=>tO t13 (tW 3 t10 t12 λt14=>tL true 3 t14 H λt15=>un [I0,I0,.ZG] H λt5 H=>ua 3 t5 t15 H λH=>apu H (tN 1 t3) λt16=>apu H (tY false 1 t16 H) λt17=>apu H (tY true 3 t5 H) λt18=>apc tP H 112 [t18] λt19=>apu H (uk 2 [I0,.ZG] 1 [(0,t19)]) λt20=>uj 28 2 32 t17 t20 H λt21 H=>apu H (tN 1 t3) λt22=>ua 1 t22 t21 H λH=>gt .add false t12 I1 λt23=>Kb4 (JC t2 t3 t10 t11 t23) H) (JE t2 t3 H K)
def Yu:=ul t0 H λt1 H=>un [I0,.ZG] H λt2 H=>un [I0,.ZG] H λt3 H=>tN 0 t1 λt6=>tL false 1 t6 H λt7=>gt .eql false t7 (I6 6) λt8=>tO t8 (tN 2 t1 λt9=>tL false 1 t9 H λt10=>tV 1 t10 λt11=>JD t2 t3 t10 t11 I0 H K) (JE t2 t3 H K)
def JF:Nat→List Bool|3=>rl false [2,2,6,3,12]|_=>[]
noncomputable def Yv:=bd Tryz.f116
def JG:=ux 2 (t2::t3::ux 6 (t10::t11::t12::ux 12 []))
def zRx:=JF 3
noncomputable def zRv:=uc [1,1,0,1,0,0] Yv
def zRu:=ud tP JF [1,1,0,1,0] Yv (uq tP Tryz.f116.results.toList K)
def JH:=tM tP zRv (zRu K) (JG t2 t3 t10 t11 t12) H
def Qi:=gt .lss false t12 t11 λt13=>tO t13 (tW 2 t10 t12 λt14=>tL true 2 t14 H λt15=>un [I0,.ZG] H λt5 H=>ua 2 t5 t15 H λH=>apu H (tN 1 t3) λt16=>apu H (tY false 1 t16 H) λt17=>apu H (tY true 2 t5 H) λt18=>apc tP H 116 [t18] λt19=>apu H (uk 2 [I0,.ZG] 1 [(0,t19)]) λt20=>uj 28 2 32 t17 t20 H λt21 H=>apu H (tN 1 t3) λt22=>ua 1 t22 t21 H λH=>gt .add false t12 I1 λt23=>Kb3 (JG t2 t3 t10 t11 t23) H) (tL true 2 t3 H λt24=>ua 2 t2 t24 H λH=>tL true 2 t2 H λr0=>K r0 H)
def Yw:=ul t0 H λt1 H=>un [I0,.ZG] H λt2 H=>tN 0 t1 λt6=>tL false 1 t6 H λt7=>ug [I0,.ZG] [(0,1),(1,1)] [(0,t7)] λt8=>un [I0,.ZG] H λt3 H=>ua 2 t3 t8 H λH=>tN 1 t1 λt9=>tL false 1 t9 H λt10=>tV 1 t10 λt11=>JH t2 t3 t10 t11 I0 H K
def zS7(_:Nat):List Bool:=[]
def Yx:=ge tP 187 [t0] H λt8 H=>ge tP 187 [t1] H λt10 H=>tO t8 (tO t10 (K I0 H) (K (I6 (-1)) H)) (tO t10 (K I1 H) (gt .lss false t0 t1 λt16=>tO t16 (K (I6 (-1)) H) (gt .gtr false t0 t1 λt19=>tO t19 (K I1 H) (K I0 H))))
def JI:Nat→List Bool|3=>rl false [3,1,2,3,9]|_=>[]
noncomputable def Yy:=bd Tryz.f138
def JJ:=ux 3 (t3::ux 2 (t6::t7::t8::ux 9 []))
def zS4:=JI 3
noncomputable def zS2:=uc [1,1,0,1,0,0] Yy
def zS1:=ud tP JI [1,1,0,1,0] Yy (uq tP Tryz.f138.results.toList K)
def Yz:=tM tP zS2 (zS1 K) (JJ t3 t6 t7 t8) H
def JK:=gt .lss false t8 t7 λt9=>tO t9 (tW 1 t6 t8 λt10=>tL false 1 t10 H λt11=>gt .neq false t11 t3 λt14=>tO t14 (K t11 H) (gt .add false t8 I1 λt16=>Kb3 (JJ t3 t6 t7 t16) H)) (K t3 H)
def YA:=tV 1 t0 λt7=>Yz I0 t0 t7 I0 H K
def zWD(_:Nat):List Bool:=[]
def YB:=gt .neq false t0 t0 λt5=>K t5 H
def yeq(_:Nat):List Bool:=[]
def YC:=ul t0 H λt2 H=>ul t1 H λt3 H=>apu H (tN 0 t2) λt6=>apu H (tY false 1 t6 H) λt7=>apu H (tN 0 t3) λt8=>apu H (tY false 1 t8 H) λt9=>apc tP H 139 [t7,t9] λt10=>apu H (tN 1 t2) λt11=>apu H (tY false 1 t11 H) λt12=>apu H (tV 1 t12) λt13=>apu H (tN 1 t3) λt14=>apu H (tY false 1 t14 H) λt15=>apu H (tV 1 t15) λt16=>apc tP H 139 [t13,t16] λt17=>apu H (uk 1 [I0] 2 [(0,t10),(1,t17)]) λt18=>apc tP H 138 [t18] λt19=>apm H t19 λt5=>gt .neq false t5 I0 λt21=>tO t21 (K t5 H) (tN 1 t2 λt23=>tL false 1 t23 H λt24=>tN 1 t3 λt25=>tL false 1 t25 H λt26=>ge tP 140 [t24,t26,(.fn 86 [])] H λt27 H=>K t27 H)
def zRr(_:Nat):List Bool:=[]
def Qj:=ul t0 H λt2 H=>ul t1 H λt3 H=>tN 0 t2 λt5=>tL false 1 t5 H λt6=>tN 0 t3 λt7=>tL false 1 t7 H λt8=>gt .neq false t6 t8 λt9=>tO t9 (tN 0 t2 λt10=>tL false 1 t10 H λt11=>tN 0 t3 λt12=>tL false 1 t12 H λt13=>gt .lss false t11 t13 λt14=>ge tP 154 [t14] H λt15 H=>K t15 H) (tN 1 t2 λt16=>tL false 1 t16 H λt17=>tN 1 t3 λt18=>tL false 1 t18 H λt19=>ge tP 155 [t17,t19] H λt20 H=>K t20 H)
def JL:Nat→List Bool|4=>rl false [0,2,17,2,15]|_=>[]
noncomputable def YD:=bd Tryz.f155
def JM:=t0::t1::ux 17 (t19::t20::ux 15 [])
def zUo:=JL 4
noncomputable def zUm:=uc [1,1,0,1,0,0] YD
def zUl:=ud tP JL [1,1,0,1,0] YD (uq tP Tryz.f155.results.toList K)
def YE:=tM tP zUm (zUl K) (JM t0 t1 t19 t20) H
def Qk:=gt .lss false t20 t19 λt21=>tO t21 (apm H t0 λt23=>apm H t20 λt24=>apu H (tW 2 t23 t24) λt25=>apu H (tY true 2 t25 H) λt26=>apm H t1 λt27=>apm H t20 λt28=>apu H (tW 2 t27 t28) λt29=>apu H (tY true 2 t29 H) λt30=>apc tP H 115 [t26,t30] λt31=>apm H t31 λt6=>gt .neq false t6 I0 λt33=>tO t33 (K t6 H) (gt .add false t20 I1 λt35=>Kb4 (JM t0 t1 t19 t35) H)) (K I0 H)
def Ql:=tV 1 t0 λt8=>tV 1 t1 λt10=>gt .neq false t8 t10 λt11=>tO t11 (tV 1 t0 λt13=>tV 1 t1 λt15=>gt .lss false t13 t15 λt16=>ge tP 154 [t16] H λt17 H=>K t17 H) (tV 1 t0 λt19=>YE t0 t1 t19 I0 H K)
def zUi(_:Nat):List Bool:=[]
def YF:=tO t0 (K (I6 (-1)) H) (K I1 H)
def JN:Nat→List Bool|2=>rl false [0,3,8,3,25]|_=>[]
noncomputable def YG:=bd Tryz.f140
def JO:=t0::t1::t2::ux 8 (t11::t12::t13::ux 25 [])
def zTd:=JN 2
noncomputable def zTb:=uc [1,0,1,0,0] YG
def zTa:=ud tP JN [1,0,1,0] YG (uq tP Tryz.f140.results.toList K)
def YH:=tM tP zTb (zTa K) (JO t0 t1 t2 t11 t12 t13) H
def Qm:=gt .lss false t13 t12 λt14=>tO t14 (tW 2 t11 t13 λt16=>tL true 2 t16 H λt17=>un [I0,.ZG] H λt8 H=>ua 2 t8 t17 H λH=>tV 1 t1 λt20=>gt .geq false t13 t20 λt21=>tO t21 (K I1 H) (tW 2 t1 t13 λt24=>tL true 2 t24 H λt25=>un [I0,.ZG] H λt9 H=>ua 2 t9 t25 H λH=>tL true 2 t8 H λt27=>tL true 2 t9 H λt28=>aCallV tP t2 [t27,t28] H λt29 H=>gt .neq false t29 I0 λt31=>tO t31 (K t29 H) (gt .add false t13 I1 λt33=>Kb2 (JO t0 t1 t2 t11 t12 t33) H))) (tV 1 t0 λt35=>tV 1 t1 λt37=>gt .lss false t35 t37 λt38=>tO t38 (K (I6 (-1)) H) (K I0 H))
def YI:=tV 1 t0 λt12=>YH t0 t1 t2 t0 t12 I0 H K
def yct(_:Nat):List Bool:=[]
def Qn:=ul t1 H λt3 H=>un [I0,.ZG] H λt4 H=>tL true 3 t3 H λt7=>ge tP 73 [t0,t7] H λt8 H=>aUn .not t8 λt9=>tO t9 (ug [I0,.ZG] [(0,1),(1,1)] [] λt10=>ua 2 t4 t10 H λH=>tL true 2 t4 H λr0=>ut [r0,(.bool false)] (K · H)) (tL true 3 t3 H λt11=>ge tP 112 [t11] H λt12 H=>ua 2 t4 t12 H λH=>tL true 2 t4 H λr0=>ut [r0,(.bool true)] (K · H))
variable {t0 t1 t2 t3 t6 t7 t8 t10 t11 t12 t13 t19 t20} {H} {K} {Kb2 Kb3 Kb4}
def zRg:Lo1 (λt12=>JC t2 t3 t10 t11 t12) (λt12 H Kb4=>Qh t2 t3 t10 t11 t12 H K Kb4) t12 H (JD t2 t3 t10 t11 t12 H K):=lq1 JB zRh
def zRi(h:HSc H→Yu t0 H K):ge tP 112 [t0] H K:=
 acb JB Tryz.func112 h
def zRw:Lo1 (λt12=>JG t2 t3 t10 t11 t12) (λt12 H Kb3=>Qi t2 t3 t10 t11 t12 H K Kb3) t12 H (JH t2 t3 t10 t11 t12 H K):=lq1 JF zRx
def zRy(h:HSc H→Yw t0 H K):ge tP 116 [t0] H K:=
 acb JF Tryz.func116 h
def zS9(h:HSc H→Yx t0 t1 H K):ge tP 139 [t0,t1] H K:=
 acb zS7 Tryz.func139 h
def zS3:Lo1 (λt8=>JJ t3 t6 t7 t8) (λt8 H Kb3=>JK t3 t6 t7 t8 H K Kb3) t8 H (Yz t3 t6 t7 t8 H K):=lq1 JI zS4
def zS5(h:HSc H→YA t0 H K):ge tP 138 [t0] H K:=
 acb JI Tryz.func138 h
def zWF(h:HSc H→YB t0 H K):ge tP 187 [t0] H K:=
 acb zWD Tryz.func187 h
def yet(h:HSc H→YC t0 t1 H K):ge tP 86 [t0,t1] H K:=
 acb yeq Tryz.func86 h
def zRt(h:HSc H→Qj t0 t1 H K):ge tP 115 [t0,t1] H K:=
 acb zRr Tryz.func115 h
def zUn:Lo1 (λt20=>JM t0 t1 t19 t20) (λt20 H Kb4=>Qk t0 t1 t19 t20 H K Kb4) t20 H (YE t0 t1 t19 t20 H K):=lq1 JL zUo
def zUp(h:HSc H→Ql t0 t1 H K):ge tP 155 [t0,t1] H K:=
 acb JL Tryz.func155 h
def zUk(h:HSc H→YF t0 H K):ge tP 154 [t0] H K:=
 acb zUi Tryz.func154 h
def zTc:Lo1 (λt13=>JO t0 t1 t2 t11 t12 t13) (λt13 H Kb2=>Qm t0 t1 t2 t11 t12 t13 H K Kb2) t13 H (YH t0 t1 t2 t11 t12 t13 H K):=lq1 JN zTd
def zTe(h:HSc H→YI t0 t1 t2 H K):ge tP 140 [t0,t1,t2] H K:=
 acb JN Tryz.func140 h
def YJ(h:HSc H→Qn t0 t1 H K):ge tP 60 [t0,t1] H K:=
 acb yct Tryz.func60 h
end
structure Con where
 name:List UInt8
 args:List VT
structure Dat where
 name:List UInt8
 vars:Int
 cons:List Con
def ints(l:List Int):List (List AV):=l.map λn=>[.int .i64 n]
def rows(l:List (List Int)):List (List AV):=l.map λr=>[.sl (ints r) .none]
def Con.cs(c:Con):List AV:=[.str c.name,.sl (VT.css c.args) .none]
def Dat.cs(d:Dat):List AV:=[.str d.name,.int .i64 d.vars,.sl (d.cons.map Con.cs) .none]
def VT.kind:VT→Int|.mk k _ _=>k
def VT.num:VT→Int|.mk _ n _=>n
def VT.kids:VT→List VT|.mk _ _ ks=>ks
def vE(eq:List Dat)(vars k n:Int)(len:Nat):Bool:=
 if k == 1 || k == 2 || k == 3 then n == 0 && len == 0
 else if k == 4 then decide (0≤n) && decide (n<vars) && len == 0
 else if k == 5 then decide (0≤n) && (match eq[n.toNat]? with|some d=>(len:Int) == d.vars|none=>false)
 else if k == 6 then n == 0 && decide (2≤len) && decide (len≤6)
 else if k == 7 || k == 8 then n == 0 && len == 1
 else if k == 9 then n == 0 && decide (1≤len) && decide (len≤7)
 else false
mutual
def vg(eq:List Dat)(vars:Int):VT→Bool
 |.mk k n asx=>vE eq vars k n asx.length && vC eq vars asx
def vC(eq:List Dat)(vars:Int):List VT→Bool
 |[]=>true
 |t::ts=>vg eq vars t && vC eq vars ts
end
def uW(eq:List Dat)(vars:Int)(t:VT):Bool:=decide (t.ZO≤200) && vg eq vars t
mutual
def subst(args:List VT):VT→VT
 |.mk k n ks=>if k=4∧0≤n∧n<args.length then (args[n.toNat]?).getD (.mk 0 0 []) else .mk k n (uP args ks)
def uP(args:List VT):List VT→List VT
 |[]=>[]
 |t::ts=>subst args t::uP args ts
end
def wa(eq:List Dat)(t:VT)(c:Int):Option (List VT):=
 if t.kind=5∧0≤t.num∧0≤c then
  match eq[t.num.toNat]? with
  | some d=>if (t.kids.length:Int)=d.vars then
    match d.cons[c.toNat]? with
    | some k=>let l:=k.args.map (subst t.kids)
     if l.all (λx=>decide (x.ZO≤200))=true then some l else none
    |none=>none
   else none
  |none=>none
 else none
section
variable (t0 t1 t2 t3 t5 t6 t7 t8 t13 t14 t15 t20 t21 t30 t31 t32 t47 t48 t49 t74:AV) (H:or) (K:Kt) (Kb2 Kb4 Kb5 Kb9:Lt)
def JP:Nat→List Bool|5=>rl false [1,2,2,1,24]|_=>[]
noncomputable def YK:=bd Tryz.f72
def JQ:=ux 1 (t1::t2::ux 2 (t5::ux 24 []))
def ydv:=JP 5
noncomputable def ydt:=uc [1,1,1,0,1,0,0] YK
def yds:=ud tP JP [1,1,1,0,1,0] YK (uq tP Tryz.f72.results.toList K)
def YL:=tM tP ydt (yds K) (JQ t1 t2 t5) H
def Qo:=tN 2 t2 λt16=>tL false 1 t16 H λt17=>tV 1 t17 λt18=>gt .lss false t5 t18 λt19=>tO t19 (tN 2 t2 λt22=>tL false 1 t22 H λt23=>tW 3 t23 t5 λt25=>tL true 3 t25 H λt26=>ge tP 72 [t26,t1] H λt28 H=>aUn .not t28 λt29=>tO t29 (K (.bool false) H) (gt .add false t5 I1 λt21=>Kb5 (JQ t1 t2 t21) H)) (K (.bool true) H)
def YM:=ul t0 H λt2 H=>vJ t1 λt7=>tL false 1 t7 H λt8=>gt .sub false t8 I1 λt9=>vJ t1 λt10=>ua 1 t10 t9 H λH=>vJ t1 λt12=>tL false 1 t12 H λt13=>gt .lss false t13 I0 λt14=>tO t14 (K (.bool false) H) (YL t1 t2 I0 H K)
def yaC(_:Nat):List Bool:=[]
def YN:=ul t0 H λt1 H=>un [I0] H λt3 H=>ua 1 t3 (I6 250) H λH=>tL true 3 t1 H λt4=>ge tP 72 [t4,t3] H λt5 H=>K t5 H
def zp:Nat→List Bool|4=>rl false [13,3,43]|9=>rl false [13,3,14,3,26]|15=>rl false [7,1,5,3,14,3,14,3,9]|_=>[]
noncomputable def YO:=bd Tryz.f37
def Fb:=ux 13 (t13::t14::t15::ux 43 [])
def YP:=zp 4
noncomputable def Qp:=uc [1,1,0,1,0,0] YO
def YQ:=ud tP zp [1,1,0,1,0] YO (uq tP Tryz.f37.results.toList K)
def YR:=tM tP Qp (YQ K) (Fb t13 t14 t15) H
def JR:=ux 13 (t13::t14::t15::ux 14 (t30::t31::t32::ux 26 []))
def YS:=zp 9
noncomputable def Qq:=uc [1,1,0,0,1,1,1,0,0] Qp
def YT:=ud tP zp [1,1,0,0,1,1,1,0] Qp (vz YP Kb4 (YQ K))
def YU:=tM tP Qq (YT K Kb4) (JR t13 t14 t15 t30 t31 t32) H
def JS:=ux 7 (t7::ux 5 (t13::t14::t15::ux 14 (t30::t31::t32::ux 14 (t47::t48::t49::ux 9 []))))
def yay:=zp 15
noncomputable def yau:=uc [1,1,0,0,1,1,1,1,0,0] Qq
def yat:=ud tP zp [1,1,0,0,1,1,1,1,0] Qq (vz YS Kb9 (YT K Kb4))
def YV:=tM tP yau (yat K Kb4 Kb9) (JS t7 t13 t14 t15 t30 t31 t32 t47 t48 t49) H
def Qr(t7 t13 t14 t15 t30 t31 t32 t47 t48 t49:AV)(H:or)(K:Kt)(Kb4:Lt)(Kb9:Lt)(Kb15:Lt):Prop:=gt .lss false t49 t48 λt50=>tO t50 (tW 3 t47 t49 λt51=>tL true 3 t51 H λt52=>un [I0,I0,.ZG] H λt9 H=>ua 3 t9 t52 H λH=>tL true 3 t9 H λt53=>ge tP 72 [t53,t7] H λt54 H=>aUn .not t54 λt55=>tO t55 (K (.bool false) H) (gt .add false t49 I1 λt56=>Kb15 (JS t7 t13 t14 t15 t30 t31 t32 t47 t48 t56) H)) (gt .add false t32 I1 λt57=>Kb9 (JR t13 t14 t15 t30 t31 t57) H)
def Qs:=gt .lss false t32 t31 λt33=>tO t33 (tW 2 t30 t32 λt34=>tL true 2 t34 H λt35=>un [(.str []),.ZG] H λt6 H=>ua 2 t6 t35 H λH=>tN 0 t6 λt36=>tL false 1 t36 H λt37=>tV 0 t37 λt38=>gt .gtr false t38 (I6 40) λt39=>agu t39 false H (tN 1 t6) λt41 H=>agu t39 false H (tL false 1 t41 H) λt42 H=>agu t39 false H (tV 1 t42) λt43 H=>agu t39 false H (gt .gtr false t43 (I6 8)) λt44 H=>tZ t39 (.bool true) t44 λt45=>tO t45 (K (.bool false) H) (un [I0] H λt7 H=>ua 1 t7 (I6 20) H λH=>tN 1 t6 λt46=>tL false 1 t46 H λt47=>tV 1 t47 λt48=>YV t7 t13 t14 t15 t30 t31 t32 t47 t48 I0 H K Kb4 Kb9)) (gt .add false t15 I1 λt58=>Kb4 (Fb t13 t14 t58) H)
def Qt:=gt .lss false t15 t14 λt16=>tO t16 (tW 3 t13 t15 λt17=>tL true 3 t17 H λt18=>un [(.str []),I0,.ZG] H λt4 H=>ua 3 t4 t18 H λH=>tN 0 t4 λt19=>tL false 1 t19 H λt20=>tV 0 t20 λt21=>gt .gtr false t21 (I6 40) λt22=>agu t22 false H (tN 2 t4) λt24 H=>agu t22 false H (tL false 1 t24 H) λt25 H=>agu t22 false H (tV 1 t25) λt26 H=>agu t22 false H (gt .gtr false t26 (I6 10)) λt27 H=>tZ t22 (.bool true) t27 λt28=>tO t28 (K (.bool false) H) (tN 2 t4 λt29=>tL false 1 t29 H λt30=>tV 1 t30 λt31=>YU t13 t14 t15 t30 t31 I0 H K Kb4)) (K (.bool true) H)
def Qu:=tV 1 t0 λt11=>gt .gtr false t11 (I6 14) λt12=>tO t12 (K (.bool false) H) (tV 1 t0 λt14=>YR t0 t14 I0 H K)
def zRZ(_:Nat):List Bool:=[]
def YW:=ul t1 H λt4 H=>ug [.ZG,I0,I0] [(0,1),(1,1),(2,1)] [(0,t0),(1,t2),(2,(I6 200))] λt10=>ul t10 H λt11 H=>tL true 3 t4 H λt13=>ge tP 166 [t11,t13] H λt14 H=>K t14 H
def zV:Nat→List Bool|171022=>rl false [2,2,16,1,53,1,34]|150010=>rl false [2,2,1,2,13,2,87]|100007=>rl false [2,2,1,2,13,1,88]|100002=>rl false [2,2,105]|_=>[]
noncomputable def AG:=bd Tryz.f166
noncomputable def JT:=Tryz.f166.results.toList
def C7:=tN 0 t3 λt79=>tL false 1 t79 H λt80=>gt .neq false t80 (I6 4) λt81=>agu t81 true H (tN 0 t3) λt83 H=>agu t81 true H (tL false 1 t83 H) λt84 H=>agu t81 true H (gt .neq false t84 (I6 5)) λt85 H=>tZ t81 t85 (.bool false) λt86=>agu t86 true H (tN 1 t3) λt88 H=>agu t86 true H (tL false 1 t88 H) λt89 H=>agu t86 true H (gt .neq false t89 I0) λt90 H=>tZ t86 t90 (.bool false) λt91=>tO t91 (K (.bool false) H) (tN 2 t3 λt92=>tL false 1 t92 H λt93=>tV 1 t93 λt94=>gt .lss false t94 t5 λt96=>agu t96 false H (tN 2 t3) λt98 H=>agu t96 false H (tL false 1 t98 H) λt99 H=>agu t96 false H (tV 1 t99) λt100 H=>agm t96 false H t6 λt101 H=>agu t96 false H (gt .gtr false t100 t101) λt102 H=>tZ t96 (.bool true) t102 λt103=>tO t103 (K (.bool false) H) (tN 2 t3 λt104=>tL false 1 t104 H λt105=>yl 210 [t2] λt106=>ge tP 202 [t105,t106] H λt107 H=>aUn .not t107 λt108=>K t108 H))
def yK:=C7 t2 t3 t5 t6 H K
noncomputable def zVI:=uc [1,1,1,1,0,1,0,1,1,1,1,1,1,1,1,1] AG
def zVH:=ud tP zV [1,1,1,1,0,1,0,1,1,1,1,1,1,1,1,1] AG (uq tP JT K)
def Qv:=AWp tP zVI (zVH K) (ux 2 (t2::t3::ux 16 (t20::ux 53 (t74::ux 34 [])))) H
def JU:=tO t74 (yK t2 t3 I1 I1 H K) (gt .eql false t20 (I6 9) λt78=>tO t78 (yK t2 t3 I1 (I6 7) H K) (K (.bool false) H))
noncomputable def zVG:=uc [1,1,1,1,0,1,0,1] AG
def zVF:=ud tP zV [1,1,1,1,0,1,0,1] AG (uq tP JT K)
def JV:=AWp tP zVG (zVF K) (ux 2 (t2::t3::ux 1 (t5::t6::ux 13 (t20::t21::ux 87 [])))) H
def yZ:=tO t21 (yK t2 t3 t5 t6 H K) (gt .eql false t20 (I6 4) λt26=>tO t26 (apu H (tN 1 t3) λt27=>apu H (tY false 1 t27 H) λt28=>apu H (gt .lss false t28 I0) λt29=>apm H t29 λt30=>ui t30 false H (λK'=>ub H (λK''=>tN 1 t3 (K'' · H)) (K' · H)) λt31 H=>ui t30 false H (λK'=>ub H (λK''=>tY false 1 t31 H (K'' · H)) (K' · H)) λt32 H=>ui t30 false H (λK'=>ub H (λK''=>tY false 1 t2 H (K'' · H)) (K' · H)) λt33 H=>ui t30 false H (λK'=>ub H (λK''=>vJ t33 (K'' · H)) (K' · H)) λt34 H=>ui t30 false H (λK'=>ub H (λK''=>tN 1 t34 (K'' · H)) (K' · H)) λt35 H=>ui t30 false H (λK'=>ub H (λK''=>tY false 1 t35 H (K'' · H)) (K' · H)) λt36 H=>ui t30 false H (λK'=>ub H (λK''=>gt .geq false t32 t36 (K'' · H)) (K' · H)) λt37 H=>apu H (tZ t30 (.bool true) t37) λt38=>tO t38 (K (.bool false) H) (yK t2 t3 t5 t6 H K)) (gt .eql false t20 (I6 5) λt40=>tO t40 (apu H (tN 1 t3) λt41=>apu H (tY false 1 t41 H) λt42=>apu H (gt .lss false t42 I0) λt43=>apm H t43 λt44=>ui t44 false H (λK'=>ub H (λK''=>tN 1 t3 (K'' · H)) (K' · H)) λt45 H=>ui t44 false H (λK'=>ub H (λK''=>tY false 1 t45 H (K'' · H)) (K' · H)) λt46 H=>ui t44 false H (λK'=>ub H (λK''=>tY false 1 t2 H (K'' · H)) (K' · H)) λt47 H=>ui t44 false H (λK'=>ub H (λK''=>vJ t47 (K'' · H)) (K' · H)) λt48 H=>ui t44 false H (λK'=>ub H (λK''=>tN 0 t48 (K'' · H)) (K' · H)) λt49 H=>ui t44 false H (λK'=>ub H (λK''=>tY false 1 t49 H (K'' · H)) (K' · H)) λt50 H=>ui t44 false H (λK'=>ub H (λK''=>tV 1 t50 (K'' · H)) (K' · H)) λt51 H=>ui t44 false H (λK'=>ub H (λK''=>gt .geq false t46 t51 (K'' · H)) (K' · H)) λt52 H=>apu H (tZ t44 (.bool true) t52) λt53=>tO t53 (K (.bool false) H) (apu H (tY false 1 t2 H) λt54=>apu H (vJ t54) λt55=>apu H (tN 0 t55) λt56=>apu H (tY false 1 t56 H) λt57=>apu H (tN 1 t3) λt58=>apu H (tY false 1 t58 H) λt59=>apu H (tW 3 t57 t59) λt60=>apu H (tN 1 t60) λt61=>apu H (tY false 1 t61 H) λt62=>apu H (tY false 1 t2 H) λt63=>apu H (vJ t63) λt64=>apu H (tN 0 t64) λt65=>apu H (tY false 1 t65 H) λt66=>apu H (tN 1 t3) λt67=>apu H (tY false 1 t67 H) λt68=>apu H (tW 3 t66 t68) λt69=>apu H (tN 1 t69) λt70=>apu H (tY false 1 t70 H) λt71=>apm H t62 λt5=>apm H t71 λt6=>yK t2 t3 t5 t6 H K)) (gt .eql false t20 (I6 6) λt73=>tO t73 (yK t2 t3 (I6 2) (I6 6) H K) (gt .eql false t20 (I6 7) λt75=>tO t75 (Qv t2 t3 t20 t75 H K) (gt .eql false t20 (I6 8) λt76=>Qv t2 t3 t20 t76 H K)))))
noncomputable def zVD:=uc [1,1,1,1,0,1] AG
def zVC:=ud tP zV [1,1,1,1,0,1] AG (uq tP JT K)
def YX:=AWp tP zVD (zVC K) (ux 2 (t2::t3::ux 1 (t5::t6::ux 13 (t20::ux 88 [])))) H
def Qw:=gt .eql false t20 I1 λt22=>tO t22 (JV t2 t3 t5 t6 t20 t22 H K) (gt .eql false t20 (I6 2) λt23=>tO t23 (JV t2 t3 t5 t6 t20 t23 H K) (gt .eql false t20 (I6 3) λt24=>JV t2 t3 t5 t6 t20 t24 H K))
noncomputable def zVA:=uc [1,1] AG
def zVz:=ud tP zV [1,1] AG (uq tP JT K)
def Qx:=AWp tP zVA (zVz K) (ux 2 (t2::t3::ux 105 [])) H
def Qy:=tL false 1 t2 H λt14=>vJ t14 λt15=>tN 2 t15 λt16=>tL false 1 t16 H λt17=>gt .lss false t17 I0 λt18=>tO t18 (K (.bool false) H) (tN 0 t3 λt19=>tL false 1 t19 H λt20=>YX t2 t3 I0 I0 t20 H K)
def YY:=ul t0 H λt2 H=>ul t1 H λt3 H=>tL false 1 t2 H λt7=>vJ t7 λt8=>tN 2 t8 λt9=>tL false 1 t9 H λt10=>gt .sub false t10 I1 λt11=>vJ t7 λt12=>tN 2 t12 λt13=>ua 1 t13 t11 H λH=>Qx t2 t3 H K
def zXO(_:Nat):List Bool:=[]
def YZ:=ul t0 H λt2 H=>tL false 1 t1 H λt4=>tL true 3 t2 H λt5=>ge tP 166 [t4,t5] H λt6 H=>aUn .not t6 λt7=>K t7 H
def zXL(_:Nat):List Bool:=[]
def Y0:=ge tP 229 [t0,t1] H λt7 H=>gt .geq false t7 I0 λt8=>K t8 H
def JW:Nat→List Bool|2=>rl false [0,2,5,2,10]|_=>[]
noncomputable def Y1:=bd Tryz.f229
def JX:=t0::t1::ux 5 (t7::t8::ux 10 [])
def zY5:=JW 2
noncomputable def zY3:=uc [1,0,1,0,0] Y1
def zY2:=ud tP JW [1,0,1,0] Y1 (uq tP Tryz.f229.results.toList K)
def Y2:=tM tP zY3 (zY2 K) (JX t0 t1 t7 t8) H
def Qz:=gt .lss false t8 t7 λt9=>tO t9 (tW 3 t0 t8 λt14=>tL true 3 t14 H λt15=>aCallV tP t1 [t15] H λt16 H=>tO t16 (K t8 H) (gt .add false t8 I1 λt18=>Kb2 (JX t0 t1 t7 t18) H)) (K (I6 (-1)) H)
def Y3:=tV 1 t0 λt7=>Y2 t0 t1 t7 I0 H K
variable {t0 t1 t2 t3 t5 t6 t7 t8 t13 t14 t15 t20 t21 t30 t31 t32 t47 t48 t49 t74} {H} {K} {Kb2 Kb4 Kb5 Kb9}
def ydu:Lo1 (λt5=>JQ t1 t2 t5) (λt5 H Kb5=>Qo t1 t2 t5 H K Kb5) t5 H (YL t1 t2 t5 H K):=lq1 JP ydv
def ydw(h:HSc H→YM t0 t1 H K):ge tP 72 [t0,t1] H K:=
 acb JP Tryz.func72 h
def yaE(h:HSc H→YN t0 H K):ge tP 38 [t0] H K:=
 acb yaC Tryz.func38 h
def yav:Lo1 (λt49=>JS t7 t13 t14 t15 t30 t31 t32 t47 t48 t49) (λt49 H Kb15=>Qr t7 t13 t14 t15 t30 t31 t32 t47 t48 t49 H K Kb4 Kb9 Kb15) t49 H (YV t7 t13 t14 t15 t30 t31 t32 t47 t48 t49 H K Kb4 Kb9):=lq1 zp yay
def yax:Lo1 (λt32=>JR t13 t14 t15 t30 t31 t32) (λt32 H Kb9=>Qs t13 t14 t15 t30 t31 t32 H K Kb4 Kb9) t32 H (YU t13 t14 t15 t30 t31 t32 H K Kb4):=lq1 zp YS
def yaw:Lo1 (λt15=>Fb t13 t14 t15) (λt15 H Kb4=>Qt t13 t14 t15 H K Kb4) t15 H (YR t13 t14 t15 H K):=lq1 zp YP
def yaz(h:HSc H→Qu t0 H K):ge tP 37 [t0] H K:=
 acb zp Tryz.func37 h
def zR1(h:HSc H→YW t0 t1 t2 H K):ge tP 123 [t0,t1,t2] H K:=
 acb zRZ Tryz.func123 h
def Y4(h:HSc H→JU t2 t3 t20 t74 H K):Qv t2 t3 t20 t74 H K:=
 λB w G a hH hF hd=>Cz (M:=zV) _ _ _ _ (Eq.mpr (by kernel_rfl) (h hH.sc)) B w G a hH hF hd
def Y5(h:HSc H→yZ t2 t3 t5 t6 t20 t21 H K):JV t2 t3 t5 t6 t20 t21 H K:=
 λB w G a hH hF hd=>Cz (M:=zV) _ _ _ _ (Eq.mpr (by kernel_rfl) (h hH.sc)) B w G a hH hF hd
def zVE(h:HSc H→Qw t2 t3 t5 t6 t20 H K):YX t2 t3 t5 t6 t20 H K:=
 λB w G a hH hF hd=>Cz (M:=zV) _ _ _ _ (Eq.mpr (by kernel_rfl) (h hH.sc)) B w G a hH hF hd
def zVB(h:HSc H→Qy t2 t3 H K):Qx t2 t3 H K:=
 λB w G a hH hF hd=>Cz (M:=zV) _ _ _ _ (Eq.mpr (by kernel_rfl) (h hH.sc)) B w G a hH hF hd
def zVJ(h:HSc H→YY t0 t1 H K):ge tP 166 [t0,t1] H K:=
 acb zV Tryz.func166 h
def zXQ(h:HSc H→YZ t0 t1 H K):ge tP 210 [t0,t1] H K:=
 acb zXO Tryz.func210 h
def zXN(h:HSc H→Y0 t0 t1 H K):ge tP 202 [t0,t1] H K:=
 acb zXL Tryz.func202 h
def zY4:Lo1 (λt8=>JX t0 t1 t7 t8) (λt8 H Kb2=>Qz t0 t1 t7 t8 H K Kb2) t8 H (Y2 t0 t1 t7 t8 H K):=lq1 JW zY5
def zY6(h:HSc H→Y3 t0 t1 H K):ge tP 229 [t0,t1] H K:=
 acb JW Tryz.func229 h
end
section
variable (t0 t1 t2 t3 t4 t5 t7 t8 t9 t14 t29 t30 t31 t35 t36 t37 t59 t60 t61 t77 t78 t79 t93 t94 t95:AV) (H:or) (K:Kt) (Kb3 Kb5 Kb8 Kb13 Kb20:Lt)
def zq:Nat→List Bool|8=>rl false [2,1,1,1,3,2,49,3,46]|13=>rl false [2,1,1,1,3,2,67,3,28]|20=>rl false [4,1,9,1,78,3,12]|_=>[]
noncomputable def C8:=bd Tryz.f167
noncomputable def QA:=Tryz.f167.results.toList
def JY:=ux 2 (t2::ux 1 (t4::ux 3 (t8::t9::ux 49 (t59::t60::t61::ux 46 []))))
def zVV:=zq 8
noncomputable def zVP:=uc [1,1,1,1,1,0,1,0,0] C8
def zVM:=ud tP zq [1,1,1,1,1,0,1,0] C8 (uq tP QA K)
def Y6:=tM tP zVP (zVM K) (JY t2 t4 t8 t9 t59 t60 t61) H
def JZ:=ux 2 (t2::ux 1 (t4::ux 3 (t8::t9::ux 67 (t77::t78::t79::ux 28 []))))
def zVT:=zq 13
noncomputable def zVN:=uc [1,1,1,1,1,1,0,1,0,0] C8
def zVK:=ud tP zq [1,1,1,1,1,1,0,1,0] C8 (uq tP QA K)
def Y7:=tM tP zVN (zVK K) (JZ t2 t4 t8 t9 t77 t78 t79) H
def J0:=ux 4 (t4::ux 9 (t14::ux 78 (t93::t94::t95::ux 12 [])))
def zVU:=zq 20
noncomputable def zVO:=uc [1,1,1,1,1,1,1,1,0,1,0,0] C8
def zVL:=ud tP zq [1,1,1,1,1,1,1,1,0,1,0] C8 (uq tP QA K)
def J1:=tM tP zVO (zVL K) (J0 t4 t14 t93 t94 t95) H
def QB:=gt .lss false t95 t94 λt96=>tO t96 (tW 3 t93 t95 λt97=>tL true 3 t97 H λt98=>un [I0,I0,.ZG] H λt16 H=>ua 3 t16 t98 H λH=>tL true 3 t16 H λt100=>tN 2 t4 λt101=>tL false 1 t101 H λt102=>ge tP 213 [t100,t102] H λt103 H=>uk 3 [I0,I0,.ZG] 1 [(0,t103)] λt104=>uj 25 3 40 t14 t104 H λt105 H=>gt .add false t95 I1 λt106=>Kb20 (J0 t4 t105 t93 t94 t106) H) (ut [t14,(.bool true)] (K · H))
def QC:=gt .lss false t79 t78 λt80=>tO t80 (tW 3 t77 t79 λt81=>tL true 3 t81 H λt82=>un [I0,I0,.ZG] H λt13 H=>ua 3 t13 t82 H λH=>tL true 3 t13 H λt83=>ge tP 212 [t83,t9] H λt85 H=>gt .gtr false t85 (I6 200) λt86=>tO t86 (ut [.ZG,(.bool false)] (K · H)) (gt .add false t79 I1 λt87=>Kb13 (JZ t2 t4 t8 t9 t77 t78 t87) H)) (tN 2 t8 λt88=>tL false 1 t88 H λt89=>tW 2 t89 t2 λt91=>tN 1 t91 λt92=>tL false 1 t92 H λt93=>tV 1 t93 λt94=>J1 t4 .ZG t93 t94 I0 H K)
def QD:=gt .lss false t61 t60 λt62=>tO t62 (tW 3 t59 t61 λt64=>tL true 3 t64 H λt65=>un [I0,I0,.ZG] H λt11 H=>ua 3 t11 t65 H λH=>tL true 3 t11 H λt68=>ge tP 211 [t68] H λt69 H=>tW 1 t9 t61 λt70=>ua 1 t70 t69 H λH=>gt .add false t61 I1 λt71=>Kb8 (JY t2 t4 t8 t9 t59 t60 t71) H) (tN 2 t8 λt72=>tL false 1 t72 H λt73=>tW 2 t73 t2 λt75=>tN 1 t75 λt76=>tL false 1 t76 H λt77=>tV 1 t77 λt78=>Y7 t2 t4 t8 t9 t77 t78 I0 H K)
def Y8:=ul t1 H λt4 H=>tN 0 t4 λt17=>tL false 1 t17 H λt18=>gt .neq false t18 (I6 5) λt19=>agu t19 false H (tN 1 t4) λt21 H=>agu t19 false H (tL false 1 t21 H) λt22 H=>agu t19 false H (gt .lss false t22 I0) λt23 H=>tZ t19 (.bool true) t23 λt24=>agu t24 false H (tN 1 t4) λt26 H=>agu t24 false H (tL false 1 t26 H) λt27 H=>agm t24 false H t0 λt28 H=>agu t24 false H (tV 1 t28) λt29 H=>agu t24 false H (gt .geq false t27 t29) λt30 H=>tZ t24 (.bool true) t30 λt31=>tO t31 (ut [.ZG,(.bool false)] (K · H)) (tN 1 t4 λt33=>tL false 1 t33 H λt34=>tW 3 t0 t34 λt35=>tL true 3 t35 H λt36=>un [(.str []),I0,.ZG] H λt8 H=>ua 3 t8 t36 H λH=>tN 2 t4 λt37=>tL false 1 t37 H λt38=>tV 1 t38 λt39=>tN 1 t8 λt40=>tL false 1 t40 H λt41=>gt .neq false t39 t41 λt42=>agm t42 false H t2 λt44 H=>agu t42 false H (gt .lss false t44 I0) λt45 H=>tZ t42 (.bool true) t45 λt46=>agm t46 false H t2 λt48 H=>agu t46 false H (tN 2 t8) λt49 H=>agu t46 false H (tL false 1 t49 H) λt50 H=>agu t46 false H (tV 1 t50) λt51 H=>agu t46 false H (gt .geq false t48 t51) λt52 H=>tZ t46 (.bool true) t52 λt53=>tO t53 (ut [.ZG,(.bool false)] (K · H)) (tN 2 t4 λt54=>tL false 1 t54 H λt55=>tV 1 t55 λt56=>vo 8 [I0] t56 t56 H λt57 H=>tN 2 t4 λt58=>tL false 1 t58 H λt59=>tV 1 t59 λt60=>Y6 t2 t4 t8 t57 t59 t60 I0 H K))
def J2:Nat→List Bool|3=>rl false [3,1,3,3,9]|_=>[]
noncomputable def Y9:=bd Tryz.f211
def J3:=ux 3 (t3::ux 3 (t7::t8::t9::ux 9 []))
def zXU:=J2 3
noncomputable def zXS:=uc [1,1,0,1,0,0] Y9
def zXR:=ud tP J2 [1,1,0,1,0] Y9 (uq tP Tryz.f211.results.toList K)
def zHb:=tM tP zXS (zXR K) (J3 t3 t7 t8 t9) H
def QE:=gt .lss false t9 t8 λt10=>tO t10 (tW 3 t7 t9 λt11=>tL true 3 t11 H λt12=>un [I0,I0,.ZG] H λt5 H=>ua 3 t5 t12 H λH=>tL true 3 t5 H λt14=>ge tP 211 [t14] H λt15 H=>gt .add false t3 t15 λt16=>gt .add false t9 I1 λt17=>Kb3 (J3 t16 t7 t8 t17) H) (K t3 H)
def zHa:=ul t0 H λt1 H=>tN 2 t1 λt6=>tL false 1 t6 H λt7=>tV 1 t7 λt8=>zHb I1 t7 t8 I0 H K
def J4:Nat→List Bool|5=>rl false [1,1,3,1,23,3,12]|_=>[]
noncomputable def zw0:=bd Tryz.f212
def J5:=ux 1 (t1::ux 3 (t5::ux 23 (t29::t30::t31::ux 12 [])))
def zX4:=J4 5
noncomputable def zX2:=uc [1,1,1,0,1,0,0] zw0
def zX1:=ud tP J4 [1,1,1,0,1,0] zw0 (uq tP Tryz.f212.results.toList K)
def QF:=tM tP zX2 (zX1 K) (J5 t1 t5 t29 t30 t31) H
def QG:=K t5 H
def J6:=QG t5 H K
def QH:=gt .lss false t31 t30 λt32=>tO t32 (tW 3 t29 t31 λt33=>tL true 3 t33 H λt34=>un [I0,I0,.ZG] H λt7 H=>ua 3 t7 t34 H λH=>tL true 3 t7 H λt36=>ge tP 212 [t36,t1] H λt38 H=>gt .add false t5 t38 λt39=>gt .gtr false t39 (I6 200) λt41=>tO t41 (J6 t39 H K) (gt .add false t31 I1 λt42=>Kb5 (J5 t1 t39 t29 t30 t42) H)) (J6 t5 H K)
def QI:=ul t0 H λt2 H=>tN 0 t2 λt8=>tL false 1 t8 H λt9=>gt .eql false t9 (I6 4) λt10=>agu t10 true H (tN 1 t2) λt12 H=>agu t10 true H (tL false 1 t12 H) λt13 H=>agu t10 true H (gt .geq false t13 I0) λt14 H=>tZ t10 t14 (.bool false) λt15=>agu t15 true H (tN 1 t2) λt17 H=>agu t15 true H (tL false 1 t17 H) λt18 H=>agm t15 true H t1 λt19 H=>agu t15 true H (tV 1 t19) λt20 H=>agu t15 true H (gt .lss false t18 t20) λt21 H=>tZ t15 t21 (.bool false) λt22=>tO t22 (tN 1 t2 λt24=>tL false 1 t24 H λt25=>tW 1 t1 t25 λt26=>tL false 1 t26 H λt27=>K t27 H) (tN 2 t2 λt28=>tL false 1 t28 H λt29=>tV 1 t29 λt30=>QF t1 I1 t29 t30 I0 H K)
def J7:Nat→List Bool|5=>rl false [1,1,2,2,29,3,13]|_=>[]
noncomputable def zw5:=bd Tryz.f213
def J8:=ux 1 (t1::ux 2 (t4::t5::ux 29 (t35::t36::t37::ux 13 [])))
def zYb:=J7 5
noncomputable def zX9:=uc [1,1,1,0,1,0,0] zw5
def zX8:=ud tP J7 [1,1,1,0,1,0] zw5 (uq tP Tryz.f213.results.toList K)
def Fc:=tM tP zX9 (zX8 K) (J8 t1 t4 t5 t35 t36 t37) H
def QJ:=gt .lss false t37 t36 λt38=>tO t38 (tW 3 t35 t37 λt39=>tL true 3 t39 H λt40=>un [I0,I0,.ZG] H λt7 H=>ua 3 t7 t40 H λH=>apu H (tN 2 t5) λt41=>apu H (tY false 1 t41 H) λt42=>apu H (tY true 3 t7 H) λt43=>apm H t1 λt44=>apc tP H 213 [t43,t44] λt45=>apu H (uk 3 [I0,I0,.ZG] 1 [(0,t45)]) λt46=>uj 25 3 40 t42 t46 H λt47 H=>apu H (tN 2 t5) λt48=>ua 1 t48 t47 H λH=>gt .add false t37 I1 λt49=>Kb5 (J8 t1 t4 t5 t35 t36 t49) H) (tL true 3 t5 H λt50=>ua 3 t4 t50 H λH=>tL true 3 t4 H λr0=>K r0 H)
def QK:=ul t0 H λt2 H=>un [I0,I0,.ZG] H λt4 H=>tN 0 t2 λt8=>tL false 1 t8 H λt9=>gt .eql false t9 (I6 4) λt10=>agu t10 true H (tN 1 t2) λt12 H=>agu t10 true H (tL false 1 t12 H) λt13 H=>agu t10 true H (gt .geq false t13 I0) λt14 H=>tZ t10 t14 (.bool false) λt15=>agu t15 true H (tN 1 t2) λt17 H=>agu t15 true H (tL false 1 t17 H) λt18 H=>agm t15 true H t1 λt19 H=>agu t15 true H (tV 1 t19) λt20 H=>agu t15 true H (gt .lss false t18 t20) λt21 H=>tZ t15 t21 (.bool false) λt22=>tO t22 (tN 1 t2 λt24=>tL false 1 t24 H λt25=>tW 3 t1 t25 λt26=>tL true 3 t26 H λt27=>ge tP 213 [t27,.ZG] H λt28 H=>ua 3 t4 t28 H λH=>tL true 3 t4 H λr0=>K r0 H) (tN 0 t2 λt29=>tL false 1 t29 H λt30=>tN 1 t2 λt31=>tL false 1 t31 H λt32=>ug [I0,I0,.ZG] [(0,1),(1,1),(2,1)] [(0,t30),(1,t32)] λt33=>un [I0,I0,.ZG] H λt5 H=>ua 3 t5 t33 H λH=>tN 2 t2 λt34=>tL false 1 t34 H λt35=>tV 1 t35 λt36=>Fc t1 t4 t5 t35 t36 I0 H K)
def ybO(_:Nat):List Bool:=[]
def zIv:=ul t1 H λt4 H=>tL true 3 t4 H λt7=>ge tP 95 [t7] H λt8 H=>gt .leq false t8 (I6 200) λt9=>agm t9 true H t0 λt11 H=>agu t9 true H (tL true 3 t4 H) λt12 H=>agm t9 true H t2 λt13 H=>agc tP t9 true H 96 [t11,t12,t13] λt14 H=>tZ t9 t14 (.bool false) λt15=>K t15 H
def J9:Nat→List Bool|3=>rl false [1,1,1,2,16]|_=>[]
noncomputable def zzh:=bd Tryz.f95
def Ka:=ux 1 (t1::ux 1 (t3::t4::ux 16 []))
def yfv:=J9 3
noncomputable def yft:=uc [1,1,0,1,0,0] zzh
def yfs:=ud tP J9 [1,1,0,1,0] zzh (uq tP Tryz.f95.results.toList K)
def zJP:=tM tP yft (yfs K) (Ka t1 t3 t4) H
def QL:=tN 2 t1 λt6=>tL false 1 t6 H λt7=>tV 1 t7 λt8=>gt .lss false t4 t8 λt9=>tO t9 (tN 2 t1 λt13=>tL false 1 t13 H λt14=>tW 3 t14 t4 λt16=>tL true 3 t16 H λt17=>ge tP 95 [t17] H λt18 H=>gt .add false t3 t18 λt19=>gt .add false t4 I1 λt11=>Kb3 (Ka t1 t19 t11) H) (K t3 H)
def zJO:=ul t0 H λt1 H=>zJP t1 I1 I0 H K
variable {t0 t1 t2 t3 t4 t5 t7 t8 t9 t14 t29 t30 t31 t35 t36 t37 t59 t60 t61 t77 t78 t79 t93 t94 t95} {H} {K} {Kb3 Kb5 Kb8 Kb13 Kb20}
def zVR:Lo2 (λt14 t95=>J0 t4 t14 t93 t94 t95) (λt14 t95 H Kb20=>QB t4 t14 t93 t94 t95 H K Kb20) t14 t95 H (J1 t4 t14 t93 t94 t95 H K):=lq2 zq zVU
def zVQ:Lo1 (λt79=>JZ t2 t4 t8 t9 t77 t78 t79) (λt79 H Kb13=>QC t2 t4 t8 t9 t77 t78 t79 H K Kb13) t79 H (Y7 t2 t4 t8 t9 t77 t78 t79 H K):=lq1 zq zVT
def zVS:Lo1 (λt61=>JY t2 t4 t8 t9 t59 t60 t61) (λt61 H Kb8=>QD t2 t4 t8 t9 t59 t60 t61 H K Kb8) t61 H (Y6 t2 t4 t8 t9 t59 t60 t61 H K):=lq1 zq zVV
def zVW(h:HSc H→Y8 t0 t1 t2 H K):ge tP 167 [t0,t1,t2] H K:=
 acb zq Tryz.func167 h
def zXT:Lo2 (λt3 t9=>J3 t3 t7 t8 t9) (λt3 t9 H Kb3=>QE t3 t7 t8 t9 H K Kb3) t3 t9 H (zHb t3 t7 t8 t9 H K):=lq2 J2 zXU
def zXV(h:HSc H→zHa t0 H K):ge tP 211 [t0] H K:=
 acb J2 Tryz.func211 h
def zX3:Lo2 (λt5 t31=>J5 t1 t5 t29 t30 t31) (λt5 t31 H Kb5=>QH t1 t5 t29 t30 t31 H K Kb5) t5 t31 H (QF t1 t5 t29 t30 t31 H K):=lq2 J4 zX4
def zX5(h:HSc H→QI t0 t1 H K):ge tP 212 [t0,t1] H K:=
 acb J4 Tryz.func212 h
def zYa:Lo1 (λt37=>J8 t1 t4 t5 t35 t36 t37) (λt37 H Kb5=>QJ t1 t4 t5 t35 t36 t37 H K Kb5) t37 H (Fc t1 t4 t5 t35 t36 t37 H K):=lq1 J7 zYb
def zYc(h:HSc H→QK t0 t1 H K):ge tP 213 [t0,t1] H K:=
 acb J7 Tryz.func213 h
def ybQ(h:HSc H→zIv t0 t1 t2 H K):ge tP 49 [t0,t1,t2] H K:=
 acb ybO Tryz.func49 h
def yfu:Lo2 (λt3 t4=>Ka t1 t3 t4) (λt3 t4 H Kb3=>QL t1 t3 t4 H K Kb3) t3 t4 H (zJP t1 t3 t4 H K):=lq2 J9 yfv
def yfw(h:HSc H→zJO t0 H K):ge tP 95 [t0] H K:=
 acb J9 Tryz.func95 h
end
section
variable (t0 t1 t2 t3 t4 t5 t6 t7 t8 t13 t14 t63 t64 t65 t75:AV) (H:or) (K:Kt) (Kb3 Kb5 Kb24:Lt)
def Kc:Nat→List Bool|24=>rl false [0,1,1,1,1,1,2,2,103]|_=>[]
noncomputable def zzj:=bd Tryz.f96
def Kd:=t0::ux 1 (t2::ux 1 (t4::ux 2 (t7::t8::ux 103 [])))
def yfB:=Kc 24
noncomputable def yfz:=uc [1,1,1,0,1,0,0] zzj
def yfy:=ud tP Kc [1,1,1,0,1,0] zzj (uq tP Tryz.f96.results.toList K)
def QM:=tM tP yfz (yfy K) (Kd t0 t2 t4 t7 t8) H
def QN:=gt .lss false t8 t7 λt100=>tO t100 (tN 2 t4 λt104=>tL false 1 t104 H λt105=>tW 3 t105 t8 λt107=>tL true 3 t107 H λt108=>ge tP 96 [t0,t108,t2] H λt110 H=>aUn .not t110 λt111=>tO t111 (K (.bool false) H) (gt .add false t8 I1 λt102=>Kb24 (Kd t0 t2 t4 t7 t102) H)) (K (.bool true) H)
def Fd:=QM t0 t2 t4 t7 I0 H K
def AH:=Fd t0 t2 t4 t7 H K
def zr:=tO t75 (tN 1 t4 λt78=>tL false 1 t78 H λt79=>gt .neq false t79 I0 λt80=>agm t80 false H t7 λt82 H=>agu t80 false H (gt .neq false t82 I1) λt83 H=>tZ t80 (.bool true) t83 λt84=>tO t84 (K (.bool false) H) (AH t0 t2 t4 t7 H K)) (gt .eql false t13 (I6 9) λt86=>tO t86 (tN 1 t4 λt87=>tL false 1 t87 H λt88=>gt .neq false t88 I0 λt89=>agm t89 false H t7 λt91 H=>agu t89 false H (gt .lss false t91 I1) λt92 H=>tZ t89 (.bool true) t92 λt93=>agm t93 false H t7 λt95 H=>agu t93 false H (gt .gtr false t95 (I6 7)) λt96 H=>tZ t93 (.bool true) t96 λt97=>tO t97 (K (.bool false) H) (AH t0 t2 t4 t7 H K)) (K (.bool false) H))
def wy:=tO t14 (tN 1 t4 λt18=>tL false 1 t18 H λt19=>gt .eql false t19 I0 λt20=>agm t20 true H t7 λt22 H=>agu t20 true H (gt .eql false t22 I0) λt23 H=>tZ t20 t23 (.bool false) λt24=>K t24 H) (gt .eql false t13 (I6 4) λt26=>tO t26 (tN 1 t4 λt27=>tL false 1 t27 H λt28=>gt .geq false t28 I0 λt29=>agu t29 true H (tN 1 t4) λt31 H=>agu t29 true H (tL false 1 t31 H) λt32 H=>agm t29 true H t2 λt33 H=>agu t29 true H (gt .lss false t32 t33) λt34 H=>tZ t29 t34 (.bool false) λt35=>agm t35 true H t7 λt37 H=>agu t35 true H (gt .eql false t37 I0) λt38 H=>tZ t35 t38 (.bool false) λt39=>K t39 H) (gt .eql false t13 (I6 5) λt41=>tO t41 (tN 1 t4 λt42=>tL false 1 t42 H λt43=>gt .lss false t43 I0 λt44=>agu t44 false H (tN 1 t4) λt46 H=>agu t44 false H (tL false 1 t46 H) λt47 H=>agm t44 false H t0 λt48 H=>agu t44 false H (tV 1 t48) λt49 H=>agu t44 false H (gt .geq false t47 t49) λt50 H=>tZ t44 (.bool true) t50 λt51=>agm t51 false H t7 λt53 H=>agm t51 false H t0 λt54 H=>agu t51 false H (tN 1 t4) λt55 H=>agu t51 false H (tL false 1 t55 H) λt56 H=>agu t51 false H (tW 3 t54 t56) λt57 H=>agu t51 false H (tN 1 t57) λt58 H=>agu t51 false H (tL false 1 t58 H) λt59 H=>agu t51 false H (gt .neq false t53 t59) λt60 H=>tZ t51 (.bool true) t60 λt61=>tO t61 (K (.bool false) H) (AH t0 t2 t4 t7 H K)) (gt .eql false t13 (I6 6) λt63=>tO t63 (tN 1 t4 λt64=>tL false 1 t64 H λt65=>gt .neq false t65 I0 λt66=>agm t66 false H t7 λt68 H=>agu t66 false H (gt .lss false t68 (I6 2)) λt69 H=>tZ t66 (.bool true) t69 λt70=>agm t70 false H t7 λt72 H=>agu t70 false H (gt .gtr false t72 (I6 6)) λt73 H=>tZ t70 (.bool true) t73 λt74=>tO t74 (K (.bool false) H) (AH t0 t2 t4 t7 H K)) (gt .eql false t13 (I6 7) λt76=>tO t76 (zr t0 t2 t4 t7 t13 t76 H K) (gt .eql false t13 (I6 8) λt77=>zr t0 t2 t4 t7 t13 t77 H K)))))
def xB:=ul t1 H λt4 H=>tN 2 t4 λt9=>tL false 1 t9 H λt10=>tV 1 t10 λt11=>tN 0 t4 λt12=>tL false 1 t12 H λt13=>gt .eql false t13 I1 λt15=>tO t15 (wy t0 t2 t4 t11 t13 t15 H K) (gt .eql false t13 (I6 2) λt16=>tO t16 (wy t0 t2 t4 t11 t13 t16 H K) (gt .eql false t13 (I6 3) λt17=>wy t0 t2 t4 t11 t13 t17 H K))
def Ke:Nat→List Bool|5=>rl false [4,1,3,1,54,3,16]|_=>[]
noncomputable def zzp:=bd Tryz.f98
def Kf:=ux 4 (t4::ux 3 (t8::ux 54 (t63::t64::t65::ux 16 [])))
def yfO:=Ke 5
noncomputable def yfM:=uc [1,1,1,0,1,0,0] zzp
def yfL:=ud tP Ke [1,1,1,0,1,0] zzp (uq tP Tryz.f98.results.toList K)
def Kg:=tM tP yfM (yfL K) (Kf t4 t8 t63 t64 t65) H
def QO:=gt .lss false t65 t64 λt66=>tO t66 (tW 3 t63 t65 λt67=>tL true 3 t67 H λt68=>un [I0,I0,.ZG] H λt10 H=>ua 3 t10 t68 H λH=>tL true 3 t10 H λt69=>tN 2 t4 λt70=>tL false 1 t70 H λt71=>ge tP 146 [t69,t71] H λt72 H=>un [I0,I0,.ZG] H λt11 H=>ua 3 t11 t72 H λH=>tL true 3 t11 H λt73=>ge tP 95 [t73] H λt74 H=>gt .gtr false t74 (I6 200) λt75=>tO t75 (ut [.ZG,(.bool false)] (K · H)) (tL true 3 t11 H λt77=>uk 3 [I0,I0,.ZG] 1 [(0,t77)] λt78=>uj 25 3 40 t8 t78 H λt79 H=>gt .add false t65 I1 λt80=>Kb5 (Kf t4 t79 t63 t64 t80) H)) (ut [t8,(.bool true)] (K · H))
def zJT:=ul t1 H λt4 H=>apu H (tN 0 t4) λt12=>apu H (tY false 1 t12 H) λt13=>apu H (gt .neq false t13 (I6 5)) λt14=>apm H t14 λt15=>ui t15 false H (λK'=>ub H (λK''=>tN 1 t4 (K'' · H)) (K' · H)) λt16 H=>ui t15 false H (λK'=>ub H (λK''=>tY false 1 t16 H (K'' · H)) (K' · H)) λt17 H=>ui t15 false H (λK'=>ub H (λK''=>gt .lss false t17 I0 (K'' · H)) (K' · H)) λt18 H=>apu H (tZ t15 (.bool true) t18) λt19=>apm H t19 λt20=>ui t20 false H (λK'=>ub H (λK''=>tN 1 t4 (K'' · H)) (K' · H)) λt21 H=>ui t20 false H (λK'=>ub H (λK''=>tY false 1 t21 H (K'' · H)) (K' · H)) λt22 H=>agu t20 false H (ub H (λK''=>K'' t0 H)) λt23 H=>ui t20 false H (λK'=>ub H (λK''=>tV 1 t23 (K'' · H)) (K' · H)) λt24 H=>ui t20 false H (λK'=>ub H (λK''=>gt .geq false t22 t24 (K'' · H)) (K' · H)) λt25 H=>apu H (tZ t20 (.bool true) t25) λt26=>apm H t26 λt27=>ui t27 false H (λK'=>ub H (λK''=>tN 2 t4 (K'' · H)) (K' · H)) λt28 H=>ui t27 false H (λK'=>ub H (λK''=>tY false 1 t28 H (K'' · H)) (K' · H)) λt29 H=>ui t27 false H (λK'=>ub H (λK''=>tV 1 t29 (K'' · H)) (K' · H)) λt30 H=>agu t27 false H (ub H (λK''=>K'' t0 H)) λt31 H=>ui t27 false H (λK'=>ub H (λK''=>tN 1 t4 (K'' · H)) (K' · H)) λt32 H=>ui t27 false H (λK'=>ub H (λK''=>tY false 1 t32 H (K'' · H)) (K' · H)) λt33 H=>ui t27 false H (λK'=>ub H (λK''=>tW 3 t31 t33 (K'' · H)) (K' · H)) λt34 H=>ui t27 false H (λK'=>ub H (λK''=>tN 1 t34 (K'' · H)) (K' · H)) λt35 H=>ui t27 false H (λK'=>ub H (λK''=>tY false 1 t35 H (K'' · H)) (K' · H)) λt36 H=>ui t27 false H (λK'=>ub H (λK''=>gt .neq false t30 t36 (K'' · H)) (K' · H)) λt37 H=>apu H (tZ t27 (.bool true) t37) λt38=>apm H t38 λt39=>agu t39 false H (ub H (λK''=>K'' t2 H)) λt40 H=>ui t39 false H (λK'=>ub H (λK''=>gt .lss false t40 I0 (K'' · H)) (K' · H)) λt41 H=>apu H (tZ t39 (.bool true) t41) λt42=>apm H t42 λt43=>agu t43 false H (ub H (λK''=>K'' t2 H)) λt44 H=>agu t43 false H (ub H (λK''=>K'' t0 H)) λt45 H=>ui t43 false H (λK'=>ub H (λK''=>tN 1 t4 (K'' · H)) (K' · H)) λt46 H=>ui t43 false H (λK'=>ub H (λK''=>tY false 1 t46 H (K'' · H)) (K' · H)) λt47 H=>ui t43 false H (λK'=>ub H (λK''=>tW 3 t45 t47 (K'' · H)) (K' · H)) λt48 H=>ui t43 false H (λK'=>ub H (λK''=>tN 2 t48 (K'' · H)) (K' · H)) λt49 H=>ui t43 false H (λK'=>ub H (λK''=>tY false 1 t49 H (K'' · H)) (K' · H)) λt50 H=>ui t43 false H (λK'=>ub H (λK''=>tV 1 t50 (K'' · H)) (K' · H)) λt51 H=>ui t43 false H (λK'=>ub H (λK''=>gt .geq false t44 t51 (K'' · H)) (K' · H)) λt52 H=>apu H (tZ t43 (.bool true) t52) λt53=>tO t53 (ut [.ZG,(.bool false)] (K · H)) (tN 1 t4 λt55=>tL false 1 t55 H λt56=>tW 3 t0 t56 λt57=>tN 2 t57 λt58=>tL false 1 t58 H λt59=>tW 2 t59 t2 λt61=>tN 1 t61 λt62=>tL false 1 t62 H λt63=>tV 1 t63 λt64=>Kg t4 .ZG t63 t64 I0 H K)
def Kh:Nat→List Bool|5=>rl false [1,2,1,3,46]|_=>[]
noncomputable def zvN:=bd Tryz.f146
def Ki:=ux 1 (t1::t2::ux 1 (t4::t5::t6::ux 46 []))
def zTO:=Kh 5
noncomputable def zTM:=uc [1,1,1,0,1,0,0] zvN
def zTL:=ud tP Kh [1,1,1,0,1,0] zvN (uq tP Tryz.f146.results.toList K)
def QP:=tM tP zTM (zTL K) (Ki t1 t2 t4 t5 t6) H
def QQ:=tN 2 t2 λt34=>tL false 1 t34 H λt35=>tV 1 t35 λt36=>gt .lss false t6 t36 λt37=>tO t37 (apu H (tN 2 t5) λt40=>apu H (tY false 1 t40 H) λt41=>apu H (tN 2 t2) λt42=>apu H (tY false 1 t42 H) λt43=>apm H t6 λt44=>apu H (tW 3 t43 t44) λt45=>apu H (tY true 3 t45 H) λt46=>apm H t1 λt47=>apc tP H 146 [t46,t47] λt48=>apu H (uk 3 [I0,I0,.ZG] 1 [(0,t48)]) λt49=>uj 25 3 40 t41 t49 H λt50 H=>apu H (tN 2 t5) λt51=>ua 1 t51 t50 H λH=>gt .add false t6 I1 λt39=>Kb5 (Ki t1 t2 t4 t5 t39) H) (tL true 3 t5 H λt52=>ua 3 t4 t52 H λH=>tL true 3 t4 H λr0=>K r0 H)
def QR:=ul t0 H λt2 H=>un [I0,I0,.ZG] H λt4 H=>tN 0 t2 λt7=>tL false 1 t7 H λt8=>gt .eql false t8 (I6 4) λt9=>agu t9 true H (tN 1 t2) λt11 H=>agu t9 true H (tL false 1 t11 H) λt12 H=>agu t9 true H (gt .geq false t12 I0) λt13 H=>tZ t9 t13 (.bool false) λt14=>agu t14 true H (tN 1 t2) λt16 H=>agu t14 true H (tL false 1 t16 H) λt17 H=>agm t14 true H t1 λt18 H=>agu t14 true H (tV 1 t18) λt19 H=>agu t14 true H (gt .lss false t17 t19) λt20 H=>tZ t14 t20 (.bool false) λt21=>tO t21 (tN 1 t2 λt23=>tL false 1 t23 H λt24=>tW 3 t1 t24 λt25=>tL true 3 t25 H λt26=>ge tP 194 [t26] H λt27 H=>ua 3 t4 t27 H λH=>tL true 3 t4 H λr0=>K r0 H) (tN 0 t2 λt28=>tL false 1 t28 H λt29=>tN 1 t2 λt30=>tL false 1 t30 H λt31=>ug [I0,I0,.ZG] [(0,1),(1,1),(2,1)] [(0,t29),(1,t31)] λt32=>un [I0,I0,.ZG] H λt5 H=>ua 3 t5 t32 H λH=>QP t1 t2 t4 t5 I0 H K)
def Kj:Nat→List Bool|3=>rl false [1,4,24]|_=>[]
noncomputable def zwJ:=bd Tryz.f194
def Kk:=ux 1 (t1::t2::t3::t4::ux 24 [])
def zXa:=Kj 3
noncomputable def zW8:=uc [1,1,0,1,0,0] zwJ
def zW7:=ud tP Kj [1,1,0,1,0] zwJ (uq tP Tryz.f194.results.toList K)
def zGV:=tM tP zW8 (zW7 K) (Kk t1 t2 t3 t4) H
def QS:=tN 2 t1 λt11=>tL false 1 t11 H λt12=>tV 1 t12 λt13=>gt .lss false t4 t13 λt14=>tO t14 (apu H (tN 2 t3) λt17=>apu H (tY false 1 t17 H) λt18=>apu H (tN 2 t1) λt19=>apu H (tY false 1 t19 H) λt20=>apm H t4 λt21=>apu H (tW 3 t20 t21) λt22=>apu H (tY true 3 t22 H) λt23=>apc tP H 194 [t23] λt24=>apu H (uk 3 [I0,I0,.ZG] 1 [(0,t24)]) λt25=>uj 25 3 40 t18 t25 H λt26 H=>apu H (tN 2 t3) λt27=>ua 1 t27 t26 H λH=>gt .add false t4 I1 λt16=>Kb3 (Kk t1 t2 t3 t16) H) (tL true 3 t3 H λt28=>ua 3 t2 t28 H λH=>tL true 3 t2 H λr0=>K r0 H)
def zGU:=ul t0 H λt1 H=>un [I0,I0,.ZG] H λt2 H=>tN 0 t1 λt5=>tL false 1 t5 H λt6=>tN 1 t1 λt7=>tL false 1 t7 H λt8=>ug [I0,I0,.ZG] [(0,1),(1,1),(2,1)] [(0,t6),(1,t8)] λt9=>un [I0,I0,.ZG] H λt3 H=>ua 3 t3 t9 H λH=>zGV t1 t2 t3 I0 H K
variable {t0 t1 t2 t3 t4 t5 t6 t7 t8 t13 t14 t63 t64 t65 t75} {H} {K} {Kb3 Kb5 Kb24}
def yfA:Lo1 (λt8=>Kd t0 t2 t4 t7 t8) (λt8 H Kb24=>QN t0 t2 t4 t7 t8 H K Kb24) t8 H (QM t0 t2 t4 t7 t8 H K):=lq1 Kc yfB
def yfC(h:HSc H→xB t0 t1 t2 H K):ge tP 96 [t0,t1,t2] H K:=
 acb Kc Tryz.func96 h
def yfN:Lo2 (λt8 t65=>Kf t4 t8 t63 t64 t65) (λt8 t65 H Kb5=>QO t4 t8 t63 t64 t65 H K Kb5) t8 t65 H (Kg t4 t8 t63 t64 t65 H K):=lq2 Ke yfO
def yfP(h:HSc H→zJT t0 t1 t2 H K):ge tP 98 [t0,t1,t2] H K:=
 acb Ke Tryz.func98 h
def zTN:Lo1 (λt6=>Ki t1 t2 t4 t5 t6) (λt6 H Kb5=>QQ t1 t2 t4 t5 t6 H K Kb5) t6 H (QP t1 t2 t4 t5 t6 H K):=lq1 Kh zTO
def zTP(h:HSc H→QR t0 t1 H K):ge tP 146 [t0,t1] H K:=
 acb Kh Tryz.func146 h
def zW9:Lo1 (λt4=>Kk t1 t2 t3 t4) (λt4 H Kb3=>QS t1 t2 t3 t4 H K Kb3) t4 H (zGV t1 t2 t3 t4 H K):=lq1 Kj zXa
def zXb(h:HSc H→zGU t0 H K):ge tP 194 [t0] H K:=
 acb Kj Tryz.func194 h
end
section
variable (t0 t1 t2 t3 t7 t8 t9 t47 t48 t49 t78 t79 t80:AV) (H:or) (K:Kt) (Kb4 Kb6 Kb10:Lt)
def Bt:Nat→List Bool|6=>rl false [0,2,6,1,38,3,56]|10=>rl false [0,2,6,2,37,3,28,3,25]|_=>[]
noncomputable def zwq:=bd Tryz.f168
def Kl:=t0::t1::ux 6 (t8::ux 38 (t47::t48::t49::ux 56 []))
def zGD:=Bt 6
noncomputable def QT:=uc [1,1,1,1,0,1,0,0] zwq
def zGB:=ud tP Bt [1,1,1,1,0,1,0] zwq (uq tP Tryz.f168.results.toList K)
def zGC:=tM tP QT (zGB K) (Kl t0 t1 t8 t47 t48 t49) H
def Km:=t0::t1::ux 6 (t8::t9::ux 37 (t47::t48::t49::ux 28 (t78::t79::t80::ux 25 [])))
def zV1:=Bt 10
noncomputable def zVY:=uc [1,1,0,0,1,1,1,0,0] QT
def zVX:=ud tP Bt [1,1,0,0,1,1,1,0] QT (vz zGD Kb6 (zGB K))
def QU:=tM tP zVY (zVX K Kb6) (Km t0 t1 t8 t9 t47 t48 t49 t78 t79 t80) H
def QV(t0 t1 t8 t9 t47 t48 t49 t78 t79 t80:AV)(H:or)(K:Kt)(Kb6:Lt)(Kb10:Lt):Prop:=gt .add false t80 I1 λt103=>Kb10 (Km t0 t1 t8 t9 t47 t48 t49 t78 t79 t103) H
def C9:=QV t0 t1 t8 t9 t47 t48 t49 t78 t79 t80 H K Kb6 Kb10
def Da:=gt .lss false t80 t79 λt81=>tO t81 (tW 3 t78 t80 λt83=>tL true 3 t83 H λt84=>un [I0,I0,.ZG] H λt12 H=>ua 3 t12 t84 H λH=>tN 0 t12 λt85=>tL false 1 t85 H λt86=>gt .neq false t86 (I6 4) λt87=>agu t87 false H (tN 1 t12) λt89 H=>agu t87 false H (tL false 1 t89 H) λt90 H=>agm t87 false H t80 λt91 H=>agu t87 false H (gt .neq false t90 t91) λt92 H=>tZ t87 (.bool true) t92 λt93=>agu t93 false H (tN 2 t12) λt95 H=>agu t93 false H (tL false 1 t95 H) λt96 H=>agu t93 false H (tV 1 t96) λt97 H=>agu t93 false H (gt .gtr false t97 I0) λt98 H=>tZ t93 (.bool true) t98 λt99=>tO t99 (tW 1 t8 t9 λt102=>ua 1 t102 (.bool false) H λH=>C9 t0 t1 t8 t9 t47 t48 t49 t78 t79 t80 H K Kb6 Kb10) (C9 t0 t1 t8 t9 t47 t48 t49 t78 t79 t80 H K Kb6 Kb10)) (gt .add false t49 I1 λt104=>Kb6 (Kl t0 t1 t8 t47 t48 t104) H)
def Fe:=gt .lss false t49 t48 λt50=>tO t50 (tW 3 t47 t49 λt52=>tL true 3 t52 H λt53=>un [I0,I0,.ZG] H λt10 H=>ua 3 t10 t53 H λH=>apm H t8 λt54=>apm H t49 λt55=>apu H (tN 0 t10) λt56=>apu H (tY false 1 t56 H) λt57=>apu H (gt .eql false t57 (I6 5)) λt58=>apm H t58 λt59=>ui t59 true H (λK'=>ub H (λK''=>tN 1 t10 (K'' · H)) (K' · H)) λt60 H=>ui t59 true H (λK'=>ub H (λK''=>tY false 1 t60 H (K'' · H)) (K' · H)) λt61 H=>agu t59 true H (ub H (λK''=>K'' t1 H)) λt62 H=>ui t59 true H (λK'=>ub H (λK''=>gt .eql false t61 t62 (K'' · H)) (K' · H)) λt63 H=>apu H (tZ t59 t63 (.bool false)) λt64=>apm H t64 λt65=>ui t65 true H (λK'=>ub H (λK''=>tN 2 t10 (K'' · H)) (K' · H)) λt66 H=>ui t65 true H (λK'=>ub H (λK''=>tY false 1 t66 H (K'' · H)) (K' · H)) λt67 H=>ui t65 true H (λK'=>ub H (λK''=>tV 1 t67 (K'' · H)) (K' · H)) λt68 H=>agu t65 true H (ub H (λK''=>K'' t0 H)) λt69 H=>agu t65 true H (ub H (λK''=>K'' t1 H)) λt70 H=>ui t65 true H (λK'=>ub H (λK''=>tW 3 t69 t70 (K'' · H)) (K' · H)) λt71 H=>ui t65 true H (λK'=>ub H (λK''=>tN 1 t71 (K'' · H)) (K' · H)) λt72 H=>ui t65 true H (λK'=>ub H (λK''=>tY false 1 t72 H (K'' · H)) (K' · H)) λt73 H=>ui t65 true H (λK'=>ub H (λK''=>gt .eql false t68 t73 (K'' · H)) (K' · H)) λt74 H=>apu H (tZ t65 t74 (.bool false)) λt75=>apu H (tW 1 t54 t55) λt76=>ua 1 t76 t75 H λH=>tN 2 t10 λt77=>tL false 1 t77 H λt78=>tV 1 t78 λt79=>QU t0 t1 t8 t49 t47 t48 t49 t78 t79 I0 H K Kb6) (K t8 H)
def zGA:=gt .lss false t1 I0 λt14=>agm t14 false H t1 λt16 H=>agm t14 false H t0 λt17 H=>agu t14 false H (tV 1 t17) λt18 H=>agu t14 false H (gt .geq false t16 t18) λt19 H=>tZ t14 (.bool true) t19 λt20=>agm t20 false H t2 λt22 H=>agu t20 false H (gt .lss false t22 I0) λt23 H=>tZ t20 (.bool true) t23 λt24=>agm t24 false H t2 λt26 H=>agm t24 false H t0 λt27 H=>agm t24 false H t1 λt28 H=>agu t24 false H (tW 3 t27 t28) λt29 H=>agu t24 false H (tN 2 t29) λt30 H=>agu t24 false H (tL false 1 t30 H) λt31 H=>agu t24 false H (tV 1 t31) λt32 H=>agu t24 false H (gt .geq false t26 t32) λt33 H=>tZ t24 (.bool true) t33 λt34=>tO t34 (K .ZG H) (tW 3 t0 t1 λt37=>tN 2 t37 λt38=>tL false 1 t38 H λt39=>tW 2 t39 t2 λt41=>tN 1 t41 λt42=>tL false 1 t42 H λt43=>tV 1 t43 λt45=>vo 1 [(.bool false)] t45 t45 H λt46 H=>tV 1 t43 λt48=>zGC t0 t1 t46 t43 t48 I0 H K)
def zYY(_:Nat):List Bool:=[]
def zHu:=ul t0 H λt2 H=>ul t1 H λt3 H=>tN 0 t2 λt5=>tL false 1 t5 H λt6=>gt .eql false t6 (I6 5) λt7=>agu t7 true H (tN 1 t2) λt9 H=>agu t7 true H (tL false 1 t9 H) λt10 H=>agu t7 true H (tL false 1 t3 H) λt11 H=>agu t7 true H (gt .eql false t10 t11) λt12 H=>tZ t7 t12 (.bool false) λt13=>agu t13 false H (tN 2 t2) λt15 H=>agu t13 false H (tL false 1 t15 H) λt16 H=>agu t13 false H (yl 247 [t3]) λt17 H=>agc tP t13 false H 202 [t16,t17] λt18 H=>tZ t13 (.bool true) t18 λt19=>K t19 H
def zZk(_:Nat):List Bool:=[]
def zHA:=ul t0 H λt2 H=>tL true 3 t2 H λt4=>tL false 1 t1 H λt5=>ge tP 228 [t4,t5] H λt6 H=>K t6 H
def Kn:Nat→List Bool|4=>rl false [3,1,3,1,50]|_=>[]
noncomputable def zzb:=bd Tryz.f93
def Ko:=ux 3 (t3::ux 3 (t7::ux 50 []))
def yfh:=Kn 4
noncomputable def yff:=uc [1,1,0,1,0,0] zzb
def yfe:=ud tP Kn [1,1,0,1,0] zzb (uq tP Tryz.f93.results.toList K)
def zJI:=tM tP yff (yfe K) (Ko t3 t7) H
def Db:=tN 2 t3 λt25=>tL false 1 t25 H λt26=>tV 1 t26 λt27=>gt .lss false t7 t27 λt28=>tO t28 (tN 2 t3 λt31=>tL false 1 t31 H λt32=>tW 3 t32 t7 λt34=>tN 0 t34 λt35=>tL false 1 t35 H λt36=>gt .neq false t36 (I6 4) λt37=>agu t37 false H (tN 2 t3) λt39 H=>agu t37 false H (tL false 1 t39 H) λt40 H=>agm t37 false H t7 λt41 H=>agu t37 false H (tW 3 t40 t41) λt42 H=>agu t37 false H (tN 1 t42) λt43 H=>agu t37 false H (tL false 1 t43 H) λt44 H=>agm t37 false H t7 λt45 H=>agu t37 false H (gt .neq false t44 t45) λt46 H=>tZ t37 (.bool true) t46 λt47=>agu t47 false H (tN 2 t3) λt49 H=>agu t47 false H (tL false 1 t49 H) λt50 H=>agm t47 false H t7 λt51 H=>agu t47 false H (tW 3 t50 t51) λt52 H=>agu t47 false H (tN 2 t52) λt53 H=>agu t47 false H (tL false 1 t53 H) λt54 H=>agu t47 false H (tV 1 t54) λt55 H=>agu t47 false H (gt .gtr false t55 I0) λt56 H=>tZ t47 (.bool true) t56 λt57=>tO t57 (K (.bool false) H) (gt .add false t7 I1 λt30=>Kb4 (Ko t3 t30) H)) (K (.bool true) H)
def zJH:=ul t0 H λt3 H=>tN 0 t3 λt8=>tL false 1 t8 H λt9=>gt .neq false t9 (I6 5) λt10=>agu t10 false H (tN 1 t3) λt12 H=>agu t10 false H (tL false 1 t12 H) λt13 H=>agm t10 false H t1 λt14 H=>agu t10 false H (gt .neq false t13 t14) λt15 H=>tZ t10 (.bool true) t15 λt16=>agu t16 false H (tN 2 t3) λt18 H=>agu t16 false H (tL false 1 t18 H) λt19 H=>agu t16 false H (tV 1 t19) λt20 H=>agm t16 false H t2 λt21 H=>agu t16 false H (gt .neq false t20 t21) λt22 H=>tZ t16 (.bool true) t22 λt23=>tO t23 (K (.bool false) H) (zJI t3 I0 H K)
variable {t0 t1 t2 t3 t7 t8 t9 t47 t48 t49 t78 t79 t80} {H} {K} {Kb4 Kb6 Kb10}
def zVZ:Lo1 (λt80=>Km t0 t1 t8 t9 t47 t48 t49 t78 t79 t80) (λt80 H Kb10=>Da t0 t1 t8 t9 t47 t48 t49 t78 t79 t80 H K Kb6 Kb10) t80 H (QU t0 t1 t8 t9 t47 t48 t49 t78 t79 t80 H K Kb6):=lq1 Bt zV1
def zV0:Lo1 (λt49=>Kl t0 t1 t8 t47 t48 t49) (λt49 H Kb6=>Fe t0 t1 t8 t47 t48 t49 H K Kb6) t49 H (zGC t0 t1 t8 t47 t48 t49 H K):=lq1 Bt zGD
def zV2(h:HSc H→zGA t0 t1 t2 H K):ge tP 168 [t0,t1,t2] H K:=
 acb Bt Tryz.func168 h
def zY0(h:HSc H→zHu t0 t1 H K):ge tP 228 [t0,t1] H K:=
 acb zYY Tryz.func228 h
def zZm(h:HSc H→zHA t0 t1 H K):ge tP 247 [t0,t1] H K:=
 acb zZk Tryz.func247 h
def yfg:Lo1 (λt7=>Ko t3 t7) (λt7 H Kb4=>Db t3 t7 H K Kb4) t7 H (zJI t3 t7 H K):=lq1 Kn yfh
def yfi(h:HSc H→zJH t0 t1 t2 H K):ge tP 93 [t0,t1,t2] H K:=
 acb Kn Tryz.func93 h
end
def zI3:∀ (m:Nat) (v:VT),v.ZO≤m→∀ (left:Int),left≤1000000→-1≤left→∀ (H:or) (id:Nat),H[id]?=some (.cells [I6 left])→∀ (K:AV→or→Prop),
  ((v.ZO:Int)≤left→K (.bool true) (H.set id (.cells [I6 (left-v.ZO)])))→(¬(v.ZO:Int)≤left→∀l',K (.bool false) (H.set id (.cells [I6 l']))) →
  ge tP 72 [.agg v.cs,.ptr id 0] H K:=by
 intro m;induction m with
 |zero=>intro v h;have:=v.ZB;omega
 |succ m ih=>
  intro v hv left jY jC H id fA K hK hF;obtain⟨k,n,ks⟩:=v;have fy:=uR fA;have kr:(VT.mk k n ks).ZO=VT.ZA ks+1:=by simp[VT.ZO]
  refine ge.out (ydw λhs=>?_);have fJ:(H++[AB.cells [I6 k,I6 n,.sl (VT.css ks) .none]])[id]?=some (.cells [I6 left]):=vq fA;have bad:(¬((VT.mk k n ks).ZO:Int)≤left)→∀l' H',H'=H.set id (.cells [I6 l'])++[.cells [I6 k,I6 n,.sl (VT.css ks) .none]]→Out H.length K (.bool false) H':=by intro h l' H' he;exact Out.bool he (by simp) (hs.set rfl) (hF h l')
  simp[YM,VT.cs,fJ,AV.ZP];rw[um (by omega) (by omega),zS _ fA,vq (yI _ fA)];by_cases h0:left-1<0
  ·simp[h0];exact bad (by omega) _ _ rfl
  ·simp[h0];refine ydu (Inv:=λq t5 H'=>∃i:Nat,i≤ks.length∧q=ks.length-i∧t5=I6 i∧((VT.ZA (ks.take i):Int)+1≤left)∧H'=H.set id (.cells [I6 (left-1-VT.ZA (ks.take i))])++[.cells [I6 k,I6 n,.sl (VT.css ks) .none]]) ks.length ?_ ?_
   ·intro _;exact⟨0,by omega,by omega,rfl,by simp[VT.ZA];omega,by simp[VT.ZA]⟩
   ·rintro q t5 H' ⟨i,hi,rfl,rfl,hb,rfl⟩ hsc fz fM Kb fB;by_cases gq:i<ks.length
    ·have gB:=VT.ZM (k:=k) (n:=n) gq;have h1:=VT.ZE gq;have h2:=VT.ZD ks (i+1);have gy:=VT.ZQ (ks.take i);simp only[a7]at gy;have gW:(H.set id (.cells [I6 (left-1-VT.ZA (ks.take i))])++[AB.cells [I6 k,I6 n,.sl (VT.css ks) .none]])[id]?=some (.cells [I6 (left-1-VT.ZA (ks.take i))]):=vq (yI _ fA);simp[Qo,gq];refine ih ks[i] (by omega) (left-1-VT.ZA (ks.take i)) (by omega) (by omega) _ id gW _ ?_ ?_
     ·intro fS;rw[zS _ (yI _ fA),bX];simp;rw[um (by omega) (by omega)];refine fB _ _ ⟨ks.length-(i+1),by omega,Back.here (by simp) ((hs.set rfl).snoc rfl) ?_ ⟨_,rfl,i+1,by omega,rfl,by simp,by omega,?_⟩⟩
      ·simp[JQ,AV.sc,AV.ZJ,AV.ZH,AV.ZI];omega
      ·rw[h1];congr 5;omega
     ·intro fS l';rw[zS _ (yI _ fA),bX];simp;exact bad (by omega) _ _ rfl
    ·obtain rfl:i=ks.length:=by omega
     rw[az]at hb ⊢;simp[Qo];refine Out.bool rfl (by simp) (hs.set rfl) ?_;have:=hK (by omega);rw[kr]at this;rw[show left-1-(VT.ZA ks:Int)=left-((VT.ZA ks+1:Nat):Int) by omega];exact this
def yaF(v:VT)(H:or)(K:AV→or→Prop)(hK:∀b,(b=true→v.ZO≤250)→K (.bool b) H):ge tP 38 [.agg v.cs] H K:=by
 refine ge.out (yaE λhs=>?_);simp[YN,AV.ZP];refine zI3 _ v (af _) 250 (by omega) (by omega) _ (H.length+1) (by simp) _ ?_ ?_
 ·intro h;exact Out.bool (J:=[_,_]) (by simp;exact⟨rfl,rfl⟩) (af _) hs (hK true λ_=>by omega)
 ·intro h l';exact Out.bool (J:=[_,_]) (by simp;exact⟨rfl,rfl⟩) (af _) hs (hK false λh=>by cases h)
def zJQ:∀(m:Nat) (v:VT),v.ZO≤m→v.ZO≤1000000000→∀(H:or) (K:AV→or→Prop),K (I6 v.ZO) H→ge tP 95 [.agg v.cs] H K:=by
 intro m;induction m with
 |zero=>intro v h;have:=v.ZB;omega
 |succ m ih=>
  intro v hv hb H K hK;obtain⟨k,n,ks⟩:=v;have iM:VT.ZA ks+1≤1000000000:=by simpa[VT.ZO]using hb
  have gy:=VT.ZQ ks;refine ge.out (yfw λhs=>?_);simp[VT.cs,zJO];refine yfu (Inv:=λq t3 t4 H'=>∃i:Nat,i≤ks.length∧q=ks.length-i∧t4=I6 i∧t3=I6 (1+VT.ZA (ks.take i):Nat)∧H'=H++[.cells [I6 k,I6 n,.sl (VT.css ks) .none]]) ks.length ?_ ?_
  ·intro _;exact⟨0,by omega,by omega,rfl,by simp[VT.ZA],rfl⟩
  ·rintro q t3 t4 H' ⟨i,hi,rfl,rfl,rfl,rfl⟩ hsc fz fM Kb fB;by_cases fy:i<ks.length
   ·have gB:=VT.ZM (k:=k) (n:=n) fy;have h1:=VT.ZE fy;have h2:=VT.ZD ks (i+1);simp[QL,fy];refine ih ks[i] (by omega) (by omega) _ _ ?_;simp;rw[um (by omega) (by omega),um (by omega) (by omega)];refine fB _ _ ⟨ks.length-(i+1),by omega,Back.here (by simp) hsc ?_ ⟨_,_,rfl,i+1,by omega,rfl,by simp,?_,rfl⟩⟩
    ·simp[Ka,AV.sc,AV.ZJ,AV.ZH,AV.ZI]
    ·rw[h1];congr 1;omega
   ·obtain rfl:i=ks.length:=by omega
    simp[QL];refine Out.int rfl (af _) hs ?_;simpa[VT.ZO,Int.add_comm]using hK
def yfE(eq:List Dat)(lQ:eq.length≤1000000)(vars:Int):∀(m:Nat) (v:VT),v.ZO≤m→v.ZO≤1000000000→∀(H:or) (K:AV→or→Prop),K (.bool (vg eq vars v)) H→ge tP 96 [.sl (eq.map Dat.cs) .none,.agg v.cs,I6 vars] H K:=by
 intro m;induction m with
 |zero=>intro v h;have:=v.ZB;omega
 |succ m ih=>
  intro v hv hb H K hK;obtain⟨k,n,ks⟩:=v;have iM:VT.ZA ks+1≤1000000000:=by simpa[VT.ZO]using hb
  have gy:=VT.ZQ ks;refine ge.out (yfC λhs=>?_);have hO:∀J,Out H.length K (.bool (vE eq vars k n ks.length && vC eq vars ks)) (H++J):=λJ=>Out.bool rfl (af _) hs (by simpa[vg]using hK);have hF:vE eq vars k n ks.length=false→∀J,Out H.length K (.bool false) (H++J):=λh J=>by have:=hO J;rwa [h,bm]at this
  have loop:vE eq vars k n ks.length=true→QM (.sl (eq.map Dat.cs) .none) (I6 vars) (.ptr H.length 0) (I6 ks.length) I0 (H++[.cells [I6 k,I6 n,.sl (VT.css ks) .none]]) (Out H.length K):=by
   intro fY;rw[fY]at hO;simp only[bE]at hO;refine yfA (Inv:=λq t8 H'=>∃i:Nat,i≤ks.length∧q=ks.length-i∧t8=I6 i∧vC eq vars (ks.drop i)=vC eq vars ks∧H'=H++[.cells [I6 k,I6 n,.sl (VT.css ks) .none]]) ks.length ?_ ?_
   ·intro _;exact⟨0,by omega,by omega,rfl,by simp,rfl⟩
   ·rintro q t8 H' ⟨i,hi,rfl,rfl,ho,rfl⟩ hsc fz fM Kb fB;by_cases fy:i<ks.length
    ·have gB:=VT.ZM (k:=k) (n:=n) fy;rw[ai fy,vC]at ho;simp[QN,fy];refine ih ks[i] (by omega) (by omega) _ _ ?_;cases hb:vg eq vars ks[i] with
     |false=>rw[hb,bm]at ho;rw[←ho]at hO;simp;exact hO _
     |true=>rw[hb,bE]at ho;simp;rw[um (by omega) (by omega)];refine fB _ _ ⟨ks.length-(i+1),by omega,Back.here (by simp) hsc ?_ ⟨_,rfl,i+1,by omega,rfl,by simp,ho,rfl⟩⟩;simp[Kd,AV.sc,AV.ZJ,AV.ZH,AV.ZI]
    ·obtain rfl:i=ks.length:=by omega
     rw[aV,vC]at ho;rw[←ho]at hO;simp[QN];exact hO _
  have prim:(k=1∨k=2∨k=3)→Out H.length K (.bool (n == 0 && ks.length == 0)) (H++[.cells [I6 k,I6 n,.sl (VT.css ks) .none]]):=by
   intro h;have fY:vE eq vars k n ks.length=(n == 0 && ks.length == 0):=by rcases h with rfl|rfl|rfl <;> rfl
   have:=hO [.cells [I6 k,I6 n,.sl (VT.css ks) .none]];rw[fY]at this;cases ks with
   |nil=>simpa[vC]using this
   |cons x l=>simpa using this
  by_cases mn:k=1∨k=2∨k=3
  ·have:=prim mn;cases hn:(n == 0) with
   |false=>rw[hn,bm]at this;rcases mn with rfl|rfl|rfl <;> simp[xB,VT.cs,wy,hn] <;> exact this
   |true=>
    rw[hn,bE]at this;have e:((ks.length:Int) == 0)=(ks.length == 0):=by rw[dj];simp
    rw[←e]at this;rcases mn with rfl|rfl|rfl <;> simp only[xB,VT.cs] <;> simp[wy,hn] <;> simpa using this
  by_cases h4:k=4
  ·subst h4;have fY:vE eq vars 4 n ks.length=(decide (0≤n) && decide (n<vars) && ks.length == 0):=rfl;have rZ:∀J,Out H.length K (.bool (decide (0≤n) && decide (n<vars) && ks.length == 0)) (H++J):=λJ=>by
    have:=hO J;rw[fY]at this;cases ks with
    |nil=>simpa[vC]using this
    |cons x l=>simpa using this
   have e:((ks.length:Int) == 0)=(ks.length == 0):=by rw[dj];simp
   rw[←e]at rZ;by_cases g1:0≤n
   ·by_cases g2:n<vars
    ·simp only[xB,VT.cs];simp[wy,g1,g2];simpa[g1,g2]using rZ _
    ·simp only[xB,VT.cs];simp[wy,g1,g2];simpa[g1,g2]using rZ _
   ·simp only[xB,VT.cs];simp[wy,g1];simpa[g1]using rZ _
  by_cases h5:k=5
  ·subst h5;have fY:vE eq vars 5 n ks.length=(decide (0≤n) && (match eq[n.toNat]? with | some d=>(ks.length:Int) == d.vars | none=>false)):=rfl;by_cases g1:0≤n
   ·have g1':¬ n<0:=by omega
    by_cases g2:n<eq.length
    ·have iM:n.toNat<eq.length:=by omega
     have g2':¬(eq.length:Int)≤n:=by omega
     have ga:(eq.map Dat.cs)[n.toNat]?.getD []=[.str eq[n.toNat].name,I6 eq[n.toNat].vars,.sl (eq[n.toNat].cons.map Con.cs) .none]:=by simp[iM,Dat.cs]
     rw[aw iM]at fY;simp only[g1,dT,bE]at fY;cases hv:((ks.length:Int) == eq[n.toNat].vars) with
     |false=>
      rw[hv]at fY;have gU:((ks.length:Int) != eq[n.toNat].vars)=true:=by simp[bne,hv]
      simp only[xB,VT.cs];simp[wy,g1',g2',g1,g2,iM,Dat.cs,gU];exact hF fY _
     |true=>
      rw[hv]at fY;have gU:((ks.length:Int) != eq[n.toNat].vars)=false:=by simp[bne,hv]
      simp only[xB,VT.cs];simp[wy,g1',g2',g1,g2,iM,Dat.cs,gU,AH,Fd];exact loop fY
    ·have g2':(eq.length:Int)≤n:=by omega
     rw[aW (by omega)]at fY;simp only[xB,VT.cs];simp[wy,g1',g2'];exact hF (by rw[fY];simp) _
   ·have g1':n<0:=by omega
    simp only[xB,VT.cs];simp[wy,g1'];exact hF (by rw[fY];simp[g1]) _
  by_cases h6:k=6
  ·subst h6;have fY:vE eq vars 6 n ks.length=(n == 0 && decide (2≤ks.length) && decide (ks.length≤6)):=rfl;simp only[xB,VT.cs];cases hn:(n == 0) with
   |false=>
    have:(n != 0)=true:=by simp[bne,hn]
    simp[wy,this];exact hF (by rw[fY,hn];rfl) _
   |true=>
    have iO:(n != 0)=false:=by simp[bne,hn]
    by_cases g1:ks.length<2
    ·have:(ks.length:Int)<2:=by omega
     simp[wy,iO,this];exact hF (by rw[fY];simp;omega) _
    ·have g1':¬ (ks.length:Int)<2:=by omega
     by_cases g2:6<ks.length
     ·have:(6:Int)<ks.length:=by omega
      simp[wy,iO,g1',this];exact hF (by rw[fY];simp;omega) _
     ·have:¬ (6:Int)<ks.length:=by omega
      simp[wy,iO,g1',this,AH,Fd];exact loop (by rw[fY,hn];simp;omega)
  by_cases py:k=7∨k=8
  ·have fY:vE eq vars k n ks.length=(n == 0 && ks.length == 1):=by rcases py with rfl | rfl <;> rfl
   cases hn:(n == 0) with
   |false=>
    have:(n != 0)=true:=by simp[bne,hn]
    have fin:=hF (by rw[fY,hn];rfl);simp only[xB,VT.cs];rcases py with rfl|rfl <;> simp[wy,zr,this] <;> exact fin _
   |true=>
    have iO:(n != 0)=false:=by simp[bne,hn]
    by_cases g1:ks.length=1
    ·have g1':((ks.length:Int) != 1)=false:=by simp[g1]
     have fin:=loop (by rw[fY,hn,g1];rfl);simp only[xB,VT.cs];rcases py with rfl|rfl <;> simp[wy,zr,iO,g1',AH,Fd] <;> exact fin
    ·have g1':((ks.length:Int) != 1)=true:=by simp;omega
     have fin:=hF (by rw[fY];simp[g1]);simp only[xB,VT.cs];rcases py with rfl|rfl <;> simp[wy,zr,iO,g1'] <;> exact fin _
  have b1:(k == 1)=false:=by simp;omega
  have b2:(k == 2)=false:=by simp;omega
  have b3:(k == 3)=false:=by simp;omega
  have b4:(k == 4)=false:=by simp;omega
  have b5:(k == 5)=false:=by simp;omega
  have b6:(k == 6)=false:=by simp;omega
  have b7:(k == 7)=false:=by simp;omega
  have b8:(k == 8)=false:=by simp;omega
  by_cases h9:k=9
  ·subst h9;have fY:vE eq vars 9 n ks.length=(n == 0 && decide (1≤ks.length) && decide (ks.length≤7)):=rfl;simp only[xB,VT.cs];cases hn:(n == 0) with
   |false=>
    have:(n != 0)=true:=by simp[bne,hn]
    simp[wy,zr,this];exact hF (by rw[fY,hn];rfl) _
   |true=>
    have iO:(n != 0)=false:=by simp[bne,hn]
    by_cases g1:ks.length<1
    ·have:(ks.length:Int)<1:=by omega
     simp[wy,zr,iO,this];exact hF (by rw[fY];simp;omega) _
    ·have g1':¬ (ks.length:Int)<1:=by omega
     by_cases g2:7<ks.length
     ·have:(7:Int)<ks.length:=by omega
      simp[wy,zr,iO,g1',this];exact hF (by rw[fY];simp;omega) _
     ·have:¬ (7:Int)<ks.length:=by omega
      simp[wy,zr,iO,g1',this,AH,Fd];exact loop (by rw[fY,hn];simp;omega)
  ·have b9:(k == 9)=false:=by simp;omega
   simp only[xB,VT.cs];simp[wy,zr,b1,b2,b3,b4,b5,b6,b7,b8,b9];exact hF (by unfold vE;simp[b1,b2,b3,b4,b5,b6,b7,b8,b9]) _
def zIw(eq:List Dat)(lQ:eq.length≤1000000)(vars:Int)(v:VT)(hb:v.ZO≤1000000000)(H:or)(K:AV→or→Prop)(hK:K (.bool (uW eq vars v)) H):ge tP 49 [.sl (eq.map Dat.cs) .none,.agg v.cs,I6 vars] H K:=by
 refine ge.out (ybQ λhs=>?_);have hO:∀J,Out H.length K (.bool (uW eq vars v)) (H++J):=λJ=>Out.bool rfl (af _) hs hK;unfold uW at hO;simp[zIv];refine zJQ _ v (af _) hb _ _ ?_;by_cases h:v.ZO≤200
 ·have h':(v.ZO:Int)≤200:=by omega
  simp[h'];refine yfE eq lQ vars _ v (af _) hb _ _ ?_;simpa[h]using hO _
 ·have h':¬ (v.ZO:Int)≤200:=by omega
  simp[h'];simpa[h]using hO _
def wK(es:List (List AV))(id:Nat):AV:=match es with|[]=>.ZG|_=>.sl es (.own id)
def ya(e s:Nat)(n:Nat):or:=match n with|0=>[]|n=>[.perm e s n]
def zKt(es:List (List AV))(id:Nat):yU (wK es id) (.sl es .none):=by
 cases es with
 |nil=>exact .ZG
 |cons e es=>exact .sl _ _
def zzO(es:List (List AV)){id n:Nat}(h:es=[]∨id<n):(wK es id).ZH n=true:=by
 cases es with
 |nil=>rfl
 |cons e es=>
  rcases h with h|h
  ·cases h
  ·simpa[wK,AV.ZH,AV.ZI]using h
def zKs(es:List (List AV))(id:Nat):(wK es id).ZP=true:=by cases es <;> rfl
def zKr(es:List (List AV))(id:Nat):(wK es id).cs?=some [wK es id]:=by cases es <;> rfl
def zKu{e s bytes:Nat}{es:List (List AV)}{y:List AV}{t:Tok}{H:or}{K:AV→or→Prop}(hy:y.length=s)(hb:(es.length+1)*bytes≤140737488355328)(hl:es.length+1≤9223372036854775807)(hk:K (wK (es++[y]) H.length) (H++ya e s (es.length+1))):uj e s bytes (wK es H.length) (.sl [y] t) (H++ya e s es.length) K:=by
 unfold uj uD;refine⟨by simpa using hy,?_⟩;cases es with
 |nil=>unfold uy;simp[wK,ya]at *;exact⟨by omega,hk⟩
 |cons x es=>unfold uy;simp[wK,ya]at *;refine⟨⟨by omega,by omega⟩,hk⟩
def zzP{e s bytes id n:Nat}{es:List (List AV)}{y:List AV}{t:Tok}{H0 Hh:or}{K:AV→or→Prop}(hn:n=es.length)(he:Hh=H0++ya e s n)(fA:id=H0.length)(hy:y.length=s)(hb:(es.length+1)*bytes≤140737488355328)(hl:es.length+1≤9223372036854775807)(hk:K (wK (es++[y]) id) (H0++ya e s (n+1))):uj e s bytes (wK es id) (.sl [y] t) Hh K:=by
 subst he fA hn;exact zKu hy hb hl hk
@[simp] theorem yhS(es:List (List AV))(id:Nat):(wK es id).cs?=some [wK es id]:=zKr es id
@[simp] theorem yhT(es:List (List AV))(id:Nat):(wK es id).ZP=true:=zKs es id
def Bu{v:VT}{k:AV→Prop}:uk 3 [I0,I0,.ZG] 1 [(0,.agg v.cs)] k=k (.sl [v.cs] .full):=by cases v;exact propext bk
def Ff{l:List VT}{i:Nat}(h:i<l.length):VT.css (l.take (i+1))=VT.css (l.take i)++[(l[i]).cs]:=by rw[VT.ZC,VT.ZC,ag h,a6];rfl
def zCv{H J:or}{K:AV→or→Prop}{k n:Int}{ks:List VT}{id:Nat}(hs:HSc H)(hK:K (.agg (VT.mk k n ks).cs) H):Out H.length K (.agg [I6 k,I6 n,wK (VT.css ks) id]) (H++J):=
 Out.at rfl (af _) hs (vK.agg (ds:=[I6 k,I6 n,.sl (VT.css ks) .none]) ⟨.refl _,.refl _,zKt _ _,trivial⟩) rfl (by simp[AV.ZJ,AV.ZH,AV.ZI]) (by simpa[VT.cs]using hK)
def zLl:∀(m:Nat) (v:VT),v.ZO≤m→v.ZO≤1000000→∀(H:or) (K:AV→or→Prop),K (.agg v.cs) H→ge tP 194 [.agg v.cs] H K:=by
 intro m;induction m with
 |zero=>intro v h;have:=v.ZB;omega
 |succ m ih=>
  intro v hv hb H K hK;obtain⟨k,n,ks⟩:=v;have iM:VT.ZA ks+1≤1000000:=by simpa[VT.ZO]using hb
  have gy:=VT.ZQ ks;refine ge.out (zXb λhs=>?_);simp[VT.cs,zGU,ug,uv,aa];refine zW9 (Inv:=λq t4 H'=>∃i:Nat,i≤ks.length∧q=ks.length-i∧t4=I6 i∧H'=H++[.cells [I6 k,I6 n,.sl (VT.css ks) .none],.cells [I0,I0,.ZG],.cells [I6 k,I6 n,wK (VT.css (ks.take i)) (H.length+3)]]++ya 25 3 i) ks.length ?_ ?_
  ·intro _;exact⟨0,by omega,by omega,rfl,by simp[ya,wK,VT.css]⟩
  ·rintro q t4 H' ⟨i,hi,rfl,rfl,rfl⟩ hsc fz fM Kb fB;by_cases fy:i<ks.length
   ·have gB:=VT.ZM (k:=k) (n:=n) fy;simp[QS,fy];refine ur (.agg (ks[i]).cs) (λJ=>ih ks[i] (by omega) (by omega) _ _ ⟨rfl,rfl⟩) ?_;rw[Bu];refine zzP (H0:=H++[.cells [I6 k,I6 n,.sl (VT.css ks) .none],.cells [I0,I0,.ZG],.cells [I6 k,I6 n,wK (VT.css (ks.take i)) (H.length+3)]]) (n:=i) (by simp;omega) (by simp) (by simp) (by simp) (by simp;omega) (by simp;omega) ?_;rw[←Ff fy];simp;rw[um (by omega) (by omega)];refine fB _ _ ⟨ks.length-(i+1),by omega,Back.here (by simp[ya]) ?_ ?_ ⟨_,rfl,i+1,by omega,rfl,by simp,by simp⟩⟩
    ·refine hs.append ?_;simp[AB.sc,ya,AV.ZH,AV.ZI];exact zzO _ (.inr (by omega))
    ·simp[Kk,AV.sc,AV.ZJ,AV.ZH,AV.ZI]
   ·obtain rfl:i=ks.length:=by omega
    rw[az]at *;simp[QS];exact zCv hs hK
theorem zW(args:List VT):∀ l:List VT,uP args l=l.map (subst args)
 |[]=>rfl
 |t::ts=>by rw[uP,zW args ts];rfl
def zTR(args:List VT)(ha:∀x∈args,x.ZO≤1000000)(ly:args.length≤1000000):∀(m:Nat) (v:VT),v.ZO≤m→v.ZO≤1000000→∀(H:or) (K:AV→or→Prop),K (.agg (subst args v).cs) H→ge tP 146 [.agg v.cs,.sl (VT.css args) .none] H K:=by
 intro m;induction m with
 |zero=>intro v h;have:=v.ZB;omega
 |succ m ih=>
  intro v hv hb H K hK;obtain⟨k,n,ks⟩:=v;have iM:VT.ZA ks+1≤1000000:=by simpa[VT.ZO]using hb
  have gy:=VT.ZQ ks;refine ge.out (zTP λhs=>?_);by_cases jk:k=4∧0≤n∧n<args.length
  ·obtain⟨rfl,h0,h1⟩:=jk;have hn:n.toNat<args.length:=by omega
   have jd:K (.agg (args[n.toNat]).cs) H:=by rw[subst,aN ⟨rfl,h0,h1⟩,aw hn]at hK;exact hK
   simp[VT.cs,QR,h0,h1,hn];refine zLl _ _ (af _) (ha _ (ae hn)) _ _ ?_;generalize args[n.toNat]=x at *;obtain⟨k',n',ks'⟩:=x;simp[VT.cs];exact Out.at rfl (af _) hs .rfl' rfl rfl jd
  ·have jd:K (.agg (VT.mk k n (uP args ks)).cs) H:=by rw[subst,aG jk]at hK;exact hK
   have go:∀H1,H1=H++[.cells [I6 k,I6 n,.sl (VT.css ks) .none],.cells [I0,I0,.ZG],.cells [I6 k,I6 n,.ZG]]→QP (.sl (VT.css args) .none) (.ptr H.length 0) (.ptr (H.length+1) 0) (.ptr (H.length+2) 0) I0 H1 (Out H.length K):=by
    rintro _ rfl;refine zTN (Inv:=λq t6 H'=>∃i:Nat,i≤ks.length∧q=ks.length-i∧t6=I6 i∧H'=H++[.cells [I6 k,I6 n,.sl (VT.css ks) .none],.cells [I0,I0,.ZG],.cells [I6 k,I6 n,wK (VT.css ((uP args ks).take i)) (H.length+3)]]++ya 25 3 i) ks.length ?_ ?_
    ·intro _;exact⟨0,by omega,by omega,rfl,by simp[ya,wK,VT.css]⟩
    ·rintro q t6 H' ⟨i,hi,rfl,rfl,rfl⟩ hsc fz fM Kb fB;by_cases fy:i<ks.length
     ·have gB:=VT.ZM (k:=k) (n:=n) fy;have fK:i<(uP args ks).length:=by rw[zW];simpa using fy
      have q9:(uP args ks)[i]=subst args ks[i]:=by simp[zW]
      simp[QQ,fy];refine ur (.agg (subst args ks[i]).cs) (λJ=>ih ks[i] (by omega) (by omega) _ _ ⟨rfl,rfl⟩) ?_;rw[Bu,←q9];refine zzP (H0:=H++[.cells [I6 k,I6 n,.sl (VT.css ks) .none],.cells [I0,I0,.ZG],.cells [I6 k,I6 n,wK (VT.css ((uP args ks).take i)) (H.length+3)]]) (n:=i) (by simp;omega) (by simp) (by simp) (by simp) (by simp;omega) (by simp;omega) ?_;rw[←Ff fK];simp;rw[um (by omega) (by omega)];refine fB _ _ ⟨ks.length-(i+1),by omega,Back.here (by simp[ya]) ?_ ?_ ⟨_,rfl,i+1,by omega,rfl,by simp,by simp⟩⟩
      ·refine hs.append ?_;simp[AB.sc,ya,AV.ZH,AV.ZI];exact zzO _ (.inr (by omega))
      ·simp[Ki,AV.sc,AV.ZJ,AV.ZH,AV.ZI]
     ·obtain rfl:i=ks.length:=by omega
      have e:(uP args ks).take ks.length=uP args ks:=am (by rw[zW];simp);rw[e];simp[QQ];exact zCv hs jd
   simp only[VT.cs,QR];by_cases h4:k=4
   ·subst h4;by_cases h0:0≤n
    ·have h1:¬n<args.length:=λh=>jk ⟨rfl,h0,h⟩;simp[h0,h1,ug,uv,aa];exact go _ rfl
    ·simp[h0,ug,uv,aa];exact go _ rfl
   ·have pz:(k == 4)=false:=by simpa using h4
    simp[pz,ug,uv,aa];exact go _ rfl
mutual
theorem zDD{args:List VT}{M:Nat}(h1:1≤M)(ha:∀ x∈args,x.ZO≤M):∀ v:VT,(subst args v).ZO≤v.ZO*M
 |.mk k n ks=>by
  unfold subst;split
  ·rename_i h;have hn:n.toNat<args.length:=by omega
   rw[aw hn];have:=ha _ (ae hn);have h2:M≤(VT.mk k n ks).ZO*M:=by have:=(VT.mk k n ks).ZB;exact Nat.le_mul_of_pos_left M this
   simp only[Option.getD_some];omega
  ·have:=zDA h1 ha ks;simp only[VT.ZO,bD];omega
theorem zDA{args:List VT}{M:Nat}(h1:1≤M)(ha:∀ x∈args,x.ZO≤M):∀ l:List VT,VT.ZA (uP args l)≤VT.ZA l*M
 |[]=>by simp[uP,VT.ZA]
 |t::ts=>by have h2:=zDD h1 ha t;have h3:=zDA h1 ha ts;simp only[uP,VT.ZA,bp];omega
end
def Fg{k n:Int}{ks:List VT}:∀x∈ks,x.ZO≤(VT.mk k n ks).ZO:=by intro x hx;obtain⟨i,hi,rfl⟩:=ed.1 hx;exact bH (VT.ZM hi)
def Kp{k n:Int}{ks:List VT}:∀x∈ks,x.ZO<(VT.mk k n ks).ZO:=by intro x hx;obtain⟨i,hi,rfl⟩:=ed.1 hx;exact VT.ZM hi
def zD8{H:or}{x y:AB}:H++[x,y]=(H++[x])++[y]:=by simp
def yv(eq:List Dat)(k n:Int)(ks:List VT)(c:Int):wa eq (.mk k n ks) c=(if k=5∧0≤n∧0≤c then
  match eq[n.toNat]? with
  | some d=>if (ks.length:Int)=d.vars then
    match d.cons[c.toNat]? with
    |some co=>if (co.args.map (subst ks)).all (λx=>decide (x.ZO≤200))=true then some (co.args.map (subst ks)) else none
    |none=>none
   else none
  |none=>none
 else none):=rfl
def xC(o:Option (List VT)):AV:=match o with
 |some l=>.tup [.sl (VT.css l) .none,.bool true]
 |none=>.tup [.sl [] .none,.bool false]
def zBQ{α:Type}{l:List α}{i:Nat}(h:i<l.length){p:α→Prop}(h1:∀x∈l.take i,p x)(h2:p l[i]):∀x∈l.take (i+1),p x:=by
 rw[ag h];intro x hx;rcases bg.1 hx with hx|hx
 ·exact h1 x hx
 ·simp at hx;subst hx;exact h2
def ve(v:VT):∃a b c,v.cs=[a,b,c]∧a.ZP=true∧b.ZP=true∧c.ZP=true:=by obtain⟨k,n,ks⟩:=v;exact⟨_,_,_,rfl,rfl,rfl,rfl⟩
def QW(eq:List Dat)(lQ:eq.length≤1000000)(s5:∀ d∈eq,∀ c∈d.cons,c.args.length≤1000∧∀ x∈c.args,x.ZO≤1000)(hdc:∀ d∈eq,d.cons.length≤1000000)(t:VT)(ht:t.ZO≤1000)(c:Int)(H:or)(K:AV→or→Prop)(hK:K (xC (wa eq t c)) H):
  ge tP 98 [.sl (eq.map Dat.cs) .none,.agg t.cs,I6 c] H K:=by
 refine ge.out (yfP λhs=>?_);obtain⟨k,n,ks⟩:=t;have jF:VT.ZA ks+1≤1000:=by simpa[VT.ZO]using ht
 have jV:=VT.ZQ ks;have hF:wa eq (.mk k n ks) c=none→∀J,Out H.length K (.tup [.ZG,.bool false]) (H++J):=λh J=>by rw[h]at hK;exact Out.tup hs hK ⟨xd,uJ rfl rfl,trivial⟩
 have hFF:∀J,wa eq (.mk k n ks) c=none→Out H.length K (.tup [.ZG,.bool false]) (H++J):=λJ h=>hF h J;simp only[VT.cs,zJT];by_cases h5:k=5;case neg=>
  have:(k != 5)=true:=by simpa using h5
  simp[this,AV.isV];exact hF (by rw[yv,aG (λh=>h5 h.1)]) _
 subst h5;by_cases h0:n<0
 ·simp[h0,AV.isV];exact hF (by rw[yv,aG (λh=>by have:=h.2.1;omega)]) _
 by_cases h1:(eq.length:Int)≤n
 ·simp[h0,h1,AV.isV];exact hF (by
   rw[yv];split
   ·rw[aW (by omega)]
   ·rfl) _
 have hn:n.toNat<eq.length:=by omega
 have iz:n<eq.length:=by omega
 have m7:0≤n:=by omega
 generalize jA:eq[n.toNat]=d at *;have hd:d∈eq:=by rw[←jA];exact ae hn
 have fJ:eq[n.toNat]?=some d:=by rw[aw hn,jA]
 cases hv:((ks.length:Int) == d.vars) with
 |false=>
  have gU:((ks.length:Int) != d.vars)=true:=by simp[bne,hv]
  simp[h0,h1,m7,iz,hn,jA,Dat.cs,gU,AV.isV,fJ];exact hF (by
   rw[yv];split
   ·rw[fJ];simp only;rw[aG (by simpa using hv)]
   ·rfl) _
 |true=>
 have gU:((ks.length:Int) != d.vars)=false:=by simp[bne,hv]
 have s6:(ks.length:Int)=d.vars:=by simpa using hv
 by_cases kE:c<0
 ·simp[h0,h1,m7,iz,hn,jA,Dat.cs,gU,AV.isV,fJ,kE];exact hF (by rw[yv,aG (λh=>by have:=h.2.2;omega)]) _
 have jT:∀o,(match d.cons[c.toNat]? with|some k=>if (k.args.map (subst ks)).all (λx=>decide (x.ZO≤200))=true then some (k.args.map (subst ks)) else none|none=>none)=o→wa eq (.mk 5 n ks) c=o:=λo h=>by rw[yv,aN ⟨rfl,m7,by omega⟩,fJ];simp only;rw[aN s6];exact h
 by_cases gM:(d.cons.length:Int)≤c
 ·simp[h0,h1,m7,iz,hn,jA,Dat.cs,gU,AV.isV,fJ,kE,gM];exact hF (jT none (by rw[aW (by omega)])) _
 have iC:c.toNat<d.cons.length:=by omega
 have ik:c<d.cons.length:=by omega
 have m8:0≤c:=by omega
 generalize iD:d.cons[c.toNat]=co at *;have jy:co∈d.cons:=by rw[←iD];exact ae iC
 have qx:d.cons[c.toNat]?=some co:=by rw[aw iC,iD]
 obtain⟨ly,ra⟩:=s5 d hd co jy;have km:=λo=>jT o;rw[qx]at km;simp only at km;have kX:∀x∈co.args,(subst ks x).ZO≤1000000:=λx hx=>by have h2:=zDD (M:=1000) (by omega) (λy hy=>aC (Fg (k:=5) (n:=n) y hy) ht) x;have h3:=ra x hx;have:x.ZO*1000≤1000*1000:=aD _ h3;omega
 simp[h0,h1,m7,iz,hn,jA,Dat.cs,gU,AV.isV,fJ,kE,gM,m8,ik,iC,iD,Con.cs,qx];have fO:∀m,HSc (H++[.cells [I6 5,I6 n,.sl (VT.css ks) .none],.perm 25 3 m]):=λm=>hs.append rfl;unfold Kg;refine tM.own 8 25 3 rfl ?_;have g8:(H++[AB.cells [I6 5,I6 n,.sl (VT.css ks) .none]]).length=H.length+1:=by simp
 rw[g8,aB];show Kg (.ptr H.length 0) (.sl [] (.own (H.length+1))) (.sl (VT.css co.args) .none) (I6 co.args.length) I0 (H++[.cells [I6 5,I6 n,.sl (VT.css ks) .none],.perm 25 3 0]) (Out H.length K);refine yfN (Inv:=λq t8 t65 H'=>∃i:Nat,i≤co.args.length∧q=co.args.length-i∧t65=I6 i∧t8=.sl (VT.css ((co.args.map (subst ks)).take i)) (.own (H.length+1))∧(∀x∈co.args.take i,(subst ks x).ZO≤200)∧H'=H++[.cells [I6 5,I6 n,.sl (VT.css ks) .none],.perm 25 3 i]) co.args.length ?_ ?_
 ·intro _;exact⟨0,by omega,by omega,rfl,by simp[VT.css],by simp,rfl⟩
 ·rintro q t8 t65 H' ⟨i,hi,rfl,rfl,rfl,fX,rfl⟩ hsc fz fM Kb fB;by_cases fy:i<co.args.length
  ·have gu:=ae fy;have gL:=kX _ gu;obtain⟨x,y,z,fD,hx,hy,hz⟩:=ve co.args[i];simp[QO,fy,fD,hx,hy,hz];rw[←fD];refine zTR ks (λy hy=>by have:=Fg (k:=5) (n:=n) y hy;omega) (by omega) _ co.args[i] (af _) (by have:=ra _ gu;omega) _ _ ?_;obtain⟨x',y',z',hvx',mv,nR,ox⟩:=ve (subst ks co.args[i]);simp[hvx',mv,nR,ox];rw[←hvx'];refine zJQ _ _ (af _) (by omega) _ _ ?_;by_cases iP:(subst ks co.args[i]).ZO≤200
   ·have m9:¬ (200:Int)<(subst ks co.args[i]).ZO:=by omega
    simp[m9];rw[Bu];simp[uj,uD,uy];refine⟨by omega,by omega,?_⟩;rw[um (by omega) (by omega),show min i co.args.length=i by omega];refine fB _ _ ⟨co.args.length-(i+1),by omega,Back.at (H2:=H++[.cells [I6 5,I6 n,.sl (VT.css ks) .none],.perm 25 3 (i+1)]) (J:=[_,_]) (by simp;exact⟨rfl,rfl⟩) (by simp) (fO _) ?_ ⟨_,_,rfl,i+1,by omega,rfl,by simp,?_,zBQ fy fX iP,rfl⟩⟩
    ·simp[Kf,AV.sc,AV.ZJ,AV.ZH,AV.ZI]
    ·rw[Ff (by simpa using fy)];simp
   ·have m9:(200:Int)<(subst ks co.args[i]).ZO:=by omega
    simp[m9,AV.isV];refine hF (km none ?_) _;rw[aG];intro pA;have:=aA.1 pA (subst ks co.args[i]) (aF.2 ⟨_,gu,rfl⟩);exact iP (c6 this)
  ·obtain rfl:i=co.args.length:=by omega
   rw[az]at fX;rw[am (by simp)];simp[QO,AV.isV];have mG:=km (some (co.args.map (subst ks))) (aN (aA.2 λy hy=>by
    obtain⟨x,hx,rfl⟩:=aF.1 hy;exact bG (fX x hx)))
   rw[mG]at hK;exact Out.tup hs hK ⟨slV,uJ rfl rfl,trivial⟩
def Bv{H:or}{K:AV→or→Prop}{r:AV}(hsc:HSc H)(hv:r.isV=true)(hr:r.ZJ H.length=true)(h:K r H):Out H.length K r H:=by have:=Out.same (J:=[]) rfl hsc hv hr h;simpa using this
def zB3(a:Int)(H:or)(K:AV→or→Prop)(hK:K (.bool false) H):ge tP 187 [I6 a] H K:=by refine ge.out (zWF λhs=>?_);simp[YB];exact Bv hs rfl rfl hK
def zAy(a b:Int)(H:or)(K:AV→or→Prop)(hK:K (I6 (icmp a b)) H):ge tP 139 [I6 a,I6 b] H K:=by
 refine ge.out (zS9 λhs=>?_);unfold Yx;refine zB3 _ _ _ (zB3 _ _ _ ?_);have hO:=Bv (K:=K) (H:=H) (r:=I6 (icmp a b)) hs rfl rfl hK;by_cases h1:a<b
 ·simp[h1];simpa[icmp,h1]using hO
 ·by_cases h2:b<a
  ·simp[h1,h2];simpa[icmp,h1,h2]using hO
  ·simp[h1,h2];simpa[icmp,h1,h2]using hO
def orL:List Int→Int
 |[]=>0
 |a::l=>cor a (orL l)
def zM1(l:List Int)(tok:Tok)(hl:l.length≤1000000)(H:or)(K:AV→or→Prop)(hK:K (I6 (orL l)) H):ge tP 138 [.sl (l.map λx=>[.int .i64 x]) tok] H K:=by
 refine ge.out (zS5 λhs=>?_);simp[YA];refine zS3 (Inv:=λq t8 H'=>∃i:Nat,i≤l.length∧q=l.length-i∧t8=I6 i∧orL (l.drop i)=orL l∧H'=H) l.length ?_ ?_
 ·intro _;exact⟨0,by omega,by omega,rfl,by simp,rfl⟩
 ·rintro q t8 H' ⟨i,hi,rfl,rfl,ho,rfl⟩ hsc fz fM Kb fB;by_cases fy:i<l.length
  ·rw[ai fy,orL]at ho;by_cases hz:l[i]=0
   ·rw[Qf hz]at ho;simp[JK,fy,hz];rw[um (by omega) (by omega)];refine fB _ _ ⟨l.length-(i+1),by omega,Back.here (af _) hs ?_ ⟨_,rfl,i+1,by omega,rfl,by simp,ho,rfl⟩⟩;simpa[JJ,AV.sc,AV.ZJ,AV.ZH,AV.ZI]using fM
   ·rw[Jz hz]at ho;have hz:(l[i] != 0)=true:=by simpa using hz
    simp[JK,fy,hz];rw[←ho]at hK;exact Bv hs rfl rfl hK
  ·simp[JK,fy];obtain rfl:i=l.length:=by omega
   rw[aV]at ho;rw[←ho]at hK;exact Bv hs rfl rfl hK
def zLb(ks ks':List IT)(he:ks.length=ks'.length)(hb:ks.length≤1000000)(hc:∀(i:Nat) (h:i<ks.length) (h':i<ks'.length) (H:or) (K:AV→or→Prop),K (I6 (IT.cmp ks[i] ks'[i])) H→ge tP 86 [.agg ks[i].cs,.agg ks'[i].cs] H K)(H:or)(K:AV→or→Prop)(hK:K (I6 (IT.ZK ks ks')) H):ge tP 140 [.sl (IT.css ks) .none,.sl (IT.css ks') .none,.fn 86 []] H K:=by
 refine ge.out (zTe λhs=>?_);simp[YI];refine zTc (Inv:=λq t13 H'=>∃i:Nat,i≤ks.length∧q=ks.length-i∧t13=I6 i∧IT.ZK (ks.drop i) (ks'.drop i)=IT.ZK ks ks'∧H'=H) ks.length ?_ ?_
 ·intro _;exact⟨0,by omega,by omega,rfl,by simp,rfl⟩
 ·rintro q t8 H' ⟨i,hi,rfl,rfl,ho,rfl⟩ hsc fz fM Kb fB;by_cases fy:i<ks.length
  ·have fK:i<ks'.length:=by omega
   have fS:¬ks'.length≤i:=by omega
   rw[IT.cmpL_drop fy fK]at ho;simp[Qm,fy,fK,fS];refine hc i fy fK _ _ ?_;by_cases hz:IT.cmp ks[i] ks'[i]=0
   ·rw[Qf hz]at ho;simp[hz];rw[um (by omega) (by omega)];refine fB _ _ ⟨ks.length-(i+1),by omega,Back.same (af _) hs ?_ ⟨_,rfl,i+1,by omega,rfl,by simp,ho,rfl⟩⟩;simp[JO,AV.sc,AV.ZJ,AV.ZH,AV.ZI]
   ·rw[Jz hz]at ho;have hz:(IT.cmp ks[i] ks'[i] != 0)=true:=by simpa using hz
    simp[hz];rw[←ho]at hK;exact Out.same rfl hs rfl rfl hK
  ·have iM:¬ ks.length<ks'.length:=by omega
   simp[Qm,fy,iM];obtain rfl:i=ks.length:=by omega
   rw[aV,he,aV]at ho;rw[←ho]at hK;exact Bv hs rfl rfl hK
def zL7:∀(m:Nat) (v w:IT),v.ZO≤m→v.ZO≤1000000→∀(H:or) (K:AV→or→Prop),K (I6 (IT.cmp v w)) H→ge tP 86 [.agg v.cs,.agg w.cs] H K:=by
 intro m;induction m with
 |zero=>intro v w h;have:=v.ZB;omega
 |succ m ih=>
  intro v w hv hb H K hK;obtain⟨n,ks⟩:=v;obtain⟨n',ks'⟩:=w;have iM:IT.ZA ks+1≤1000000:=by simpa[IT.ZO]using hb
  have gy:=IT.ZQ ks;refine ge.out (yet λhs=>?_);simp[IT.cs,YC];refine ur _ (λJ=>zAy _ _ _ _ ⟨rfl,rfl⟩) ?_;refine ur _ (λJ=>zAy _ _ _ _ ⟨rfl,rfl⟩) ?_;simp[uk,uI,plain,List.replicate];refine ur _ (λJ=>zM1 [icmp n n',icmp ks.length ks'.length] _ (by simp) _ _ ⟨rfl,rfl⟩) ?_;by_cases hz:orL [icmp n n',icmp ks.length ks'.length]=0
  ·have ox:=hz;simp only[orL,Fa]at hz;have fz:ks.length=ks'.length:=by have:=(Jy _ _).mp hz.2.1;omega
   simp[ox];refine zLb ks ks' fz (by omega) (λi h h' H K hK=>?_) _ _ ?_
   ·have:=IT.ZM (n:=n) h;exact ih _ _ (by omega) (by omega) H K hK
   ·refine Out.same rfl hs rfl rfl ?_;simpa[IT.cmp,hz,cor]using hK
  ·have qS:(orL [icmp n n',icmp ks.length ks'.length] != 0)=true:=by simpa using hz
   simp[qS];refine Out.same rfl hs rfl rfl ?_;have e:IT.cmp (.mk n ks) (.mk n' ks')=orL [icmp n n',icmp ks.length ks'.length]:=by simp only[IT.cmp,orL,cor]at hz ⊢;split <;> (try split) <;> (try split) <;> simp_all
   rwa [e]at hK
def zCr(b:Bool)(H:or)(K:AV→or→Prop)(hK:K (I6 (if b then -1 else 1)) H):ge tP 154 [.bool b] H K:=by refine ge.out (zUk λhs=>?_);have hO:=Bv (K:=K) (H:=H) (r:=I6 (if b then -1 else 1)) hs rfl rfl hK;cases b <;> simp[YF] <;> simpa using hO
def zKD(ks ks':List IT)(hb:ks.length≤1000000)(hc:∀(i:Nat) (h:i<ks.length) (h':i<ks'.length) (H:or) (K:AV→or→Prop),K (I6 (IT.cmp ks[i] ks'[i])) H→ge tP 115 [.agg ks[i].cs,.agg ks'[i].cs] H K)(H:or)(K:AV→or→Prop)(hK:K (I6 (cor (icmp ks.length ks'.length) (IT.ZK ks ks'))) H):ge tP 155 [.sl (IT.css ks) .none,.sl (IT.css ks') .none] H K:=by
 refine ge.out (zUp λhs=>?_);have fin:=Bv (K:=K) (H:=H) (r:=I6 (cor (icmp ks.length ks'.length) (IT.ZK ks ks'))) hs rfl rfl hK;by_cases he:ks.length=ks'.length
 ·have e:cor (icmp ks.length ks'.length) (IT.ZK ks ks')=IT.ZK ks ks':=by simp[he,Yq,cor]
  rw[e]at fin;simp[Ql,he];refine zUn (Inv:=λq t13 H'=>∃i:Nat,i≤ks.length∧q=ks.length-i∧t13=I6 i∧IT.ZK (ks.drop i) (ks'.drop i)=IT.ZK ks ks'∧H'=H) ks.length ?_ ?_
  ·intro _;exact⟨0,by omega,by omega,rfl,by simp,rfl⟩
  ·rintro q t8 H' ⟨i,hi,rfl,rfl,ho,rfl⟩ hsc fz fM Kb fB;by_cases fy:i<ks.length
   ·have fK:i<ks'.length:=by omega
    rw[IT.cmpL_drop fy fK]at ho;simp[Qk,fy,fK];refine ur _ (λJ=>hc i fy fK _ _ ⟨rfl,rfl⟩) ?_;by_cases hz:IT.cmp ks[i] ks'[i]=0
    ·rw[Qf hz]at ho;simp[hz];rw[um (by omega) (by omega)];refine fB _ _ ⟨ks.length-(i+1),by omega,Back.here (af _) hs ?_ ⟨_,rfl,i+1,by omega,rfl,by simp,ho,rfl⟩⟩;simp[JM,AV.sc,AV.ZJ,AV.ZH,AV.ZI]
    ·rw[Jz hz]at ho;have hz:(IT.cmp ks[i] ks'[i] != 0)=true:=by simpa using hz
     simp[hz];rw[ho];exact fin
   ·have fK:¬ i<ks'.length:=by omega
    simp[Qk,fy,fK];obtain rfl:i=ks.length:=by omega
    rw[aV,he,aV]at ho;simp only[IT.ZK]at ho;rw[←ho]at fin;exact fin
 ·have hb:((ks.length:Int) != ks'.length)=true:=by simp;omega
  simp[Ql,hb];refine zCr _ _ _ ?_;have e:cor (icmp ks.length ks'.length) (IT.ZK ks ks')=if decide (ks.length<ks'.length)=true then -1 else 1:=by rw[Yr (by omega),Jz (by split <;> omega)];simp
  rw[e]at fin;exact fin
def zCX:∀(m:Nat) (v w:IT),v.ZO≤m→v.ZO≤1000000→∀(H:or) (K:AV→or→Prop),K (I6 (IT.cmp v w)) H→ge tP 115 [.agg v.cs,.agg w.cs] H K:=by
 intro m;induction m with
 |zero=>intro v w h;have:=v.ZB;omega
 |succ m ih=>
  intro v w hv hb H K hK;obtain⟨n,ks⟩:=v;obtain⟨n',ks'⟩:=w;have iM:IT.ZA ks+1≤1000000:=by simpa[IT.ZO]using hb
  have gy:=IT.ZQ ks;refine ge.out (zRt λhs=>?_);have fin:∀J,Out H.length K (I6 (IT.cmp (.mk n ks) (.mk n' ks'))) (H++J):=λJ=>Out.same rfl hs rfl rfl hK;by_cases h2:n=n'
  ·subst h2;simp[IT.cs,Qj];have e:IT.cmp (.mk n ks) (.mk n ks')=cor (icmp ks.length ks'.length) (IT.ZK ks ks'):=by simp[IT.cmp,Yq,cor]
   rw[e]at fin;refine zKD ks ks' (by omega) (λi h h' H K hK=>?_) _ _ (fin _);have:=IT.ZM (n:=n) h;exact ih _ _ (by omega) (by omega) H K hK
  ·have hb:(n != n')=true:=by simpa using h2
   simp[IT.cs,Qj,hb];refine zCr _ _ _ ?_;have e:IT.cmp (.mk n ks) (.mk n' ks')=if decide (n<n')=true then -1 else 1:=by simp only[IT.cmp,cor];rw[Yr h2];split <;> simp <;> omega
   rw[e]at fin;exact fin _
end Go.Proofs.YtdmamdnkcefmmaaGreatDoor
