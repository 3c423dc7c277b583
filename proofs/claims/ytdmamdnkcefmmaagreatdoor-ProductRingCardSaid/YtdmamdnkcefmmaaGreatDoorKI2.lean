import Derived.Test.YtdmamdnkcefmmaaGreatDoorKV1
import Derived.Test.YtdmamdnkcefmmaaGreatDoorIT
import Derived.Test.YtdmamdnkcefmmaaGreatDoorAbsY
import Derived.Test.YtdmamdnkcefmmaaGreatDoorKNum
import Derived.Test.YtdmamdnkcefmmaaGreatDoorProg
import Derived.KernelRfl
import Derived.Test.YtdmamdnkcefmmaaGreatDoorAbsQ1
import Derived.Test.YtdmamdnkcefmmaaGreatDoorKY10
set_option linter.unusedSimpArgs false
set_option linter.unusedVariables false
set_option maxRecDepth 100000
namespace Go.Proofs.YtdmamdnkcefmmaaGreatDoor
def pick:List VT→List Bool→List VT
 |x::l,b::bs=>if b then pick l bs else x::pick l bs
 |_,_=>[]
def zbb(dU:List Dat)(t:VT)(c:Int):Option (List VT):=(zbr dU t c).map λl=>pick l ((zdQ dU t.num.toNat).getD c.toNat [])
mutual
def zcj(dU:List Dat):IT→VT→Int × Bool
 |.mk n ks,t=>
  if t.kind=6 then (if n=0 then (if t.kids.length=ks.length then zbZ dU ks t.kids 0 else (0,false)) else (0,false))
  else if t.kind=7 then (n,decide (0≤n) && decide (n≤6) && decide (ks.length=0))
  else if t.kind=5 then (if n=0 then zcY dU ks t 0 else (0,false))
  else (0,decide (n=0) && decide (ks.length=0))
def zbZ(dU:List Dat):List IT→List VT→Int→Int × Bool
 |[],_,a=>(a,decide (a≤6))
 | v::vs,ts,a=>match ts with
  |t::ts=>if (zcj dU v t).2 then zbZ dU vs ts (a+(zcj dU v t).1) else (0,false)
  |[]=>(0,false)
def zcY(dU:List Dat):List IT→VT→Int→Int × Bool
 |[],_,a=>(a,true)
 | .mk c ks::es,t,a=>match zbb dU t c with
  |none=>(0,false)
  | some ps=>if ps.length=ks.length then
    (if (zbZ dU ks ps 0).2 && decide (a+(1+(zbZ dU ks ps 0).1)≤6) then zcY dU es t (a+(1+(zbZ dU ks ps 0).1)) else (0,false))
   else (0,false)
end
mutual
def rdV(dU:List Dat):IT→VT→Int
 |.mk n ks,t=>
  if t.kind=6 then (if n=0 then (if t.kids.length=ks.length then rdA dU ks t.kids 0 else -1) else -1)
  else if t.kind=7 then (if 0≤n∧n≤6∧ks.length=0 then n else -1)
  else if t.kind=5 then (if n=0∧ks.length≤6 then rdE dU ks t 0 else -1)
  else (if n=0∧ks.length=0 then 0 else -1)
def rdA(dU:List Dat):List IT→List VT→Int→Int
 |[],_,a=>a
 | v::vs,ts,a=>match ts with
  |t::ts=>if rdV dU v t<0∨a+rdV dU v t>6 then -1 else rdA dU vs ts (a+rdV dU v t)
  |[]=>-1
def rdE(dU:List Dat):List IT→VT→Int→Int
 |[],_,a=>a
 | .mk c ks::es,t,a=>if c<0∨8≤c then -1 else match zbb dU t c with
  |none=>-1
  | some ps=>if ps.length=ks.length then
    (if rdA dU ks ps 0<0∨a+1+rdA dU ks ps 0>6 then -1 else rdE dU es t (a+(1+rdA dU ks ps 0)))
   else -1
end
theorem zHd{dU:List Dat}(h8:∀D∈dU,D.cons.length≤8){t:VT}{c:Int}{ps:List VT}(h:zbb dU t c=some ps):0≤c∧c<8:=by
 unfold zbb at h;cases hf:zbr dU t c with
 |none=>rw[hf]at h;cases h
 |some l=>obtain⟨_,k1,k2,hn,hc,_⟩:=zhn hf;have:=h8 _ (ah hn);omega
def agr(m:Int×Bool)(r:Int):Prop:=(m.2=true→m.1=r∧0≤r∧r≤6)∧(m.2=false→r=-1)
theorem zej:agr (0,false) (-1):=⟨λh=>(by cases h),λ_=>rfl⟩
mutual
theorem zg8{dU:List Dat}(h8:∀ D∈dU,D.cons.length≤8):∀ (v:IT) (t:VT),agr (zcj dU v t) (rdV dU v t)
 |.mk n ks,t=>by
  have hA:=(zi2 h8 ks t.kids 0 (by omega)).1 (by omega);have hE:=zvA h8 ks t 0 (by omega) (by omega);unfold zcj rdV;split
  ·split
   ·split
    ·exact hA
    ·exact zej
   ·exact zej
  ·split
   ·refine⟨λh=>?_,λh=>?_⟩
    ·simp at h;rw[aA ⟨h.1.1,h.1.2,by simpa using h.2⟩];exact⟨rfl,h.1.1,h.1.2⟩
    ·rw[ap];rintro⟨h1,h2,h3⟩;simp[h1,h2,h3]at h
   ·split
    ·by_cases hn:n=0
     ·simp only[hn,aV,dT];by_cases hl:ks.length≤6
      ·rw[aA hl];exact hE.1
      ·rw[ap hl];refine⟨λh=>?_,λ_=>rfl⟩;have:=hE.2 h;omega
     ·simp only[hn,aH,false_and];exact zej
    ·refine⟨λh=>?_,λh=>?_⟩
     ·simp at h;simp[h]
     ·rw[ap];rintro⟨h1,h2⟩;simp[h1,h2]at h
theorem zi2{dU:List Dat}(h8:∀ D∈dU,D.cons.length≤8):∀ (vs:List IT) (ts:List VT) (a:Int),0≤a→(a≤6→agr (zbZ dU vs ts a) (rdA dU vs ts a))∧(6<a→(zbZ dU vs ts a).2=false)
 |[],ts,a,ha=>by simp only[zbZ,rdA];exact⟨λh=>⟨λ_=>⟨rfl,ha,h⟩,λh2=>by simp at h2;omega⟩,λh=>by simp;omega⟩
 |v::vs,ts,a,ha=>by
  match ts with
  |[]=>simp only[zbZ,rdA];exact⟨λ_=>zej,λ_=>by trivial⟩
  |t::ts=>
   obtain⟨g1,g2⟩:=zg8 h8 v t;simp only[zbZ,rdA];cases hb:(zcj dU v t).2 with
   |false=>rw[g2 hb];simp;exactλ_=>zej
   |true=>
    obtain⟨e1,e2,e3⟩:=g1 hb;rw[e1];have hn:=zi2 h8 vs ts (a+rdV dU v t) (by omega);simp only[aV];refine⟨λh=>?_,λh=>hn.2 (by omega)⟩;by_cases h6:a+rdV dU v t>6
    ·rw[aA (.inr h6)];exact⟨λh=>(by rw[hn.2 (by omega)]at h;cases h),λ_=>rfl⟩
    ·rw[ap (by omega)];exact hn.1 (by omega)
theorem zvA{dU:List Dat}(h8:∀ D∈dU,D.cons.length≤8):∀ (es:List IT) (t:VT) (a:Int),0≤a→a≤6→agr (zcY dU es t a) (rdE dU es t a)∧((zcY dU es t a).2=true→a+es.length≤6)
 |[],t,a,h0,h6=>by simp only[zcY,rdE];exact⟨⟨λ_=>⟨rfl,h0,h6⟩,λh=>by cases h⟩,λ_=>by simpa using h6⟩
 |.mk c ks::es,t,a,h0,h6=>by
  simp only[zcY,rdE];cases hp:zbb dU t c with
  |none=>simp only[ite_self];exact⟨zej,λh=>by cases h⟩
  |some ps=>
   obtain⟨c0,c8⟩:=zHd h8 hp;rw[ap (show ¬(c<0∨8≤c) by omega)];simp only;by_cases hl:ps.length=ks.length
   ·simp only[hl,aV];obtain⟨g1,g2⟩:=(zi2 h8 ks ps 0 (by omega)).1 (by omega);cases hb:(zbZ dU ks ps 0).2 with
    |false=>rw[g2 hb];simp;exact zej
    |true=>
     obtain⟨e1,e2,e3⟩:=g1 hb;rw[e1];by_cases hh:a+(1+rdA dU ks ps 0)≤6
     ·have hn:=zvA h8 es t (a+(1+rdA dU ks ps 0)) (by omega) hh;rw[ap (show ¬(rdA dU ks ps 0<0∨a+1+rdA dU ks ps 0>6) by omega)];simp only[hh,cQ,dA,aV];refine⟨hn.1,λh=>?_⟩;have:=hn.2 h;simp only[List.length_cons];omega
     ·rw[aA (show rdA dU ks ps 0<0∨a+1+rdA dU ks ps 0>6 by omega)];simp[hh];exact zej
   ·simp only[hl,aH];exact⟨zej,λh=>by cases h⟩
end
def fill:List IT→List Nat→List IT→List IT
 |row,p::ps,x::xs=>fill (row.set p x) ps xs
 |row,_,_=>row
@[simp] theorem zZI(row xs:List IT):fill row [] xs=row:=by cases xs <;> rfl
@[simp] theorem zFL:∀ (row:List IT) (ps:List Nat) (xs:List IT),(fill row ps xs).length=row.length
 |row,p::ps,x::xs=>by rw[fill,zFL];simp
 |row,[],_=>by simp[fill]
 |row,_::_,[]=>by simp[fill]
mutual
theorem IT.same_eq:∀ v w:IT,IT.same v w=true→v=w
 |.mk n ks,.mk n' ks',h=>by simp only[IT.same,ai,a6]at h;rw[h.1,IT.sameL_eq ks ks' h.2]
theorem IT.sameL_eq:∀ v w:List IT,IT.sameL v w=true→v=w
 |[],[],_=>rfl
 |v::vs,w::ws,h=>by simp only[IT.sameL,ai]at h;rw[IT.same_eq v w h.1,IT.sameL_eq vs ws h.2]
 |[],_::_,h=>by simp[IT.sameL]at h
 |_::_,[],h=>by simp[IT.sameL]at h
end
section
variable {dU:List Dat}
theorem zgA{h8:∀D∈dU,D.cons.length≤8}(v:IT)(t:VT):-1≤rdV dU v t∧rdV dU v t≤6:=by
 obtain⟨h1,h2⟩:=zg8 h8 v t;cases hb:(zcj dU v t).2 with
 |true=>have:=h1 hb;omega
 |false=>have:=h2 hb;omega
def ad(a r:Int):Int:=if r<0 then -1 else if a+r>6 then -1 else a+r
theorem zfi{a r:Int}(h:0≤r)(h2:a+r≤6):ad a r=a+r:=by unfold ad;rw[ap (by omega),ap (by omega)]
theorem zc8{a r:Int}(h:r<0∨a+r>6):ad a r=-1:=by
 unfold ad;by_cases h1:r<0
 ·rw[aA h1]
 ·rw[ap h1,aA (by omega)]
theorem zEA{a b r:Int}(hb:0≤b)(ha:0≤a):ad (a+b) r=ad a (ad b r):=by
 by_cases h1:r<0∨b+r>6
 ·rw[zc8 (a:=b) h1,zc8 (a:=a) (.inl (by omega)),zc8 (by omega)]
 ·rw[zfi (a:=b) (by omega) (by omega)];by_cases h2:a+(b+r)>6
  ·rw[zc8 (.inr h2),zc8 (.inr (by omega))]
  ·rw[zfi (by omega) (by omega),zfi (by omega) (by omega),Int.add_assoc]
theorem zqw(v:IT)(vs:List IT)(t:VT)(ts:List VT)(a:Int):rdA dU (v::vs) (t::ts) a=if rdV dU v t<0∨a+rdV dU v t>6 then -1 else rdA dU vs ts (a+rdV dU v t):=by simp only[rdA]
theorem zex(c:Int)(ks es:List IT)(t:VT)(a:Int):rdE dU (.mk c ks::es) t a=if c<0∨8≤c then -1 else match zbb dU t c with
  |none=>-1
  |some ps=>if ps.length=ks.length then (if rdA dU ks ps 0<0∨a+1+rdA dU ks ps 0>6 then -1 else rdE dU es t (a+(1+rdA dU ks ps 0))) else -1:=by simp only[rdE] <;> rfl
theorem zkm:∀ (es:List IT) (t:VT) (a:Int),0≤a→rdE dU es t a=-1∨a+es.length≤rdE dU es t a
 |[],_,a,h=>by simp[rdE]
 |.mk c ks::es,t,a,h=>by
  rw[zex];by_cases hc:c<0∨8≤c
  ·rw[aA hc];exact .inl rfl
  ·rw[ap hc];cases zbb dU t c with
   |none=>exact .inl rfl
   |some ps=>
    simp only;by_cases hl:ps.length=ks.length
    ·rw[aA hl];by_cases h0:rdA dU ks ps 0<0∨a+1+rdA dU ks ps 0>6
     ·rw[aA h0];exact .inl rfl
     ·rw[ap h0];rcases zkm es t (a+(1+rdA dU ks ps 0)) (by omega) with h2 | h2
      ·exact .inl h2
      ·right;simp only[List.length_cons];omega
    ·rw[ap hl];exact .inl rfl
theorem zkl:∀ (es:List IT) (t:VT) (a:Int),0≤a→a≤6→rdE dU es t a=ad a (rdE dU es t 0)
 |[],_,a,h,h6=>by simp only[rdE];rw[zfi (by omega) (by omega),Int.add_zero]
 |.mk c ks::es,t,a,h,h6=>by
  rw[zex,zex];by_cases hc:c<0∨8≤c
  ·rw[aA hc,aA hc,zc8 (.inl (by omega))]
  ·rw[ap hc,ap hc];cases zbb dU t c with
   |none=>exact(zc8 (a:=a) (r:=-1) (.inl (by omega))).symm
   |some ps=>
    simp only;by_cases hl:ps.length=ks.length
    ·rw[aA hl,aA hl];by_cases h0:rdA dU ks ps 0<0∨0+1+rdA dU ks ps 0>6
     ·rw[aA h0,aA (by omega),zc8 (.inl (by omega))]
     ·rw[ap h0,zkl es t (0+(1+rdA dU ks ps 0)) (by omega) (by omega),Int.zero_add];have g2:=zkm (dU:=dU) es t 0 (by omega);by_cases h3:a+1+rdA dU ks ps 0>6
      ·rw[aA (Or.inr h3)];generalize rdE dU es t 0=r at *;by_cases h4:r<0∨(1+rdA dU ks ps 0)+r>6
       ·rw[zc8 h4,zc8 (.inl (by omega))]
       ·rw[zfi (a:=1+rdA dU ks ps 0) (by omega) (by omega),zc8 (.inr (by omega))]
      ·rw[ap (by omega),zkl es t _ (by omega) (by omega),zEA (by omega) h]
    ·rw[ap hl,ap hl,zc8 (.inl (by omega))]
theorem zqx(h8:∀ D∈dU,D.cons.length≤8):∀ (xs ys:List IT) (t:VT) (a:Int),0≤a→a≤6→rdE dU (xs++ys) t a=(if rdE dU xs t a<0 then -1 else rdE dU ys t (rdE dU xs t a))
 |[],ys,t,a,h,_=>by rw[List.nil_append,ap (by simp only[rdE];omega)];simp only[rdE]
 |.mk c ks::es,ys,t,a,h,h6=>by
  rw[List.cons_append,zex,zex];by_cases hc:c<0∨8≤c
  ·rw[aA hc];simp[hc]
  ·rw[ap hc];simp only[ap hc];cases zbb dU t c with
   |none=>simp
   |some ps=>
    simp only;by_cases hl:ps.length=ks.length
    ·simp only[aA hl];by_cases h0:rdA dU ks ps 0<0∨a+1+rdA dU ks ps 0>6
     ·simp only[aA h0];simp
     ·simp only[ap h0];exact zqx h8 es ys t _ (by omega) (by omega)
    ·simp only[ap hl];simp
end
section
open Go.RowKit
variable {P:Program}
end
section
variable (t0:AV) (H:zaa) (K:Kt)
def zLy:Nat→List Bool|300001=>rl false [0,1]|_=>[]
noncomputable def zLz:=Tryz.f130.body.getD .skip
def zrP:=zg3 true .eql t0 λt4=>zag t4 (K .snil H) (zau 2 [(.int .i64 0),.snil] 0 [] λt5=>zax zba 2 32 t5 t0 H λt7 H=>K t7 H)
variable {t0} {H} {K}
theorem zLA(h:HSc H→zrP t0 H K):ACalls tP zpy [t0] H K:=
 acb zLy Tryz.func130 zLz h
end
def RowA(H:zaa)(a:AV)(n:Nat)(ds:List AV):Prop:=
 ds.length=n*2∧ds.all AV.known=true∧((∃id,a=.ms id 0 n n∧H[id]?=some (.cells ds))∨(0<n∧∃id e,a=.ov id n∧H[id]?=some (.vec e 2 n ds)))
theorem RowA.app{H J:zaa}{a:AV}{n:Nat}{ds:List AV}(h:RowA H a n ds):RowA (H++J) a n ds:=by
 obtain⟨h1,h2,h3⟩:=h;refine⟨h1,h2,?_⟩;rcases h3 with ⟨id,rfl,h⟩|⟨h0,id,e,rfl,h⟩
 ·exact .inl ⟨id,rfl,by rw[List.getElem?_append_left (List.getElem?_eq_some_iff.1 h).1];exact h⟩
 ·exact .inr ⟨h0,id,e,rfl,by rw[List.getElem?_append_left (List.getElem?_eq_some_iff.1 h).1];exact h⟩
section
variable (t0 t1 t2 t3 t6 t7 t8 t10 t11 t12 t13:AV) (H:zaa) (K:Kt) (Kb2 Kb3 Kb4:Lt)
def zk6:Nat→List Bool|4=>rl false [2,2,6,3,12]|_=>[]
noncomputable def zrD:=Tryz.f112.body.getD .skip
noncomputable def zKH:=Tryz.f112.results.toList
def zk7:=ux 2 (t2::t3::ux 6 (t10::t11::t12::ux 12 []))
def zKF:=zk6 4
noncomputable def zKD:=zas [1,1,0,1,0,1,0,0] zrD
def zKC:=zat tP zk6 [1,1,0,1,0,1,0] zrD (zaB tP zKH K)
def zk9:=ALoop tP zKD (zKC K) (zk7 t2 t3 t10 t11 t12) H
def zk8:=zae true 2 t3 H λt24=>zao 2 t2 t24 H λH=>zae true 2 t2 H λr0=>K r0 H
def zrB:=zad .lss false t12 t11 λt13=>zag t13 (zaj 3 t10 t12 λt14=>zae true 3 t14 H λt15=>zaz [(.int .i64 0),(.int .i64 0),.snil] H λt5 H=>zao 3 t5 t15 H λH=>apu H (zaf 1 t3) λt16=>apu H (zal false 1 t16 H) λt17=>apu H (zal true 3 t5 H) λt18=>zaJ H (λH K'=>ACalls tP zjm [t18] H K') λt19=>apu H (zau 2 [(.int .i64 0),.snil] 1 [(0,t19)]) λt20=>zax zba 2 32 t17 t20 H λt21 H=>apu H (zaf 1 t3) λt22=>zao 1 t22 t21 H λH=>zad .add false t12 (.int .i64 1) λt23=>Kb4 (zk7 t2 t3 t10 t11 t23) H) (zk8 t2 t3 H K)
def zzT:=zaw t0 H λt1 H=>zaz [(.int .i64 0),.snil] H λt2 H=>zaz [(.int .i64 0),.snil] H λt3 H=>zaf 0 t1 λt6=>zae false 1 t6 H λt7=>zad .eql false t7 (.int .i64 6) λt8=>zag t8 (zaf 2 t1 λt9=>zae false 1 t9 H λt10=>zai 1 t10 λt11=>zk9 t2 t3 t10 t11 (.int .i64 0) H K) (zk8 t2 t3 H K)
def zMj(_:Nat):List Bool:=[]
noncomputable def zMk:=Tryz.f139.body.getD .skip
def zAt:=ACalls tP zjA [t0] H λt8 H=>ACalls tP zjA [t1] H λt10 H=>zag t8 (zag t10 (K (.int .i64 0) H) (K (.int .i64 (-1)) H)) (zag t10 (K (.int .i64 1) H) (zad .lss false t0 t1 λt16=>zag t16 (K (.int .i64 (-1)) H) (zad .gtr false t0 t1 λt19=>zag t19 (K (.int .i64 1) H) (K (.int .i64 0) H))))
def zlv:Nat→List Bool|3=>rl false [3,1,2,3,9]|_=>[]
noncomputable def zr1:=Tryz.f138.body.getD .skip
noncomputable def zMi:=Tryz.f138.results.toList
def zlx:=ux 3 (t3::ux 2 (t6::t7::t8::ux 9 []))
def zMg:=zlv 3
noncomputable def zMe:=zas [1,1,0,1,0,0] zr1
def zMd:=zat tP zlv [1,1,0,1,0] zr1 (zaB tP zMi K)
def zAs:=ALoop tP zMe (zMd K) (zlx t3 t6 t7 t8) H
def zlw:=zad .lss false t8 t7 λt9=>zag t9 (zaj 1 t6 t8 λt10=>zae false 1 t10 H λt11=>zad .neq false t11 t3 λt14=>zag t14 (K t11 H) (zad .add false t8 (.int .i64 1) λt16=>Kb3 (zlx t3 t6 t7 t16) H)) (K t3 H)
def zAr:=zai 1 t0 λt7=>zAs (.int .i64 0) t0 t7 (.int .i64 0) H K
def zPk(_:Nat):List Bool:=[]
noncomputable def zPl:=Tryz.f187.body.getD .skip
def zBB:=zad .neq false t0 t0 λt5=>K t5 H
def zVF(_:Nat):List Bool:=[]
noncomputable def zVG:=Tryz.f86.body.getD .skip
def zDF:=zaw t0 H λt2 H=>zaw t1 H λt3 H=>apu H (zaf 0 t2) λt6=>apu H (zal false 1 t6 H) λt7=>apu H (zaf 0 t3) λt8=>apu H (zal false 1 t8 H) λt9=>zaJ H (λH K'=>ACalls tP zjs [t7,t9] H K') λt10=>apu H (zaf 1 t2) λt11=>apu H (zal false 1 t11 H) λt12=>apu H (zai 1 t12) λt13=>apu H (zaf 1 t3) λt14=>apu H (zal false 1 t14 H) λt15=>apu H (zai 1 t15) λt16=>zaJ H (λH K'=>ACalls tP zjs [t13,t16] H K') λt17=>apu H (zau 1 [(.int .i64 0)] 2 [(0,t10),(1,t17)]) λt18=>zaJ H (λH K'=>ACalls tP zpD [t18] H K') λt19=>apm H t19 λt5=>zad .neq false t5 (.int .i64 0) λt21=>zag t21 (K t5 H) (zaf 1 t2 λt23=>zae false 1 t23 H λt24=>zaf 1 t3 λt25=>zae false 1 t25 H λt26=>ACalls tP zpE [t24,t26,(.fn zgt [])] H λt27 H=>K t27 H)
def zly:Nat→List Bool|2=>rl false [0,3,8,3,25]|_=>[]
noncomputable def zr3:=Tryz.f140.body.getD .skip
noncomputable def zMr:=Tryz.f140.results.toList
def zlz:=t0::t1::t2::ux 8 (t11::t12::t13::ux 25 [])
def zMp:=zly 2
noncomputable def zMn:=zas [1,0,1,0,0] zr3
def zMm:=zat tP zly [1,0,1,0] zr3 (zaB tP zMr K)
def zAv:=ALoop tP zMn (zMm K) (zlz t0 t1 t2 t11 t12 t13) H
def zr2:=zad .lss false t13 t12 λt14=>zag t14 (zaj 2 t11 t13 λt16=>zae true 2 t16 H λt17=>zaz [(.int .i64 0),.snil] H λt8 H=>zao 2 t8 t17 H λH=>zai 1 t1 λt20=>zad .geq false t13 t20 λt21=>zag t21 (K (.int .i64 1) H) (zaj 2 t1 t13 λt24=>zae true 2 t24 H λt25=>zaz [(.int .i64 0),.snil] H λt9 H=>zao 2 t9 t25 H λH=>zae true 2 t8 H λt27=>zae true 2 t9 H λt28=>aCallV tP t2 [t27,t28] H λt29 H=>zad .neq false t29 (.int .i64 0) λt31=>zag t31 (K t29 H) (zad .add false t13 (.int .i64 1) λt33=>Kb2 (zlz t0 t1 t2 t11 t12 t33) H))) (zai 1 t0 λt35=>zai 1 t1 λt37=>zad .lss false t35 t37 λt38=>zag t38 (K (.int .i64 (-1)) H) (K (.int .i64 0) H))
def zAu:=zai 1 t0 λt12=>zAv t0 t1 t2 t0 t12 (.int .i64 0) H K
def zT3(_:Nat):List Bool:=[]
noncomputable def zT4:=Tryz.f60.body.getD .skip
def zC8:=zaw t1 H λt3 H=>zaz [(.int .i64 0),.snil] H λt4 H=>zae true 3 t3 H λt7=>ACalls tP zjV [t0,t7] H λt8 H=>aUn .not t8 λt9=>zag t9 (zar [(.int .i64 0),.snil] [(0,1),(1,1)] [] λt10=>zao 2 t4 t10 H λH=>zae true 2 t4 H λr0=>zaG [r0,(.bool false)] (K · H)) (zae true 3 t3 H λt11=>ACalls tP zjm [t11] H λt12 H=>zao 2 t4 t12 H λH=>zae true 2 t4 H λr0=>zaG [r0,(.bool true)] (K · H))
variable {t0 t1 t2 t3 t6 t7 t8 t10 t11 t12 t13} {H} {K} {Kb2 Kb3 Kb4}
theorem zKE:Lo1 (λt12=>zk7 t2 t3 t10 t11 t12) (λt12 H Kb4=>zrB t2 t3 t10 t11 t12 H K Kb4) t12 H (zk9 t2 t3 t10 t11 t12 H K):=lq1 zk6 zKF
theorem zKG(h:HSc H→zzT t0 H K):ACalls tP zjm [t0] H K:=
 acb zk6 Tryz.func112 zrD h
theorem zMl(h:HSc H→zAt t0 t1 H K):ACalls tP zjs [t0,t1] H K:=
 acb zMj Tryz.func139 zMk h
theorem zMf:Lo1 (λt8=>zlx t3 t6 t7 t8) (λt8 H Kb3=>zlw t3 t6 t7 t8 H K Kb3) t8 H (zAs t3 t6 t7 t8 H K):=lq1 zlv zMg
theorem zMh(h:HSc H→zAr t0 H K):ACalls tP zpD [t0] H K:=
 acb zlv Tryz.func138 zr1 h
theorem zPm(h:HSc H→zBB t0 H K):ACalls tP zjA [t0] H K:=
 acb zPk Tryz.func187 zPl h
theorem zVH(h:HSc H→zDF t0 t1 H K):ACalls tP zgt [t0,t1] H K:=
 acb zVF Tryz.func86 zVG h
theorem zMo:Lo1 (λt13=>zlz t0 t1 t2 t11 t12 t13) (λt13 H Kb2=>zr2 t0 t1 t2 t11 t12 t13 H K Kb2) t13 H (zAv t0 t1 t2 t11 t12 t13 H K):=lq1 zly zMp
theorem zMq(h:HSc H→zAu t0 t1 t2 H K):ACalls tP zpE [t0,t1,t2] H K:=
 acb zly Tryz.func140 zr3 h
theorem zT5(h:HSc H→zC8 t0 t1 H K):ACalls tP zp9 [t0,t1] H K:=
 acb zT3 Tryz.func60 zT4 h
end
theorem zde(v:IT):∃a b,v.cs=[a,b]∧a.known=true∧b.known=true:=by obtain⟨n,ks⟩:=v;exact⟨_,_,rfl,rfl,rfl⟩
theorem zoG{v:IT}{k:AV→Prop}:zau 2 [.int .i64 0,.snil] 1 [(0,.agg v.cs)] k=k (.sl [v.cs] .full):=by cases v;exact propext aL
theorem zF5{l:List IT}{i:Nat}(h:i<l.length):IT.css (l.take (i+1))=IT.css (l.take i)++[(l[i]).cs]:=by rw[IT.css_map,IT.css_map,af h,aP];rfl
mutual
def zaX:VT→IT
 |.mk k _ ks=>.mk 0 (if k=6 then zbd ks else [])
def zbd:List VT→List IT
 |[]=>[]
 |t::ts=>zaX t::zbd ts
end
theorem zdT:∀ ts:List VT,zbd ts=ts.map zaX
 |[]=>by simp[zbd]
 |t::ts=>by simp[zbd,zdT ts]
theorem zKI:∀(m:Nat) (v:VT),v.nodes≤m→v.nodes≤1000000→∀(H:zaa) (K:Kt),K (.agg (zaX v).cs) H→ACalls tP zjm [.agg v.cs] H K:=by
 intro m;induction m with
 |zero=>intro v h;have:=v.nodes_pos;omega
 |succ m ih=>
  intro v hm hb H K hK;obtain⟨k,n,ks⟩:=v;have fc:=VT.len_le ks;have ip:(VT.mk k n ks).nodes=VT.nodesL ks+1:=by simp[VT.nodes]
  refine ACalls.out (zKG λhs=>?_);simp[zzT,VT.cs,zar,zaL,AV.known,ae];by_cases kJ:k=6
  ·have hK:K (.agg [.int .i64 0,.sl (IT.css (zbd ks)) .none]) H:=by simpa[zaX,kJ,IT.cs]using hK
   simp[kJ];subst kJ;unfold zk9;refine ALoop.ownC (H.length+2) 1 zba 2 (cs:=[.int .i64 0,.snil]) (by simp) rfl ?_;have eI:(H++[AB.cells [.int .i64 6,.int .i64 n,.sl (VT.css ks) .none],.cells [.int .i64 0,.snil],.cells [.int .i64 0,.snil]]).set (H.length+2) (.cells ([AV.int .i64 0,.snil].set 1 (.sl [] (.own (H++[AB.cells [.int .i64 6,.int .i64 n,.sl (VT.css ks) .none],.cells [.int .i64 0,.snil],.cells [.int .i64 0,.snil]]).length))))++[.perm zba 2 0] =
     H++[.cells [.int .i64 6,.int .i64 n,.sl (VT.css ks) .none],.cells [.int .i64 0,.snil],.cells [.int .i64 0,.sl [] (.own (H.length+3))],.perm zba 2 0]:=by simp[aj]
   rw[eI];show zk9 (.ptr (H.length+1) 0) (.ptr (H.length+2) 0) (.sl (VT.css ks) .none) (.int .i64 ks.length) (.int .i64 0) _ (Out H.length K);have hsc:∀ i,HSc (H++[.cells [.int .i64 6,.int .i64 n,.sl (VT.css ks) .none],.cells [.int .i64 0,.snil],.cells [.int .i64 0,.sl (IT.css (zbd (ks.take i))) (.own (H.length+3))],.perm zba 2 i]):=λi=>hs.append (by simp[AB.sc,AV.scA,AV.scB]);refine zKE (Inv:=λq t12 H'=>∃ i:Nat,i≤ks.length∧q=ks.length-i∧t12=.int .i64 i ∧
    H'=H++[.cells [.int .i64 6,.int .i64 n,.sl (VT.css ks) .none],.cells [.int .i64 0,.snil],.cells [.int .i64 0,.sl (IT.css (zbd (ks.take i))) (.own (H.length+3))],.perm zba 2 i]) ks.length ?_ ?_
   ·intro _;exact⟨0,by omega,by omega,rfl,by simp[zbd,IT.css]⟩
   ·rintro q t12 H' ⟨i,hi,rfl,rfl,rfl⟩ eA d8 eC Kb ee;by_cases d7:i<ks.length
    ·obtain⟨x,y,z,ei,hx,hy,hz⟩:=zbh ks[i];have gC:=VT.kid_lt (k:=6) (n:=n) d7;have jj:(zbd (ks.take i)).length=i:=by simp[zdT,bj hi]
     simp[zrB,d7,ei,hx,hy,hz];rw[←ei];refine zaH (.agg (zaX ks[i]).cs) (λJ=>ih ks[i] (by omega) (by omega) _ _ ⟨rfl,rfl⟩) ?_;rw[zoG];simp[zax,zaO,zaK,jj,AV.known,aj];refine⟨⟨by omega,by omega⟩,?_⟩;rw[zav (by omega) (by omega)];have eD:IT.css (zbd (ks.take i))++[(zaX ks[i]).cs]=IT.css (zbd (ks.take (i+1))):=by rw[zdT,zdT,af d7,IT.css_map,IT.css_map,aP,aP];rfl
     rw[eD];refine ee _ _ ⟨ks.length-(i+1),by omega,Back.at (J:=[.cells (ks[i]).cs]) (H2:=H++[.cells [.int .i64 6,.int .i64 n,.sl (VT.css ks) .none],.cells [.int .i64 0,.snil],.cells [.int .i64 0,.sl (IT.css (zbd (ks.take (i+1)))) (.own (H.length+3))],.perm zba 2 (i+1)]) (by simp) (by simp) (hsc _) ?_ ⟨_,rfl,i+1,by omega,rfl,by simp,rfl⟩⟩;simp[zk7,AV.sc,AV.scV,AV.scA,AV.scB]
    ·obtain rfl:i=ks.length:=by omega
     rw[aq]at *;simp[zrB,zk8,AV.known,aj];exact Out.at rfl (aa _) hs (WkV.agg (ds:=[.int .i64 0,.sl (IT.css (zbd ks)) .none]) ⟨.refl _,.sl _ _,trivial⟩) rfl (by simp[AV.scV,AV.scA,AV.scB]) hK
  ·have hK:K (.agg [.int .i64 0,.sl [] .none]) H:=by simpa[zaX,kJ,IT.cs,IT.css]using hK
   have hb:(k == 6)=false:=by simpa using kJ
   simp[hb,zk8,AV.known,aj];exact Out.at rfl (aa _) hs (WkV.agg (ds:=[.int .i64 0,.sl [] .none]) ⟨.refl _,.snil,trivial⟩) rfl (by simp[AV.scV,AV.scA,AV.scB]) hK
section
variable (t0 t1 t2 t4 t5 t7 t8 t53 t54 t55 t56 t57 t58:AV) (H:zaa) (K:Kt) (Kb5 Kb13 Kb15:Lt)
def zWB(_:Nat):List Bool:=[]
noncomputable def zWC:=Tryz.f11.body.getD .skip
def zq9:=zaw t0 H λt1 H=>zaz [(.int .i64 0)] H λt3 H=>zao 1 t3 (.int .i64 40) H λH=>zae true 2 t1 H λt4=>ACalls tP zjQ [t4,t3] H λt5 H=>K t5 H
def zne:Nat→List Bool|5=>rl false [1,2,2,1,24]|_=>[]
noncomputable def ztX:=Tryz.f39.body.getD .skip
noncomputable def zSQ:=Tryz.f39.results.toList
def znf:=ux 1 (t1::t2::ux 2 (t5::ux 24 []))
def zSO:=zne 5
noncomputable def zSM:=zas [1,1,1,0,1,0,0] ztX
def zSL:=zat tP zne [1,1,1,0,1,0] ztX (zaB tP zSQ K)
def zCK:=ALoop tP zSM (zSL K) (znf t1 t2 t5) H
def ztW:=zaf 1 t2 λt16=>zae false 1 t16 H λt17=>zai 1 t17 λt18=>zad .lss false t5 t18 λt19=>zag t19 (zaf 1 t2 λt22=>zae false 1 t22 H λt23=>zaj 2 t23 t5 λt25=>zae true 2 t25 H λt26=>ACalls tP zjQ [t26,t1] H λt28 H=>aUn .not t28 λt29=>zag t29 (K (.bool false) H) (zad .add false t5 (.int .i64 1) λt21=>Kb5 (znf t1 t2 t21) H)) (K (.bool true) H)
def zCJ:=zaw t0 H λt2 H=>zbe t1 λt7=>zae false 1 t7 H λt8=>zad .sub false t8 (.int .i64 1) λt9=>zbe t1 λt10=>zao 1 t10 t9 H λH=>zbe t1 λt12=>zae false 1 t12 H λt13=>zad .lss false t13 (.int .i64 0) λt14=>zag t14 (K (.bool false) H) (zCK t1 t2 (.int .i64 0) H K)
def zKU(_:Nat):List Bool:=[]
noncomputable def zKV:=Tryz.f119.body.getD .skip
def zzY:=zaw t1 H λt4 H=>zaw t2 H λt5 H=>zae true 3 t4 H λt8=>zae true 2 t5 H λt9=>ACalls tP ze1 [t0,t8,t9] H λt10 H=>zad .geq false t10 (.int .i64 0) λt11=>K t11 H
def zSS(_:Nat):List Bool:=[]
noncomputable def zST:=Tryz.f40.body.getD .skip
def zCL:=zaw t1 H λt4 H=>zaw t2 H λt5 H=>zae true 3 t4 H λt10=>ACalls tP zjV [t0,t10] H λt11 H=>aUn .not t11 λt12=>zag t12 (K (.int .i64 (-1)) H) (zae true 3 t4 H λt15=>zae true 2 t5 H λt16=>ACalls tP zjW [t0,t15,t16] H λt17 H=>zay t17 0 λt18=>zay t17 1 λt19=>aUn .not t19 λt21=>zag t21 (K (.int .i64 (-1)) H) (K t18 H))
def zQY(_:Nat):List Bool:=[]
noncomputable def zQZ:=Tryz.f23.body.getD .skip
def zB2:=zaw t1 H λt4 H=>zaw t2 H λt5 H=>zae true 3 t4 H λt8=>ACalls tP zp8 [t0,t8] H λt9 H=>aUn .not t9 λt10=>zag t10 (K (.int .i64 (-1)) H) (zae true 3 t4 H λt12=>zae true 2 t5 H λt13=>ACalls tP zjU [t0,t12,t13] H λt14 H=>K t14 H)
def zUI(_:Nat):List Bool:=[]
noncomputable def zUJ:=Tryz.f73.body.getD .skip
def zDl:=zaw t1 H λt3 H=>zar [.snil,.snil,.snil,.snil] [(0,1),(1,1),(2,1),(3,1)] [(0,t0)] λt6=>ACalls tP zpu [t6] H λt7 H=>zac t7 true H (λK'=>K' t0 H) λt9 H=>zac t7 true H (λK'=>zae true 3 t3 H (K' · H)) λt10 H=>zac t7 true H (λK'=>ACalls tP zhI [t9,t10,(.int .i64 0)] H K') λt11 H=>zak t7 t11 (.bool false) λt12=>K t12 H
def znP:Nat→List Bool|13=>rl false [0,1,3,1,3,1,44,3,42]|_=>[]
noncomputable def zux:=Tryz.f74.body.getD .skip
noncomputable def zUQ:=Tryz.f74.results.toList
def znQ:=t0::ux 3 (t4::ux 3 (t8::ux 44 (t53::t54::t55::ux 42 [])))
def zUO:=znP 13
noncomputable def zUM:=zas [1,0,1,0,1,1,1,1,1,0,1,1,0,1,0,0] zux
def zUL:=zat tP znP [1,0,1,0,1,1,1,1,1,0,1,1,0,1,0] zux (zaB tP zUQ K)
def zDn:=ALoop tP zUM (zUL K) (znQ t0 t4 t8 t53 t54 t55) H
def zuw:=zad .lss false t55 t54 λt56=>zag t56 (zaj 2 t53 t55 λt57=>zae true 2 t57 H λt58=>zaz [(.int .i64 0),.snil] H λt10 H=>zao 2 t10 t58 H λH=>zae true 3 t4 H λt61=>zaf 0 t10 λt62=>zae false 1 t62 H λt63=>ACalls tP zpv [t0,t61,t63] H λt64 H=>zay t64 0 λt65=>zay t64 1 λt66=>aUn .not t66 λt68=>zag t68 (zaG [(.int .i64 0),(.bool false)] (K · H)) (zaf 1 t10 λt72=>zae false 1 t72 H λt73=>ACalls tP zjo [t0,t65,t73] H λt74 H=>zay t74 0 λt75=>zay t74 1 λt76=>zad .add false (.int .i64 1) t75 λt79=>zad .add false t8 t79 λt80=>aUn .not t76 λt82=>zac t82 false H (λK'=>K' t80 H) λt84 H=>zac t82 false H (λK'=>zad .gtr false t84 (.int .i64 6) (K' · H)) λt85 H=>zak t82 (.bool true) t85 λt86=>zag t86 (zaG [(.int .i64 0),(.bool false)] (K · H)) (zad .add false t55 (.int .i64 1) λt87=>Kb13 (znQ t0 t4 t80 t53 t54 t87) H))) (zaG [t8,(.bool true)] (K · H))
def zdG:=zaw t1 H λt4 H=>zaw t2 H λt5 H=>zaf 0 t4 λt14=>zae false 1 t14 H λt15=>zad .eql false t15 (.int .i64 6) λt17=>zag t17 (zaf 0 t5 λt18=>zae false 1 t18 H λt19=>zad .neq false t19 (.int .i64 0) λt20=>zag t20 (zaG [(.int .i64 0),(.bool false)] (K · H)) (zaf 2 t4 λt22=>zae false 1 t22 H λt23=>zaf 1 t5 λt24=>zae false 1 t24 H λt25=>ACalls tP zjo [t0,t23,t25] H λt26 H=>zay t26 0 λt27=>zay t26 1 λt28=>zaG [t27,t28] (K · H))) (zad .eql false t15 (.int .i64 7) λt30=>zag t30 (apu H (zaf 0 t5) λt31=>apu H (zal false 1 t31 H) λt32=>apu H (zaf 0 t5) λt33=>apu H (zal false 1 t33 H) λt34=>apu H (zad .geq false t34 (.int .i64 0)) λt35=>apm H t35 λt36=>zac t36 true H (λK'=>zab H (λK''=>zaf 0 t5 (K'' · H)) (K' · H)) λt37 H=>zac t36 true H (λK'=>zab H (λK''=>zal false 1 t37 H (K'' · H)) (K' · H)) λt38 H=>zac t36 true H (λK'=>zab H (λK''=>zad .leq false t38 (.int .i64 6) (K'' · H)) (K' · H)) λt39 H=>apu H (zak t36 t39 (.bool false)) λt40=>apm H t40 λt41=>zac t41 true H (λK'=>zab H (λK''=>zaf 1 t5 (K'' · H)) (K' · H)) λt42 H=>zac t41 true H (λK'=>zab H (λK''=>zal false 1 t42 H (K'' · H)) (K' · H)) λt43 H=>zac t41 true H (λK'=>zab H (λK''=>zai 1 t43 (K'' · H)) (K' · H)) λt44 H=>zac t41 true H (λK'=>zab H (λK''=>zad .eql false t44 (.int .i64 0) (K'' · H)) (K' · H)) λt45 H=>apu H (zak t41 t45 (.bool false)) λt46=>apm H t32 λt6=>apm H t46 λt7=>zaG [t6,t7] (K · H)) (zad .eql false t15 (.int .i64 5) λt48=>zag t48 (zaf 0 t5 λt49=>zae false 1 t49 H λt50=>zad .neq false t50 (.int .i64 0) λt51=>zag t51 (zaG [(.int .i64 0),(.bool false)] (K · H)) (zaf 1 t5 λt52=>zae false 1 t52 H λt53=>zai 1 t53 λt54=>zDn t0 t4 (.int .i64 0) t53 t54 (.int .i64 0) H K)) (apu H (zaf 0 t5) λt89=>apu H (zal false 1 t89 H) λt90=>apu H (zad .eql false t90 (.int .i64 0)) λt91=>apm H t91 λt92=>zac t92 true H (λK'=>zab H (λK''=>zaf 1 t5 (K'' · H)) (K' · H)) λt93 H=>zac t92 true H (λK'=>zab H (λK''=>zal false 1 t93 H (K'' · H)) (K' · H)) λt94 H=>zac t92 true H (λK'=>zab H (λK''=>zai 1 t94 (K'' · H)) (K' · H)) λt95 H=>zac t92 true H (λK'=>zab H (λK''=>zad .eql false t95 (.int .i64 0) (K'' · H)) (K' · H)) λt96 H=>apu H (zak t92 t96 (.bool false)) λt97=>apm H (.int .i64 0) λt6=>apm H t97 λt7=>zaG [t6,t7] (K · H))))
def zTI(_:Nat):List Bool:=[]
noncomputable def zTJ:=Tryz.f53.body.getD .skip
def zC2:=zaw t1 H λt3 H=>ACalls tP zp7 [t0] H λt6 H=>zac t6 true H (λK'=>K' t0 H) λt8 H=>zac t6 true H (λK'=>zae true 3 t3 H (K' · H)) λt9 H=>zac t6 true H (λK'=>ACalls tP zjR [t8,t9,(.int .i64 0)] H K') λt10 H=>zak t6 t10 (.bool false) λt11=>K t11 H
def znD:Nat→List Bool|15=>rl false [0,1,3,1,2,1,48,3,50]|_=>[]
noncomputable def zuk:=Tryz.f59.body.getD .skip
noncomputable def zT1:=Tryz.f59.results.toList
def znE:=t0::ux 3 (t4::ux 2 (t7::ux 48 (t56::t57::t58::ux 50 [])))
def zTZ:=znD 15
noncomputable def zTX:=zas [1,0,1,0,1,1,1,1,1,0,1,1,0,1,0,0] zuk
def zTW:=zat tP znD [1,0,1,0,1,1,1,1,1,0,1,1,0,1,0] zuk (zaB tP zT1 K)
def zC7:=ALoop tP zTX (zTW K) (znE t0 t4 t7 t56 t57 t58) H
def ziL:=zad .lss false t58 t57 λt59=>zag t59 (zaj 2 t56 t58 λt60=>zae true 2 t60 H λt61=>zaz [(.int .i64 0),.snil] H λt9 H=>zao 2 t9 t61 H λH=>zaf 0 t9 λt62=>zae false 1 t62 H λt63=>zad .lss false t63 (.int .i64 0) λt64=>zac t64 false H (λK'=>zaf 0 t9 (K' · H)) λt66 H=>zac t64 false H (λK'=>zae false 1 t66 H (K' · H)) λt67 H=>zac t64 false H (λK'=>zad .geq false t67 (.int .i64 8) (K' · H)) λt68 H=>zak t64 (.bool true) t68 λt69=>zag t69 (K (.int .i64 (-1)) H) (zae true 3 t4 H λt72=>zaf 0 t9 λt73=>zae false 1 t73 H λt74=>ACalls tP zpp [t0,t72,t74] H λt75 H=>zay t75 0 λt76=>zay t75 1 λt77=>aUn .not t77 λt79=>zag t79 (K (.int .i64 (-1)) H) (zaf 1 t9 λt82=>zae false 1 t82 H λt83=>ACalls tP zjl [t0,t76,t83] H λt84 H=>zad .lss false t84 (.int .i64 0) λt86=>zac t86 false H (λK'=>K' t7 H) λt88 H=>zac t86 false H (λK'=>zad .add false t88 (.int .i64 1) (K' · H)) λt89 H=>zac t86 false H (λK'=>K' t84 H) λt90 H=>zac t86 false H (λK'=>zad .add false t89 t90 (K' · H)) λt91 H=>zac t86 false H (λK'=>zad .gtr false t91 (.int .i64 6) (K' · H)) λt92 H=>zak t86 (.bool true) t92 λt93=>zag t93 (K (.int .i64 (-1)) H) (zad .add false (.int .i64 1) t84 λt96=>zad .add false t7 t96 λt97=>zad .add false t58 (.int .i64 1) λt98=>Kb15 (znE t0 t4 t97 t56 t57 t98) H)))) (K t7 H)
def zdl:=zaw t1 H λt4 H=>zaw t2 H λt5 H=>zaf 0 t4 λt13=>zae false 1 t13 H λt14=>zad .eql false t14 (.int .i64 6) λt16=>zag t16 (zaf 0 t5 λt17=>zae false 1 t17 H λt18=>zad .neq false t18 (.int .i64 0) λt19=>zag t19 (K (.int .i64 (-1)) H) (zaf 2 t4 λt21=>zae false 1 t21 H λt22=>zaf 1 t5 λt23=>zae false 1 t23 H λt24=>ACalls tP zjl [t0,t22,t24] H λt25 H=>K t25 H)) (zad .eql false t14 (.int .i64 7) λt27=>zag t27 (zaf 0 t5 λt28=>zae false 1 t28 H λt29=>zad .lss false t29 (.int .i64 0) λt30=>zac t30 false H (λK'=>zaf 0 t5 (K' · H)) λt32 H=>zac t30 false H (λK'=>zae false 1 t32 H (K' · H)) λt33 H=>zac t30 false H (λK'=>zad .gtr false t33 (.int .i64 6) (K' · H)) λt34 H=>zak t30 (.bool true) t34 λt35=>zac t35 false H (λK'=>zaf 1 t5 (K' · H)) λt37 H=>zac t35 false H (λK'=>zae false 1 t37 H (K' · H)) λt38 H=>zac t35 false H (λK'=>zai 1 t38 (K' · H)) λt39 H=>zac t35 false H (λK'=>zad .gtr false t39 (.int .i64 0) (K' · H)) λt40 H=>zak t35 (.bool true) t40 λt41=>zag t41 (K (.int .i64 (-1)) H) (zaf 0 t5 λt42=>zae false 1 t42 H λt43=>K t43 H)) (zad .eql false t14 (.int .i64 5) λt45=>zag t45 (zaf 0 t5 λt46=>zae false 1 t46 H λt47=>zad .neq false t47 (.int .i64 0) λt48=>zac t48 false H (λK'=>zaf 1 t5 (K' · H)) λt50 H=>zac t48 false H (λK'=>zae false 1 t50 H (K' · H)) λt51 H=>zac t48 false H (λK'=>zai 1 t51 (K' · H)) λt52 H=>zac t48 false H (λK'=>zad .gtr false t52 (.int .i64 6) (K' · H)) λt53 H=>zak t48 (.bool true) t53 λt54=>zag t54 (K (.int .i64 (-1)) H) (zaf 1 t5 λt55=>zae false 1 t55 H λt56=>zai 1 t56 λt57=>zC7 t0 t4 (.int .i64 0) t56 t57 (.int .i64 0) H K)) (zaf 0 t5 λt100=>zae false 1 t100 H λt101=>zad .neq false t101 (.int .i64 0) λt102=>zac t102 false H (λK'=>zaf 1 t5 (K' · H)) λt104 H=>zac t102 false H (λK'=>zae false 1 t104 H (K' · H)) λt105 H=>zac t102 false H (λK'=>zai 1 t105 (K' · H)) λt106 H=>zac t102 false H (λK'=>zad .gtr false t106 (.int .i64 0) (K' · H)) λt107 H=>zak t102 (.bool true) t107 λt108=>zag t108 (K (.int .i64 (-1)) H) (K (.int .i64 0) H))))
variable {t0 t1 t2 t4 t5 t7 t8 t53 t54 t55 t56 t57 t58} {H} {K} {Kb5 Kb13 Kb15}
theorem zWD(h:HSc H→zq9 t0 H K):ACalls tP zh2 [t0] H K:=
 acb zWB Tryz.func11 zWC h
theorem zSN:Lo1 (λt5=>znf t1 t2 t5) (λt5 H Kb5=>ztW t1 t2 t5 H K Kb5) t5 H (zCK t1 t2 t5 H K):=lq1 zne zSO
theorem zSP(h:HSc H→zCJ t0 t1 H K):ACalls tP zjQ [t0,t1] H K:=
 acb zne Tryz.func39 ztX h
theorem zKW(h:HSc H→zzY t0 t1 t2 H K):ACalls tP zpt [t0,t1,t2] H K:=
 acb zKU Tryz.func119 zKV h
theorem zSU(h:HSc H→zCL t0 t1 t2 H K):ACalls tP ze1 [t0,t1,t2] H K:=
 acb zSS Tryz.func40 zST h
theorem zQ0(h:HSc H→zB2 t0 t1 t2 H K):ACalls tP zhN [t0,t1,t2] H K:=
 acb zQY Tryz.func23 zQZ h
theorem zUK(h:HSc H→zDl t0 t1 H K):ACalls tP zjV [t0,t1] H K:=
 acb zUI Tryz.func73 zUJ h
theorem zUN:Lo2 (λt8 t55=>znQ t0 t4 t8 t53 t54 t55) (λt8 t55 H Kb13=>zuw t0 t4 t8 t53 t54 t55 H K Kb13) t8 t55 H (zDn t0 t4 t8 t53 t54 t55 H K):=lq2 znP zUO
theorem zUP(h:HSc H→zdG t0 t1 t2 H K):ACalls tP zjW [t0,t1,t2] H K:=
 acb znP Tryz.func74 zux h
theorem zTK(h:HSc H→zC2 t0 t1 H K):ACalls tP zp8 [t0,t1] H K:=
 acb zTI Tryz.func53 zTJ h
theorem zTY:Lo2 (λt7 t58=>znE t0 t4 t7 t56 t57 t58) (λt7 t58 H Kb15=>ziL t0 t4 t7 t56 t57 t58 H K Kb15) t7 t58 H (zC7 t0 t4 t7 t56 t57 t58 H K):=lq2 znD zTZ
theorem zT0(h:HSc H→zdl t0 t1 t2 H K):ACalls tP zjU [t0,t1,t2] H K:=
 acb znD Tryz.func59 zuk h
end
section
variable (t0 t1 t2 t7 t8 t10 t11 t12 t13 t16 t17 t18 t19 t20 t26 t27 t28 t29 t30 t33 t34 t35:AV) (H:zaa) (K:Kt) (Kb5 Kb6 Kb7:Lt)
def zlc:Nat→List Bool|5=>rl false [0,1,1,1,5,1,9,3,23]|_=>[]
noncomputable def zrM:=Tryz.f124.body.getD .skip
noncomputable def zLj:=Tryz.f124.results.toList
def zld:=t0::ux 1 (t2::ux 5 (t8::ux 9 (t18::t19::t20::ux 23 [])))
def zLh:=zlc 5
noncomputable def zLf:=zas [1,1,1,0,1,0,0] zrM
def zLe:=zat tP zlc [1,1,1,0,1,0] zrM (zaB tP zLj K)
def zz8:=ALoop tP zLf (zLe K) (zld t0 t2 t8 t18 t19 t20) H
def zrL:=zad .lss false t20 t19 λt21=>zag t21 (zaj 3 t18 t20 λt23=>zae true 3 t23 H λt24=>zaz [(.int .i64 0),(.int .i64 0),.snil] H λt10 H=>zao 3 t10 t24 H λH=>apm H t0 λt26=>apu H (zal true 3 t10 H) λt27=>apm H t2 λt28=>apm H t20 λt29=>apu H (zaj 2 t28 t29) λt30=>apu H (zal true 2 t30 H) λt31=>zaJ H (λH K'=>ACalls tP zjW [t26,t27,t31] H K') λt32=>apm H t32 λt25=>apu H (zay t25 0) λt33=>apu H (zay t25 1) λt34=>apm H t33 λt11=>apm H t34 λt12=>aUn .not t12 λt36=>zag t36 (zaG [(.int .i64 0),(.bool false)] (K · H)) (zad .add false t8 t11 λt39=>zad .add false t20 (.int .i64 1) λt40=>Kb5 (zld t0 t2 t39 t18 t19 t40) H)) (zad .leq false t8 (.int .i64 6) λt43=>zaG [t8,t43] (K · H))
def zrK:=zai 1 t1 λt14=>zai 1 t2 λt16=>zad .neq false t14 t16 λt17=>zag t17 (zaG [(.int .i64 0),(.bool false)] (K · H)) (zai 1 t1 λt19=>zz8 t0 t2 (.int .i64 0) t1 t19 (.int .i64 0) H K)
def zle:Nat→List Bool|6=>rl false [8,1,1,1,15,3,15]|_=>[]
noncomputable def zrO:=Tryz.f125.body.getD .skip
noncomputable def zLp:=Tryz.f125.results.toList
def zlf:=ux 8 (t8::ux 1 (t10::ux 15 (t26::t27::t28::ux 15 [])))
def zLn:=zle 6
noncomputable def zLl:=zas [1,1,1,1,0,1,0,0] zrO
def zLk:=zat tP zle [1,1,1,1,0,1,0] zrO (zaB tP zLp K)
def zlh:=ALoop tP zLl (zLk K) (zlf t8 t10 t26 t27 t28) H
def zAb(t8 t10 t26 t27 t28:AV)(H:zaa)(K:Kt)(Kb6:Lt):Prop:=zad .add false t28 (.int .i64 1) λt42=>Kb6 (zlf t8 t10 t26 t27 t42) H
def zlg:=zAb t8 t10 t26 t27 t28 H K Kb6
def zrN:=zad .lss false t28 t27 λt29=>zag t29 (zaj 1 t26 t28 λt31=>zae false 1 t31 H λt32=>aUn .not t32 λt34=>zag t34 (zaj 3 t8 t28 λt38=>zae true 3 t38 H λt39=>zau 3 [(.int .i64 0),(.int .i64 0),.snil] 1 [(0,t39)] λt40=>zax za2 3 40 t10 t40 H λt41 H=>zlg t8 t41 t26 t27 t28 H K Kb6) (zlg t8 t10 t26 t27 t28 H K Kb6)) (zaG [t10,(.bool true)] (K · H))
def zAa:=zaw t1 H λt4 H=>zae true 3 t4 H λt15=>ACalls tP zjx [t0,t15,t2] H λt17 H=>zay t17 0 λt18=>zay t17 1 λt19=>aUn .not t19 λt21=>zag t21 (zaG [.snil,(.bool false)] (K · H)) (zaf 1 t4 λt23=>zae false 1 t23 H λt24=>ACalls tP zfx [t0,t24,t2] H λt26 H=>zai 1 t26 λt27=>zlh t18 .snil t26 t27 (.int .i64 0) H K)
def zkN:Nat→List Bool|7=>rl false [8,1,4,1,19,3,12]|_=>[]
noncomputable def zrp:=Tryz.f102.body.getD .skip
noncomputable def zJV:=Tryz.f102.results.toList
def zkO:=ux 8 (t8::ux 4 (t13::ux 19 (t33::t34::t35::ux 12 [])))
def zJT:=zkN 7
noncomputable def zJR:=zas [1,1,1,1,1,0,1,0,0] zrp
def zJQ:=zat tP zkN [1,1,1,1,1,0,1,0] zrp (zaB tP zJV K)
def zkP:=ALoop tP zJR (zJQ K) (zkO t8 t13 t33 t34 t35) H
def zro:=zad .lss false t35 t34 λt36=>zag t36 (zaj 1 t33 t35 λt37=>zae false 1 t37 H λt38=>zaj 3 t8 t38 λt42=>zae true 3 t42 H λt43=>zau 3 [(.int .i64 0),(.int .i64 0),.snil] 1 [(0,t43)] λt44=>zax za2 3 40 t13 t44 H λt45 H=>zad .add false t35 (.int .i64 1) λt46=>Kb7 (zkO t8 t45 t33 t34 t46) H) (zaG [t13,(.bool true)] (K · H))
def zzG:=zaw t1 H λt4 H=>zae true 3 t4 H λt18=>ACalls tP zh5 [t0,t18,t2] H λt20 H=>zay t20 0 λt21=>zay t20 1 λt22=>aUn .not t22 λt24=>zag t24 (zaG [.snil,(.bool false)] (K · H)) (zae true 3 t4 H λt27=>ACalls tP zpG [t0,t27,t2] H λt29 H=>zay t29 0 λt30=>zay t29 1 λt31=>zay t29 2 λt32=>zai 1 t30 λt34=>zkP t21 .snil t30 t34 (.int .i64 0) H K)
def zlJ:Nat→List Bool|6=>rl false [11,2,15,3,16]|_=>[]
noncomputable def zsf:=Tryz.f149.body.getD .skip
noncomputable def zMW:=Tryz.f149.results.toList
def zlL:=ux 11 (t11::t12::ux 15 (t28::t29::t30::ux 16 []))
def zMU:=zlJ 6
noncomputable def zMS:=zas [1,1,1,0,1,0,0] zsf
def zMR:=zat tP zlJ [1,1,1,0,1,0] zsf (zaB tP zMW K)
def zlN:=ALoop tP zMS (zMR K) (zlL t11 t12 t28 t29 t30) H
def zAy(t11 t12 t28 t29 t30:AV)(H:zaa)(K:Kt)(Kb6:Lt):Prop:=zad .add false t30 (.int .i64 1) λt44=>Kb6 (zlL t11 t12 t28 t29 t44) H
def zlM:=zAy t11 t12 t28 t29 t30 H K Kb6
def zlK:=zad .lss false t30 t29 λt31=>zag t31 (zaj 1 t28 t30 λt33=>zae false 1 t33 H λt34=>zag t34 (zau 1 [(.int .i64 0)] 1 [(0,t30)] λt38=>zax zcL 1 8 t12 t38 H λt39 H=>zlM t11 t39 t28 t29 t30 H K Kb6) (zau 1 [(.int .i64 0)] 1 [(0,t30)] λt42=>zax zcL 1 8 t11 t42 H λt43 H=>zlM t43 t12 t28 t29 t30 H K Kb6)) (zaG [t11,t12,(.bool true)] (K · H))
def zAx:=zaw t1 H λt4 H=>zae true 3 t4 H λt17=>ACalls tP zh5 [t0,t17,t2] H λt19 H=>zay t19 0 λt20=>zay t19 1 λt21=>aUn .not t21 λt23=>zag t23 (zaG [.snil,.snil,(.bool false)] (K · H)) (zaf 1 t4 λt25=>zae false 1 t25 H λt26=>ACalls tP zgp [t0,t26,t2] H λt28 H=>zai 1 t28 λt29=>zlN .snil .snil t28 t29 (.int .i64 0) H K)
def zk3:Nat→List Bool|5=>rl false [0,3,4,1,8,2,25]|_=>[]
noncomputable def zrA:=Tryz.f111.body.getD .skip
noncomputable def zKy:=Tryz.f111.results.toList
def zk4:=t0::t1::t2::ux 4 (t7::ux 8 (t16::t17::ux 25 []))
def zKw:=zk3 5
noncomputable def zKu:=zas [1,1,1,0,1,0,0] zrA
def zKt:=zat tP zk3 [1,1,1,0,1,0] zrA (zaB tP zKy K)
def zzQ:=ALoop tP zKu (zKt K) (zk4 t0 t1 t2 t7 t16 t17) H
def zrz:=zad .lss false t17 t16 λt18=>zag t18 (apm H t0 λt20=>apm H t1 λt21=>apm H t17 λt22=>apu H (zaj 3 t21 t22) λt23=>apu H (zal true 3 t23 H) λt24=>apm H t2 λt25=>apm H t17 λt26=>apu H (zaj 2 t25 t26) λt27=>apu H (zal true 2 t27 H) λt28=>zaJ H (λH K'=>ACalls tP zjU [t20,t24,t28] H K') λt29=>apm H t29 λt9=>zad .lss false t9 (.int .i64 0) λt31=>zac t31 false H (λK'=>K' t7 H) λt33 H=>zac t31 false H (λK'=>K' t9 H) λt34 H=>zac t31 false H (λK'=>zad .add false t33 t34 (K' · H)) λt35 H=>zac t31 false H (λK'=>zad .gtr false t35 (.int .i64 6) (K' · H)) λt36 H=>zak t31 (.bool true) t36 λt37=>zag t37 (K (.int .i64 (-1)) H) (zad .add false t7 t9 λt40=>zad .add false t17 (.int .i64 1) λt41=>Kb5 (zk4 t0 t1 t2 t40 t16 t41) H)) (K t7 H)
def zry:=zai 1 t1 λt11=>zai 1 t2 λt13=>zad .neq false t11 t13 λt14=>zag t14 (K (.int .i64 (-1)) H) (zai 1 t1 λt16=>zzQ t0 t1 t2 (.int .i64 0) t16 (.int .i64 0) H K)
variable {t0 t1 t2 t7 t8 t10 t11 t12 t13 t16 t17 t18 t19 t20 t26 t27 t28 t29 t30 t33 t34 t35} {H} {K} {Kb5 Kb6 Kb7}
theorem zLg:Lo2 (λt8 t20=>zld t0 t2 t8 t18 t19 t20) (λt8 t20 H Kb5=>zrL t0 t2 t8 t18 t19 t20 H K Kb5) t8 t20 H (zz8 t0 t2 t8 t18 t19 t20 H K):=lq2 zlc zLh
theorem zLi(h:HSc H→zrK t0 t1 t2 H K):ACalls tP zjo [t0,t1,t2] H K:=
 acb zlc Tryz.func124 zrM h
theorem zLm:Lo2 (λt10 t28=>zlf t8 t10 t26 t27 t28) (λt10 t28 H Kb6=>zrN t8 t10 t26 t27 t28 H K Kb6) t10 t28 H (zlh t8 t10 t26 t27 t28 H K):=lq2 zle zLn
theorem zLo(h:HSc H→zAa t0 t1 t2 H K):ACalls tP zpv [t0,t1,t2] H K:=
 acb zle Tryz.func125 zrO h
theorem zJS:Lo2 (λt13 t35=>zkO t8 t13 t33 t34 t35) (λt13 t35 H Kb7=>zro t8 t13 t33 t34 t35 H K Kb7) t13 t35 H (zkP t8 t13 t33 t34 t35 H K):=lq2 zkN zJT
theorem zJU(h:HSc H→zzG t0 t1 t2 H K):ACalls tP zpp [t0,t1,t2] H K:=
 acb zkN Tryz.func102 zrp h
theorem zMT:Lo3 (λt11 t12 t30=>zlL t11 t12 t28 t29 t30) (λt11 t12 t30 H Kb6=>zlK t11 t12 t28 t29 t30 H K Kb6) t11 t12 t30 H (zlN t11 t12 t28 t29 t30 H K):=lq3 zlJ zMU
theorem zMV(h:HSc H→zAx t0 t1 t2 H K):ACalls tP zpG [t0,t1,t2] H K:=
 acb zlJ Tryz.func149 zsf h
theorem zKv:Lo2 (λt7 t17=>zk4 t0 t1 t2 t7 t16 t17) (λt7 t17 H Kb5=>zrz t0 t1 t2 t7 t16 t17 H K Kb5) t7 t17 H (zzQ t0 t1 t2 t7 t16 t17 H K):=lq2 zk3 zKw
theorem zKx(h:HSc H→zry t0 t1 t2 H K):ACalls tP zjl [t0,t1,t2] H K:=
 acb zk3 Tryz.func111 zrA h
end
section
variable (t0 t1 t2 t7 t40 t41 t42:AV) (H:zaa) (K:Kt) (Kb5:Lt)
def zmD:Nat→List Bool|5=>rl false [0,2,5,1,32,3,16]|_=>[]
noncomputable def zs6:=Tryz.f196.body.getD .skip
noncomputable def zPZ:=Tryz.f196.results.toList
def zmE:=t0::t1::ux 5 (t7::ux 32 (t40::t41::t42::ux 16 []))
def zPX:=zmD 5
noncomputable def zPV:=zas [1,1,1,0,1,0,0] zs6
def zPU:=zat tP zmD [1,1,1,0,1,0] zs6 (zaB tP zPZ K)
def zmF:=ALoop tP zPV (zPU K) (zmE t0 t1 t7 t40 t41 t42) H
def zs5:=zad .lss false t42 t41 λt43=>zag t43 (zaj 3 t40 t42 λt44=>zae true 3 t44 H λt45=>zaz [(.int .i64 0),(.int .i64 0),.snil] H λt9 H=>zao 3 t9 t45 H λH=>apm H t7 λt46=>apu H (zal true 3 t9 H) λt47=>apm H t1 λt48=>apm H t0 λt49=>apm H t1 λt50=>apu H (zaj 3 t49 t50) λt51=>apu H (zaf 1 t51) λt52=>apu H (zal false 1 t52 H) λt53=>zaJ H (λH K'=>ACalls tP zj3 [t47,t48,t53] H K') λt54=>apu H (zau 1 [(.bool false)] 1 [(0,t54)]) λt55=>zax zgd 1 1 t46 t55 H λt56 H=>apm H t56 λt7=>zad .add false t42 (.int .i64 1) λt57=>Kb5 (zmE t0 t1 t7 t40 t41 t57) H) (K t7 H)
def zBL:=zad .lss false t1 (.int .i64 0) λt11=>zac t11 false H (λK'=>K' t1 H) λt13 H=>zac t11 false H (λK'=>K' t0 H) λt14 H=>zac t11 false H (λK'=>zai 1 t14 (K' · H)) λt15 H=>zac t11 false H (λK'=>zad .geq false t13 t15 (K' · H)) λt16 H=>zak t11 (.bool true) t16 λt17=>zac t17 false H (λK'=>K' t2 H) λt19 H=>zac t17 false H (λK'=>zad .lss false t19 (.int .i64 0) (K' · H)) λt20 H=>zak t17 (.bool true) t20 λt21=>zac t21 false H (λK'=>K' t2 H) λt23 H=>zac t21 false H (λK'=>K' t0 H) λt24 H=>zac t21 false H (λK'=>K' t1 H) λt25 H=>zac t21 false H (λK'=>zaj 3 t24 t25 (K' · H)) λt26 H=>zac t21 false H (λK'=>zaf 2 t26 (K' · H)) λt27 H=>zac t21 false H (λK'=>zae false 1 t27 H (K' · H)) λt28 H=>zac t21 false H (λK'=>zai 1 t28 (K' · H)) λt29 H=>zac t21 false H (λK'=>zad .geq false t23 t29 (K' · H)) λt30 H=>zak t21 (.bool true) t30 λt31=>zag t31 (K .snil H) (zaj 3 t0 t1 λt34=>zaf 2 t34 λt35=>zae false 1 t35 H λt36=>zaj 2 t36 t2 λt38=>zaf 1 t38 λt39=>zae false 1 t39 H λt40=>zai 1 t40 λt41=>zmF t0 t1 .snil t40 t41 (.int .i64 0) H K)
variable {t0 t1 t2 t7 t40 t41 t42} {H} {K} {Kb5}
theorem zPW:Lo2 (λt7 t42=>zmE t0 t1 t7 t40 t41 t42) (λt7 t42 H Kb5=>zs5 t0 t1 t7 t40 t41 t42 H K Kb5) t7 t42 H (zmF t0 t1 t7 t40 t41 t42 H K):=lq2 zmD zPX
theorem zPY(h:HSc H→zBL t0 t1 t2 H K):ACalls tP zgp [t0,t1,t2] H K:=
 acb zmD Tryz.func196 zs6 h
end
def zbV(l:List Bool):List (List AV):=l.map λb=>[.bool b]
theorem zBM(dU:List Dat)(d:Nat)(c:Nat)(hd:d<dU.length)(hc:c<(dU[d]).cons.length)(hl:dU.length≤1000000)(fd:(dU[d]).cons.length≤1000000)(i8:((dU[d]).cons[c]).args.length≤1000000)(hb:∀ x∈((dU[d]).cons[c]).args,x.nodes≤1000000)(H:zaa)(K:Kt)(hK:K (.sl (zbV (zcv d dU[d] (dU[d]).cons[c])) .none) H):
  ACalls tP zgp [.sl (dU.map Dat.cs) .none,.int .i64 d,.int .i64 c] H K:=by
 refine ACalls.out (zPY λhs=>?_);have e1:(dU.map Dat.cs)[d]?=some (dU[d]).cs:=by simp[hd]
 have e2:((dU[d]).cons.map Con.cs)[c]?=some ((dU[d]).cons[c]).cs:=by simp[hc]
 generalize hD:dU[d]=D at *;generalize hA:D.cons[c]=C at *;have h1:¬(d:Int)<0:=by omega
 have h2:¬(dU.length:Int)≤d:=by omega
 have h3:¬(c:Int)<0:=by omega
 have h4:¬(D.cons.length:Int)≤c:=by omega
 simp[zBL,h1,h2,h3,h4,e1,e2,Dat.cs,Con.cs,hd,hD,hc,hA];unfold zmF;refine ALoop.own 7 zgd 1 rfl ?_;show zmF (.sl (dU.map Dat.cs) .none) (.int .i64 d) (.sl [] (.own H.length)) (.sl (VT.css C.args) .none) (.int .i64 C.args.length) (.int .i64 0) (H++[.perm zgd 1 0]) (Out H.length K);have et:∀n,HSc (H++[.perm zgd 1 n]):=λn=>hs.append rfl;refine zPW (Inv:=λq t7 t42 H'=>∃i:Nat,i≤C.args.length∧q=C.args.length-i∧t42=.int .i64 i∧t7=.sl (zbV ((zcv d D C).take i)) (.own H.length)∧H'=H++[.perm zgd 1 i]) C.args.length ?_ ?_
 ·intro _;exact⟨0,by omega,by omega,rfl,rfl,rfl⟩
 ·rintro q t7 t42 H' ⟨i,hi,rfl,rfl,rfl,rfl⟩ hsc d8 eC Kb ee;have jB:(zcv d D C).length=C.args.length:=by simp[zcv]
  by_cases d7:i<C.args.length
  ·obtain⟨x,y,z,ei,hx,hy,hz⟩:=zbh C.args[i];have kD:=hb _ (ah d7);simp[zs5,d7,ei,ae,e1,hd,hD,Dat.cs];rw[←ei];refine⟨⟨hx,hy,hz⟩,?_⟩;refine zaH (.bool (zb4 d D.vars C.args[i])) (λJ=>zu6 _ _ _ kD _ _ ⟨rfl,rfl⟩) ?_;simp[zau,zaU,plain,AV.pd,zax,zaO,zaK,zbV];have gX:min i (zcv d D C).length=i:=by omega
   rw[gX];refine⟨rfl,⟨by omega,by omega⟩,?_⟩;rw[zav (by omega) (by omega)];have eD:List.take i (List.map (λb=>[AV.bool b]) (zcv d D C))++[[AV.bool (zb4 (↑d) D.vars C.args[i])]]=zbV ((zcv d D C).take (i+1)):=by rw[af (by omega)];simp[zbV,zcv]
   rw[eD];refine ee _ _ ⟨C.args.length-(i+1),by omega,Back.at (J:=[.cells C.args[i].cs]) (H2:=H++[.perm zgd 1 (i+1)]) (by simp) (by simp) (et _) ?_ ⟨_,_,rfl,i+1,by omega,rfl,by simp,rfl,rfl⟩⟩;simp[zmE,AV.sc,AV.scV,AV.scA,AV.scB]
  ·obtain rfl:i=C.args.length:=by omega
   rw[am (by omega)];simp[zs5];exact Out.at rfl (aa _) hs (.atom (.sl _ _)) rfl (by simp[zbV,AV.scV,AV.scA,AV.scB]) hK
end Go.Proofs.YtdmamdnkcefmmaaGreatDoor
