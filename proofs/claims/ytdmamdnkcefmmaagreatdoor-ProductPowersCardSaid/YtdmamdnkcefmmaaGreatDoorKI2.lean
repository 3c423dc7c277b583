import Derived.Test.YtdmamdnkcefmmaaGreatDoorKV1
import Derived.Test.YtdmamdnkcefmmaaGreatDoorIT
import Derived.Test.YtdmamdnkcefmmaaGreatDoorAbsY
import Derived.Test.YtdmamdnkcefmmaaGreatDoorKNum
import Derived.Test.YtdmamdnkcefmmaaGreatDoorProg
import Derived.KernelRfl
import Derived.Test.YtdmamdnkcefmmaaGreatDoorKN4
import Derived.Test.YtdmamdnkcefmmaaGreatDoorKY10
set_option linter.unusedSimpArgs false
set_option linter.unusedVariables false
set_option maxRecDepth 100000
namespace Go.Proofs.YtdmamdnkcefmmaaGreatDoor
def pick:List VT→List Bool→List VT
 |x::l,b::bs=>if b then pick l bs else x::pick l bs
 |_,_=>[]
def zbi(d7:List Dat)(t:VT)(c:Int):Option (List VT):=(zbt d7 t c).map λl=>pick l ((zd4 d7 t.num.toNat).getD c.toNat [])
mutual
def zcz(d7:List Dat):IT→VT→Int × Bool
 |.mk n ks,t=>
  if t.kind=6 then (if n=0 then (if t.kids.length=ks.length then zb8 d7 ks t.kids 0 else (0,false)) else (0,false))
  else if t.kind=7 then (n,decide (0≤n) && decide (n≤6) && decide (ks.length=0))
  else if t.kind=5 then (if n=0 then zde d7 ks t 0 else (0,false))
  else (0,decide (n=0) && decide (ks.length=0))
def zb8(d7:List Dat):List IT→List VT→Int→Int × Bool
 |[],_,a=>(a,decide (a≤6))
 | v::vs,ts,a=>match ts with
  |t::ts=>if (zcz d7 v t).2 then zb8 d7 vs ts (a+(zcz d7 v t).1) else (0,false)
  |[]=>(0,false)
def zde(d7:List Dat):List IT→VT→Int→Int × Bool
 |[],_,a=>(a,true)
 | .mk c ks::es,t,a=>match zbi d7 t c with
  |none=>(0,false)
  | some ps=>if ps.length=ks.length then
    (if (zb8 d7 ks ps 0).2 && decide (a+(1+(zb8 d7 ks ps 0).1)≤6) then zde d7 es t (a+(1+(zb8 d7 ks ps 0).1)) else (0,false))
   else (0,false)
end
mutual
def rdV(d7:List Dat):IT→VT→Int
 |.mk n ks,t=>
  if t.kind=6 then (if n=0 then (if t.kids.length=ks.length then rdA d7 ks t.kids 0 else -1) else -1)
  else if t.kind=7 then (if 0≤n∧n≤6∧ks.length=0 then n else -1)
  else if t.kind=5 then (if n=0∧ks.length≤6 then rdE d7 ks t 0 else -1)
  else (if n=0∧ks.length=0 then 0 else -1)
def rdA(d7:List Dat):List IT→List VT→Int→Int
 |[],_,a=>a
 | v::vs,ts,a=>match ts with
  |t::ts=>if rdV d7 v t<0∨a+rdV d7 v t>6 then -1 else rdA d7 vs ts (a+rdV d7 v t)
  |[]=>-1
def rdE(d7:List Dat):List IT→VT→Int→Int
 |[],_,a=>a
 | .mk c ks::es,t,a=>if c<0∨8≤c then -1 else match zbi d7 t c with
  |none=>-1
  | some ps=>if ps.length=ks.length then
    (if rdA d7 ks ps 0<0∨a+1+rdA d7 ks ps 0>6 then -1 else rdE d7 es t (a+(1+rdA d7 ks ps 0)))
   else -1
end
theorem zJM{d7:List Dat}(h8:∀D∈d7,D.cons.length≤8){t:VT}{c:Int}{ps:List VT}(h:zbi d7 t c=some ps):0≤c∧c<8:=by
 unfold zbi at h;cases hf:zbt d7 t c with
 |none=>rw[hf]at h;cases h
 |some l=>obtain⟨_,k1,k2,hn,hc,_⟩:=zhO hf;have:=h8 _ (af hn);omega
def agr(m:Int×Bool)(r:Int):Prop:=(m.2=true→m.1=r∧0≤r∧r≤6)∧(m.2=false→r=-1)
theorem zeA:agr (0,false) (-1):=⟨λh=>(by cases h),λ_=>rfl⟩
mutual
theorem zhA{d7:List Dat}(h8:∀ D∈d7,D.cons.length≤8):∀ (v:IT) (t:VT),agr (zcz d7 v t) (rdV d7 v t)
 |.mk n ks,t=>by
  have hA:=(zjD h8 ks t.kids 0 (by omega)).1 (by omega);have hE:=zxW h8 ks t 0 (by omega) (by omega);unfold zcz rdV;split
  ·split
   ·split
    ·exact hA
    ·exact zeA
   ·exact zeA
  ·split
   ·refine⟨λh=>?_,λh=>?_⟩
    ·simp at h;rw[az ⟨h.1.1,h.1.2,by simpa using h.2⟩];exact⟨rfl,h.1.1,h.1.2⟩
    ·rw[au];rintro⟨h1,h2,h3⟩;simp[h1,h2,h3]at h
   ·split
    ·by_cases hn:n=0
     ·simp only[hn,a6,d5];by_cases hl:ks.length≤6
      ·rw[az hl];exact hE.1
      ·rw[au hl];refine⟨λh=>?_,λ_=>rfl⟩;have:=hE.2 h;omega
     ·simp only[hn,aN,false_and];exact zeA
    ·refine⟨λh=>?_,λh=>?_⟩
     ·simp at h;simp[h]
     ·rw[au];rintro⟨h1,h2⟩;simp[h1,h2]at h
theorem zjD{d7:List Dat}(h8:∀ D∈d7,D.cons.length≤8):∀ (vs:List IT) (ts:List VT) (a:Int),0≤a→(a≤6→agr (zb8 d7 vs ts a) (rdA d7 vs ts a))∧(6<a→(zb8 d7 vs ts a).2=false)
 |[],ts,a,ha=>by simp only[zb8,rdA];exact⟨λh=>⟨λ_=>⟨rfl,ha,h⟩,λh2=>by simp at h2;omega⟩,λh=>by simp;omega⟩
 |v::vs,ts,a,ha=>by
  match ts with
  |[]=>simp only[zb8,rdA];exact⟨λ_=>zeA,λ_=>by trivial⟩
  |t::ts=>
   obtain⟨g1,g2⟩:=zhA h8 v t;simp only[zb8,rdA];cases hb:(zcz d7 v t).2 with
   |false=>rw[g2 hb];simp;exactλ_=>zeA
   |true=>
    obtain⟨e1,e2,e3⟩:=g1 hb;rw[e1];have hn:=zjD h8 vs ts (a+rdV d7 v t) (by omega);simp only[a6];refine⟨λh=>?_,λh=>hn.2 (by omega)⟩;by_cases h6:a+rdV d7 v t>6
    ·rw[az (.inr h6)];exact⟨λh=>(by rw[hn.2 (by omega)]at h;cases h),λ_=>rfl⟩
    ·rw[au (by omega)];exact hn.1 (by omega)
theorem zxW{d7:List Dat}(h8:∀ D∈d7,D.cons.length≤8):∀ (es:List IT) (t:VT) (a:Int),0≤a→a≤6→agr (zde d7 es t a) (rdE d7 es t a)∧((zde d7 es t a).2=true→a+es.length≤6)
 |[],t,a,h0,h6=>by simp only[zde,rdE];exact⟨⟨λ_=>⟨rfl,h0,h6⟩,λh=>by cases h⟩,λ_=>by simpa using h6⟩
 |.mk c ks::es,t,a,h0,h6=>by
  simp only[zde,rdE];cases hp:zbi d7 t c with
  |none=>simp only[ite_self];exact⟨zeA,λh=>by cases h⟩
  |some ps=>
   obtain⟨c0,c8⟩:=zJM h8 hp;rw[au (show ¬(c<0∨8≤c) by omega)];simp only;by_cases hl:ps.length=ks.length
   ·simp only[hl,a6];obtain⟨g1,g2⟩:=(zjD h8 ks ps 0 (by omega)).1 (by omega);cases hb:(zb8 d7 ks ps 0).2 with
    |false=>rw[g2 hb];simp;exact zeA
    |true=>
     obtain⟨e1,e2,e3⟩:=g1 hb;rw[e1];by_cases hh:a+(1+rdA d7 ks ps 0)≤6
     ·have hn:=zxW h8 es t (a+(1+rdA d7 ks ps 0)) (by omega) hh;rw[au (show ¬(rdA d7 ks ps 0<0∨a+1+rdA d7 ks ps 0>6) by omega)];simp only[hh,cZ,dF,a6];refine⟨hn.1,λh=>?_⟩;have:=hn.2 h;simp only[List.length_cons];omega
     ·rw[az (show rdA d7 ks ps 0<0∨a+1+rdA d7 ks ps 0>6 by omega)];simp[hh];exact zeA
   ·simp only[hl,aN];exact⟨zeA,λh=>by cases h⟩
end
def fill:List IT→List Nat→List IT→List IT
 |row,p::ps,x::xs=>fill (row.set p x) ps xs
 |row,_,_=>row
@[simp] theorem ydW(row xs:List IT):fill row [] xs=row:=by cases xs <;> rfl
@[simp] theorem zIu:∀ (row:List IT) (ps:List Nat) (xs:List IT),(fill row ps xs).length=row.length
 |row,p::ps,x::xs=>by rw[fill,zIu];simp
 |row,[],_=>by simp[fill]
 |row,_::_,[]=>by simp[fill]
mutual
theorem IT.same_eq:∀ v w:IT,IT.same v w=true→v=w
 |.mk n ks,.mk n' ks',h=>by simp only[IT.same,aj,ba]at h;rw[h.1,IT.sameL_eq ks ks' h.2]
theorem IT.sameL_eq:∀ v w:List IT,IT.sameL v w=true→v=w
 |[],[],_=>rfl
 |v::vs,w::ws,h=>by simp only[IT.sameL,aj]at h;rw[IT.same_eq v w h.1,IT.sameL_eq vs ws h.2]
 |[],_::_,h=>by simp[IT.sameL]at h
 |_::_,[],h=>by simp[IT.sameL]at h
end
section
variable {d7:List Dat}
theorem zeQ{h8:∀D∈d7,D.cons.length≤8}(v:IT)(t:VT):-1≤rdV d7 v t∧rdV d7 v t≤6:=by
 obtain⟨h1,h2⟩:=zhA h8 v t;cases hb:(zcz d7 v t).2 with
 |true=>have:=h1 hb;omega
 |false=>have:=h2 hb;omega
def ad(a r:Int):Int:=if r<0 then -1 else if a+r>6 then -1 else a+r
theorem zfE{a r:Int}(h:0≤r)(h2:a+r≤6):ad a r=a+r:=by unfold ad;rw[au (by omega),au (by omega)]
theorem zdo{a r:Int}(h:r<0∨a+r>6):ad a r=-1:=by
 unfold ad;by_cases h1:r<0
 ·rw[az h1]
 ·rw[au h1,az (by omega)]
theorem zHu{a b r:Int}(hb:0≤b)(ha:0≤a):ad (a+b) r=ad a (ad b r):=by
 by_cases h1:r<0∨b+r>6
 ·rw[zdo (a:=b) h1,zdo (a:=a) (.inl (by omega)),zdo (by omega)]
 ·rw[zfE (a:=b) (by omega) (by omega)];by_cases h2:a+(b+r)>6
  ·rw[zdo (.inr h2),zdo (.inr (by omega))]
  ·rw[zfE (by omega) (by omega),zfE (by omega) (by omega),Int.add_assoc]
theorem zAr(v:IT)(vs:List IT)(t:VT)(ts:List VT)(a:Int):rdA d7 (v::vs) (t::ts) a=if rdV d7 v t<0∨a+rdV d7 v t>6 then -1 else rdA d7 vs ts (a+rdV d7 v t):=by simp only[rdA]
theorem zeO(c:Int)(ks es:List IT)(t:VT)(a:Int):rdE d7 (.mk c ks::es) t a=if c<0∨8≤c then -1 else match zbi d7 t c with
  |none=>-1
  |some ps=>if ps.length=ks.length then (if rdA d7 ks ps 0<0∨a+1+rdA d7 ks ps 0>6 then -1 else rdE d7 es t (a+(1+rdA d7 ks ps 0))) else -1:=by simp only[rdE] <;> rfl
theorem zk8:∀ (es:List IT) (t:VT) (a:Int),0≤a→rdE d7 es t a=-1∨a+es.length≤rdE d7 es t a
 |[],_,a,h=>by simp[rdE]
 |.mk c ks::es,t,a,h=>by
  rw[zeO];by_cases hc:c<0∨8≤c
  ·rw[az hc];exact .inl rfl
  ·rw[au hc];cases zbi d7 t c with
   |none=>exact .inl rfl
   |some ps=>
    simp only;by_cases hl:ps.length=ks.length
    ·rw[az hl];by_cases h0:rdA d7 ks ps 0<0∨a+1+rdA d7 ks ps 0>6
     ·rw[az h0];exact .inl rfl
     ·rw[au h0];rcases zk8 es t (a+(1+rdA d7 ks ps 0)) (by omega) with h2 | h2
      ·exact .inl h2
      ·right;simp only[List.length_cons];omega
    ·rw[au hl];exact .inl rfl
theorem zk7:∀ (es:List IT) (t:VT) (a:Int),0≤a→a≤6→rdE d7 es t a=ad a (rdE d7 es t 0)
 |[],_,a,h,h6=>by simp only[rdE];rw[zfE (by omega) (by omega),Int.add_zero]
 |.mk c ks::es,t,a,h,h6=>by
  rw[zeO,zeO];by_cases hc:c<0∨8≤c
  ·rw[az hc,az hc,zdo (.inl (by omega))]
  ·rw[au hc,au hc];cases zbi d7 t c with
   |none=>exact(zdo (a:=a) (r:=-1) (.inl (by omega))).symm
   |some ps=>
    simp only;by_cases hl:ps.length=ks.length
    ·rw[az hl,az hl];by_cases h0:rdA d7 ks ps 0<0∨0+1+rdA d7 ks ps 0>6
     ·rw[az h0,az (by omega),zdo (.inl (by omega))]
     ·rw[au h0,zk7 es t (0+(1+rdA d7 ks ps 0)) (by omega) (by omega),Int.zero_add];have g2:=zk8 (d7:=d7) es t 0 (by omega);by_cases h3:a+1+rdA d7 ks ps 0>6
      ·rw[az (Or.inr h3)];generalize rdE d7 es t 0=r at *;by_cases h4:r<0∨(1+rdA d7 ks ps 0)+r>6
       ·rw[zdo h4,zdo (.inl (by omega))]
       ·rw[zfE (a:=1+rdA d7 ks ps 0) (by omega) (by omega),zdo (.inr (by omega))]
      ·rw[au (by omega),zk7 es t _ (by omega) (by omega),zHu (by omega) h]
    ·rw[au hl,au hl,zdo (.inl (by omega))]
theorem zsg(h8:∀ D∈d7,D.cons.length≤8):∀ (xs ys:List IT) (t:VT) (a:Int),0≤a→a≤6→rdE d7 (xs++ys) t a=(if rdE d7 xs t a<0 then -1 else rdE d7 ys t (rdE d7 xs t a))
 |[],ys,t,a,h,_=>by rw[List.nil_append,au (by simp only[rdE];omega)];simp only[rdE]
 |.mk c ks::es,ys,t,a,h,h6=>by
  rw[List.cons_append,zeO,zeO];by_cases hc:c<0∨8≤c
  ·rw[az hc];simp[hc]
  ·rw[au hc];simp only[au hc];cases zbi d7 t c with
   |none=>simp
   |some ps=>
    simp only;by_cases hl:ps.length=ks.length
    ·simp only[az hl];by_cases h0:rdA d7 ks ps 0<0∨a+1+rdA d7 ks ps 0>6
     ·simp only[az h0];simp
     ·simp only[au h0];exact zsg h8 es ys t _ (by omega) (by omega)
    ·simp only[au hl];simp
end
section
open Go.RowKit
variable {P:Program}
end
section
variable (t0:AV) (H:zaa) (K:Kt)
def zOa:Nat→List Bool|300001=>rl false [0,1]|_=>[]
noncomputable def zOb:=Tryz.f130.body.getD .skip
def zty:=zhx true .eql t0 λt4=>zag t4 (K .snil H) (zaw 2 [(.int .i64 0),.snil] 0 [] λt5=>zax zaY 2 32 t5 t0 H λt7 H=>K t7 H)
variable {t0} {H} {K}
theorem zOc(h:HSc H→zty t0 H K):ACalls tP zrd [t0] H K:=
 acb zOa Tryz.func130 zOb h
end
def RowA(H:zaa)(a:AV)(n:Nat)(ds:List AV):Prop:=
 ds.length=n*2∧ds.all AV.known=true∧((∃id,a=.ms id 0 n n∧H[id]?=some (.cells ds))∨(0<n∧∃id e,a=.ov id n∧H[id]?=some (.vec e 2 n ds)))
theorem RowA.app{H J:zaa}{a:AV}{n:Nat}{ds:List AV}(h:RowA H a n ds):RowA (H++J) a n ds:=by
 obtain⟨h1,h2,h3⟩:=h;refine⟨h1,h2,?_⟩;rcases h3 with ⟨id,rfl,h⟩|⟨h0,id,e,rfl,h⟩
 ·exact .inl ⟨id,rfl,by rw[List.getElem?_append_left (List.getElem?_eq_some_iff.1 h).1];exact h⟩
 ·exact .inr ⟨h0,id,e,rfl,by rw[List.getElem?_append_left (List.getElem?_eq_some_iff.1 h).1];exact h⟩
section
variable (t0 t1 t2 t3 t6 t7 t8 t10 t11 t12 t13 t19 t20:AV) (H:zaa) (K:Kt) (Kb2 Kb3 Kb4:Lt)
def zl1:Nat→List Bool|4=>rl false [2,2,6,3,12]|_=>[]
noncomputable def ztj:=Tryz.f112.body.getD .skip
noncomputable def zNj:=Tryz.f112.results.toList
def zl2:=ux 2 (t2::t3::ux 6 (t10::t11::t12::ux 12 []))
def zNh:=zl1 4
noncomputable def zNf:=zar [1,1,0,1,0,1,0,0] ztj
def zNe:=zas tP zl1 [1,1,0,1,0,1,0] ztj (zaB tP zNj K)
def zl4:=ALoop tP zNf (zNe K) (zl2 t2 t3 t10 t11 t12) H
def zl3:=zae true 2 t3 H λt24=>zan 2 t2 t24 H λH=>zae true 2 t2 H λr0=>K r0 H
def zti:=zac .lss false t12 t11 λt13=>zag t13 (zak 3 t10 t12 λt14=>zae true 3 t14 H λt15=>zaz [(.int .i64 0),(.int .i64 0),.snil] H λt5 H=>zan 3 t5 t15 H λH=>apu H (zaf 1 t3) λt16=>apu H (zaj false 1 t16 H) λt17=>apu H (zaj true 3 t5 H) λt18=>zaC H (λH K'=>ACalls tP zj6 [t18] H K') λt19=>apu H (zaw 2 [(.int .i64 0),.snil] 1 [(0,t19)]) λt20=>zax zaY 2 32 t17 t20 H λt21 H=>apu H (zaf 1 t3) λt22=>zan 1 t22 t21 H λH=>zac .add false t12 (.int .i64 1) λt23=>Kb4 (zl2 t2 t3 t10 t11 t23) H) (zl3 t2 t3 H K)
def zCg:=zav t0 H λt1 H=>zaz [(.int .i64 0),.snil] H λt2 H=>zaz [(.int .i64 0),.snil] H λt3 H=>zaf 0 t1 λt6=>zae false 1 t6 H λt7=>zac .eql false t7 (.int .i64 6) λt8=>zag t8 (zaf 2 t1 λt9=>zae false 1 t9 H λt10=>zah 1 t10 λt11=>zl4 t2 t3 t10 t11 (.int .i64 0) H K) (zl3 t2 t3 H K)
def zl5:Nat→List Bool|3=>rl false [2,2,6,3,12]|_=>[]
noncomputable def ztn:=Tryz.f116.body.getD .skip
noncomputable def zNy:=Tryz.f116.results.toList
def zl6:=ux 2 (t2::t3::ux 6 (t10::t11::t12::ux 12 []))
def zNw:=zl5 3
noncomputable def zNu:=zar [1,1,0,1,0,0] ztn
def zNt:=zas tP zl5 [1,1,0,1,0] ztn (zaB tP zNy K)
def zl7:=ALoop tP zNu (zNt K) (zl6 t2 t3 t10 t11 t12) H
def ztm:=zac .lss false t12 t11 λt13=>zag t13 (zak 2 t10 t12 λt14=>zae true 2 t14 H λt15=>zaz [(.int .i64 0),.snil] H λt5 H=>zan 2 t5 t15 H λH=>apu H (zaf 1 t3) λt16=>apu H (zaj false 1 t16 H) λt17=>apu H (zaj true 2 t5 H) λt18=>zaC H (λH K'=>ACalls tP zia [t18] H K') λt19=>apu H (zaw 2 [(.int .i64 0),.snil] 1 [(0,t19)]) λt20=>zax zaY 2 32 t17 t20 H λt21 H=>apu H (zaf 1 t3) λt22=>zan 1 t22 t21 H λH=>zac .add false t12 (.int .i64 1) λt23=>Kb3 (zl6 t2 t3 t10 t11 t23) H) (zae true 2 t3 H λt24=>zan 2 t2 t24 H λH=>zae true 2 t2 H λr0=>K r0 H)
def zCj:=zav t0 H λt1 H=>zaz [(.int .i64 0),.snil] H λt2 H=>zaf 0 t1 λt6=>zae false 1 t6 H λt7=>zaq [(.int .i64 0),.snil] [(0,1),(1,1)] [(0,t7)] λt8=>zaz [(.int .i64 0),.snil] H λt3 H=>zan 2 t3 t8 H λH=>zaf 1 t1 λt9=>zae false 1 t9 H λt10=>zah 1 t10 λt11=>zl7 t2 t3 t10 t11 (.int .i64 0) H K
def zOX(_:Nat):List Bool:=[]
noncomputable def zOY:=Tryz.f139.body.getD .skip
def zCO:=ACalls tP zkj [t0] H λt8 H=>ACalls tP zkj [t1] H λt10 H=>zag t8 (zag t10 (K (.int .i64 0) H) (K (.int .i64 (-1)) H)) (zag t10 (K (.int .i64 1) H) (zac .lss false t0 t1 λt16=>zag t16 (K (.int .i64 (-1)) H) (zac .gtr false t0 t1 λt19=>zag t19 (K (.int .i64 1) H) (K (.int .i64 0) H))))
def zmt:Nat→List Bool|3=>rl false [3,1,2,3,9]|_=>[]
noncomputable def ztJ:=Tryz.f138.body.getD .skip
noncomputable def zOW:=Tryz.f138.results.toList
def zmv:=ux 3 (t3::ux 2 (t6::t7::t8::ux 9 []))
def zOU:=zmt 3
noncomputable def zOS:=zar [1,1,0,1,0,0] ztJ
def zOR:=zas tP zmt [1,1,0,1,0] ztJ (zaB tP zOW K)
def zCN:=ALoop tP zOS (zOR K) (zmv t3 t6 t7 t8) H
def zmu:=zac .lss false t8 t7 λt9=>zag t9 (zak 1 t6 t8 λt10=>zae false 1 t10 H λt11=>zac .neq false t11 t3 λt14=>zag t14 (K t11 H) (zac .add false t8 (.int .i64 1) λt16=>Kb3 (zmv t3 t6 t7 t16) H)) (K t3 H)
def zCM:=zah 1 t0 λt7=>zCN (.int .i64 0) t0 t7 (.int .i64 0) H K
def zSd(_:Nat):List Bool:=[]
noncomputable def zSe:=Tryz.f187.body.getD .skip
def zDZ:=zac .neq false t0 t0 λt5=>K t5 H
def zZm(_:Nat):List Bool:=[]
noncomputable def zZn:=Tryz.f86.body.getD .skip
def zGo:=zav t0 H λt2 H=>zav t1 H λt3 H=>apu H (zaf 0 t2) λt6=>apu H (zaj false 1 t6 H) λt7=>apu H (zaf 0 t3) λt8=>apu H (zaj false 1 t8 H) λt9=>zaC H (λH K'=>ACalls tP zka [t7,t9] H K') λt10=>apu H (zaf 1 t2) λt11=>apu H (zaj false 1 t11 H) λt12=>apu H (zah 1 t12) λt13=>apu H (zaf 1 t3) λt14=>apu H (zaj false 1 t14 H) λt15=>apu H (zah 1 t15) λt16=>zaC H (λH K'=>ACalls tP zka [t13,t16] H K') λt17=>apu H (zaw 1 [(.int .i64 0)] 2 [(0,t10),(1,t17)]) λt18=>zaC H (λH K'=>ACalls tP zrj [t18] H K') λt19=>apm H t19 λt5=>zac .neq false t5 (.int .i64 0) λt21=>zag t21 (K t5 H) (zaf 1 t2 λt23=>zae false 1 t23 H λt24=>zaf 1 t3 λt25=>zae false 1 t25 H λt26=>ACalls tP zrk [t24,t26,(.fn zgU [])] H λt27 H=>K t27 H)
def zNq(_:Nat):List Bool:=[]
noncomputable def zNr:=Tryz.f115.body.getD .skip
def ztl:=zav t0 H λt2 H=>zav t1 H λt3 H=>zaf 0 t2 λt5=>zae false 1 t5 H λt6=>zaf 0 t3 λt7=>zae false 1 t7 H λt8=>zac .neq false t6 t8 λt9=>zag t9 (zaf 0 t2 λt10=>zae false 1 t10 H λt11=>zaf 0 t3 λt12=>zae false 1 t12 H λt13=>zac .lss false t11 t13 λt14=>ACalls tP zkd [t14] H λt15 H=>K t15 H) (zaf 1 t2 λt16=>zae false 1 t16 H λt17=>zaf 1 t3 λt18=>zae false 1 t18 H λt19=>ACalls tP zrp [t17,t19] H λt20 H=>K t20 H)
def zmV:Nat→List Bool|4=>rl false [0,2,17,2,15]|_=>[]
noncomputable def zt7:=Tryz.f155.body.getD .skip
noncomputable def zQc:=Tryz.f155.results.toList
def zmW:=t0::t1::ux 17 (t19::t20::ux 15 [])
def zQa:=zmV 4
noncomputable def zP8:=zar [1,1,0,1,0,0] zt7
def zP7:=zas tP zmV [1,1,0,1,0] zt7 (zaB tP zQc K)
def zC2:=ALoop tP zP8 (zP7 K) (zmW t0 t1 t19 t20) H
def zt6:=zac .lss false t20 t19 λt21=>zag t21 (apm H t0 λt23=>apm H t20 λt24=>apu H (zak 2 t23 t24) λt25=>apu H (zaj true 2 t25 H) λt26=>apm H t1 λt27=>apm H t20 λt28=>apu H (zak 2 t27 t28) λt29=>apu H (zaj true 2 t29 H) λt30=>zaC H (λH K'=>ACalls tP zgL [t26,t30] H K') λt31=>apm H t31 λt6=>zac .neq false t6 (.int .i64 0) λt33=>zag t33 (K t6 H) (zac .add false t20 (.int .i64 1) λt35=>Kb4 (zmW t0 t1 t19 t35) H)) (K (.int .i64 0) H)
def zt5:=zah 1 t0 λt8=>zah 1 t1 λt10=>zac .neq false t8 t10 λt11=>zag t11 (zah 1 t0 λt13=>zah 1 t1 λt15=>zac .lss false t13 t15 λt16=>ACalls tP zkd [t16] H λt17 H=>K t17 H) (zah 1 t0 λt19=>zC2 t0 t1 t19 (.int .i64 0) H K)
def zP4(_:Nat):List Bool:=[]
noncomputable def zP5:=Tryz.f154.body.getD .skip
def zC1:=zag t0 (K (.int .i64 (-1)) H) (K (.int .i64 1) H)
def zmw:Nat→List Bool|2=>rl false [0,3,8,3,25]|_=>[]
noncomputable def ztL:=Tryz.f140.body.getD .skip
noncomputable def zO5:=Tryz.f140.results.toList
def zmx:=t0::t1::t2::ux 8 (t11::t12::t13::ux 25 [])
def zO3:=zmw 2
noncomputable def zO1:=zar [1,0,1,0,0] ztL
def zO0:=zas tP zmw [1,0,1,0] ztL (zaB tP zO5 K)
def zCQ:=ALoop tP zO1 (zO0 K) (zmx t0 t1 t2 t11 t12 t13) H
def ztK:=zac .lss false t13 t12 λt14=>zag t14 (zak 2 t11 t13 λt16=>zae true 2 t16 H λt17=>zaz [(.int .i64 0),.snil] H λt8 H=>zan 2 t8 t17 H λH=>zah 1 t1 λt20=>zac .geq false t13 t20 λt21=>zag t21 (K (.int .i64 1) H) (zak 2 t1 t13 λt24=>zae true 2 t24 H λt25=>zaz [(.int .i64 0),.snil] H λt9 H=>zan 2 t9 t25 H λH=>zae true 2 t8 H λt27=>zae true 2 t9 H λt28=>aCallV tP t2 [t27,t28] H λt29 H=>zac .neq false t29 (.int .i64 0) λt31=>zag t31 (K t29 H) (zac .add false t13 (.int .i64 1) λt33=>Kb2 (zmx t0 t1 t2 t11 t12 t33) H))) (zah 1 t0 λt35=>zah 1 t1 λt37=>zac .lss false t35 t37 λt38=>zag t38 (K (.int .i64 (-1)) H) (K (.int .i64 0) H))
def zCP:=zah 1 t0 λt12=>zCQ t0 t1 t2 t0 t12 (.int .i64 0) H K
def zXM(_:Nat):List Bool:=[]
noncomputable def zXN:=Tryz.f60.body.getD .skip
def zFR:=zav t1 H λt3 H=>zaz [(.int .i64 0),.snil] H λt4 H=>zae true 3 t3 H λt7=>ACalls tP zkH [t0,t7] H λt8 H=>aUn .not t8 λt9=>zag t9 (zaq [(.int .i64 0),.snil] [(0,1),(1,1)] [] λt10=>zan 2 t4 t10 H λH=>zae true 2 t4 H λr0=>zaF [r0,(.bool false)] (K · H)) (zae true 3 t3 H λt11=>ACalls tP zj6 [t11] H λt12 H=>zan 2 t4 t12 H λH=>zae true 2 t4 H λr0=>zaF [r0,(.bool true)] (K · H))
variable {t0 t1 t2 t3 t6 t7 t8 t10 t11 t12 t13 t19 t20} {H} {K} {Kb2 Kb3 Kb4}
theorem zNg:Lo1 (λt12=>zl2 t2 t3 t10 t11 t12) (λt12 H Kb4=>zti t2 t3 t10 t11 t12 H K Kb4) t12 H (zl4 t2 t3 t10 t11 t12 H K):=lq1 zl1 zNh
theorem zNi(h:HSc H→zCg t0 H K):ACalls tP zj6 [t0] H K:=
 acb zl1 Tryz.func112 ztj h
theorem zNv:Lo1 (λt12=>zl6 t2 t3 t10 t11 t12) (λt12 H Kb3=>ztm t2 t3 t10 t11 t12 H K Kb3) t12 H (zl7 t2 t3 t10 t11 t12 H K):=lq1 zl5 zNw
theorem zNx(h:HSc H→zCj t0 H K):ACalls tP zia [t0] H K:=
 acb zl5 Tryz.func116 ztn h
theorem zOZ(h:HSc H→zCO t0 t1 H K):ACalls tP zka [t0,t1] H K:=
 acb zOX Tryz.func139 zOY h
theorem zOT:Lo1 (λt8=>zmv t3 t6 t7 t8) (λt8 H Kb3=>zmu t3 t6 t7 t8 H K Kb3) t8 H (zCN t3 t6 t7 t8 H K):=lq1 zmt zOU
theorem zOV(h:HSc H→zCM t0 H K):ACalls tP zrj [t0] H K:=
 acb zmt Tryz.func138 ztJ h
theorem zSf(h:HSc H→zDZ t0 H K):ACalls tP zkj [t0] H K:=
 acb zSd Tryz.func187 zSe h
theorem zZo(h:HSc H→zGo t0 t1 H K):ACalls tP zgU [t0,t1] H K:=
 acb zZm Tryz.func86 zZn h
theorem zNs(h:HSc H→ztl t0 t1 H K):ACalls tP zgL [t0,t1] H K:=
 acb zNq Tryz.func115 zNr h
theorem zP9:Lo1 (λt20=>zmW t0 t1 t19 t20) (λt20 H Kb4=>zt6 t0 t1 t19 t20 H K Kb4) t20 H (zC2 t0 t1 t19 t20 H K):=lq1 zmV zQa
theorem zQb(h:HSc H→zt5 t0 t1 H K):ACalls tP zrp [t0,t1] H K:=
 acb zmV Tryz.func155 zt7 h
theorem zP6(h:HSc H→zC1 t0 H K):ACalls tP zkd [t0] H K:=
 acb zP4 Tryz.func154 zP5 h
theorem zO2:Lo1 (λt13=>zmx t0 t1 t2 t11 t12 t13) (λt13 H Kb2=>ztK t0 t1 t2 t11 t12 t13 H K Kb2) t13 H (zCQ t0 t1 t2 t11 t12 t13 H K):=lq1 zmw zO3
theorem zO4(h:HSc H→zCP t0 t1 t2 H K):ACalls tP zrk [t0,t1,t2] H K:=
 acb zmw Tryz.func140 ztL h
theorem zXO(h:HSc H→zFR t0 t1 H K):ACalls tP zrV [t0,t1] H K:=
 acb zXM Tryz.func60 zXN h
end
theorem zci(v:IT):∃a b,v.cs=[a,b]∧a.known=true∧b.known=true:=by obtain⟨n,ks⟩:=v;exact⟨_,_,rfl,rfl,rfl⟩
theorem zjH{v:IT}{k:AV→Prop}:zaw 2 [.int .i64 0,.snil] 1 [(0,.agg v.cs)] k=k (.sl [v.cs] .full):=by cases v;exact propext aO
theorem zy0{l:List IT}{i:Nat}(h:i<l.length):IT.css (l.take (i+1))=IT.css (l.take i)++[(l[i]).cs]:=by rw[IT.css_map,IT.css_map,ae h,aK];rfl
theorem zNz:∀(m:Nat) (v:IT),v.nodes≤m→v.nodes≤1000000→∀(H:zaa) (K:Kt),K (.agg v.cs) H→ACalls tP zia [.agg v.cs] H K:=by
 intro m;induction m with
 |zero=>intro v h;have:=v.nodes_pos;omega
 |succ m ih=>
  intro v hm hb H K hK;obtain⟨n,ks⟩:=v;have fh:=IT.len_le ks;have iK:(IT.mk n ks).nodes=IT.nodesL ks+1:=by simp[IT.nodes]
  refine ACalls.out (zNx λhs=>?_);simp[zCj,IT.cs,zaq,zaJ,AV.known,aa];unfold zl7;refine ALoop.ownC (H.length+2) 1 zaY 2 (cs:=[.int .i64 n,.snil]) (by simp) rfl ?_;have eQ:(H++[AB.cells [.int .i64 n,.sl (IT.css ks) .none],.cells [.int .i64 0,.snil],.cells [.int .i64 n,.snil]]).set (H.length+2) (.cells ([AV.int .i64 n,.snil].set 1 (.sl [] (.own (H++[AB.cells [.int .i64 n,.sl (IT.css ks) .none],.cells [.int .i64 0,.snil],.cells [.int .i64 n,.snil]]).length))))++[.perm zaY 2 0] =
    H++[.cells [.int .i64 n,.sl (IT.css ks) .none],.cells [.int .i64 0,.snil],.cells [.int .i64 n,.sl [] (.own (H.length+3))],.perm zaY 2 0]:=by simp[ah]
  rw[eQ];show zl7 (.ptr (H.length+1) 0) (.ptr (H.length+2) 0) (.sl (IT.css ks) .none) (.int .i64 ks.length) (.int .i64 0) _ (Out H.length K);have hsc:∀ i,HSc (H++[.cells [.int .i64 n,.sl (IT.css ks) .none],.cells [.int .i64 0,.snil],.cells [.int .i64 n,.sl (IT.css (ks.take i)) (.own (H.length+3))],.perm zaY 2 i]):=λi=>hs.append (by simp[AB.sc,AV.scA,AV.scB]);refine zNv (Inv:=λq t12 H'=>∃ i:Nat,i≤ks.length∧q=ks.length-i∧t12=.int .i64 i ∧
   H'=H++[.cells [.int .i64 n,.sl (IT.css ks) .none],.cells [.int .i64 0,.snil],.cells [.int .i64 n,.sl (IT.css (ks.take i)) (.own (H.length+3))],.perm zaY 2 i]) ks.length ?_ ?_
  ·intro _;exact⟨0,by omega,by omega,rfl,by simp[IT.css]⟩
  ·rintro q t12 H' ⟨i,hi,rfl,rfl,rfl⟩ eE ek eK Kb eq;by_cases ei:i<ks.length
   ·obtain⟨x,y,ew,hx,hy⟩:=zci ks[i];have fI:=IT.kid_lt (n:=n) ei;simp[ztm,ei,ew,hx,hy];rw[←ew];refine zaD (.agg (ks[i]).cs) (λJ=>ih ks[i] (by omega) (by omega) _ _ ⟨rfl,rfl⟩) ?_;rw[zjH];simp[zax,zaM,zaK,bc hi,AV.known,ah];refine⟨⟨by omega,by omega⟩,?_⟩;rw[zay (by omega) (by omega)];rw[←zy0 ei];refine eq _ _ ⟨ks.length-(i+1),by omega,Back.at (J:=[.cells (ks[i]).cs]) (H2:=H++[.cells [.int .i64 n,.sl (IT.css ks) .none],.cells [.int .i64 0,.snil],.cells [.int .i64 n,.sl (IT.css (ks.take (i+1))) (.own (H.length+3))],.perm zaY 2 (i+1)]) (by simp) (by simp) (hsc _) ?_ ⟨_,rfl,i+1,by omega,rfl,by simp,rfl⟩⟩;simp[zl6,AV.sc,AV.scV,AV.scA,AV.scB]
   ·obtain rfl:i=ks.length:=by omega
    rw[ak]at *;simp[ztm,AV.known,ah];exact Out.at rfl (ac _) hs (WkV.agg (ds:=[.int .i64 n,.sl (IT.css ks) .none]) ⟨.refl _,.sl _ _,trivial⟩) rfl (by simp[AV.scV,AV.scA,AV.scB]) (by simpa[IT.cs]using hK)
mutual
def zaP:VT→IT
 |.mk k _ ks=>.mk 0 (if k=6 then zbl ks else [])
def zbl:List VT→List IT
 |[]=>[]
 |t::ts=>zaP t::zbl ts
end
theorem zd7:∀ ts:List VT,zbl ts=ts.map zaP
 |[]=>by simp[zbl]
 |t::ts=>by simp[zbl,zd7 ts]
theorem zNk:∀(m:Nat) (v:VT),v.nodes≤m→v.nodes≤1000000→∀(H:zaa) (K:Kt),K (.agg (zaP v).cs) H→ACalls tP zj6 [.agg v.cs] H K:=by
 intro m;induction m with
 |zero=>intro v h;have:=v.nodes_pos;omega
 |succ m ih=>
  intro v hm hb H K hK;obtain⟨k,n,ks⟩:=v;have fh:=VT.len_le ks;have iK:(VT.mk k n ks).nodes=VT.nodesL ks+1:=by simp[VT.nodes]
  refine ACalls.out (zNi λhs=>?_);simp[zCg,VT.cs,zaq,zaJ,AV.known,aa];by_cases lH:k=6
  ·have hK:K (.agg [.int .i64 0,.sl (IT.css (zbl ks)) .none]) H:=by simpa[zaP,lH,IT.cs]using hK
   simp[lH];subst lH;unfold zl4;refine ALoop.ownC (H.length+2) 1 zaY 2 (cs:=[.int .i64 0,.snil]) (by simp) rfl ?_;have eQ:(H++[AB.cells [.int .i64 6,.int .i64 n,.sl (VT.css ks) .none],.cells [.int .i64 0,.snil],.cells [.int .i64 0,.snil]]).set (H.length+2) (.cells ([AV.int .i64 0,.snil].set 1 (.sl [] (.own (H++[AB.cells [.int .i64 6,.int .i64 n,.sl (VT.css ks) .none],.cells [.int .i64 0,.snil],.cells [.int .i64 0,.snil]]).length))))++[.perm zaY 2 0] =
     H++[.cells [.int .i64 6,.int .i64 n,.sl (VT.css ks) .none],.cells [.int .i64 0,.snil],.cells [.int .i64 0,.sl [] (.own (H.length+3))],.perm zaY 2 0]:=by simp[ah]
   rw[eQ];show zl4 (.ptr (H.length+1) 0) (.ptr (H.length+2) 0) (.sl (VT.css ks) .none) (.int .i64 ks.length) (.int .i64 0) _ (Out H.length K);have hsc:∀ i,HSc (H++[.cells [.int .i64 6,.int .i64 n,.sl (VT.css ks) .none],.cells [.int .i64 0,.snil],.cells [.int .i64 0,.sl (IT.css (zbl (ks.take i))) (.own (H.length+3))],.perm zaY 2 i]):=λi=>hs.append (by simp[AB.sc,AV.scA,AV.scB]);refine zNg (Inv:=λq t12 H'=>∃ i:Nat,i≤ks.length∧q=ks.length-i∧t12=.int .i64 i ∧
    H'=H++[.cells [.int .i64 6,.int .i64 n,.sl (VT.css ks) .none],.cells [.int .i64 0,.snil],.cells [.int .i64 0,.sl (IT.css (zbl (ks.take i))) (.own (H.length+3))],.perm zaY 2 i]) ks.length ?_ ?_
   ·intro _;exact⟨0,by omega,by omega,rfl,by simp[zbl,IT.css]⟩
   ·rintro q t12 H' ⟨i,hi,rfl,rfl,rfl⟩ eE ek eK Kb eq;by_cases ei:i<ks.length
    ·obtain⟨x,y,z,ew,hx,hy,hz⟩:=zbk ks[i];have fI:=VT.kid_lt (k:=6) (n:=n) ei;have jR:(zbl (ks.take i)).length=i:=by simp[zd7,bc hi]
     simp[zti,ei,ew,hx,hy,hz];rw[←ew];refine zaD (.agg (zaP ks[i]).cs) (λJ=>ih ks[i] (by omega) (by omega) _ _ ⟨rfl,rfl⟩) ?_;rw[zjH];simp[zax,zaM,zaK,jR,AV.known,ah];refine⟨⟨by omega,by omega⟩,?_⟩;rw[zay (by omega) (by omega)];have eL:IT.css (zbl (ks.take i))++[(zaP ks[i]).cs]=IT.css (zbl (ks.take (i+1))):=by rw[zd7,zd7,ae ei,IT.css_map,IT.css_map,aK,aK];rfl
     rw[eL];refine eq _ _ ⟨ks.length-(i+1),by omega,Back.at (J:=[.cells (ks[i]).cs]) (H2:=H++[.cells [.int .i64 6,.int .i64 n,.sl (VT.css ks) .none],.cells [.int .i64 0,.snil],.cells [.int .i64 0,.sl (IT.css (zbl (ks.take (i+1)))) (.own (H.length+3))],.perm zaY 2 (i+1)]) (by simp) (by simp) (hsc _) ?_ ⟨_,rfl,i+1,by omega,rfl,by simp,rfl⟩⟩;simp[zl2,AV.sc,AV.scV,AV.scA,AV.scB]
    ·obtain rfl:i=ks.length:=by omega
     rw[ak]at *;simp[zti,zl3,AV.known,ah];exact Out.at rfl (ac _) hs (WkV.agg (ds:=[.int .i64 0,.sl (IT.css (zbl ks)) .none]) ⟨.refl _,.sl _ _,trivial⟩) rfl (by simp[AV.scV,AV.scA,AV.scB]) hK
  ·have hK:K (.agg [.int .i64 0,.sl [] .none]) H:=by simpa[zaP,lH,IT.cs,IT.css]using hK
   have hb:(k == 6)=false:=by simpa using lH
   simp[hb,zl3,AV.known,ah];exact Out.at rfl (ac _) hs (WkV.agg (ds:=[.int .i64 0,.sl [] .none]) ⟨.refl _,.snil,trivial⟩) rfl (by simp[AV.scV,AV.scA,AV.scB]) hK
section
variable (t0 t1 t2 t4 t5 t7 t8 t53 t54 t55 t56 t57 t58:AV) (H:zaa) (K:Kt) (Kb5 Kb13 Kb15:Lt)
def yaP(_:Nat):List Bool:=[]
noncomputable def yaQ:=Tryz.f11.body.getD .skip
def zq9:=zav t0 H λt1 H=>zaz [(.int .i64 0)] H λt3 H=>zan 1 t3 (.int .i64 40) H λH=>zae true 2 t1 H λt4=>ACalls tP zkB [t4,t3] H λt5 H=>K t5 H
def zok:Nat→List Bool|5=>rl false [1,2,2,1,24]|_=>[]
noncomputable def zvM:=Tryz.f39.body.getD .skip
noncomputable def zVX:=Tryz.f39.results.toList
def zol:=ux 1 (t1::t2::ux 2 (t5::ux 24 []))
def zVV:=zok 5
noncomputable def zVT:=zar [1,1,1,0,1,0,0] zvM
def zVS:=zas tP zok [1,1,1,0,1,0] zvM (zaB tP zVX K)
def zFh:=ALoop tP zVT (zVS K) (zol t1 t2 t5) H
def zvL:=zaf 1 t2 λt16=>zae false 1 t16 H λt17=>zah 1 t17 λt18=>zac .lss false t5 t18 λt19=>zag t19 (zaf 1 t2 λt22=>zae false 1 t22 H λt23=>zak 2 t23 t5 λt25=>zae true 2 t25 H λt26=>ACalls tP zkB [t26,t1] H λt28 H=>aUn .not t28 λt29=>zag t29 (K (.bool false) H) (zac .add false t5 (.int .i64 1) λt21=>Kb5 (zol t1 t2 t21) H)) (K (.bool true) H)
def zFg:=zav t0 H λt2 H=>zbf t1 λt7=>zae false 1 t7 H λt8=>zac .sub false t8 (.int .i64 1) λt9=>zbf t1 λt10=>zan 1 t10 t9 H λH=>zbf t1 λt12=>zae false 1 t12 H λt13=>zac .lss false t13 (.int .i64 0) λt14=>zag t14 (K (.bool false) H) (zFh t1 t2 (.int .i64 0) H K)
def zVZ(_:Nat):List Bool:=[]
noncomputable def zV0:=Tryz.f40.body.getD .skip
def zFi:=zav t1 H λt4 H=>zav t2 H λt5 H=>zae true 3 t4 H λt10=>ACalls tP zkH [t0,t10] H λt11 H=>aUn .not t11 λt12=>zag t12 (K (.int .i64 (-1)) H) (zae true 3 t4 H λt15=>zae true 2 t5 H λt16=>ACalls tP zkI [t0,t15,t16] H λt17 H=>zaE t17 0 λt18=>zaE t17 1 λt19=>aUn .not t19 λt21=>zag t21 (K (.int .i64 (-1)) H) (K t18 H))
def zTV(_:Nat):List Bool:=[]
noncomputable def zTW:=Tryz.f23.body.getD .skip
def zEs:=zav t1 H λt4 H=>zav t2 H λt5 H=>zae true 3 t4 H λt8=>ACalls tP zrT [t0,t8] H λt9 H=>aUn .not t9 λt10=>zag t10 (K (.int .i64 (-1)) H) (zae true 3 t4 H λt12=>zae true 2 t5 H λt13=>ACalls tP zip [t0,t12,t13] H λt14 H=>K t14 H)
def zYs(_:Nat):List Bool:=[]
noncomputable def zYt:=Tryz.f73.body.getD .skip
def zF4:=zav t1 H λt3 H=>zaq [.snil,.snil,.snil,.snil] [(0,1),(1,1),(2,1),(3,1)] [(0,t0)] λt6=>ACalls tP zq7 [t6] H λt7 H=>zad t7 true H (λK'=>K' t0 H) λt9 H=>zad t7 true H (λK'=>zae true 3 t3 H (K' · H)) λt10 H=>zad t7 true H (λK'=>ACalls tP zib [t9,t10,(.int .i64 0)] H K') λt11 H=>zam t7 t11 (.bool false) λt12=>K t12 H
def zpb:Nat→List Bool|13=>rl false [0,1,3,1,3,1,44,3,42]|_=>[]
noncomputable def zwz:=Tryz.f74.body.getD .skip
noncomputable def zYA:=Tryz.f74.results.toList
def zpc:=t0::ux 3 (t4::ux 3 (t8::ux 44 (t53::t54::t55::ux 42 [])))
def zYy:=zpb 13
noncomputable def zYw:=zar [1,0,1,0,1,1,1,1,1,0,1,1,0,1,0,0] zwz
def zYv:=zas tP zpb [1,0,1,0,1,1,1,1,1,0,1,1,0,1,0] zwz (zaB tP zYA K)
def zF6:=ALoop tP zYw (zYv K) (zpc t0 t4 t8 t53 t54 t55) H
def zwy:=zac .lss false t55 t54 λt56=>zag t56 (zak 2 t53 t55 λt57=>zae true 2 t57 H λt58=>zaz [(.int .i64 0),.snil] H λt10 H=>zan 2 t10 t58 H λH=>zae true 3 t4 H λt61=>zaf 0 t10 λt62=>zae false 1 t62 H λt63=>ACalls tP zra [t0,t61,t63] H λt64 H=>zaE t64 0 λt65=>zaE t64 1 λt66=>aUn .not t66 λt68=>zag t68 (zaF [(.int .i64 0),(.bool false)] (K · H)) (zaf 1 t10 λt72=>zae false 1 t72 H λt73=>ACalls tP zj7 [t0,t65,t73] H λt74 H=>zaE t74 0 λt75=>zaE t74 1 λt76=>zac .add false (.int .i64 1) t75 λt79=>zac .add false t8 t79 λt80=>aUn .not t76 λt82=>zad t82 false H (λK'=>K' t80 H) λt84 H=>zad t82 false H (λK'=>zac .gtr false t84 (.int .i64 6) (K' · H)) λt85 H=>zam t82 (.bool true) t85 λt86=>zag t86 (zaF [(.int .i64 0),(.bool false)] (K · H)) (zac .add false t55 (.int .i64 1) λt87=>Kb13 (zpc t0 t4 t80 t53 t54 t87) H))) (zaF [t8,(.bool true)] (K · H))
def zdS:=zav t1 H λt4 H=>zav t2 H λt5 H=>zaf 0 t4 λt14=>zae false 1 t14 H λt15=>zac .eql false t15 (.int .i64 6) λt17=>zag t17 (zaf 0 t5 λt18=>zae false 1 t18 H λt19=>zac .neq false t19 (.int .i64 0) λt20=>zag t20 (zaF [(.int .i64 0),(.bool false)] (K · H)) (zaf 2 t4 λt22=>zae false 1 t22 H λt23=>zaf 1 t5 λt24=>zae false 1 t24 H λt25=>ACalls tP zj7 [t0,t23,t25] H λt26 H=>zaE t26 0 λt27=>zaE t26 1 λt28=>zaF [t27,t28] (K · H))) (zac .eql false t15 (.int .i64 7) λt30=>zag t30 (apu H (zaf 0 t5) λt31=>apu H (zaj false 1 t31 H) λt32=>apu H (zaf 0 t5) λt33=>apu H (zaj false 1 t33 H) λt34=>apu H (zac .geq false t34 (.int .i64 0)) λt35=>apm H t35 λt36=>zad t36 true H (λK'=>zab H (λK''=>zaf 0 t5 (K'' · H)) (K' · H)) λt37 H=>zad t36 true H (λK'=>zab H (λK''=>zaj false 1 t37 H (K'' · H)) (K' · H)) λt38 H=>zad t36 true H (λK'=>zab H (λK''=>zac .leq false t38 (.int .i64 6) (K'' · H)) (K' · H)) λt39 H=>apu H (zam t36 t39 (.bool false)) λt40=>apm H t40 λt41=>zad t41 true H (λK'=>zab H (λK''=>zaf 1 t5 (K'' · H)) (K' · H)) λt42 H=>zad t41 true H (λK'=>zab H (λK''=>zaj false 1 t42 H (K'' · H)) (K' · H)) λt43 H=>zad t41 true H (λK'=>zab H (λK''=>zah 1 t43 (K'' · H)) (K' · H)) λt44 H=>zad t41 true H (λK'=>zab H (λK''=>zac .eql false t44 (.int .i64 0) (K'' · H)) (K' · H)) λt45 H=>apu H (zam t41 t45 (.bool false)) λt46=>apm H t32 λt6=>apm H t46 λt7=>zaF [t6,t7] (K · H)) (zac .eql false t15 (.int .i64 5) λt48=>zag t48 (zaf 0 t5 λt49=>zae false 1 t49 H λt50=>zac .neq false t50 (.int .i64 0) λt51=>zag t51 (zaF [(.int .i64 0),(.bool false)] (K · H)) (zaf 1 t5 λt52=>zae false 1 t52 H λt53=>zah 1 t53 λt54=>zF6 t0 t4 (.int .i64 0) t53 t54 (.int .i64 0) H K)) (apu H (zaf 0 t5) λt89=>apu H (zaj false 1 t89 H) λt90=>apu H (zac .eql false t90 (.int .i64 0)) λt91=>apm H t91 λt92=>zad t92 true H (λK'=>zab H (λK''=>zaf 1 t5 (K'' · H)) (K' · H)) λt93 H=>zad t92 true H (λK'=>zab H (λK''=>zaj false 1 t93 H (K'' · H)) (K' · H)) λt94 H=>zad t92 true H (λK'=>zab H (λK''=>zah 1 t94 (K'' · H)) (K' · H)) λt95 H=>zad t92 true H (λK'=>zab H (λK''=>zac .eql false t95 (.int .i64 0) (K'' · H)) (K' · H)) λt96 H=>apu H (zam t92 t96 (.bool false)) λt97=>apm H (.int .i64 0) λt6=>apm H t97 λt7=>zaF [t6,t7] (K · H))))
def zXd(_:Nat):List Bool:=[]
noncomputable def zXe:=Tryz.f53.body.getD .skip
def zFD:=zav t1 H λt3 H=>ACalls tP zrS [t0] H λt6 H=>zad t6 true H (λK'=>K' t0 H) λt8 H=>zad t6 true H (λK'=>zae true 3 t3 H (K' · H)) λt9 H=>zad t6 true H (λK'=>ACalls tP zkE [t8,t9,(.int .i64 0)] H K') λt10 H=>zam t6 t10 (.bool false) λt11=>K t11 H
def zoX:Nat→List Bool|15=>rl false [0,1,3,1,2,1,48,3,50]|_=>[]
noncomputable def zwl:=Tryz.f59.body.getD .skip
noncomputable def zXL:=Tryz.f59.results.toList
def zoY:=t0::ux 3 (t4::ux 2 (t7::ux 48 (t56::t57::t58::ux 50 [])))
def zXJ:=zoX 15
noncomputable def zXH:=zar [1,0,1,0,1,1,1,1,1,0,1,1,0,1,0,0] zwl
def zXG:=zas tP zoX [1,0,1,0,1,1,1,1,1,0,1,1,0,1,0] zwl (zaB tP zXL K)
def zFP:=ALoop tP zXH (zXG K) (zoY t0 t4 t7 t56 t57 t58) H
def zjj:=zac .lss false t58 t57 λt59=>zag t59 (zak 2 t56 t58 λt60=>zae true 2 t60 H λt61=>zaz [(.int .i64 0),.snil] H λt9 H=>zan 2 t9 t61 H λH=>zaf 0 t9 λt62=>zae false 1 t62 H λt63=>zac .lss false t63 (.int .i64 0) λt64=>zad t64 false H (λK'=>zaf 0 t9 (K' · H)) λt66 H=>zad t64 false H (λK'=>zae false 1 t66 H (K' · H)) λt67 H=>zad t64 false H (λK'=>zac .geq false t67 (.int .i64 8) (K' · H)) λt68 H=>zam t64 (.bool true) t68 λt69=>zag t69 (K (.int .i64 (-1)) H) (zae true 3 t4 H λt72=>zaf 0 t9 λt73=>zae false 1 t73 H λt74=>ACalls tP zj2 [t0,t72,t74] H λt75 H=>zaE t75 0 λt76=>zaE t75 1 λt77=>aUn .not t77 λt79=>zag t79 (K (.int .i64 (-1)) H) (zaf 1 t9 λt82=>zae false 1 t82 H λt83=>ACalls tP zj5 [t0,t76,t83] H λt84 H=>zac .lss false t84 (.int .i64 0) λt86=>zad t86 false H (λK'=>K' t7 H) λt88 H=>zad t86 false H (λK'=>zac .add false t88 (.int .i64 1) (K' · H)) λt89 H=>zad t86 false H (λK'=>K' t84 H) λt90 H=>zad t86 false H (λK'=>zac .add false t89 t90 (K' · H)) λt91 H=>zad t86 false H (λK'=>zac .gtr false t91 (.int .i64 6) (K' · H)) λt92 H=>zam t86 (.bool true) t92 λt93=>zag t93 (K (.int .i64 (-1)) H) (zac .add false (.int .i64 1) t84 λt96=>zac .add false t7 t96 λt97=>zac .add false t58 (.int .i64 1) λt98=>Kb15 (zoY t0 t4 t97 t56 t57 t98) H)))) (K t7 H)
def zdy:=zav t1 H λt4 H=>zav t2 H λt5 H=>zaf 0 t4 λt13=>zae false 1 t13 H λt14=>zac .eql false t14 (.int .i64 6) λt16=>zag t16 (zaf 0 t5 λt17=>zae false 1 t17 H λt18=>zac .neq false t18 (.int .i64 0) λt19=>zag t19 (K (.int .i64 (-1)) H) (zaf 2 t4 λt21=>zae false 1 t21 H λt22=>zaf 1 t5 λt23=>zae false 1 t23 H λt24=>ACalls tP zj5 [t0,t22,t24] H λt25 H=>K t25 H)) (zac .eql false t14 (.int .i64 7) λt27=>zag t27 (zaf 0 t5 λt28=>zae false 1 t28 H λt29=>zac .lss false t29 (.int .i64 0) λt30=>zad t30 false H (λK'=>zaf 0 t5 (K' · H)) λt32 H=>zad t30 false H (λK'=>zae false 1 t32 H (K' · H)) λt33 H=>zad t30 false H (λK'=>zac .gtr false t33 (.int .i64 6) (K' · H)) λt34 H=>zam t30 (.bool true) t34 λt35=>zad t35 false H (λK'=>zaf 1 t5 (K' · H)) λt37 H=>zad t35 false H (λK'=>zae false 1 t37 H (K' · H)) λt38 H=>zad t35 false H (λK'=>zah 1 t38 (K' · H)) λt39 H=>zad t35 false H (λK'=>zac .gtr false t39 (.int .i64 0) (K' · H)) λt40 H=>zam t35 (.bool true) t40 λt41=>zag t41 (K (.int .i64 (-1)) H) (zaf 0 t5 λt42=>zae false 1 t42 H λt43=>K t43 H)) (zac .eql false t14 (.int .i64 5) λt45=>zag t45 (zaf 0 t5 λt46=>zae false 1 t46 H λt47=>zac .neq false t47 (.int .i64 0) λt48=>zad t48 false H (λK'=>zaf 1 t5 (K' · H)) λt50 H=>zad t48 false H (λK'=>zae false 1 t50 H (K' · H)) λt51 H=>zad t48 false H (λK'=>zah 1 t51 (K' · H)) λt52 H=>zad t48 false H (λK'=>zac .gtr false t52 (.int .i64 6) (K' · H)) λt53 H=>zam t48 (.bool true) t53 λt54=>zag t54 (K (.int .i64 (-1)) H) (zaf 1 t5 λt55=>zae false 1 t55 H λt56=>zah 1 t56 λt57=>zFP t0 t4 (.int .i64 0) t56 t57 (.int .i64 0) H K)) (zaf 0 t5 λt100=>zae false 1 t100 H λt101=>zac .neq false t101 (.int .i64 0) λt102=>zad t102 false H (λK'=>zaf 1 t5 (K' · H)) λt104 H=>zad t102 false H (λK'=>zae false 1 t104 H (K' · H)) λt105 H=>zad t102 false H (λK'=>zah 1 t105 (K' · H)) λt106 H=>zad t102 false H (λK'=>zac .gtr false t106 (.int .i64 0) (K' · H)) λt107 H=>zam t102 (.bool true) t107 λt108=>zag t108 (K (.int .i64 (-1)) H) (K (.int .i64 0) H))))
variable {t0 t1 t2 t4 t5 t7 t8 t53 t54 t55 t56 t57 t58} {H} {K} {Kb5 Kb13 Kb15}
theorem yaR(h:HSc H→zq9 t0 H K):ACalls tP zr5 [t0] H K:=
 acb yaP Tryz.func11 yaQ h
theorem zVU:Lo1 (λt5=>zol t1 t2 t5) (λt5 H Kb5=>zvL t1 t2 t5 H K Kb5) t5 H (zFh t1 t2 t5 H K):=lq1 zok zVV
theorem zVW(h:HSc H→zFg t0 t1 H K):ACalls tP zkB [t0,t1] H K:=
 acb zok Tryz.func39 zvM h
theorem zV1(h:HSc H→zFi t0 t1 t2 H K):ACalls tP zgS [t0,t1,t2] H K:=
 acb zVZ Tryz.func40 zV0 h
theorem zTX(h:HSc H→zEs t0 t1 t2 H K):ACalls tP zrD [t0,t1,t2] H K:=
 acb zTV Tryz.func23 zTW h
theorem zYu(h:HSc H→zF4 t0 t1 H K):ACalls tP zkH [t0,t1] H K:=
 acb zYs Tryz.func73 zYt h
theorem zYx:Lo2 (λt8 t55=>zpc t0 t4 t8 t53 t54 t55) (λt8 t55 H Kb13=>zwy t0 t4 t8 t53 t54 t55 H K Kb13) t8 t55 H (zF6 t0 t4 t8 t53 t54 t55 H K):=lq2 zpb zYy
theorem zYz(h:HSc H→zdS t0 t1 t2 H K):ACalls tP zkI [t0,t1,t2] H K:=
 acb zpb Tryz.func74 zwz h
theorem zXf(h:HSc H→zFD t0 t1 H K):ACalls tP zrT [t0,t1] H K:=
 acb zXd Tryz.func53 zXe h
theorem zXI:Lo2 (λt7 t58=>zoY t0 t4 t7 t56 t57 t58) (λt7 t58 H Kb15=>zjj t0 t4 t7 t56 t57 t58 H K Kb15) t7 t58 H (zFP t0 t4 t7 t56 t57 t58 H K):=lq2 zoX zXJ
theorem zXK(h:HSc H→zdy t0 t1 t2 H K):ACalls tP zip [t0,t1,t2] H K:=
 acb zoX Tryz.func59 zwl h
end
section
variable (t0 t1 t2 t7 t8 t10 t11 t12 t13 t16 t17 t18 t19 t20 t26 t27 t28 t29 t30 t33 t34 t35:AV) (H:zaa) (K:Kt) (Kb5 Kb6 Kb7:Lt)
def zma:Nat→List Bool|5=>rl false [0,1,1,1,5,1,9,3,23]|_=>[]
noncomputable def ztv:=Tryz.f124.body.getD .skip
noncomputable def zNV:=Tryz.f124.results.toList
def zmb:=t0::ux 1 (t2::ux 5 (t8::ux 9 (t18::t19::t20::ux 23 [])))
def zNT:=zma 5
noncomputable def zNR:=zar [1,1,1,0,1,0,0] ztv
def zNQ:=zas tP zma [1,1,1,0,1,0] ztv (zaB tP zNV K)
def zCt:=ALoop tP zNR (zNQ K) (zmb t0 t2 t8 t18 t19 t20) H
def ztu:=zac .lss false t20 t19 λt21=>zag t21 (zak 3 t18 t20 λt23=>zae true 3 t23 H λt24=>zaz [(.int .i64 0),(.int .i64 0),.snil] H λt10 H=>zan 3 t10 t24 H λH=>apm H t0 λt26=>apu H (zaj true 3 t10 H) λt27=>apm H t2 λt28=>apm H t20 λt29=>apu H (zak 2 t28 t29) λt30=>apu H (zaj true 2 t30 H) λt31=>zaC H (λH K'=>ACalls tP zkI [t26,t27,t31] H K') λt32=>apm H t32 λt25=>apu H (zaE t25 0) λt33=>apu H (zaE t25 1) λt34=>apm H t33 λt11=>apm H t34 λt12=>aUn .not t12 λt36=>zag t36 (zaF [(.int .i64 0),(.bool false)] (K · H)) (zac .add false t8 t11 λt39=>zac .add false t20 (.int .i64 1) λt40=>Kb5 (zmb t0 t2 t39 t18 t19 t40) H)) (zac .leq false t8 (.int .i64 6) λt43=>zaF [t8,t43] (K · H))
def ztt:=zah 1 t1 λt14=>zah 1 t2 λt16=>zac .neq false t14 t16 λt17=>zag t17 (zaF [(.int .i64 0),(.bool false)] (K · H)) (zah 1 t1 λt19=>zCt t0 t2 (.int .i64 0) t1 t19 (.int .i64 0) H K)
def zmc:Nat→List Bool|6=>rl false [8,1,1,1,15,3,15]|_=>[]
noncomputable def ztx:=Tryz.f125.body.getD .skip
noncomputable def zN1:=Tryz.f125.results.toList
def zmd:=ux 8 (t8::ux 1 (t10::ux 15 (t26::t27::t28::ux 15 [])))
def zNZ:=zmc 6
noncomputable def zNX:=zar [1,1,1,1,0,1,0,0] ztx
def zNW:=zas tP zmc [1,1,1,1,0,1,0] ztx (zaB tP zN1 K)
def zmf:=ALoop tP zNX (zNW K) (zmd t8 t10 t26 t27 t28) H
def zCw(t8 t10 t26 t27 t28:AV)(H:zaa)(K:Kt)(Kb6:Lt):Prop:=zac .add false t28 (.int .i64 1) λt42=>Kb6 (zmd t8 t10 t26 t27 t42) H
def zme:=zCw t8 t10 t26 t27 t28 H K Kb6
def ztw:=zac .lss false t28 t27 λt29=>zag t29 (zak 1 t26 t28 λt31=>zae false 1 t31 H λt32=>aUn .not t32 λt34=>zag t34 (zak 3 t8 t28 λt38=>zae true 3 t38 H λt39=>zaw 3 [(.int .i64 0),(.int .i64 0),.snil] 1 [(0,t39)] λt40=>zax za9 3 40 t10 t40 H λt41 H=>zme t8 t41 t26 t27 t28 H K Kb6) (zme t8 t10 t26 t27 t28 H K Kb6)) (zaF [t10,(.bool true)] (K · H))
def zCv:=zav t1 H λt4 H=>zae true 3 t4 H λt15=>ACalls tP zkg [t0,t15,t2] H λt17 H=>zaE t17 0 λt18=>zaE t17 1 λt19=>aUn .not t19 λt21=>zag t21 (zaF [.snil,(.bool false)] (K · H)) (zaf 1 t4 λt23=>zae false 1 t23 H λt24=>ACalls tP zfQ [t0,t24,t2] H λt26 H=>zah 1 t26 λt27=>zmf t18 .snil t26 t27 (.int .i64 0) H K)
def zlC:Nat→List Bool|7=>rl false [8,1,4,1,19,3,12]|_=>[]
noncomputable def zs3:=Tryz.f102.body.getD .skip
noncomputable def zMk:=Tryz.f102.results.toList
def zlD:=ux 8 (t8::ux 4 (t13::ux 19 (t33::t34::t35::ux 12 [])))
def zMi:=zlC 7
noncomputable def zMg:=zar [1,1,1,1,1,0,1,0,0] zs3
def zMf:=zas tP zlC [1,1,1,1,1,0,1,0] zs3 (zaB tP zMk K)
def zlE:=ALoop tP zMg (zMf K) (zlD t8 t13 t33 t34 t35) H
def zs2:=zac .lss false t35 t34 λt36=>zag t36 (zak 1 t33 t35 λt37=>zae false 1 t37 H λt38=>zak 3 t8 t38 λt42=>zae true 3 t42 H λt43=>zaw 3 [(.int .i64 0),(.int .i64 0),.snil] 1 [(0,t43)] λt44=>zax za9 3 40 t13 t44 H λt45 H=>zac .add false t35 (.int .i64 1) λt46=>Kb7 (zlD t8 t45 t33 t34 t46) H) (zaF [t13,(.bool true)] (K · H))
def zBZ:=zav t1 H λt4 H=>zae true 3 t4 H λt18=>ACalls tP ziv [t0,t18,t2] H λt20 H=>zaE t20 0 λt21=>zaE t20 1 λt22=>aUn .not t22 λt24=>zag t24 (zaF [.snil,(.bool false)] (K · H)) (zae true 3 t4 H λt27=>ACalls tP zrn [t0,t27,t2] H λt29 H=>zaE t29 0 λt30=>zaE t29 1 λt31=>zaE t29 2 λt32=>zah 1 t30 λt34=>zlE t21 .snil t30 t34 (.int .i64 0) H K)
def zmK:Nat→List Bool|6=>rl false [11,2,15,3,16]|_=>[]
noncomputable def zt0:=Tryz.f149.body.getD .skip
noncomputable def zPN:=Tryz.f149.results.toList
def zmM:=ux 11 (t11::t12::ux 15 (t28::t29::t30::ux 16 []))
def zPL:=zmK 6
noncomputable def zPJ:=zar [1,1,1,0,1,0,0] zt0
def zPI:=zas tP zmK [1,1,1,0,1,0] zt0 (zaB tP zPN K)
def zmO:=ALoop tP zPJ (zPI K) (zmM t11 t12 t28 t29 t30) H
def zCW(t11 t12 t28 t29 t30:AV)(H:zaa)(K:Kt)(Kb6:Lt):Prop:=zac .add false t30 (.int .i64 1) λt44=>Kb6 (zmM t11 t12 t28 t29 t44) H
def zmN:=zCW t11 t12 t28 t29 t30 H K Kb6
def zmL:=zac .lss false t30 t29 λt31=>zag t31 (zak 1 t28 t30 λt33=>zae false 1 t33 H λt34=>zag t34 (zaw 1 [(.int .i64 0)] 1 [(0,t30)] λt38=>zax zcZ 1 8 t12 t38 H λt39 H=>zmN t11 t39 t28 t29 t30 H K Kb6) (zaw 1 [(.int .i64 0)] 1 [(0,t30)] λt42=>zax zcZ 1 8 t11 t42 H λt43 H=>zmN t43 t12 t28 t29 t30 H K Kb6)) (zaF [t11,t12,(.bool true)] (K · H))
def zCV:=zav t1 H λt4 H=>zae true 3 t4 H λt17=>ACalls tP ziv [t0,t17,t2] H λt19 H=>zaE t19 0 λt20=>zaE t19 1 λt21=>aUn .not t21 λt23=>zag t23 (zaF [.snil,.snil,(.bool false)] (K · H)) (zaf 1 t4 λt25=>zae false 1 t25 H λt26=>ACalls tP zgR [t0,t26,t2] H λt28 H=>zah 1 t28 λt29=>zmO .snil .snil t28 t29 (.int .i64 0) H K)
def zlZ:Nat→List Bool|5=>rl false [0,3,4,1,8,2,25]|_=>[]
noncomputable def zth:=Tryz.f111.body.getD .skip
noncomputable def zM9:=Tryz.f111.results.toList
def zl0:=t0::t1::t2::ux 4 (t7::ux 8 (t16::t17::ux 25 []))
def zM7:=zlZ 5
noncomputable def zM5:=zar [1,1,1,0,1,0,0] zth
def zM4:=zas tP zlZ [1,1,1,0,1,0] zth (zaB tP zM9 K)
def zCe:=ALoop tP zM5 (zM4 K) (zl0 t0 t1 t2 t7 t16 t17) H
def ztg:=zac .lss false t17 t16 λt18=>zag t18 (apm H t0 λt20=>apm H t1 λt21=>apm H t17 λt22=>apu H (zak 3 t21 t22) λt23=>apu H (zaj true 3 t23 H) λt24=>apm H t2 λt25=>apm H t17 λt26=>apu H (zak 2 t25 t26) λt27=>apu H (zaj true 2 t27 H) λt28=>zaC H (λH K'=>ACalls tP zip [t20,t24,t28] H K') λt29=>apm H t29 λt9=>zac .lss false t9 (.int .i64 0) λt31=>zad t31 false H (λK'=>K' t7 H) λt33 H=>zad t31 false H (λK'=>K' t9 H) λt34 H=>zad t31 false H (λK'=>zac .add false t33 t34 (K' · H)) λt35 H=>zad t31 false H (λK'=>zac .gtr false t35 (.int .i64 6) (K' · H)) λt36 H=>zam t31 (.bool true) t36 λt37=>zag t37 (K (.int .i64 (-1)) H) (zac .add false t7 t9 λt40=>zac .add false t17 (.int .i64 1) λt41=>Kb5 (zl0 t0 t1 t2 t40 t16 t41) H)) (K t7 H)
def ztf:=zah 1 t1 λt11=>zah 1 t2 λt13=>zac .neq false t11 t13 λt14=>zag t14 (K (.int .i64 (-1)) H) (zah 1 t1 λt16=>zCe t0 t1 t2 (.int .i64 0) t16 (.int .i64 0) H K)
variable {t0 t1 t2 t7 t8 t10 t11 t12 t13 t16 t17 t18 t19 t20 t26 t27 t28 t29 t30 t33 t34 t35} {H} {K} {Kb5 Kb6 Kb7}
theorem zNS:Lo2 (λt8 t20=>zmb t0 t2 t8 t18 t19 t20) (λt8 t20 H Kb5=>ztu t0 t2 t8 t18 t19 t20 H K Kb5) t8 t20 H (zCt t0 t2 t8 t18 t19 t20 H K):=lq2 zma zNT
theorem zNU(h:HSc H→ztt t0 t1 t2 H K):ACalls tP zj7 [t0,t1,t2] H K:=
 acb zma Tryz.func124 ztv h
theorem zNY:Lo2 (λt10 t28=>zmd t8 t10 t26 t27 t28) (λt10 t28 H Kb6=>ztw t8 t10 t26 t27 t28 H K Kb6) t10 t28 H (zmf t8 t10 t26 t27 t28 H K):=lq2 zmc zNZ
theorem zN0(h:HSc H→zCv t0 t1 t2 H K):ACalls tP zra [t0,t1,t2] H K:=
 acb zmc Tryz.func125 ztx h
theorem zMh:Lo2 (λt13 t35=>zlD t8 t13 t33 t34 t35) (λt13 t35 H Kb7=>zs2 t8 t13 t33 t34 t35 H K Kb7) t13 t35 H (zlE t8 t13 t33 t34 t35 H K):=lq2 zlC zMi
theorem zMj(h:HSc H→zBZ t0 t1 t2 H K):ACalls tP zj2 [t0,t1,t2] H K:=
 acb zlC Tryz.func102 zs3 h
theorem zPK:Lo3 (λt11 t12 t30=>zmM t11 t12 t28 t29 t30) (λt11 t12 t30 H Kb6=>zmL t11 t12 t28 t29 t30 H K Kb6) t11 t12 t30 H (zmO t11 t12 t28 t29 t30 H K):=lq3 zmK zPL
theorem zPM(h:HSc H→zCV t0 t1 t2 H K):ACalls tP zrn [t0,t1,t2] H K:=
 acb zmK Tryz.func149 zt0 h
theorem zM6:Lo2 (λt7 t17=>zl0 t0 t1 t2 t7 t16 t17) (λt7 t17 H Kb5=>ztg t0 t1 t2 t7 t16 t17 H K Kb5) t7 t17 H (zCe t0 t1 t2 t7 t16 t17 H K):=lq2 zlZ zM7
theorem zM8(h:HSc H→ztf t0 t1 t2 H K):ACalls tP zj5 [t0,t1,t2] H K:=
 acb zlZ Tryz.func111 zth h
end
section
variable (t0 t1 t2 t7 t40 t41 t42:AV) (H:zaa) (K:Kt) (Kb5:Lt)
def znE:Nat→List Bool|5=>rl false [0,2,5,1,32,3,16]|_=>[]
noncomputable def zuR:=Tryz.f196.body.getD .skip
noncomputable def zSS:=Tryz.f196.results.toList
def znF:=t0::t1::ux 5 (t7::ux 32 (t40::t41::t42::ux 16 []))
def zSQ:=znE 5
noncomputable def zSO:=zar [1,1,1,0,1,0,0] zuR
def zSN:=zas tP znE [1,1,1,0,1,0] zuR (zaB tP zSS K)
def znG:=ALoop tP zSO (zSN K) (znF t0 t1 t7 t40 t41 t42) H
def zuQ:=zac .lss false t42 t41 λt43=>zag t43 (zak 3 t40 t42 λt44=>zae true 3 t44 H λt45=>zaz [(.int .i64 0),(.int .i64 0),.snil] H λt9 H=>zan 3 t9 t45 H λH=>apm H t7 λt46=>apu H (zaj true 3 t9 H) λt47=>apm H t1 λt48=>apm H t0 λt49=>apm H t1 λt50=>apu H (zak 3 t49 t50) λt51=>apu H (zaf 1 t51) λt52=>apu H (zaj false 1 t52 H) λt53=>zaC H (λH K'=>ACalls tP zkQ [t47,t48,t53] H K') λt54=>apu H (zaw 1 [(.bool false)] 1 [(0,t54)]) λt55=>zax zgH 1 1 t46 t55 H λt56 H=>apm H t56 λt7=>zac .add false t42 (.int .i64 1) λt57=>Kb5 (znF t0 t1 t7 t40 t41 t57) H) (K t7 H)
def zD9:=zac .lss false t1 (.int .i64 0) λt11=>zad t11 false H (λK'=>K' t1 H) λt13 H=>zad t11 false H (λK'=>K' t0 H) λt14 H=>zad t11 false H (λK'=>zah 1 t14 (K' · H)) λt15 H=>zad t11 false H (λK'=>zac .geq false t13 t15 (K' · H)) λt16 H=>zam t11 (.bool true) t16 λt17=>zad t17 false H (λK'=>K' t2 H) λt19 H=>zad t17 false H (λK'=>zac .lss false t19 (.int .i64 0) (K' · H)) λt20 H=>zam t17 (.bool true) t20 λt21=>zad t21 false H (λK'=>K' t2 H) λt23 H=>zad t21 false H (λK'=>K' t0 H) λt24 H=>zad t21 false H (λK'=>K' t1 H) λt25 H=>zad t21 false H (λK'=>zak 3 t24 t25 (K' · H)) λt26 H=>zad t21 false H (λK'=>zaf 2 t26 (K' · H)) λt27 H=>zad t21 false H (λK'=>zae false 1 t27 H (K' · H)) λt28 H=>zad t21 false H (λK'=>zah 1 t28 (K' · H)) λt29 H=>zad t21 false H (λK'=>zac .geq false t23 t29 (K' · H)) λt30 H=>zam t21 (.bool true) t30 λt31=>zag t31 (K .snil H) (zak 3 t0 t1 λt34=>zaf 2 t34 λt35=>zae false 1 t35 H λt36=>zak 2 t36 t2 λt38=>zaf 1 t38 λt39=>zae false 1 t39 H λt40=>zah 1 t40 λt41=>znG t0 t1 .snil t40 t41 (.int .i64 0) H K)
variable {t0 t1 t2 t7 t40 t41 t42} {H} {K} {Kb5}
theorem zSP:Lo2 (λt7 t42=>znF t0 t1 t7 t40 t41 t42) (λt7 t42 H Kb5=>zuQ t0 t1 t7 t40 t41 t42 H K Kb5) t7 t42 H (znG t0 t1 t7 t40 t41 t42 H K):=lq2 znE zSQ
theorem zSR(h:HSc H→zD9 t0 t1 t2 H K):ACalls tP zgR [t0,t1,t2] H K:=
 acb znE Tryz.func196 zuR h
end
def zb2(l:List Bool):List (List AV):=l.map λb=>[.bool b]
theorem zEa(d7:List Dat)(d:Nat)(c:Nat)(hd:d<d7.length)(hc:c<(d7[d]).cons.length)(hl:d7.length≤1000000)(fV:(d7[d]).cons.length≤1000000)(iq:((d7[d]).cons[c]).args.length≤1000000)(hb:∀ x∈((d7[d]).cons[c]).args,x.nodes≤1000000)(H:zaa)(K:Kt)(hK:K (.sl (zb2 (zcI d d7[d] (d7[d]).cons[c])) .none) H):
  ACalls tP zgR [.sl (d7.map Dat.cs) .none,.int .i64 d,.int .i64 c] H K:=by
 refine ACalls.out (zSR λhs=>?_);have e1:(d7.map Dat.cs)[d]?=some (d7[d]).cs:=by simp[hd]
 have e2:((d7[d]).cons.map Con.cs)[c]?=some ((d7[d]).cons[c]).cs:=by simp[hc]
 generalize hD:d7[d]=D at *;generalize hA:D.cons[c]=C at *;have h1:¬(d:Int)<0:=by omega
 have h2:¬(d7.length:Int)≤d:=by omega
 have h3:¬(c:Int)<0:=by omega
 have h4:¬(D.cons.length:Int)≤c:=by omega
 simp[zD9,h1,h2,h3,h4,e1,e2,Dat.cs,Con.cs,hd,hD,hc,hA];unfold znG;refine ALoop.own 7 zgH 1 rfl ?_;show znG (.sl (d7.map Dat.cs) .none) (.int .i64 d) (.sl [] (.own H.length)) (.sl (VT.css C.args) .none) (.int .i64 C.args.length) (.int .i64 0) (H++[.perm zgH 1 0]) (Out H.length K);have eH:∀n,HSc (H++[.perm zgH 1 n]):=λn=>hs.append rfl;refine zSP (Inv:=λq t7 t42 H'=>∃i:Nat,i≤C.args.length∧q=C.args.length-i∧t42=.int .i64 i∧t7=.sl (zb2 ((zcI d D C).take i)) (.own H.length)∧H'=H++[.perm zgH 1 i]) C.args.length ?_ ?_
 ·intro _;exact⟨0,by omega,by omega,rfl,rfl,rfl⟩
 ·rintro q t7 t42 H' ⟨i,hi,rfl,rfl,rfl,rfl⟩ hsc ek eK Kb eq;have jT:(zcI d D C).length=C.args.length:=by simp[zcI]
  by_cases ei:i<C.args.length
  ·obtain⟨x,y,z,ew,hx,hy,hz⟩:=zbk C.args[i];have lk:=hb _ (af ei);simp[zuQ,ei,ew,aa,e1,hd,hD,Dat.cs];rw[←ew];refine⟨⟨hx,hy,hz⟩,?_⟩;refine zaD (.bool (zcd d D.vars C.args[i])) (λJ=>zxm _ _ _ lk _ _ ⟨rfl,rfl⟩) ?_;simp[zaw,zaR,plain,AV.pd,zax,zaM,zaK,zb2];have gp:min i (zcI d D C).length=i:=by omega
   rw[gp];refine⟨rfl,⟨by omega,by omega⟩,?_⟩;rw[zay (by omega) (by omega)];have eL:List.take i (List.map (λb=>[AV.bool b]) (zcI d D C))++[[AV.bool (zcd (↑d) D.vars C.args[i])]]=zb2 ((zcI d D C).take (i+1)):=by rw[ae (by omega)];simp[zb2,zcI]
   rw[eL];refine eq _ _ ⟨C.args.length-(i+1),by omega,Back.at (J:=[.cells C.args[i].cs]) (H2:=H++[.perm zgH 1 (i+1)]) (by simp) (by simp) (eH _) ?_ ⟨_,_,rfl,i+1,by omega,rfl,by simp,rfl,rfl⟩⟩;simp[znF,AV.sc,AV.scV,AV.scA,AV.scB]
  ·obtain rfl:i=C.args.length:=by omega
   rw[ai (by omega)];simp[zuQ];exact Out.at rfl (ac _) hs (.atom (.sl _ _)) rfl (by simp[zb2,AV.scV,AV.scA,AV.scB]) hK
end Go.Proofs.YtdmamdnkcefmmaaGreatDoor
