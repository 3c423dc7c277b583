import Derived.Test.YtdmamdnkcefmmaaGreatDoorKP1
set_option linter.unusedSimpArgs false
set_option linter.unusedVariables false
set_option linter.unusedSectionVars false
set_option linter.defProp false
set_option maxRecDepth 100000
namespace Go.Proofs.YtdmamdnkcefmmaaGreatDoor
section
mutual
def uX(eq:List Dat):VT→VT→Bool
 |.mk vk vn vks,.mk k n al=>
  if k=1 then vk == 3 && decide (-1099511627776≤vn) && decide (vn≤1099511627776) && vks.length == 0
  else if k=2 then vk == 2 && (vn == 0 || vn == 1) && vks.length == 0
  else if k=3 then vk == 1 && vn == 0 && vks.length == 0
  else if k=6 then vk == 4 && vn == 0 && xF eq vks al
  else if k=5 then vk == 5 && decide (0≤vn) && decide (vn<8) && BL eq vks (wa eq (.mk k n al) vn)
  else if k=7 then vk == 6 && vn == 0 && decide (vks.length≤4096) && y0 eq vks (al.getD 0 (.mk 0 0 []))
  else if k=8 then vk == 7 && vn == 0 && xF eq vks al
  else vk == 8 && decide (0≤vn) && decide (vn<64) && vks.length == 0
def BL(eq:List Dat):List VT→Option (List VT)→Bool
 |_,none=>false
 |[],some ts=>ts.isEmpty
 | v::vs,some ts=>match ts with
  |[]=>false
  |t::ts=>uX eq v t && xF eq vs ts
def xF(eq:List Dat):List VT→List VT→Bool
 |[],ts=>ts.isEmpty
 | v::vs,ts=>match ts with
  |[]=>false
  |t::ts=>uX eq v t && xF eq vs ts
def y0(eq:List Dat):List VT→VT→Bool
 |[],_=>true
 |v::vs,t=>uX eq v t && y0 eq vs t
end
def zL5(eq:List Dat)(vs ts:List VT):BL eq vs (some ts)=xF eq vs ts:=by
 cases vs with
 |nil=>cases ts <;> rw[BL,xF]
 |cons v vs=>cases ts <;> simp only[BL,xF]
def zL4(eq:List Dat)(vs:List VT):BL eq vs none=false:=by cases vs <;> rw[BL]
def zOk{eq:List Dat}{m:Nat}{vars k n:Int}{len:Nat}(h:vE (eq.take m) vars k n len=true)(h4:k≠4):vE eq 0 k n len=true:=by
 unfold vE at h ⊢;have pz:(k == 4)=false:=by simpa using h4
 rw[pz]at h ⊢;by_cases h5:k=5
 ·subst h5;simp only[LD]at h;by_cases hm:n.toNat<m
  ·simpa[hm]using h
  ·simp[hm]at h
 ·have:(k == 5)=false:=by simpa using h5
  simpa[this]using h
theorem zDB(ks:List VT):∀ l:List VT,(uP ks l).length=l.length
 |[]=>rfl
 |t::ts=>by simp[uP,zDB ks ts]
mutual
theorem zEe{eq:List Dat}{m:Nat}{vars:Int}{ks:List VT}(hk:∀ x∈ks,vg eq 0 x=true)(hl:(ks.length:Int)=vars):∀ a:VT,vg (eq.take m) vars a=true→vg eq 0 (subst ks a)=true
 |.mk k n al=>by
  intro h;rw[vg,ap]at h;unfold subst;by_cases h4:k=4
  ·have h1:=h.1;subst h4;simp[vE]at h1;rw[aN ⟨rfl,by omega,by omega⟩];have hn:n.toNat<ks.length:=by omega
   rw[aw hn];exact hk _ (ae hn)
  ·rw[aG (λh=>h4 h.1),vg,ap,zDB];exact⟨zOk h.1 h4,zEb hk hl al h.2⟩
theorem zEb{eq:List Dat}{m:Nat}{vars:Int}{ks:List VT}(hk:∀ x∈ks,vg eq 0 x=true)(hl:(ks.length:Int)=vars):∀ l:List VT,vC (eq.take m) vars l=true→vC eq 0 (uP ks l)=true
 |[]=>by intro _;simp[uP,vC]
 |t::ts=>by intro h;rw[vC,ap]at h;rw[uP,vC,ap];exact⟨zEe hk hl t h.1,zEb hk hl ts h.2⟩
end
theorem zD9{eq:List Dat}{vars:Int}:∀ {l:List VT},vC eq vars l=true→∀ x∈l,vg eq vars x=true
 |[],_=>by simp
 |t::ts,h=>by
  rw[vC,ap]at h;intro x hx;rcases aT.1 hx with rfl|hx
  ·exact h.1
  ·exact zD9 h.2 x hx
def zEc{eq:List Dat}{vars:Int}{k n:Int}{ks:List VT}(h:vg eq vars (.mk k n ks)=true):∀x∈ks,vg eq vars x=true:=by rw[vg,ap]at h;exact zD9 h.2
def Si{eq:List Dat}{vars:Int}{k n:Int}{ks:List VT}(h:uW eq vars (.mk k n ks)=true):∀x∈ks,uW eq vars x=true:=by rw[uW,ap,bc]at h;intro x hx;rw[uW,ap,bc];exact⟨aC (Fg x hx) h.1,zEc h.2 x hx⟩
def zLh{eq:List Dat}(hD:vM eq=true){d c:Nat}(hd:d<eq.length)(hc:c<eq[d].cons.length):∀x∈(eq[d].cons[c]).args,vg (eq.take (d+1)) eq[d].vars x=true:=by simp only[vM,ap,Sh,aX]at hD;have h1:=hD.1.1.2 d hd;simp only[xR,ap]at h1;have h2:=aA.1 h1.2 _ (ae hc);simp only[yP,ap]at h2;intro x hx;have h3:=aA.1 h2.2.2 x hx;simp only[zw,uW,ap]at h3;exact h3.1.2
def Fs{eq:List Dat}{k n:Int}{ks:List VT}{c:Int}{l:List VT}(h:wa eq (.mk k n ks) c=some l):
  k=5∧0≤n∧0≤c∧∃(hn:n.toNat<eq.length) (hc:c.toNat<(eq[n.toNat]).cons.length),(ks.length:Int)=(eq[n.toNat]).vars∧l=((eq[n.toNat]).cons[c.toNat]).args.map (subst ks)∧∀x∈l,x.ZO≤200:=by
 rw[yv]at h;split at h
 ·rename_i h5;split at h
  ·rename_i D hD;obtain⟨hn,rfl⟩:=ac.1 hD;split at h
   ·rename_i hv;split at h
    ·rename_i C hC;obtain⟨hc,rfl⟩:=ac.1 hC;split at h
     ·rename_i ha;simp only[cK]at h;subst h;exact⟨h5.1,h5.2.1,h5.2.2,hn,hc,hv,rfl,λx hx=>c6 (aA.1 ha x hx)⟩
     ·cases h
    ·cases h
   ·cases h
  ·cases h
 ·cases h
def Sj{eq:List Dat}(hD:vM eq=true){t:VT}(ht:vg eq 0 t=true){c:Int}{l:List VT}(h:wa eq t c=some l):∀x∈l,uW eq 0 x=true:=by obtain⟨k,n,ks⟩:=t;obtain⟨rfl,h0,kE,hn,hc,hv,rfl,fP⟩:=Fs h;intro x hx;rw[uW,ap,bc];refine⟨fP x hx,?_⟩;obtain⟨a,ha,rfl⟩:=aF.1 hx;exact zEe (zEc ht) hv a (zLh hD hn hc a ha)
theorem zDh{ks:List VT}:∀ (l:List VT) (i:Nat),xP l i=true→i+l.length=ks.length→uP ks l=ks.drop i
 |[],i,_,hl=>by simp at hl;subst hl;simp[uP]
 |x::l,i,h,hl=>by
  rw[xP,ap]at h;obtain⟨k,n,al⟩:=x;simp only[Fm,ap,bt]at h;obtain⟨⟨⟨rfl,rfl⟩,h3⟩,h4⟩:=h;simp at hl;have hi:i<ks.length:=by omega
  rw[ai hi,uP,zDh l (i+1) h4 (by omega)];rw[subst,aN ⟨rfl,by omega,by omega⟩];simp[hi]
def zOc{ks:List VT}{d vars:Int}{a:VT}(h:wM d vars a=true)(hl:(ks.length:Int)=vars):subst ks a=.mk 5 d ks:=by obtain⟨k,n,al⟩:=a;simp only[wM,ap,bt]at h;obtain⟨⟨⟨rfl,rfl⟩,h3⟩,h4⟩:=h;rw[subst,aG (λh=>by have:=h.1;omega)];have:=zDh (ks:=ks) al 0 h4 (by omega);rw[this,bA]
def xt(d:Nat)(D:Dat)(C:Con):List Bool:=C.args.map (wM d D.vars)
def y4(eq:List Dat)(d:Nat):List (List Bool):=match eq[d]? with
 |some D=>D.cons.map (xt d D)
 |none=>[]
mutual
def BM(rs:List (List Bool)):VT→List VT
 |.mk k n ks=>.mk k n ks::zx rs ks (rs.getD n.toNat [])
def zx(rs:List (List Bool)):List VT→List Bool→List VT
 |[],_=>[]
 | v::vs,bs=>match bs with
  |[]=>[]
  |b::bs=>(if b=true then BM rs v else [])++zx rs vs bs
end
mutual
theorem zCJ(rs:List (List Bool)):∀ v:VT,(BM rs v).length≤v.ZO
 |.mk k n ks=>by have:=zCI rs ks (rs.getD n.toNat []);simp only[BM,VT.ZO,List.length_cons];omega
theorem zCI(rs:List (List Bool)):∀ (vs:List VT) (bs:List Bool),(zx rs vs bs).length≤VT.ZA vs
 |[],_=>by simp[zx,VT.ZA]
 |v::vs,[]=>by simp[zx]
 |v::vs,b::bs=>by
  have h1:=zCJ rs v;have h2:=zCI rs vs bs;simp only[zx,VT.ZA,aH];split
  ·omega
  ·simp;omega
end
def pick:List VT→List Bool→List VT
 |x::l,b::bs=>if b then pick l bs else x::pick l bs
 |_,_=>[]
def vt(eq:List Dat)(t:VT)(c:Int):Option (List VT):=(wa eq t c).map λl=>pick l ((y4 eq t.num.toNat).getD c.toNat [])
mutual
def xe(eq:List Dat):IT→VT→Int × Bool
 |.mk n ks,t=>
  if t.kind=6 then (if n=0 then (if t.kids.length=ks.length then wB eq ks t.kids 0 else (0,false)) else (0,false))
  else if t.kind=7 then (n,decide (0≤n) && decide (n≤6) && decide (ks.length=0))
  else if t.kind=5 then (if n=0 then yg eq ks t 0 else (0,false))
  else (0,decide (n=0) && decide (ks.length=0))
def wB(eq:List Dat):List IT→List VT→Int→Int × Bool
 |[],_,a=>(a,decide (a≤6))
 | v::vs,ts,a=>match ts with
  |t::ts=>if (xe eq v t).2 then wB eq vs ts (a+(xe eq v t).1) else (0,false)
  |[]=>(0,false)
def yg(eq:List Dat):List IT→VT→Int→Int × Bool
 |[],_,a=>(a,true)
 | .mk c ks::es,t,a=>match vt eq t c with
  |none=>(0,false)
  | some ps=>if ps.length=ks.length then
    (if (wB eq ks ps 0).2 && decide (a+(1+(wB eq ks ps 0).1)≤6) then yg eq es t (a+(1+(wB eq ks ps 0).1)) else (0,false))
   else (0,false)
end
mutual
def rdV(eq:List Dat):IT→VT→Int
 |.mk n ks,t=>
  if t.kind=6 then (if n=0 then (if t.kids.length=ks.length then rdA eq ks t.kids 0 else -1) else -1)
  else if t.kind=7 then (if 0≤n∧n≤6∧ks.length=0 then n else -1)
  else if t.kind=5 then (if n=0∧ks.length≤6 then rdE eq ks t 0 else -1)
  else (if n=0∧ks.length=0 then 0 else -1)
def rdA(eq:List Dat):List IT→List VT→Int→Int
 |[],_,a=>a
 | v::vs,ts,a=>match ts with
  |t::ts=>if rdV eq v t<0∨a+rdV eq v t>6 then -1 else rdA eq vs ts (a+rdV eq v t)
  |[]=>-1
def rdE(eq:List Dat):List IT→VT→Int→Int
 |[],_,a=>a
 | .mk c ks::es,t,a=>if c<0∨8≤c then -1 else match vt eq t c with
  |none=>-1
  | some ps=>if ps.length=ks.length then
    (if rdA eq ks ps 0<0∨a+1+rdA eq ks ps 0>6 then -1 else rdE eq es t (a+(1+rdA eq ks ps 0)))
   else -1
end
def zNa{eq:List Dat}(h8:∀D∈eq,D.cons.length≤8){t:VT}{c:Int}{ps:List VT}(h:vt eq t c=some ps):0≤c∧c<8:=by
 unfold vt at h;cases hf:wa eq t c with
 |none=>rw[hf]at h;cases h
 |some l=>obtain⟨_,k1,k2,hn,hc,_⟩:=Fs hf;have:=h8 _ (ae hn);omega
def agr(m:Int×Bool)(r:Int):Prop:=(m.2=true→m.1=r∧0≤r∧r≤6)∧(m.2=false→r=-1)
def z6:agr (0,false) (-1):=⟨λh=>(by cases h),λ_=>rfl⟩
mutual
theorem Ft{eq:List Dat}(h8:∀ D∈eq,D.cons.length≤8):∀ (v:IT) (t:VT),agr (xe eq v t) (rdV eq v t)
 |.mk n ks,t=>by
  have hA:=(LE h8 ks t.kids 0 (by omega)).1 (by omega);have hE:=zz2 h8 ks t 0 (by omega) (by omega);unfold xe rdV;split
  ·split
   ·split
    ·exact hA
    ·exact z6
   ·exact z6
  ·split
   ·refine⟨λh=>?_,λh=>?_⟩
    ·simp at h;rw[aN ⟨h.1.1,h.1.2,by simpa using h.2⟩];exact⟨rfl,h.1.1,h.1.2⟩
    ·rw[aG];rintro⟨h1,h2,h3⟩;simp[h1,h2,h3]at h
   ·split
    ·by_cases hn:n=0
     ·simp only[hn,br,fc];by_cases hl:ks.length≤6
      ·rw[aN hl];exact hE.1
      ·rw[aG hl];refine⟨λh=>?_,λ_=>rfl⟩;have:=hE.2 h;omega
     ·simp only[hn,ba,false_and];exact z6
    ·refine⟨λh=>?_,λh=>?_⟩
     ·simp at h;simp[h]
     ·rw[aG];rintro⟨h1,h2⟩;simp[h1,h2]at h
theorem LE{eq:List Dat}(h8:∀ D∈eq,D.cons.length≤8):∀ (vs:List IT) (ts:List VT) (a:Int),0≤a→(a≤6→agr (wB eq vs ts a) (rdA eq vs ts a))∧(6<a→(wB eq vs ts a).2=false)
 |[],ts,a,ha=>by simp only[wB,rdA];exact⟨λh=>⟨λ_=>⟨rfl,ha,h⟩,λh2=>by simp at h2;omega⟩,λh=>by simp;omega⟩
 |v::vs,ts,a,ha=>by
  match ts with
  |[]=>simp only[wB,rdA];exact⟨λ_=>z6,λ_=>by trivial⟩
  |t::ts=>
   obtain⟨g1,g2⟩:=Ft h8 v t;simp only[wB,rdA];cases hb:(xe eq v t).2 with
   |false=>rw[g2 hb];simp;exactλ_=>z6
   |true=>
    obtain⟨e1,e2,e3⟩:=g1 hb;rw[e1];have hn:=LE h8 vs ts (a+rdV eq v t) (by omega);simp only[br];refine⟨λh=>?_,λh=>hn.2 (by omega)⟩;by_cases h6:a+rdV eq v t>6
    ·rw[aN (.inr h6)];exact⟨λh=>(by rw[hn.2 (by omega)]at h;cases h),λ_=>rfl⟩
    ·rw[aG (by omega)];exact hn.1 (by omega)
theorem zz2{eq:List Dat}(h8:∀ D∈eq,D.cons.length≤8):∀ (es:List IT) (t:VT) (a:Int),0≤a→a≤6→agr (yg eq es t a) (rdE eq es t a)∧((yg eq es t a).2=true→a+es.length≤6)
 |[],t,a,h0,h6=>by simp only[yg,rdE];exact⟨⟨λ_=>⟨rfl,h0,h6⟩,λh=>by cases h⟩,λ_=>by simpa using h6⟩
 |.mk c ks::es,t,a,h0,h6=>by
  simp only[yg,rdE];cases hp:vt eq t c with
  |none=>simp only[ite_self];exact⟨z6,λh=>by cases h⟩
  |some ps=>
   obtain⟨c0,c8⟩:=zNa h8 hp;rw[aG (show ¬(c<0∨8≤c) by omega)];simp only;by_cases hl:ps.length=ks.length
   ·simp only[hl,br];obtain⟨g1,g2⟩:=(LE h8 ks ps 0 (by omega)).1 (by omega);cases hb:(wB eq ks ps 0).2 with
    |false=>rw[g2 hb];simp;exact z6
    |true=>
     obtain⟨e1,e2,e3⟩:=g1 hb;rw[e1];by_cases hh:a+(1+rdA eq ks ps 0)≤6
     ·have hn:=zz2 h8 es t (a+(1+rdA eq ks ps 0)) (by omega) hh;rw[aG (show ¬(rdA eq ks ps 0<0∨a+1+rdA eq ks ps 0>6) by omega)];simp only[hh,dT,eJ,br];refine⟨hn.1,λh=>?_⟩;have:=hn.2 h;simp only[List.length_cons];omega
     ·rw[aN (show rdA eq ks ps 0<0∨a+1+rdA eq ks ps 0>6 by omega)];simp[hh];exact z6
   ·simp only[hl,ba];exact⟨z6,λh=>by cases h⟩
end
variable {eq:List Dat}
theorem Dr{h8:∀D∈eq,D.cons.length≤8}(v:IT)(t:VT):-1≤rdV eq v t∧rdV eq v t≤6:=by
 obtain⟨h1,h2⟩:=Ft h8 v t;cases hb:(xe eq v t).2 with
 |true=>have:=h1 hb;omega
 |false=>have:=h2 hb;omega
def ad(a r:Int):Int:=if r<0 then -1 else if a+r>6 then -1 else a+r
theorem BN{a r:Int}(h:0≤r)(h2:a+r≤6):ad a r=a+r:=by unfold ad;rw[aG (by omega),aG (by omega)]
theorem yy{a r:Int}(h:r<0∨a+r>6):ad a r=-1:=by
 unfold ad;by_cases h1:r<0
 ·rw[aN h1]
 ·rw[aG h1,aN (by omega)]
theorem zKv{a b r:Int}(hb:0≤b)(ha:0≤a):ad (a+b) r=ad a (ad b r):=by
 by_cases h1:r<0∨b+r>6
 ·rw[yy (a:=b) h1,yy (a:=a) (.inl (by omega)),yy (by omega)]
 ·rw[BN (a:=b) (by omega) (by omega)];by_cases h2:a+(b+r)>6
  ·rw[yy (.inr h2),yy (.inr (by omega))]
  ·rw[BN (by omega) (by omega),BN (by omega) (by omega),Int.add_assoc]
theorem zCT(v:IT)(vs:List IT)(t:VT)(ts:List VT)(a:Int):rdA eq (v::vs) (t::ts) a=if rdV eq v t<0∨a+rdV eq v t>6 then -1 else rdA eq vs ts (a+rdV eq v t):=by simp only[rdA]
theorem z7(c:Int)(ks es:List IT)(t:VT)(a:Int):rdE eq (.mk c ks::es) t a=if c<0∨8≤c then -1 else match vt eq t c with
  |none=>-1
  |some ps=>if ps.length=ks.length then (if rdA eq ks ps 0<0∨a+1+rdA eq ks ps 0>6 then -1 else rdE eq es t (a+(1+rdA eq ks ps 0))) else -1:=by simp only[rdE] <;> rfl
theorem LF:∀ (es:List IT) (t:VT) (a:Int),0≤a→rdE eq es t a=-1∨a+es.length≤rdE eq es t a
 |[],_,a,h=>by simp[rdE]
 |.mk c ks::es,t,a,h=>by
  rw[z7];by_cases hc:c<0∨8≤c
  ·rw[aN hc];exact .inl rfl
  ·rw[aG hc];cases vt eq t c with
   |none=>exact .inl rfl
   |some ps=>
    simp only;by_cases hl:ps.length=ks.length
    ·rw[aN hl];by_cases h0:rdA eq ks ps 0<0∨a+1+rdA eq ks ps 0>6
     ·rw[aN h0];exact .inl rfl
     ·rw[aG h0];rcases LF es t (a+(1+rdA eq ks ps 0)) (by omega) with h2 | h2
      ·exact .inl h2
      ·right;simp only[List.length_cons];omega
    ·rw[aG hl];exact .inl rfl
theorem LG:∀ (es:List IT) (t:VT) (a:Int),0≤a→a≤6→rdE eq es t a=ad a (rdE eq es t 0)
 |[],_,a,h,h6=>by simp only[rdE];rw[BN (by omega) (by omega),Int.add_zero]
 |.mk c ks::es,t,a,h,h6=>by
  rw[z7,z7];by_cases hc:c<0∨8≤c
  ·rw[aN hc,aN hc,yy (.inl (by omega))]
  ·rw[aG hc,aG hc];cases vt eq t c with
   |none=>exact(yy (a:=a) (r:=-1) (.inl (by omega))).symm
   |some ps=>
    simp only;by_cases hl:ps.length=ks.length
    ·rw[aN hl,aN hl];by_cases h0:rdA eq ks ps 0<0∨0+1+rdA eq ks ps 0>6
     ·rw[aN h0,aN (by omega),yy (.inl (by omega))]
     ·rw[aG h0,LG es t (0+(1+rdA eq ks ps 0)) (by omega) (by omega),Int.zero_add];have g2:=LF (eq:=eq) es t 0 (by omega);by_cases h3:a+1+rdA eq ks ps 0>6
      ·rw[aN (Or.inr h3)];generalize rdE eq es t 0=r at *;by_cases h4:r<0∨(1+rdA eq ks ps 0)+r>6
       ·rw[yy h4,yy (.inl (by omega))]
       ·rw[BN (a:=1+rdA eq ks ps 0) (by omega) (by omega),yy (.inr (by omega))]
      ·rw[aG (by omega),LG es t _ (by omega) (by omega),zKv (by omega) h]
    ·rw[aG hl,aG hl,yy (.inl (by omega))]
theorem Sk(h8:∀ D∈eq,D.cons.length≤8):∀ (xs ys:List IT) (t:VT) (a:Int),0≤a→a≤6→rdE eq (xs++ys) t a=(if rdE eq xs t a<0 then -1 else rdE eq ys t (rdE eq xs t a))
 |[],ys,t,a,h,_=>by rw[List.nil_append,aG (by simp only[rdE];omega)];simp only[rdE]
 |.mk c ks::es,ys,t,a,h,h6=>by
  rw[List.cons_append,z7,z7];by_cases hc:c<0∨8≤c
  ·rw[aN hc];simp[hc]
  ·rw[aG hc];simp only[aG hc];cases vt eq t c with
   |none=>simp
   |some ps=>
    simp only;by_cases hl:ps.length=ks.length
    ·simp only[aN hl];by_cases h0:rdA eq ks ps 0<0∨a+1+rdA eq ks ps 0>6
     ·simp only[aN h0];simp
     ·simp only[aG h0];exact Sk h8 es ys t _ (by omega) (by omega)
    ·simp only[aG hl];simp
end
section
open Go.RowKit
variable {P:Program}
end
section
variable (t0:AV) (H:or) (K:Kt)
def zSm:Nat→List Bool|300001=>rl false [0,1]|_=>[]
def Sl:=DQ true .eql t0 λt4=>tO t4 (K .ZG H) (uk 2 [I0,.ZG] 0 [] λt5=>uj 28 2 32 t5 t0 H λt7 H=>K t7 H)
variable {t0} {H} {K}
def zSo(h:HSc H→Sl t0 H K):ge tP 130 [t0] H K:=
 acb zSm Tryz.func130 h
end
section
variable (t0 t1 t2 t4 t5 t7 t8 t53 t54 t55 t56 t57 t58:AV) (H:or) (K:Kt) (Kb5 Kb13 Kb15:Lt)
def yfR(_:Nat):List Bool:=[]
def zq9:=ul t0 H λt1 H=>un [I0] H λt3 H=>ua 1 t3 (I6 40) H λH=>tL true 2 t1 H λt4=>ge tP 39 [t4,t3] H λt5 H=>K t5 H
def LH:Nat→List Bool|5=>rl false [1,2,2,1,24]|_=>[]
noncomputable def zxO:=bd Tryz.f39
def LI:=ux 1 (t1::t2::ux 2 (t5::ux 24 []))
def yaJ:=LH 5
noncomputable def yaH:=uc [1,1,1,0,1,0,0] zxO
def yaG:=ud tP LH [1,1,1,0,1,0] zxO (uq tP Tryz.f39.results.toList K)
def zIc:=tM tP yaH (yaG K) (LI t1 t2 t5) H
def Sn:=tN 1 t2 λt16=>tL false 1 t16 H λt17=>tV 1 t17 λt18=>gt .lss false t5 t18 λt19=>tO t19 (tN 1 t2 λt22=>tL false 1 t22 H λt23=>tW 2 t23 t5 λt25=>tL true 2 t25 H λt26=>ge tP 39 [t26,t1] H λt28 H=>aUn .not t28 λt29=>tO t29 (K (.bool false) H) (gt .add false t5 I1 λt21=>Kb5 (LI t1 t2 t21) H)) (K (.bool true) H)
def zIb:=ul t0 H λt2 H=>vJ t1 λt7=>tL false 1 t7 H λt8=>gt .sub false t8 I1 λt9=>vJ t1 λt10=>ua 1 t10 t9 H λH=>vJ t1 λt12=>tL false 1 t12 H λt13=>gt .lss false t13 I0 λt14=>tO t14 (K (.bool false) H) (zIc t1 t2 I0 H K)
def zRH(_:Nat):List Bool:=[]
def zE3:=ul t1 H λt4 H=>ul t2 H λt5 H=>tL true 3 t4 H λt8=>tL true 2 t5 H λt9=>ge tP 40 [t0,t8,t9] H λt10 H=>gt .geq false t10 I0 λt11=>K t11 H
def zZR(_:Nat):List Bool:=[]
def zHK:=ul t1 H λt4 H=>ul t2 H λt5 H=>tL true 3 t4 H λt8=>tL true 2 t5 H λt9=>ge tP 23 [t0,t8,t9] H λt10 H=>gt .geq false t10 I0 λt11=>K t11 H
def yaN(_:Nat):List Bool:=[]
def zId:=ul t1 H λt4 H=>ul t2 H λt5 H=>tL true 3 t4 H λt10=>ge tP 73 [t0,t10] H λt11 H=>aUn .not t11 λt12=>tO t12 (K (I6 (-1)) H) (tL true 3 t4 H λt15=>tL true 2 t5 H λt16=>ge tP 74 [t0,t15,t16] H λt17 H=>uo t17 0 λt18=>uo t17 1 λt19=>aUn .not t19 λt21=>tO t21 (K (I6 (-1)) H) (K t18 H))
def zYi(_:Nat):List Bool:=[]
def zHc:=ul t1 H λt4 H=>ul t2 H λt5 H=>tL true 3 t4 H λt8=>ge tP 53 [t0,t8] H λt9 H=>aUn .not t9 λt10=>tO t10 (K (I6 (-1)) H) (tL true 3 t4 H λt12=>tL true 2 t5 H λt13=>ge tP 59 [t0,t12,t13] H λt14 H=>K t14 H)
def ydy(_:Nat):List Bool:=[]
def zI4:=ul t1 H λt3 H=>ug [.ZG,.ZG,.ZG,.ZG] [(0,1),(1,1),(2,1),(3,1)] [(0,t0)] λt6=>ge tP 122 [t6] H λt7 H=>agm t7 true H t0 λt9 H=>agu t7 true H (tL true 3 t3 H) λt10 H=>agc tP t7 true H 123 [t9,t10,I0] λt11 H=>tZ t7 t11 (.bool false) λt12=>K t12 H
def LJ:Nat→List Bool|13=>rl false [0,1,3,1,3,1,44,3,42]|_=>[]
noncomputable def zyG:=bd Tryz.f74
def LK:=t0::ux 3 (t4::ux 3 (t8::ux 44 (t53::t54::t55::ux 42 [])))
def ydE:=LJ 13
noncomputable def ydC:=uc [1,0,1,0,1,1,1,1,1,0,1,1,0,1,0,0] zyG
def ydB:=ud tP LJ [1,0,1,0,1,1,1,1,1,0,1,1,0,1,0] zyG (uq tP Tryz.f74.results.toList K)
def zI5:=tM tP ydC (ydB K) (LK t0 t4 t8 t53 t54 t55) H
def So:=gt .lss false t55 t54 λt56=>tO t56 (tW 2 t53 t55 λt57=>tL true 2 t57 H λt58=>un [I0,.ZG] H λt10 H=>ua 2 t10 t58 H λH=>tL true 3 t4 H λt61=>tN 0 t10 λt62=>tL false 1 t62 H λt63=>ge tP 125 [t0,t61,t63] H λt64 H=>uo t64 0 λt65=>uo t64 1 λt66=>aUn .not t66 λt68=>tO t68 (ut [I0,(.bool false)] (K · H)) (tN 1 t10 λt72=>tL false 1 t72 H λt73=>ge tP 124 [t0,t65,t73] H λt74 H=>uo t74 0 λt75=>uo t74 1 λt76=>gt .add false I1 t75 λt79=>gt .add false t8 t79 λt80=>aUn .not t76 λt82=>agm t82 false H t80 λt84 H=>agu t82 false H (gt .gtr false t84 (I6 6)) λt85 H=>tZ t82 (.bool true) t85 λt86=>tO t86 (ut [I0,(.bool false)] (K · H)) (gt .add false t55 I1 λt87=>Kb13 (LK t0 t4 t80 t53 t54 t87) H))) (ut [t8,(.bool true)] (K · H))
def yQ:=ul t1 H λt4 H=>ul t2 H λt5 H=>tN 0 t4 λt14=>tL false 1 t14 H λt15=>gt .eql false t15 (I6 6) λt17=>tO t17 (tN 0 t5 λt18=>tL false 1 t18 H λt19=>gt .neq false t19 I0 λt20=>tO t20 (ut [I0,(.bool false)] (K · H)) (tN 2 t4 λt22=>tL false 1 t22 H λt23=>tN 1 t5 λt24=>tL false 1 t24 H λt25=>ge tP 124 [t0,t23,t25] H λt26 H=>uo t26 0 λt27=>uo t26 1 λt28=>ut [t27,t28] (K · H))) (gt .eql false t15 (I6 7) λt30=>tO t30 (apu H (tN 0 t5) λt31=>apu H (tY false 1 t31 H) λt32=>apu H (tN 0 t5) λt33=>apu H (tY false 1 t33 H) λt34=>apu H (gt .geq false t34 I0) λt35=>apm H t35 λt36=>ui t36 true H (λK'=>ub H (λK''=>tN 0 t5 (K'' · H)) (K' · H)) λt37 H=>ui t36 true H (λK'=>ub H (λK''=>tY false 1 t37 H (K'' · H)) (K' · H)) λt38 H=>ui t36 true H (λK'=>ub H (λK''=>gt .leq false t38 (I6 6) (K'' · H)) (K' · H)) λt39 H=>apu H (tZ t36 t39 (.bool false)) λt40=>apm H t40 λt41=>ui t41 true H (λK'=>ub H (λK''=>tN 1 t5 (K'' · H)) (K' · H)) λt42 H=>ui t41 true H (λK'=>ub H (λK''=>tY false 1 t42 H (K'' · H)) (K' · H)) λt43 H=>ui t41 true H (λK'=>ub H (λK''=>tV 1 t43 (K'' · H)) (K' · H)) λt44 H=>ui t41 true H (λK'=>ub H (λK''=>gt .eql false t44 I0 (K'' · H)) (K' · H)) λt45 H=>apu H (tZ t41 t45 (.bool false)) λt46=>apm H t32 λt6=>apm H t46 λt7=>ut [t6,t7] (K · H)) (gt .eql false t15 (I6 5) λt48=>tO t48 (tN 0 t5 λt49=>tL false 1 t49 H λt50=>gt .neq false t50 I0 λt51=>tO t51 (ut [I0,(.bool false)] (K · H)) (tN 1 t5 λt52=>tL false 1 t52 H λt53=>tV 1 t53 λt54=>zI5 t0 t4 I0 t53 t54 I0 H K)) (apu H (tN 0 t5) λt89=>apu H (tY false 1 t89 H) λt90=>apu H (gt .eql false t90 I0) λt91=>apm H t91 λt92=>ui t92 true H (λK'=>ub H (λK''=>tN 1 t5 (K'' · H)) (K' · H)) λt93 H=>ui t92 true H (λK'=>ub H (λK''=>tY false 1 t93 H (K'' · H)) (K' · H)) λt94 H=>ui t92 true H (λK'=>ub H (λK''=>tV 1 t94 (K'' · H)) (K' · H)) λt95 H=>ui t92 true H (λK'=>ub H (λK''=>gt .eql false t95 I0 (K'' · H)) (K' · H)) λt96 H=>apu H (tZ t92 t96 (.bool false)) λt97=>apm H I0 λt6=>apm H t97 λt7=>ut [t6,t7] (K · H))))
def ybX(_:Nat):List Bool:=[]
def zIx:=ul t1 H λt3 H=>ge tP 48 [t0] H λt6 H=>agm t6 true H t0 λt8 H=>agu t6 true H (tL true 3 t3 H) λt9 H=>agc tP t6 true H 49 [t8,t9,I0] λt10 H=>tZ t6 t10 (.bool false) λt11=>K t11 H
def LL:Nat→List Bool|15=>rl false [0,1,3,1,2,1,48,3,50]|_=>[]
noncomputable def zyn:=bd Tryz.f59
def LM:=t0::ux 3 (t4::ux 2 (t7::ux 48 (t56::t57::t58::ux 50 [])))
def ycq:=LL 15
noncomputable def yco:=uc [1,0,1,0,1,1,1,1,1,0,1,1,0,1,0,0] zyn
def ycn:=ud tP LL [1,0,1,0,1,1,1,1,1,0,1,1,0,1,0] zyn (uq tP Tryz.f59.results.toList K)
def zIL:=tM tP yco (ycn K) (LM t0 t4 t7 t56 t57 t58) H
def Fu:=gt .lss false t58 t57 λt59=>tO t59 (tW 2 t56 t58 λt60=>tL true 2 t60 H λt61=>un [I0,.ZG] H λt9 H=>ua 2 t9 t61 H λH=>tN 0 t9 λt62=>tL false 1 t62 H λt63=>gt .lss false t63 I0 λt64=>agu t64 false H (tN 0 t9) λt66 H=>agu t64 false H (tL false 1 t66 H) λt67 H=>agu t64 false H (gt .geq false t67 (I6 8)) λt68 H=>tZ t64 (.bool true) t68 λt69=>tO t69 (K (I6 (-1)) H) (tL true 3 t4 H λt72=>tN 0 t9 λt73=>tL false 1 t73 H λt74=>ge tP 102 [t0,t72,t74] H λt75 H=>uo t75 0 λt76=>uo t75 1 λt77=>aUn .not t77 λt79=>tO t79 (K (I6 (-1)) H) (tN 1 t9 λt82=>tL false 1 t82 H λt83=>ge tP 111 [t0,t76,t83] H λt84 H=>gt .lss false t84 I0 λt86=>agm t86 false H t7 λt88 H=>agu t86 false H (gt .add false t88 I1) λt89 H=>agm t86 false H t84 λt90 H=>agu t86 false H (gt .add false t89 t90) λt91 H=>agu t86 false H (gt .gtr false t91 (I6 6)) λt92 H=>tZ t86 (.bool true) t92 λt93=>tO t93 (K (I6 (-1)) H) (gt .add false I1 t84 λt96=>gt .add false t7 t96 λt97=>gt .add false t58 I1 λt98=>Kb15 (LM t0 t4 t97 t56 t57 t98) H)))) (K t7 H)
def yz:=ul t1 H λt4 H=>ul t2 H λt5 H=>tN 0 t4 λt13=>tL false 1 t13 H λt14=>gt .eql false t14 (I6 6) λt16=>tO t16 (tN 0 t5 λt17=>tL false 1 t17 H λt18=>gt .neq false t18 I0 λt19=>tO t19 (K (I6 (-1)) H) (tN 2 t4 λt21=>tL false 1 t21 H λt22=>tN 1 t5 λt23=>tL false 1 t23 H λt24=>ge tP 111 [t0,t22,t24] H λt25 H=>K t25 H)) (gt .eql false t14 (I6 7) λt27=>tO t27 (tN 0 t5 λt28=>tL false 1 t28 H λt29=>gt .lss false t29 I0 λt30=>agu t30 false H (tN 0 t5) λt32 H=>agu t30 false H (tL false 1 t32 H) λt33 H=>agu t30 false H (gt .gtr false t33 (I6 6)) λt34 H=>tZ t30 (.bool true) t34 λt35=>agu t35 false H (tN 1 t5) λt37 H=>agu t35 false H (tL false 1 t37 H) λt38 H=>agu t35 false H (tV 1 t38) λt39 H=>agu t35 false H (gt .gtr false t39 I0) λt40 H=>tZ t35 (.bool true) t40 λt41=>tO t41 (K (I6 (-1)) H) (tN 0 t5 λt42=>tL false 1 t42 H λt43=>K t43 H)) (gt .eql false t14 (I6 5) λt45=>tO t45 (tN 0 t5 λt46=>tL false 1 t46 H λt47=>gt .neq false t47 I0 λt48=>agu t48 false H (tN 1 t5) λt50 H=>agu t48 false H (tL false 1 t50 H) λt51 H=>agu t48 false H (tV 1 t51) λt52 H=>agu t48 false H (gt .gtr false t52 (I6 6)) λt53 H=>tZ t48 (.bool true) t53 λt54=>tO t54 (K (I6 (-1)) H) (tN 1 t5 λt55=>tL false 1 t55 H λt56=>tV 1 t56 λt57=>zIL t0 t4 I0 t56 t57 I0 H K)) (tN 0 t5 λt100=>tL false 1 t100 H λt101=>gt .neq false t101 I0 λt102=>agu t102 false H (tN 1 t5) λt104 H=>agu t102 false H (tL false 1 t104 H) λt105 H=>agu t102 false H (tV 1 t105) λt106 H=>agu t102 false H (gt .gtr false t106 I0) λt107 H=>tZ t102 (.bool true) t107 λt108=>tO t108 (K (I6 (-1)) H) (K I0 H))))
variable {t0 t1 t2 t4 t5 t7 t8 t53 t54 t55 t56 t57 t58} {H} {K} {Kb5 Kb13 Kb15}
def yfT(h:HSc H→zq9 t0 H K):ge tP 11 [t0] H K:=
 acb yfR Tryz.func11 h
def yaI:Lo1 (λt5=>LI t1 t2 t5) (λt5 H Kb5=>Sn t1 t2 t5 H K Kb5) t5 H (zIc t1 t2 t5 H K):=lq1 LH yaJ
def yaK(h:HSc H→zIb t0 t1 H K):ge tP 39 [t0,t1] H K:=
 acb LH Tryz.func39 h
def zRJ(h:HSc H→zE3 t0 t1 t2 H K):ge tP 119 [t0,t1,t2] H K:=
 acb zRH Tryz.func119 h
def zZT(h:HSc H→zHK t0 t1 t2 H K):ge tP 28 [t0,t1,t2] H K:=
 acb zZR Tryz.func28 h
def yaP(h:HSc H→zId t0 t1 t2 H K):ge tP 40 [t0,t1,t2] H K:=
 acb yaN Tryz.func40 h
def zYk(h:HSc H→zHc t0 t1 t2 H K):ge tP 23 [t0,t1,t2] H K:=
 acb zYi Tryz.func23 h
def ydA(h:HSc H→zI4 t0 t1 H K):ge tP 73 [t0,t1] H K:=
 acb ydy Tryz.func73 h
def ydD:Lo2 (λt8 t55=>LK t0 t4 t8 t53 t54 t55) (λt8 t55 H Kb13=>So t0 t4 t8 t53 t54 t55 H K Kb13) t8 t55 H (zI5 t0 t4 t8 t53 t54 t55 H K):=lq2 LJ ydE
def ydF(h:HSc H→yQ t0 t1 t2 H K):ge tP 74 [t0,t1,t2] H K:=
 acb LJ Tryz.func74 h
def ybZ(h:HSc H→zIx t0 t1 H K):ge tP 53 [t0,t1] H K:=
 acb ybX Tryz.func53 h
def ycp:Lo2 (λt7 t58=>LM t0 t4 t7 t56 t57 t58) (λt7 t58 H Kb15=>Fu t0 t4 t7 t56 t57 t58 H K Kb15) t7 t58 H (zIL t0 t4 t7 t56 t57 t58 H K):=lq2 LL ycq
def ycr(h:HSc H→yz t0 t1 t2 H K):ge tP 59 [t0,t1,t2] H K:=
 acb LL Tryz.func59 h
end
section
variable (t0 t1 t2 t7 t8 t10 t11 t12 t13 t16 t17 t18 t19 t20 t26 t27 t28 t29 t30 t33 t34 t35:AV) (H:or) (K:Kt) (Kb5 Kb6 Kb7:Lt)
def LN:Nat→List Bool|5=>rl false [0,1,1,1,5,1,9,3,23]|_=>[]
noncomputable def zvk:=bd Tryz.f124
def LO:=t0::ux 1 (t2::ux 5 (t8::ux 9 (t18::t19::t20::ux 23 [])))
def zR5:=LN 5
noncomputable def zR3:=uc [1,1,1,0,1,0,0] zvk
def zR2:=ud tP LN [1,1,1,0,1,0] zvk (uq tP Tryz.f124.results.toList K)
def zFd:=tM tP zR3 (zR2 K) (LO t0 t2 t8 t18 t19 t20) H
def Sp:=gt .lss false t20 t19 λt21=>tO t21 (tW 3 t18 t20 λt23=>tL true 3 t23 H λt24=>un [I0,I0,.ZG] H λt10 H=>ua 3 t10 t24 H λH=>apm H t0 λt26=>apu H (tY true 3 t10 H) λt27=>apm H t2 λt28=>apm H t20 λt29=>apu H (tW 2 t28 t29) λt30=>apu H (tY true 2 t30 H) λt31=>apc tP H 74 [t26,t27,t31] λt32=>apm H t32 λt25=>apu H (uo t25 0) λt33=>apu H (uo t25 1) λt34=>apm H t33 λt11=>apm H t34 λt12=>aUn .not t12 λt36=>tO t36 (ut [I0,(.bool false)] (K · H)) (gt .add false t8 t11 λt39=>gt .add false t20 I1 λt40=>Kb5 (LO t0 t2 t39 t18 t19 t40) H)) (gt .leq false t8 (I6 6) λt43=>ut [t8,t43] (K · H))
def Sq:=tV 1 t1 λt14=>tV 1 t2 λt16=>gt .neq false t14 t16 λt17=>tO t17 (ut [I0,(.bool false)] (K · H)) (tV 1 t1 λt19=>zFd t0 t2 I0 t1 t19 I0 H K)
def LP:Nat→List Bool|6=>rl false [8,1,1,1,15,3,15]|_=>[]
noncomputable def zvm:=bd Tryz.f125
def LQ:=ux 8 (t8::ux 1 (t10::ux 15 (t26::t27::t28::ux 15 [])))
def zSb:=LP 6
noncomputable def zR9:=uc [1,1,1,1,0,1,0,0] zvm
def zR8:=ud tP LP [1,1,1,1,0,1,0] zvm (uq tP Tryz.f125.results.toList K)
def LR:=tM tP zR9 (zR8 K) (LQ t8 t10 t26 t27 t28) H
def zFg(t8 t10 t26 t27 t28:AV)(H:or)(K:Kt)(Kb6:Lt):Prop:=gt .add false t28 I1 λt42=>Kb6 (LQ t8 t10 t26 t27 t42) H
def LS:=zFg t8 t10 t26 t27 t28 H K Kb6
def Sr:=gt .lss false t28 t27 λt29=>tO t29 (tW 1 t26 t28 λt31=>tL false 1 t31 H λt32=>aUn .not t32 λt34=>tO t34 (tW 3 t8 t28 λt38=>tL true 3 t38 H λt39=>uk 3 [I0,I0,.ZG] 1 [(0,t39)] λt40=>uj 25 3 40 t10 t40 H λt41 H=>LS t8 t41 t26 t27 t28 H K Kb6) (LS t8 t10 t26 t27 t28 H K Kb6)) (ut [t10,(.bool true)] (K · H))
def zFf:=ul t1 H λt4 H=>tL true 3 t4 H λt15=>ge tP 167 [t0,t15,t2] H λt17 H=>uo t17 0 λt18=>uo t17 1 λt19=>aUn .not t19 λt21=>tO t21 (ut [.ZG,(.bool false)] (K · H)) (tN 1 t4 λt23=>tL false 1 t23 H λt24=>ge tP 168 [t0,t24,t2] H λt26 H=>tV 1 t26 λt27=>LR t18 .ZG t26 t27 I0 H K)
def LT:Nat→List Bool|7=>rl false [8,1,4,1,19,3,12]|_=>[]
noncomputable def zuS:=bd Tryz.f102
def LU:=ux 8 (t8::ux 4 (t13::ux 19 (t33::t34::t35::ux 12 [])))
def zQf:=LT 7
noncomputable def zQd:=uc [1,1,1,1,1,0,1,0,0] zuS
def zQc:=ud tP LT [1,1,1,1,1,0,1,0] zuS (uq tP Tryz.f102.results.toList K)
def LV:=tM tP zQd (zQc K) (LU t8 t13 t33 t34 t35) H
def Ss:=gt .lss false t35 t34 λt36=>tO t36 (tW 1 t33 t35 λt37=>tL false 1 t37 H λt38=>tW 3 t8 t38 λt42=>tL true 3 t42 H λt43=>uk 3 [I0,I0,.ZG] 1 [(0,t43)] λt44=>uj 25 3 40 t13 t44 H λt45 H=>gt .add false t35 I1 λt46=>Kb7 (LU t8 t45 t33 t34 t46) H) (ut [t13,(.bool true)] (K · H))
def zEH:=ul t1 H λt4 H=>tL true 3 t4 H λt18=>ge tP 98 [t0,t18,t2] H λt20 H=>uo t20 0 λt21=>uo t20 1 λt22=>aUn .not t22 λt24=>tO t24 (ut [.ZG,(.bool false)] (K · H)) (tL true 3 t4 H λt27=>ge tP 149 [t0,t27,t2] H λt29 H=>uo t29 0 λt30=>uo t29 1 λt31=>uo t29 2 λt32=>tV 1 t30 λt34=>LV t21 .ZG t30 t34 I0 H K)
def LW:Nat→List Bool|6=>rl false [11,2,15,3,16]|_=>[]
noncomputable def zvP:=bd Tryz.f149
def LX:=ux 11 (t11::t12::ux 15 (t28::t29::t30::ux 16 []))
def zTV:=LW 6
noncomputable def zTT:=uc [1,1,1,0,1,0,0] zvP
def zTS:=ud tP LW [1,1,1,0,1,0] zvP (uq tP Tryz.f149.results.toList K)
def LY:=tM tP zTT (zTS K) (LX t11 t12 t28 t29 t30) H
def zFG(t11 t12 t28 t29 t30:AV)(H:or)(K:Kt)(Kb6:Lt):Prop:=gt .add false t30 I1 λt44=>Kb6 (LX t11 t12 t28 t29 t44) H
def LZ:=zFG t11 t12 t28 t29 t30 H K Kb6
def L0:=gt .lss false t30 t29 λt31=>tO t31 (tW 1 t28 t30 λt33=>tL false 1 t33 H λt34=>tO t34 (uk 1 [I0] 1 [(0,t30)] λt38=>uj 3 1 8 t12 t38 H λt39 H=>LZ t11 t39 t28 t29 t30 H K Kb6) (uk 1 [I0] 1 [(0,t30)] λt42=>uj 3 1 8 t11 t42 H λt43 H=>LZ t43 t12 t28 t29 t30 H K Kb6)) (ut [t11,t12,(.bool true)] (K · H))
def zFF:=ul t1 H λt4 H=>tL true 3 t4 H λt17=>ge tP 98 [t0,t17,t2] H λt19 H=>uo t19 0 λt20=>uo t19 1 λt21=>aUn .not t21 λt23=>tO t23 (ut [.ZG,.ZG,(.bool false)] (K · H)) (tN 1 t4 λt25=>tL false 1 t25 H λt26=>ge tP 196 [t0,t26,t2] H λt28 H=>tV 1 t28 λt29=>LY .ZG .ZG t28 t29 I0 H K)
def L1:Nat→List Bool|5=>rl false [0,3,4,1,8,2,25]|_=>[]
noncomputable def zu8:=bd Tryz.f111
def L2:=t0::t1::t2::ux 4 (t7::ux 8 (t16::t17::ux 25 []))
def zQ8:=L1 5
noncomputable def zQ6:=uc [1,1,1,0,1,0,0] zu8
def zQ5:=ud tP L1 [1,1,1,0,1,0] zu8 (uq tP Tryz.f111.results.toList K)
def zEV:=tM tP zQ6 (zQ5 K) (L2 t0 t1 t2 t7 t16 t17) H
def St:=gt .lss false t17 t16 λt18=>tO t18 (apm H t0 λt20=>apm H t1 λt21=>apm H t17 λt22=>apu H (tW 3 t21 t22) λt23=>apu H (tY true 3 t23 H) λt24=>apm H t2 λt25=>apm H t17 λt26=>apu H (tW 2 t25 t26) λt27=>apu H (tY true 2 t27 H) λt28=>apc tP H 59 [t20,t24,t28] λt29=>apm H t29 λt9=>gt .lss false t9 I0 λt31=>agm t31 false H t7 λt33 H=>agm t31 false H t9 λt34 H=>agu t31 false H (gt .add false t33 t34) λt35 H=>agu t31 false H (gt .gtr false t35 (I6 6)) λt36 H=>tZ t31 (.bool true) t36 λt37=>tO t37 (K (I6 (-1)) H) (gt .add false t7 t9 λt40=>gt .add false t17 I1 λt41=>Kb5 (L2 t0 t1 t2 t40 t16 t41) H)) (K t7 H)
def Su:=tV 1 t1 λt11=>tV 1 t2 λt13=>gt .neq false t11 t13 λt14=>tO t14 (K (I6 (-1)) H) (tV 1 t1 λt16=>zEV t0 t1 t2 I0 t16 I0 H K)
variable {t0 t1 t2 t7 t8 t10 t11 t12 t13 t16 t17 t18 t19 t20 t26 t27 t28 t29 t30 t33 t34 t35} {H} {K} {Kb5 Kb6 Kb7}
def zR4:Lo2 (λt8 t20=>LO t0 t2 t8 t18 t19 t20) (λt8 t20 H Kb5=>Sp t0 t2 t8 t18 t19 t20 H K Kb5) t8 t20 H (zFd t0 t2 t8 t18 t19 t20 H K):=lq2 LN zR5
def zR6(h:HSc H→Sq t0 t1 t2 H K):ge tP 124 [t0,t1,t2] H K:=
 acb LN Tryz.func124 h
def zSa:Lo2 (λt10 t28=>LQ t8 t10 t26 t27 t28) (λt10 t28 H Kb6=>Sr t8 t10 t26 t27 t28 H K Kb6) t10 t28 H (LR t8 t10 t26 t27 t28 H K):=lq2 LP zSb
def zSc(h:HSc H→zFf t0 t1 t2 H K):ge tP 125 [t0,t1,t2] H K:=
 acb LP Tryz.func125 h
def zQe:Lo2 (λt13 t35=>LU t8 t13 t33 t34 t35) (λt13 t35 H Kb7=>Ss t8 t13 t33 t34 t35 H K Kb7) t13 t35 H (LV t8 t13 t33 t34 t35 H K):=lq2 LT zQf
def zQg(h:HSc H→zEH t0 t1 t2 H K):ge tP 102 [t0,t1,t2] H K:=
 acb LT Tryz.func102 h
def zTU:Lo3 (λt11 t12 t30=>LX t11 t12 t28 t29 t30) (λt11 t12 t30 H Kb6=>L0 t11 t12 t28 t29 t30 H K Kb6) t11 t12 t30 H (LY t11 t12 t28 t29 t30 H K):=lq3 LW zTV
def zTW(h:HSc H→zFF t0 t1 t2 H K):ge tP 149 [t0,t1,t2] H K:=
 acb LW Tryz.func149 h
def zQ7:Lo2 (λt7 t17=>L2 t0 t1 t2 t7 t16 t17) (λt7 t17 H Kb5=>St t0 t1 t2 t7 t16 t17 H K Kb5) t7 t17 H (zEV t0 t1 t2 t7 t16 t17 H K):=lq2 L1 zQ8
def zQ9(h:HSc H→Su t0 t1 t2 H K):ge tP 111 [t0,t1,t2] H K:=
 acb L1 Tryz.func111 h
end
section
variable (t0 t1 t2 t7 t40 t41 t42:AV) (H:or) (K:Kt) (Kb5:Lt)
def L3:Nat→List Bool|5=>rl false [0,2,5,1,32,3,16]|_=>[]
noncomputable def zwL:=bd Tryz.f196
def L4:=t0::t1::ux 5 (t7::ux 32 (t40::t41::t42::ux 16 []))
def zXg:=L3 5
noncomputable def zXe:=uc [1,1,1,0,1,0,0] zwL
def zXd:=ud tP L3 [1,1,1,0,1,0] zwL (uq tP Tryz.f196.results.toList K)
def L5:=tM tP zXe (zXd K) (L4 t0 t1 t7 t40 t41 t42) H
def Sv:=gt .lss false t42 t41 λt43=>tO t43 (tW 3 t40 t42 λt44=>tL true 3 t44 H λt45=>un [I0,I0,.ZG] H λt9 H=>ua 3 t9 t45 H λH=>apm H t7 λt46=>apu H (tY true 3 t9 H) λt47=>apm H t1 λt48=>apm H t0 λt49=>apm H t1 λt50=>apu H (tW 3 t49 t50) λt51=>apu H (tN 1 t51) λt52=>apu H (tY false 1 t52 H) λt53=>apc tP H 93 [t47,t48,t53] λt54=>apu H (uk 1 [(.bool false)] 1 [(0,t54)]) λt55=>uj 4 1 1 t46 t55 H λt56 H=>apm H t56 λt7=>gt .add false t42 I1 λt57=>Kb5 (L4 t0 t1 t7 t40 t41 t57) H) (K t7 H)
def zGW:=gt .lss false t1 I0 λt11=>agm t11 false H t1 λt13 H=>agm t11 false H t0 λt14 H=>agu t11 false H (tV 1 t14) λt15 H=>agu t11 false H (gt .geq false t13 t15) λt16 H=>tZ t11 (.bool true) t16 λt17=>agm t17 false H t2 λt19 H=>agu t17 false H (gt .lss false t19 I0) λt20 H=>tZ t17 (.bool true) t20 λt21=>agm t21 false H t2 λt23 H=>agm t21 false H t0 λt24 H=>agm t21 false H t1 λt25 H=>agu t21 false H (tW 3 t24 t25) λt26 H=>agu t21 false H (tN 2 t26) λt27 H=>agu t21 false H (tL false 1 t27 H) λt28 H=>agu t21 false H (tV 1 t28) λt29 H=>agu t21 false H (gt .geq false t23 t29) λt30 H=>tZ t21 (.bool true) t30 λt31=>tO t31 (K .ZG H) (tW 3 t0 t1 λt34=>tN 2 t34 λt35=>tL false 1 t35 H λt36=>tW 2 t36 t2 λt38=>tN 1 t38 λt39=>tL false 1 t39 H λt40=>tV 1 t40 λt41=>L5 t0 t1 .ZG t40 t41 I0 H K)
variable {t0 t1 t2 t7 t40 t41 t42} {H} {K} {Kb5}
def zXf:Lo2 (λt7 t42=>L4 t0 t1 t7 t40 t41 t42) (λt7 t42 H Kb5=>Sv t0 t1 t7 t40 t41 t42 H K Kb5) t7 t42 H (L5 t0 t1 t7 t40 t41 t42 H K):=lq2 L3 zXg
def zXh(h:HSc H→zGW t0 t1 t2 H K):ge tP 196 [t0,t1,t2] H K:=
 acb L3 Tryz.func196 h
end
def wz(l:List Bool):List (List AV):=l.map λb=>[.bool b]
def zGX(eq:List Dat)(d:Nat)(c:Nat)(hd:d<eq.length)(hc:c<(eq[d]).cons.length)(hl:eq.length≤1000000)(gN:(eq[d]).cons.length≤1000000)(ly:((eq[d]).cons[c]).args.length≤1000000)(hb:∀ x∈((eq[d]).cons[c]).args,x.ZO≤1000000)(H:or)(K:Kt)(hK:K (.sl (wz (xt d eq[d] (eq[d]).cons[c])) .none) H):
  ge tP 196 [.sl (eq.map Dat.cs) .none,I6 d,I6 c] H K:=by
 refine ge.out (zXh λhs=>?_);have e1:(eq.map Dat.cs)[d]?=some (eq[d]).cs:=by simp[hd]
 have e2:((eq[d]).cons.map Con.cs)[c]?=some ((eq[d]).cons[c]).cs:=by simp[hc]
 generalize hD:eq[d]=D at *;generalize hA:D.cons[c]=C at *;have h1:¬(d:Int)<0:=by omega
 have h2:¬(eq.length:Int)≤d:=by omega
 have h3:¬(c:Int)<0:=by omega
 have h4:¬(D.cons.length:Int)≤c:=by omega
 simp[zGW,h1,h2,h3,h4,e1,e2,Dat.cs,Con.cs,hd,hD,hc,hA];unfold L5;refine tM.own 7 4 1 rfl ?_;show L5 (.sl (eq.map Dat.cs) .none) (I6 d) (.sl [] (.own H.length)) (.sl (VT.css C.args) .none) (I6 C.args.length) I0 (H++[.perm 4 1 0]) (Out H.length K);have fO:∀n,HSc (H++[.perm 4 1 n]):=λn=>hs.append rfl;refine zXf (Inv:=λq t7 t42 H'=>∃i:Nat,i≤C.args.length∧q=C.args.length-i∧t42=I6 i∧t7=.sl (wz ((xt d D C).take i)) (.own H.length)∧H'=H++[.perm 4 1 i]) C.args.length ?_ ?_
 ·intro _;exact⟨0,by omega,by omega,rfl,rfl,rfl⟩
 ·rintro q t7 t42 H' ⟨i,hi,rfl,rfl,rfl,rfl⟩ hsc fz fM Kb fB;have lc:(xt d D C).length=C.args.length:=by simp[xt]
  by_cases fy:i<C.args.length
  ·obtain⟨x,y,z,fD,hx,hy,hz⟩:=ve C.args[i];have mU:=hb _ (ae fy);simp[Sv,fy,fD,aa,e1,hd,hD,Dat.cs];rw[←fD];refine⟨⟨hx,hy,hz⟩,?_⟩;refine ur (.bool (wM d D.vars C.args[i])) (λJ=>zzt _ _ _ mU _ _ ⟨rfl,rfl⟩) ?_;simp[uk,uI,plain,AV.pd,uj,uD,uy,wz];have iQ:min i (xt d D C).length=i:=by omega
   rw[iQ];refine⟨rfl,⟨by omega,by omega⟩,?_⟩;rw[um (by omega) (by omega)];have fN:List.take i (List.map (λb=>[AV.bool b]) (xt d D C))++[[AV.bool (wM (↑d) D.vars C.args[i])]]=wz ((xt d D C).take (i+1)):=by rw[ag (by omega)];simp[wz,xt]
   rw[fN];refine fB _ _ ⟨C.args.length-(i+1),by omega,Back.at (J:=[.cells C.args[i].cs]) (H2:=H++[.perm 4 1 (i+1)]) (by simp) (by simp) (fO _) ?_ ⟨_,_,rfl,i+1,by omega,rfl,by simp,rfl,rfl⟩⟩;simp[L4,AV.sc,AV.ZJ,AV.ZH,AV.ZI]
  ·obtain rfl:i=C.args.length:=by omega
   rw[am (by omega)];simp[Sv];exact Out.at rfl (af _) hs (.atom (.sl _ _)) rfl (by simp[wz,AV.ZJ,AV.ZH,AV.ZI]) hK
section
variable (t0 t1 t3 t4 t5 t6 t8 t15 t16 t17 t18 t19 t20 t21 t31 t32 t33 t38 t39 t40 t45 t46 t47 t48:AV) (H:or) (K:Kt) (Kb5 Kb6 Kb11:Lt)
def zRV(_:Nat):List Bool:=[]
def zFa:=ul t0 H λt1 H=>tN 0 t1 λt3=>tL false 1 t3 H λt4=>ge tP 159 [t4] H λt5 H=>agu t5 true H (tL true 4 t1 H) λt7 H=>agc tP t5 true H 160 [t7] λt8 H=>tZ t5 t8 (.bool false) λt9=>agu t9 true H (tL true 4 t1 H) λt11 H=>agc tP t9 true H 161 [t11] λt12 H=>tZ t9 t12 (.bool false) λt13=>agu t13 true H (tL true 4 t1 H) λt15 H=>agc tP t13 true H 162 [t15] λt16 H=>tZ t13 t16 (.bool false) λt17=>agu t17 true H (tL true 4 t1 H) λt19 H=>agc tP t17 true H 163 [t19] λt20 H=>tZ t17 t20 (.bool false) λt21=>agu t21 true H (tL true 4 t1 H) λt23 H=>agc tP t21 true H 164 [t23] λt24 H=>tZ t21 t24 (.bool false) λt25=>agu t25 true H (tL true 4 t1 H) λt27 H=>agc tP t25 true H 165 [t27] λt28 H=>tZ t25 t28 (.bool false) λt29=>K t29 H
def zUR(_:Nat):List Bool:=[]
def zFW:=ul t0 H λt1 H=>tN 2 t1 λt3=>tL false 1 t3 H λt4=>tV 1 t4 λt5=>gt .leq false t5 (I6 3000) λt6=>agu t6 true H (tN 2 t1) λt8 H=>agu t6 true H (tL false 1 t8 H) λt9 H=>agu t6 true H (yl 203 [t1]) λt10 H=>agc tP t6 true H 202 [t9,t10] λt11 H=>agu t6 true H (aUn .not t11) λt12 H=>tZ t6 t12 (.bool false) λt13=>K t13 H
def L6:Nat→List Bool|6=>rl false [1,1,1,2,14,3,59]|_=>[]
noncomputable def zv8:=bd Tryz.f161
def Sw:=ux 1 (t1::ux 1 (t3::t4::ux 14 (t19::t20::t21::ux 59 [])))
def zUX:=L6 6
noncomputable def zUV:=uc [1,1,1,1,0,1,0,0] zv8
def zUU:=ud tP L6 [1,1,1,1,0,1,0] zv8 (uq tP Tryz.f161.results.toList K)
def zF0:=tM tP zUV (zUU K) (Sw t1 t3 t4 t19 t20 t21) H
def zFZ:=tN 0 t6 λt42=>tL false 1 t42 H λt43=>yC t3 t43 (.bool true) H λH=>tN 1 t6 λt44=>tL false 1 t44 H λt45=>tV 1 t45 λt46=>gt .gtr false t46 (I6 6) λt47=>agu t47 false H (tN 0 t1) λt49 H=>agu t47 false H (tL false 1 t49 H) λt50 H=>agu t47 false H (tN 3 t6) λt51 H=>agu t47 false H (tL true 3 t51 H) λt52 H=>agc tP t47 false H 123 [t50,t52,I0] λt53 H=>agu t47 false H (aUn .not t53) λt54 H=>tZ t47 (.bool true) t54 λt55=>tO t55 (K (.bool false) H) (apu H (tN 6 t6) λt56=>apu H (tY false 1 t56 H) λt57=>apu H (gt .lss false t57 I0) λt58=>apm H t58 λt59=>ui t59 false H (λK'=>ub H (λK''=>tN 6 t6 (K'' · H)) (K' · H)) λt60 H=>ui t59 false H (λK'=>ub H (λK''=>tY false 1 t60 H (K'' · H)) (K' · H)) λt61 H=>ui t59 false H (λK'=>ub H (λK''=>tN 3 t1 (K'' · H)) (K' · H)) λt62 H=>ui t59 false H (λK'=>ub H (λK''=>tY false 1 t62 H (K'' · H)) (K' · H)) λt63 H=>ui t59 false H (λK'=>ub H (λK''=>tV 1 t63 (K'' · H)) (K' · H)) λt64 H=>ui t59 false H (λK'=>ub H (λK''=>gt .geq false t61 t64 (K'' · H)) (K' · H)) λt65 H=>apu H (tZ t59 (.bool true) t65) λt66=>apm H t66 λt67=>ui t67 false H (λK'=>ub H (λK''=>tN 3 t1 (K'' · H)) (K' · H)) λt68 H=>ui t67 false H (λK'=>ub H (λK''=>tY false 1 t68 H (K'' · H)) (K' · H)) λt69 H=>ui t67 false H (λK'=>ub H (λK''=>tN 6 t6 (K'' · H)) (K' · H)) λt70 H=>ui t67 false H (λK'=>ub H (λK''=>tY false 1 t70 H (K'' · H)) (K' · H)) λt71 H=>ui t67 false H (λK'=>ub H (λK''=>tW 8 t69 t71 (K'' · H)) (K' · H)) λt72 H=>ui t67 false H (λK'=>ub H (λK''=>tN 5 t72 (K'' · H)) (K' · H)) λt73 H=>ui t67 false H (λK'=>ub H (λK''=>tY true 3 t73 H (K'' · H)) (K' · H)) λt74 H=>ui t67 false H (λK'=>ub H (λK''=>tN 3 t6 (K'' · H)) (K' · H)) λt75 H=>ui t67 false H (λK'=>ub H (λK''=>tY true 3 t75 H (K'' · H)) (K' · H)) λt76 H=>agu t67 false H (xZ H (λH K''=>ge tP 204 [t74,t76] H K'')) λt77 H=>ui t67 false H (λK'=>ub H (λK''=>aUn .not t77 (K'' · H)) (K' · H)) λt78 H=>apu H (tZ t67 (.bool true) t78) λt79=>tO t79 (K (.bool false) H) (gt .add false t21 I1 λt80=>Kb6 (Sw t1 t3 t4 t19 t20 t80) H))
def zFY:=gt .lss false t21 t20 λt22=>tO t22 (tW 7 t19 t21 λt23=>tL true 7 t23 H λt24=>un [(.str []),.ZG,.ZG,I0,I0,.ZG,I0] H λt6 H=>ua 7 t6 t24 H λH=>tN 0 t6 λt25=>tL false 1 t25 H λt26=>gt .eql false t26 (.str []) λt27=>tO t27 (zFZ t1 t3 (.bool true) t6 t19 t20 t21 H K Kb6) (agm t4 false H t3 λt30 H=>agu t4 false H (tN 0 t6) λt31 H=>agu t4 false H (tL false 1 t31 H) λt32 H=>agu t4 false H (zG (.bool false) false t30 t32 H) λt33 H=>tZ t4 (.bool true) t33 λt34=>agu t34 false H (tN 2 t6) λt36 H=>agu t34 false H (tL false 1 t36 H) λt37 H=>agu t34 false H (tV 1 t37) λt38 H=>agu t34 false H (gt .gtr false t38 I0) λt39 H=>tZ t34 (.bool true) t39 λt40=>tO t40 (K (.bool false) H) (zFZ t1 t3 t4 t6 t19 t20 t21 H K Kb6))) (K (.bool true) H)
def zFX:=ul t0 H λt1 H=>tN 1 t1 λt7=>tL false 1 t7 H λt8=>tV 1 t8 λt9=>gt .gtr false t9 (I6 64) λt10=>agu t10 false H (tN 3 t1) λt12 H=>agu t10 false H (tL false 1 t12 H) λt13 H=>agu t10 false H (tV 1 t13) λt14 H=>agu t10 false H (gt .gtr false t14 (I6 3000)) λt15 H=>tZ t10 (.bool true) t15 λt16=>tO t16 (K (.bool false) H) (Aj H λt17 H=>tN 1 t1 λt18=>tL false 1 t18 H λt19=>tV 1 t19 λt20=>zF0 t1 t17 (.bool false) t19 t20 I0 H K)
def AO:Nat→List Bool|5=>rl false [1,1,2,2,12,3,54]|11=>rl false [1,1,2,2,25,3,41]|16=>rl false [1,1,2,2,2,1,22,3,12,3,26]|_=>[]
noncomputable def L7:=bd Tryz.f162
noncomputable def zF9:=Tryz.f162.results.toList
def Sy:=ux 1 (t1::ux 2 (t4::t5::ux 12 (t18::t19::t20::ux 54 [])))
def zU8:=AO 5
noncomputable def zU3:=uc [1,1,1,1,0,1,0,0] L7
def zU1:=ud tP AO [1,1,1,1,0,1,0] L7 (uq tP zF9 K)
def zF7:=tM tP zU3 (zU1 K) (Sy t1 t4 t5 t18 t19 t20) H
def zF5:=ux 1 (t1::ux 2 (t4::t5::ux 25 (t31::t32::t33::ux 41 [])))
def zF8:=AO 11
noncomputable def Sz:=uc [1,1,1,1,1,0,1,0,0] L7
def zF2:=ud tP AO [1,1,1,1,1,0,1,0] L7 (uq tP zF9 K)
def zF6:=tM tP Sz (zF2 K) (zF5 t1 t4 t5 t31 t32 t33) H
def zU4:=ux 1 (t1::ux 2 (t4::t5::ux 2 (t8::ux 22 (t31::t32::t33::ux 12 (t46::t47::t48::ux 26 [])))))
noncomputable def zU2:=uc [1,1,0,0,1,1,1,0,0] Sz
def zU0:=ud tP AO [1,1,0,0,1,1,1,0] Sz (vz zF8 Kb11 (zF2 K))
def zU5:=tM tP zU2 (zU0 K Kb11) (zU4 t1 t4 t5 t8 t31 t32 t33 t46 t47 t48) H
def zF3:=gt .lss false t33 t32 λt34=>tO t34 (tW 8 t31 t33 λt36=>tL true 8 t36 H λt37=>un [I0,I0,.ZG,.ZG,.ZG,I0,I0,.ZG] H λt9 H=>ua 8 t9 t37 H λH=>tN 3 t9 λt38=>tL false 1 t38 H λt39=>tV 1 t39 λt40=>tN 4 t9 λt41=>tL false 1 t41 H λt42=>tV 1 t42 λt43=>gt .neq false t40 t43 λt44=>tO t44 (K (.bool false) H) (tN 4 t9 λt45=>tL false 1 t45 H λt46=>tV 1 t46 λt47=>zU5 t1 t4 t5 t33 t31 t32 t33 t46 t47 I0 H K Kb11)) (tL false 1 t4 H λt70=>tN 3 t1 λt71=>tL false 1 t71 H λt72=>tV 1 t72 λt73=>gt .eql false t70 t73 λt74=>K t74 H)
def zF4:=gt .lss false t20 t19 λt21=>tO t21 (tW 7 t18 t20 λt22=>tL true 7 t22 H λt23=>un [(.str []),.ZG,.ZG,I0,I0,.ZG,I0] H λt7 H=>ua 7 t7 t23 H λH=>tN 6 t7 λt25=>tL false 1 t25 H λt26=>aCallV tP t5 [t26] H λt27 H=>aUn .not t27 λt28=>tO t28 (K (.bool false) H) (gt .add false t20 I1 λt29=>Kb5 (Sy t1 t4 t5 t18 t19 t29) H)) (tN 3 t1 λt30=>tL false 1 t30 H λt31=>tV 1 t31 λt32=>zF6 t1 t4 t5 t31 t32 I0 H K)
def zF1:=ul t0 H λt1 H=>tN 3 t1 λt12=>tL false 1 t12 H λt13=>tV 1 t13 λt14=>vo 1 [(.bool false)] t14 t14 H λt15 H=>un [.ZG] H λt3 H=>ua 1 t3 t15 H λH=>un [I0] H λt4 H=>ua 1 t4 I0 H λH=>yl 205 [t3,t4] λt16=>tN 1 t1 λt17=>tL false 1 t17 H λt18=>tV 1 t18 λt19=>zF7 t1 t4 t16 t18 t19 I0 H K
def AP:Nat→List Bool|5=>rl false [1,1,2,2,12,3,41]|11=>rl false [1,1,2,2,32,3,21]|14=>rl false [1,1,2,2,32,3,4,3,14]|_=>[]
noncomputable def L8:=bd Tryz.f163
noncomputable def zGi:=Tryz.f163.results.toList
def SA:=ux 1 (t1::ux 2 (t4::t5::ux 12 (t18::t19::t20::ux 41 [])))
def zVi:=AP 5
noncomputable def zVd:=uc [1,1,1,1,0,1,0,0] L8
def zVb:=ud tP AP [1,1,1,1,0,1,0] L8 (uq tP zGi K)
def zGg:=tM tP zVd (zVb K) (SA t1 t4 t5 t18 t19 t20) H
def zGe:=ux 1 (t1::ux 2 (t4::t5::ux 32 (t38::t39::t40::ux 21 [])))
def zGh:=AP 11
noncomputable def SB:=uc [1,1,1,1,1,0,1,0,0] L8
def zGb:=ud tP AP [1,1,1,1,1,0,1,0] L8 (uq tP zGi K)
def zGf:=tM tP SB (zGb K) (zGe t1 t4 t5 t38 t39 t40) H
def zVe:=ux 1 (t1::ux 2 (t4::t5::ux 32 (t38::t39::t40::ux 4 (t45::t46::t47::ux 14 []))))
noncomputable def zVc:=uc [1,1,0,0,1,1,0,0] SB
def zVa:=ud tP AP [1,1,0,0,1,1,0] SB (vz zGh Kb11 (zGb K))
def zVf:=tM tP zVc (zVa K Kb11) (zVe t1 t4 t5 t38 t39 t40 t45 t46 t47) H
def zGc:=gt .lss false t40 t39 λt41=>tO t41 (tW 8 t38 t40 λt42=>tL true 8 t42 H λt43=>un [I0,I0,.ZG,.ZG,.ZG,I0,I0,.ZG] H λt9 H=>ua 8 t9 t43 H λH=>tN 3 t9 λt44=>tL false 1 t44 H λt45=>tV 1 t45 λt46=>zVf t1 t4 t5 t38 t39 t40 t45 t46 I0 H K Kb11) (tL false 1 t4 H λt57=>tN 2 t1 λt58=>tL false 1 t58 H λt59=>tV 1 t59 λt60=>gt .eql false t57 t60 λt61=>K t61 H)
def zGd:=gt .lss false t20 t19 λt21=>tO t21 (tW 7 t18 t20 λt22=>tL true 7 t22 H λt23=>un [(.str []),.ZG,.ZG,I0,I0,.ZG,I0] H λt7 H=>ua 7 t7 t23 H λH=>tN 1 t7 λt25=>tL false 1 t25 H λt26=>aCallV tP t5 [t26] H λt27 H=>aUn .not t27 λt28=>agm t28 false H t5 λt30 H=>agu t28 false H (tN 2 t7) λt31 H=>agu t28 false H (tL false 1 t31 H) λt32 H=>ui t28 false H (λK'=>aCallV tP t30 [t32] H K') λt33 H=>agu t28 false H (aUn .not t33) λt34 H=>tZ t28 (.bool true) t34 λt35=>tO t35 (K (.bool false) H) (gt .add false t20 I1 λt36=>Kb5 (SA t1 t4 t5 t18 t19 t36) H)) (tN 3 t1 λt37=>tL false 1 t37 H λt38=>tV 1 t38 λt39=>zGf t1 t4 t5 t38 t39 I0 H K)
def zGa:=ul t0 H λt1 H=>tN 2 t1 λt12=>tL false 1 t12 H λt13=>tV 1 t13 λt14=>vo 1 [(.bool false)] t14 t14 H λt15 H=>un [.ZG] H λt3 H=>ua 1 t3 t15 H λH=>un [I0] H λt4 H=>ua 1 t4 I0 H λH=>yl 206 [t3,t4] λt16=>tN 1 t1 λt17=>tL false 1 t17 H λt18=>tV 1 t18 λt19=>zGg t1 t4 t16 t18 t19 I0 H K
def L9:Nat→List Bool|6=>rl false [4,2,9,3,25]|_=>[]
noncomputable def zwe:=bd Tryz.f164
def SC:=ux 4 (t4::t5::ux 9 (t15::t16::t17::ux 25 []))
def zVn:=L9 6
noncomputable def zVl:=uc [1,1,1,1,1,0,1,0,0] zwe
def zVk:=ud tP L9 [1,1,1,1,1,0,1,0] zwe (uq tP Tryz.f164.results.toList K)
def zGl:=tM tP zVl (zVk K) (SC t4 t5 t15 t16 t17) H
def zGk:=gt .lss false t17 t16 λt18=>tO t18 (tW 7 t15 t17 λt19=>tL true 7 t19 H λt20=>un [(.str []),.ZG,.ZG,I0,I0,.ZG,I0] H λt7 H=>ua 7 t7 t20 H λH=>tL false 1 t4 H λt21=>tN 1 t7 λt22=>tL false 1 t22 H λt23=>aCallV tP t21 [t23,(.bool true)] H λt24 H=>tL false 1 t4 H λt25=>tN 2 t7 λt26=>tL false 1 t26 H λt27=>aCallV tP t25 [t27,(.bool true)] H λt28 H=>tL false 1 t5 H λt29=>tN 6 t7 λt30=>tL false 1 t30 H λt31=>aCallV tP t29 [t31] H λt32 H=>aUn .not t32 λt33=>tO t33 (K (.bool false) H) (tL false 1 t4 H λt34=>tN 1 t7 λt35=>tL false 1 t35 H λt36=>aCallV tP t34 [t36,(.bool false)] H λt37 H=>tL false 1 t4 H λt38=>tN 2 t7 λt39=>tL false 1 t39 H λt40=>aCallV tP t38 [t40,(.bool false)] H λt41 H=>gt .add false t17 I1 λt42=>Kb6 (SC t4 t5 t15 t16 t42) H)) (K (.bool true) H)
def zGj:=ul t0 H λt1 H=>tN 2 t1 λt8=>tL false 1 t8 H λt9=>tV 1 t9 λt10=>vo 1 [(.bool false)] t10 t10 H λt11 H=>un [.ZG] H λt3 H=>ua 1 t3 t11 H λH=>yl 207 [t3] λt12=>un [.nilfn] H λt4 H=>ua 1 t4 t12 H λH=>un [.nilfn] H λt5 H=>yl 208 [t1,t3,t4,t5] λt13=>ua 1 t5 t13 H λH=>tN 1 t1 λt14=>tL false 1 t14 H λt15=>tV 1 t15 λt16=>zGl t4 t5 t15 t16 I0 H K
variable {t0 t1 t3 t4 t5 t6 t8 t15 t16 t17 t18 t19 t20 t21 t31 t32 t33 t38 t39 t40 t45 t46 t47 t48} {H} {K} {Kb5 Kb6 Kb11}
def zRY(h:HSc H→zFa t0 H K):ge tP 122 [t0] H K:=
 acb zRV Tryz.func122 h
def zUT(h:HSc H→zFW t0 H K):ge tP 160 [t0] H K:=
 acb zUR Tryz.func160 h
def zUW:Lo2 (λt4 t21=>Sw t1 t3 t4 t19 t20 t21) (λt4 t21 H Kb6=>zFY t1 t3 t4 t19 t20 t21 H K Kb6) t4 t21 H (zF0 t1 t3 t4 t19 t20 t21 H K):=lq2 L6 zUX
def zUY(h:HSc H→zFX t0 H K):ge tP 161 [t0] H K:=
 acb L6 Tryz.func161 h
def zU6:Lo1 (λt33=>zF5 t1 t4 t5 t31 t32 t33) (λt33 H Kb11=>zF3 t1 t4 t5 t31 t32 t33 H K Kb11) t33 H (zF6 t1 t4 t5 t31 t32 t33 H K):=lq1 AO zF8
def zU7:Lo1 (λt20=>Sy t1 t4 t5 t18 t19 t20) (λt20 H Kb5=>zF4 t1 t4 t5 t18 t19 t20 H K Kb5) t20 H (zF7 t1 t4 t5 t18 t19 t20 H K):=lq1 AO zU8
def zU9(h:HSc H→zF1 t0 H K):ge tP 162 [t0] H K:=
 acb AO Tryz.func162 h
def zVg:Lo1 (λt40=>zGe t1 t4 t5 t38 t39 t40) (λt40 H Kb11=>zGc t1 t4 t5 t38 t39 t40 H K Kb11) t40 H (zGf t1 t4 t5 t38 t39 t40 H K):=lq1 AP zGh
def zVh:Lo1 (λt20=>SA t1 t4 t5 t18 t19 t20) (λt20 H Kb5=>zGd t1 t4 t5 t18 t19 t20 H K Kb5) t20 H (zGg t1 t4 t5 t18 t19 t20 H K):=lq1 AP zVi
def zVj(h:HSc H→zGa t0 H K):ge tP 163 [t0] H K:=
 acb AP Tryz.func163 h
def zVm:Lo1 (λt17=>SC t4 t5 t15 t16 t17) (λt17 H Kb6=>zGk t4 t5 t15 t16 t17 H K Kb6) t17 H (zGl t4 t5 t15 t16 t17 H K):=lq1 L9 zVn
def zVo(h:HSc H→zGj t0 H K):ge tP 164 [t0] H K:=
 acb L9 Tryz.func164 h
end
section
variable (t0 t1 t3 t16 t17 t18 t28 t29 t30:AV) (H:or) (K:Kt) (Kb3 Kb9:Lt)
def BO:Nat→List Bool|3=>rl false [1,1,1,1,12,3,30]|9=>rl false [3,1,24,3,18]|_=>[]
noncomputable def Ma:=bd Tryz.f165
noncomputable def zGr:=Tryz.f165.results.toList
def SD:=ux 1 (t1::ux 1 (t3::ux 12 (t16::t17::t18::ux 30 [])))
def zVw:=BO 3
noncomputable def zVs:=uc [1,1,0,1,0,0] Ma
def zVq:=ud tP BO [1,1,0,1,0] Ma (uq tP zGr K)
def zGp:=tM tP zVs (zVq K) (SD t1 t3 t16 t17 t18) H
def SE:=ux 3 (t3::ux 24 (t28::t29::t30::ux 18 []))
def zVx:=BO 9
noncomputable def zVt:=uc [1,1,1,0,1,0,0] Ma
def zVr:=ud tP BO [1,1,1,0,1,0] Ma (uq tP zGr K)
def zGq:=tM tP zVt (zVr K) (SE t3 t28 t29 t30) H
def zGo:=gt .lss false t30 t29 λt31=>tO t31 (tW 7 t28 t30 λt33=>tL true 7 t33 H λt34=>un [(.str []),.ZG,.ZG,I0,I0,.ZG,I0] H λt7 H=>ua 7 t7 t34 H λH=>tN 0 t7 λt35=>tL false 1 t35 H λt36=>gt .eql false t36 (.str []) λt37=>agm t37 true H t3 λt39 H=>agu t37 true H (vJ t39) λt40 H=>agu t37 true H (tN 4 t40) λt41 H=>agu t37 true H (tL false 1 t41 H) λt42 H=>agm t37 true H t30 λt43 H=>agu t37 true H (tW 1 t42 t43) λt44 H=>agu t37 true H (tL false 1 t44 H) λt45 H=>agu t37 true H (gt .neq false t45 I1) λt46 H=>tZ t37 t46 (.bool false) λt47=>tO t47 (K (.bool false) H) (gt .add false t30 I1 λt48=>Kb9 (SE t3 t28 t29 t48) H)) (K (.bool true) H)
def zGn:=gt .lss false t18 t17 λt19=>tO t19 (tW 8 t16 t18 λt20=>tL true 8 t20 H λt21=>un [I0,I0,.ZG,.ZG,.ZG,I0,I0,.ZG] H λt5 H=>ua 8 t5 t21 H λH=>tL true 8 t5 H λt23=>ge tP 209 [t3,t23] H λt24 H=>aUn .not t24 λt25=>tO t25 (K (.bool false) H) (gt .add false t18 I1 λt26=>Kb3 (SD t1 t3 t16 t17 t26) H)) (tN 1 t1 λt27=>tL false 1 t27 H λt28=>tV 1 t28 λt29=>zGq t3 t28 t29 I0 H K)
def zGm:=ul t0 H λt1 H=>apu H (tY true 4 t1 H) λt8=>apu H (tN 1 t1) λt9=>apu H (tY false 1 t9 H) λt10=>apu H (tV 1 t10) λt11=>vo 8 [I0] t11 t11 H λt12 H=>apu H (ug [.ZG,.ZG,.ZG,.ZG,.ZG] [(0,4),(4,1)] [(0,t8),(1,t12)]) λt13=>ul t13 H λt14 H=>apm H t14 λt3=>tN 3 t1 λt15=>tL false 1 t15 H λt16=>tV 1 t16 λt17=>zGp t1 t3 t16 t17 I0 H K
variable {t0 t1 t3 t16 t17 t18 t28 t29 t30} {H} {K} {Kb3 Kb9}
def zVv:Lo1 (λt30=>SE t3 t28 t29 t30) (λt30 H Kb9=>zGo t3 t28 t29 t30 H K Kb9) t30 H (zGq t3 t28 t29 t30 H K):=lq1 BO zVx
def zVu:Lo1 (λt18=>SD t1 t3 t16 t17 t18) (λt18 H Kb3=>zGn t1 t3 t16 t17 t18 H K Kb3) t18 H (zGp t1 t3 t16 t17 t18 H K):=lq1 BO zVw
def zVy(h:HSc H→zGm t0 H K):ge tP 165 [t0] H K:=
 acb BO Tryz.func165 h
end
section
variable (t0 t1 t2 t4 t5 t7 t10 t117:AV) (H:or) (K:Kt) (Kb4 Kb21:Lt)
def Mb:Nat→List Bool|21=>rl false [0,1,3,2,1,1,2,1,174]|_=>[]
noncomputable def zyg:=bd Tryz.f51
def Mc:=t0::ux 3 (t4::t5::ux 1 (t7::ux 2 (t10::ux 174 [])))
def ybU:=Mb 21
noncomputable def ybS:=uc [1,1,0,1,0,1,1,1,1,1,1,1,1,1,1,1,0,1,0,1,0,0] zyg
def ybR:=ud tP Mb [1,1,0,1,0,1,1,1,1,1,1,1,1,1,1,1,0,1,0,1,0] zyg (uq tP Tryz.f51.results.toList K)
def SF:=tM tP ybS (ybR K) (Mc t0 t4 t5 t7 t10) H
def SG:=gt .lss false t10 t7 λt153=>tO t153 (apm H t0 λt156=>apu H (tN 2 t4) λt157=>apu H (tY false 1 t157 H) λt158=>apm H t10 λt159=>apu H (tW 3 t158 t159) λt160=>apu H (tY true 3 t160 H) λt161=>apu H (tN 2 t5) λt162=>apu H (tY false 1 t162 H) λt163=>apu H (tW 3 t163 I0) λt164=>apu H (tY true 3 t164 H) λt165=>apc tP H 51 [t156,t161,t165] λt166=>apu H (aUn .not t166) λt167=>tO t167 (K (.bool false) H) (gt .add false t10 I1 λt155=>Kb21 (Mc t0 t4 t5 t7 t155) H)) (K (.bool true) H)
def Fv:=tO t117 (tN 0 t5 λt120=>tL false 1 t120 H λt121=>gt .eql false t121 (I6 7) λt122=>agu t122 true H (tN 0 t4) λt124 H=>agu t122 true H (tL false 1 t124 H) λt125 H=>agu t122 true H (gt .neq false t125 (I6 6)) λt126 H=>agm t122 true H t126 λt127 H=>agm t127 false H t7 λt128 H=>agu t127 false H (gt .gtr false t128 (I6 4096)) λt129 H=>agu t122 true H (tZ t127 (.bool true) t129) λt130 H=>tZ t122 t130 (.bool false) λt131=>agu t131 false H (tN 0 t5) λt133 H=>agu t131 false H (tL false 1 t133 H) λt134 H=>agu t131 false H (gt .eql false t134 (I6 8)) λt135 H=>agm t131 false H t135 λt136 H=>agu t136 true H (tN 0 t4) λt137 H=>agu t136 true H (tL false 1 t137 H) λt138 H=>agu t136 true H (gt .neq false t138 (I6 7)) λt139 H=>agm t136 true H t139 λt140 H=>agm t140 false H t7 λt141 H=>agu t140 false H (gt .neq false t141 I1) λt142 H=>agu t136 true H (tZ t140 (.bool true) t142) λt143 H=>agu t131 false H (tZ t136 t143 (.bool false)) λt144 H=>tZ t131 (.bool true) t144 λt145=>agu t145 false H (tN 1 t4) λt147 H=>agu t145 false H (tL false 1 t147 H) λt148 H=>agu t145 false H (gt .neq false t148 I0) λt149 H=>tZ t145 (.bool true) t149 λt150=>tO t150 (K (.bool false) H) (SF t0 t4 t5 t7 I0 H K)) (tN 0 t4 λt168=>tL false 1 t168 H λt169=>gt .eql false t169 (I6 8) λt170=>agu t170 true H (tN 1 t4) λt172 H=>agu t170 true H (tL false 1 t172 H) λt173 H=>agu t170 true H (gt .geq false t173 I0) λt174 H=>tZ t170 t174 (.bool false) λt175=>agu t175 true H (tN 1 t4) λt177 H=>agu t175 true H (tL false 1 t177 H) λt178 H=>agu t175 true H (gt .lss false t178 (I6 64)) λt179 H=>tZ t175 t179 (.bool false) λt180=>agm t180 true H t7 λt182 H=>agu t180 true H (gt .eql false t182 I0) λt183 H=>tZ t180 t183 (.bool false) λt184=>K t184 H)
def z8:=ul t1 H λt4 H=>ul t2 H λt5 H=>tN 2 t4 λt11=>tL false 1 t11 H λt12=>tV 1 t12 λt13=>tN 0 t5 λt14=>tL false 1 t14 H λt15=>gt .eql false t15 (I6 3) λt17=>tO t17 (tN 0 t4 λt18=>tL false 1 t18 H λt19=>gt .eql false t19 I1 λt20=>agu t20 true H (tN 1 t4) λt22 H=>agu t20 true H (tL false 1 t22 H) λt23 H=>agu t20 true H (gt .eql false t23 I0) λt24 H=>tZ t20 t24 (.bool false) λt25=>agm t25 true H t13 λt27 H=>agu t25 true H (gt .eql false t27 I0) λt28 H=>tZ t25 t28 (.bool false) λt29=>K t29 H) (gt .eql false t15 (I6 2) λt31=>tO t31 (tN 0 t4 λt32=>tL false 1 t32 H λt33=>gt .eql false t33 (I6 2) λt34=>agu t34 true H (tN 1 t4) λt36 H=>agu t34 true H (tL false 1 t36 H) λt37 H=>agu t34 true H (gt .eql false t37 I0) λt38 H=>agm t34 true H t38 λt39 H=>agu t39 false H (tN 1 t4) λt40 H=>agu t39 false H (tL false 1 t40 H) λt41 H=>agu t39 false H (gt .eql false t41 I1) λt42 H=>agu t34 true H (tZ t39 (.bool true) t42) λt43 H=>tZ t34 t43 (.bool false) λt44=>agm t44 true H t13 λt46 H=>agu t44 true H (gt .eql false t46 I0) λt47 H=>tZ t44 t47 (.bool false) λt48=>K t48 H) (gt .eql false t15 I1 λt50=>tO t50 (tN 0 t4 λt51=>tL false 1 t51 H λt52=>gt .eql false t52 (I6 3) λt53=>agu t53 true H (tN 1 t4) λt55 H=>agu t53 true H (tL false 1 t55 H) λt56 H=>ui t53 true H (λK'=>gt .geq false t56 (I6 (-1099511627776)) (K' · H)) λt57 H=>tZ t53 t57 (.bool false) λt58=>agu t58 true H (tN 1 t4) λt60 H=>agu t58 true H (tL false 1 t60 H) λt61 H=>agu t58 true H (gt .leq false t61 (I6 1099511627776)) λt62 H=>tZ t58 t62 (.bool false) λt63=>agm t63 true H t13 λt65 H=>agu t63 true H (gt .eql false t65 I0) λt66 H=>tZ t63 t66 (.bool false) λt67=>K t67 H) (gt .eql false t15 (I6 6) λt69=>tO t69 (tN 0 t4 λt70=>tL false 1 t70 H λt71=>gt .eql false t71 (I6 4) λt72=>agu t72 true H (tN 1 t4) λt74 H=>agu t72 true H (tL false 1 t74 H) λt75 H=>agu t72 true H (gt .eql false t75 I0) λt76 H=>tZ t72 t76 (.bool false) λt77=>agm t77 true H t0 λt79 H=>agu t77 true H (tN 2 t4) λt80 H=>agu t77 true H (tL false 1 t80 H) λt81 H=>agu t77 true H (tN 2 t5) λt82 H=>agu t77 true H (tL false 1 t82 H) λt83 H=>agc tP t77 true H 97 [t79,t81,t83] λt84 H=>tZ t77 t84 (.bool false) λt85=>K t85 H) (gt .eql false t15 (I6 5) λt87=>tO t87 (tN 0 t4 λt88=>tL false 1 t88 H λt89=>gt .neq false t89 (I6 5) λt90=>agu t90 false H (tN 1 t4) λt92 H=>agu t90 false H (tL false 1 t92 H) λt93 H=>agu t90 false H (gt .lss false t93 I0) λt94 H=>tZ t90 (.bool true) t94 λt95=>agu t95 false H (tN 1 t4) λt97 H=>agu t95 false H (tL false 1 t97 H) λt98 H=>agu t95 false H (gt .geq false t98 (I6 8)) λt99 H=>tZ t95 (.bool true) t99 λt100=>tO t100 (K (.bool false) H) (tL true 3 t5 H λt103=>tN 1 t4 λt104=>tL false 1 t104 H λt105=>ge tP 98 [t0,t103,t105] H λt106 H=>uo t106 0 λt107=>uo t106 1 λt108=>agm t108 true H t0 λt111 H=>agu t108 true H (tN 2 t4) λt112 H=>agu t108 true H (tL false 1 t112 H) λt113 H=>agm t108 true H t107 λt114 H=>agc tP t108 true H 97 [t111,t113,t114] λt115 H=>tZ t108 t115 (.bool false) λt116=>K t116 H)) (gt .eql false t15 (I6 7) λt118=>tO t118 (Fv t0 t4 t5 t13 t118 H K) (gt .eql false t15 (I6 8) λt119=>Fv t0 t4 t5 t13 t119 H K))))))
def Md:Nat→List Bool|4=>rl false [0,3,4,1,22]|_=>[]
noncomputable def zzn:=bd Tryz.f97
def Me:=t0::t1::t2::ux 4 (t7::ux 22 [])
def yfI:=Md 4
noncomputable def yfG:=uc [1,1,0,1,0,0] zzn
def yfF:=ud tP Md [1,1,0,1,0] zzn (uq tP Tryz.f97.results.toList K)
def zJR:=tM tP yfG (yfF K) (Me t0 t1 t2 t7) H
def SH:=tV 1 t1 λt15=>gt .lss false t7 t15 λt16=>tO t16 (apm H t0 λt19=>apm H t1 λt20=>apm H t7 λt21=>apu H (tW 3 t20 t21) λt22=>apu H (tY true 3 t22 H) λt23=>apm H t2 λt24=>apm H t7 λt25=>apu H (tW 3 t24 t25) λt26=>apu H (tY true 3 t26 H) λt27=>apc tP H 51 [t19,t23,t27] λt28=>apu H (aUn .not t28) λt29=>tO t29 (K (.bool false) H) (gt .add false t7 I1 λt18=>Kb4 (Me t0 t1 t2 t18) H)) (K (.bool true) H)
def SI:=tV 1 t1 λt9=>tV 1 t2 λt11=>gt .neq false t9 t11 λt12=>tO t12 (K (.bool false) H) (zJR t0 t1 t2 I0 H K)
variable {t0 t1 t2 t4 t5 t7 t10 t117} {H} {K} {Kb4 Kb21}
def ybT:Lo1 (λt10=>Mc t0 t4 t5 t7 t10) (λt10 H Kb21=>SG t0 t4 t5 t7 t10 H K Kb21) t10 H (SF t0 t4 t5 t7 t10 H K):=lq1 Mb ybU
def ybV(h:HSc H→z8 t0 t1 t2 H K):ge tP 51 [t0,t1,t2] H K:=
 acb Mb Tryz.func51 h
def yfH:Lo1 (λt7=>Me t0 t1 t2 t7) (λt7 H Kb4=>SH t0 t1 t2 t7 H K Kb4) t7 H (zJR t0 t1 t2 t7 H K):=lq1 Md yfI
def yfJ(h:HSc H→SI t0 t1 t2 H K):ge tP 97 [t0,t1,t2] H K:=
 acb Md Tryz.func97 h
end
def d4(eq:List Dat):AV:=.agg [.sl (eq.map Dat.cs) .none,.ZG,.ZG,.ZG]
section
variable {H:or} {K:Kt} (eq:List Dat)
def zPS(hK:K (.bool true) H):ge tP 160 [d4 eq] H K:=by refine ge.out (zUT λhs=>?_);simp[zFW,d4];refine⟨rfl,ge.wk (args':=[.sl (VT.css []) .none,.fn 203 [.ptr H.length 0]]) ?_ ⟨.atom .ZG,.atom (.refl _),trivial⟩⟩;refine Rx [] (by simp) _ _ _ (by simp[AV.sc,AV.ZJ,AV.ZH,AV.ZI]) (λ_ H'=>H'=H++[.cells [.sl (eq.map Dat.cs) .none,.ZG,.ZG,.ZG]]) rfl (λi h=>by simp at h) ?_;rintro H' rfl;simp;exact Out.bool rfl (af _) hs hK
def zLd(hK:K (.bool true) H):ge tP 161 [d4 eq] H K:=by refine ge.out (zUY λhs=>?_);simp[zFX,d4];refine zUW (Inv:=λ_ _ t H'=>t=I0∧H'=_) 0 (λ_=>⟨rfl,rfl⟩) ?_;rintro q t4 t H' ⟨rfl,rfl⟩ _ _ _ Kb fB;simp[zFY];exact Out.bool rfl (af _) hs hK
def zPD(hK:K (.bool true) H):ge tP 162 [d4 eq] H K:=by refine ge.out (zU9 λhs=>?_);simp[zF1,d4,vo];refine⟨⟨rfl,rfl⟩,zU7 (Inv:=λ_ t H'=>t=I0∧H'=_) 0 (λ_=>⟨rfl,rfl⟩) ?_⟩;rintro q t H' ⟨rfl,rfl⟩ _ _ _ Kb fB;simp[zF4];refine zU6 (Inv:=λ_ t H'=>t=I0∧H'=_) 0 (λ_=>⟨rfl,rfl⟩) ?_;rintro q t H' ⟨rfl,rfl⟩ _ _ _ Kb2 gv;simp[zF3,aa];exact Out.bool rfl (af _) hs hK
def zKU(hK:K (.bool true) H):ge tP 163 [d4 eq] H K:=by refine ge.out (zVj λhs=>?_);simp[zGa,d4,vo];refine⟨⟨rfl,rfl⟩,zVh (Inv:=λ_ t H'=>t=I0∧H'=_) 0 (λ_=>⟨rfl,rfl⟩) ?_⟩;rintro q t H' ⟨rfl,rfl⟩ _ _ _ Kb fB;simp[zGd];refine zVg (Inv:=λ_ t H'=>t=I0∧H'=_) 0 (λ_=>⟨rfl,rfl⟩) ?_;rintro q t H' ⟨rfl,rfl⟩ _ _ _ Kb2 gv;simp[zGc,aa];exact Out.bool rfl (af _) hs hK
def zOa(hK:K (.bool true) H):ge tP 164 [d4 eq] H K:=by refine ge.out (zVo λhs=>?_);simp[zGj,d4,vo];refine⟨rfl,⟨rfl,rfl,rfl,rfl⟩,zVm (Inv:=λ_ t H'=>t=I0∧H'=_) 0 (λ_=>⟨rfl,rfl⟩) ?_⟩;rintro q t H' ⟨rfl,rfl⟩ _ _ _ Kb fB;simp[zGk];exact Out.bool rfl (af _) hs hK
def zLL(hK:K (.bool true) H):ge tP 165 [d4 eq] H K:=by refine ge.out (zVy λhs=>?_);simp[zGm,d4,vo,ug,uv];refine zVu (Inv:=λ_ t H'=>t=I0∧H'=_) 0 (λ_=>⟨rfl,rfl⟩) ?_;rintro q t H' ⟨rfl,rfl⟩ _ _ _ Kb fB;simp[zGn];refine zVv (Inv:=λ_ t H'=>t=I0∧H'=_) 0 (λ_=>⟨rfl,rfl⟩) ?_;rintro q t H' ⟨rfl,rfl⟩ _ _ _ Kb2 gv;simp[zGo];exact Out.bool rfl (af _) hs hK
def zRX(hB:LC eq)(hl:eq.length≤1000000)(hK:K (.bool (vM eq)) H):ge tP 122 [d4 eq] H K:=by
 refine ge.out (zRY λhs=>?_);simp[zFa,d4];refine zUQ eq hB hl _ _ ?_;cases hd:vM eq with
 |false=>rw[hd]at hK;simp;exact Out.bool rfl (af _) hs hK
 |true=>rw[hd]at hK;simp;refine zPS eq ?_;simp;refine zLd eq ?_;simp;refine zPD eq ?_;simp;refine zKU eq ?_;simp;refine zOa eq ?_;simp;refine zLL eq ?_;exact Out.bool rfl (af _) hs hK
def wC(eq:List Dat)(t:VT):Bool:=vM eq && uW eq 0 t
end
theorem SJ(eq:List Dat):∀ vs ts:List VT,xF eq vs ts=xO (uX eq) vs ts
 |[],[]=>by simp[xF,xO]
 |[],_::_=>by simp[xF,xO]
 |_::_,[]=>by simp[xF,xO]
 |v::vs,t::ts=>by simp[xF,xO,SJ eq vs ts]
def zPN{eq:List Dat}{k n:Int}{ks:List VT}(h:vg eq 0 (.mk k n ks)=true):(k=1∧ks=[])∨(k=2∧ks=[])∨(k=3∧ks=[])∨k=5∨(k=6∧2≤ks.length)∨(k=7∧ks.length=1)∨(k=8∧ks.length=1)∨(k=9∧1≤ks.length):=by
 rw[vg,ap]at h;have h:=h.1;unfold vE at h;by_cases h1:k=1
 ·subst h1;simp at h;simp[h.2]
 by_cases h2:k=2
 ·subst h2;simp at h;simp[h.2]
 by_cases h3:k=3
 ·subst h3;simp at h;simp[h.2]
 by_cases h4:k=4
 ·subst h4;simp at h;omega
 by_cases h5:k=5
 ·subst h5;simp
 by_cases h6:k=6
 ·subst h6;simp at h;simp;omega
 by_cases h7:k=7
 ·subst h7;simp at h;simp;omega
 by_cases h8:k=8
 ·subst h8;simp at h;simp;omega
 by_cases h9:k=9
 ·subst h9;simp at h;simp;omega
 simp[h1,h2,h3,h4,h5,h6,h7,h8,h9]at h
structure DOk (eq:List Dat):Prop where
 ok:vM eq=true
 k:vj eq
def DOk.small{eq:List Dat}(h:DOk eq):LC eq:=λD hD=>by obtain⟨_,h2⟩:=h.k;obtain⟨_,h3,h4⟩:=h2 D hD;refine⟨by omega,λc hc=>?_⟩;obtain⟨_,h5,h6⟩:=h4 c hc;exact⟨by omega,λx hx=>by have:=h6 x hx;omega⟩
def BP{eq:List Dat}(h:vj eq):eq.length≤1000000∧(∀d∈eq,∀c∈d.cons,c.args.length≤1000∧∀x∈c.args,x.ZO≤1000)∧∀d∈eq,d.cons.length≤1000000:=by
 obtain⟨h1,h2⟩:=h;refine⟨by omega,λD hD c hc=>?_,λD hD=>?_⟩
 ·obtain⟨_,h3,h4⟩:=h2 D hD;obtain⟨_,h5,h6⟩:=h4 c hc;exact⟨by omega,λx hx=>by have:=h6 x hx;omega⟩
 ·obtain⟨_,h3,h4⟩:=h2 D hD;omega
section
variable {eq:List Dat} (hD:DOk eq)
theorem i0(n:Nat):((n:Int) == 0)=(n == 0):=by rw[dj];simp
theorem zLX{ks:List VT}(h:0<ks.length):ks.getD 0 (.mk 0 0 [])=ks[0]:=by simp[aq,h]
theorem zL2{eq:List Dat}{t:VT}{vs:List VT}{i:Nat}(h:i<vs.length):y0 eq (vs.drop i) t=(uX eq vs[i] t && y0 eq (vs.drop (i+1)) t):=by rw[ai h,y0]
include hD in
end
theorem zCC:∀ (a:List VT) (b:List Bool) (x:VT) (y:Bool),a.length=b.length→pick (a++[x]) (b++[y])=pick a b++(if y then [] else [x])
 |[],[],x,y,_=>by cases y <;> rfl
 |[],_::_,_,_,h=>by cases h
 |_::_,[],_,_,h=>by cases h
 |c::a,d::b,x,y,h=>by have:=zCC a b x y (by simpa using h);cases d <;> simp[pick,this]
def SK{l:List VT}{bs:List Bool}{i:Nat}(h:l.length=bs.length)(hi:i<l.length):pick (l.take (i+1)) (bs.take (i+1))=pick (l.take i) (bs.take i)++(if bs[i]'(by omega) then [] else [l[i]]):=by rw[ag hi,ag (by omega:i<bs.length)];exact zCC _ _ _ _ (by simp;omega)
theorem Fw:∀ (a:List VT) (b:List Bool),(pick a b).length≤a.length
 |[],b=>by simp[pick]
 |_::_,[]=>by simp[pick]
 |c::a,d::b=>by have:=Fw a b;cases d <;> simp[pick] <;> omega
def Fx{l:List Bool}{i:Nat}(h:i<(wz l).length):(wz l)[i]=[.bool (l[i]'(by simpa[wz]using h))]:=by simp[wz]
def AQ(l:List Bool):(wz l).length=l.length:=by simp[wz]
def zCA{eq:List Dat}{k n:Int}{ks:List VT}{c:Int}{l:List VT}(hk:vj eq)(hf:wa eq (.mk k n ks) c=some l):
  ∃ bs,l.length=bs.length∧l.length≤8∧vt eq (.mk k n ks) c=some (pick l bs)∧(∀ x∈l,x.ZO≤200)∧k=5 ∧
   (∀H K,K (.sl (wz bs) .none) H→ge tP 168 [.sl (eq.map Dat.cs) .none,I6 n,I6 c] H K) ∧
   (∀H K,K (.sl (wz bs) .none) H→ge tP 196 [.sl (eq.map Dat.cs) .none,I6 n,I6 c] H K):=by
 obtain⟨k5,n0,c0,hn,hc,hv,rfl,iP⟩:=Fs hf;obtain⟨f1,f2,f3⟩:=BP hk;have hd:=ae hn;have iw:=ae hc;obtain⟨g1,g2⟩:=f2 _ hd _ iw;have g3:=f3 _ hd;have h8:=((hk.2 _ hd).2.2 _ iw).2.1;refine⟨xt n.toNat eq[n.toNat] (eq[n.toNat]).cons[c.toNat],by simp[xt],by simpa using h8,?_,iP,k5,λH K hK=>?_,λH K hK=>?_⟩
 ·simp[vt,hf,y4,hn,hc,aq,VT.num]
 ·have:=Ry eq n.toNat c.toNat hn hc f1 g3 (by omega) (λx hx=>by have:=g2 x hx;omega) H K (by simpa[wz,xt,Function.comp_def]using hK);rwa [bO n0,bO c0]at this
 ·have:=zGX eq n.toNat c.toNat hn hc f1 g3 (by omega) (λx hx=>by have:=g2 x hx;omega) H K hK;rwa [bO n0,bO c0]at this
def zCz{eq:List Dat}{t:VT}{c:Int}(hf:wa eq t c=none):vt eq t c=none:=by simp[vt,hf]
def zSe(eq:List Dat)(hk:vj eq)(t:VT)(ht:t.ZO≤1000)(c:Int)(H:or)(K:Kt)(hK:K (xC (vt eq t c)) H):
  ge tP 125 [.sl (eq.map Dat.cs) .none,.agg t.cs,I6 c] H K:=by
 refine ge.out (zSc λhs=>?_);obtain⟨f1,f2,f3⟩:=BP hk;obtain⟨k,n,ks⟩:=t;simp[zFf,VT.cs,aa];refine zGz eq f1 f2 f3 (.mk k n ks) ht c _ _ ?_;cases hf:wa eq (.mk k n ks) c with
 |none=>rw[zCz hf]at hK;simp[xC];refine⟨⟨rfl,rfl⟩,?_⟩;exact Out.tup (bs:=[.sl [] .none,.bool false]) hs hK ⟨xd,uJ rfl rfl,trivial⟩
 |some l=>
  obtain⟨bs,iI,qA,i5,iP,k5,hsc,_⟩:=zCA hk hf;rw[i5]at hK;simp[xC];refine hsc _ _ ?_;simp[AQ];unfold LR;refine tM.own 10 25 3 rfl ?_;have jY:(H++[AB.cells [AV.int IntKind.i64 k,AV.int IntKind.i64 n,AV.sl (VT.css ks) Tok.none]]).length=H.length+1:=by simp
  rw[jY];show LR (.sl (VT.css l) .none) (.sl [] (.own (H.length+1))) (.sl (wz bs) .none) (I6 bs.length) I0 (H++[.cells [I6 k,I6 n,.sl (VT.css ks) .none]]++[.perm 25 3 0]) (Out H.length K);have fO:∀m,HSc (H++[.cells [I6 k,I6 n,.sl (VT.css ks) .none],.perm 25 3 m]):=λm=>hs.append (by simp[AB.sc,AV.ZH,AV.ZI]);refine zSa (Inv:=λq t10 t28 H'=>∃i:Nat,i≤bs.length∧q=bs.length-i∧t28=I6 i∧t10=.sl (VT.css (pick (l.take i) (bs.take i))) (.own (H.length+1))∧H'=H++[.cells [I6 k,I6 n,.sl (VT.css ks) .none],.perm 25 3 (pick (l.take i) (bs.take i)).length]) bs.length ?_ ?_
  ·intro _;exact⟨0,by omega,by omega,rfl,by simp[pick,VT.css],by simp[pick]⟩
  ·rintro q t10 t28 H' ⟨i,hi,rfl,rfl,rfl,rfl⟩ fG fz fM Kb fB;by_cases fy:i<bs.length
   ·have ke:=SK iI (by omega:i<l.length);have gQ:=Fw (l.take i) (bs.take i);rw[a7]at gQ;have gb:∀ J,LS (.sl (VT.css l) .none) (.sl (VT.css (pick (l.take (i+1)) (bs.take (i+1)))) (.own (H.length+1))) (.sl (wz bs) .none) (I6 bs.length) (I6 i)
      (H++.cells [I6 k,I6 n,.sl (VT.css ks) .none]::.perm 25 3 (pick (l.take (i+1)) (bs.take (i+1))).length::J) (Out H.length K) Kb:=by
     intro J;simp[LS,zFg];rw[um (by omega) (by omega)];refine fB _ _ ⟨bs.length-(i+1),by omega,Back.at (J:=J) (H2:=H++[.cells [I6 k,I6 n,.sl (VT.css ks) .none],.perm 25 3 (pick (l.take (i+1)) (bs.take (i+1))).length]) (by simp) (by simp) (fO _) ?_ ⟨_,_,rfl,i+1,by omega,rfl,by simp,rfl,rfl⟩⟩;simp[LQ,AV.sc,AV.ZJ,AV.ZH,AV.ZI]
    simp[Sr,AQ,fy,Fx];cases mC:bs[i] with
    |true=>rw[mC]at ke;simp at ke;simp;have:=gb [];rw[ke]at this;exact this
    |false=>rw[mC]at ke;simp only[aK,ba]at ke;simp[show i<l.length by omega];rw[Bu];simp[uj,uD,uy];have:=gb [];rw[ke]at this;rw[show VT.css (pick (l.take i) (bs.take i)++[l[i]])=VT.css (pick (l.take i) (bs.take i))++[l[i].cs] by simp[VT.ZC],show (pick (l.take i) (bs.take i)++[l[i]]).length=(pick (l.take i) (bs.take i)).length+1 by simp]at this;exact⟨⟨by omega,by omega⟩,this⟩
   ·obtain rfl:i=bs.length:=by omega
    rw[am (by omega),az]at *;simp[Sr];refine⟨⟨rfl,rfl⟩,?_⟩;exact Out.tup (bs:=[.sl (VT.css (pick l bs)) .none,.bool true]) hs hK ⟨slV,uJ rfl rfl,trivial⟩
def pos(v:Bool)(bs:List Bool)(i:Nat):List Nat:=(List.range i).filter λj=>bs.getD j false == v
def wD(l:List Nat):List (List AV):=l.map λ(n:Nat)=>[AV.int .i64 (Int.ofNat n)]
def SL(v:Bool)(bs:List Bool)(i:Nat)(h:i<bs.length):pos v bs (i+1)=pos v bs i++(if bs[i] == v then [i] else []):=by unfold pos;rw[c5,df];congr 1;simp[dz,aq,h]
def SM(v:Bool)(bs:List Bool)(i:Nat):(pos v bs i).length≤i:=by have:=cT (λj=>bs.getD j false == v) (List.range i);simpa[pos]using this
def zNk{v:Bool}{bs:List Bool}{i j:Nat}(h:j∈pos v bs i):j<i:=by simp[pos]at h;exact h.1
theorem zCB{l:List VT}{bs:List Bool}(h:l.length=bs.length)(d:VT):∀ i,i≤l.length→pick (l.take i) (bs.take i)=(pos false bs i).map λj=>l.getD j d
 |0,_=>by simp[pick,pos]
 |i+1,hi=>by rw[SK h (by omega),SL false bs i (by omega),a6,zCB h d i (by omega)];congr 1;cases hb:bs[i]'(by omega) <;> simp[aq,show i<l.length by omega]
def Fy(l:List Nat):(wD l).length=l.length:=by simp[wD]
def zMK{l:List Nat}{i:Nat}(h:i<(wD l).length):(wD l)[i]=[I6 ((l[i]'(by simpa[wD]using h):Nat):Int)]:=by simp[wD]
def zB6(l m:List Nat):wD (l++m)=wD l++wD m:=by simp[wD]
def zTY(eq:List Dat)(hk:vj eq)(k n:Int)(ks:List VT)(ht:(VT.mk k n ks).ZO≤1000)(c:Int){l:List VT}{bs:List Bool}(hf:wa eq (.mk k n ks) c=some l)(iI:l.length=bs.length)(qA:l.length≤8)(lF:∀ H K,K (.sl (wz bs) .none) H→ge tP 196 [.sl (eq.map Dat.cs) .none,I6 n,I6 c] H K)(H:or)(K:Kt)(hK:K (.tup [.sl (wD (pos false bs bs.length)) .none,.sl (wD (pos true bs bs.length)) .none,.bool true]) H):
  ge tP 149 [.sl (eq.map Dat.cs) .none,.agg (VT.mk k n ks).cs,I6 c] H K:=by
 refine ge.out (zTW λhs=>?_);obtain⟨f1,f2,f3⟩:=BP hk;simp[zFF,VT.cs,aa];refine QW eq f1 f2 f3 (.mk k n ks) ht c _ _ ?_;rw[hf];simp[xC];refine lF _ _ ?_;simp[AQ];unfold LY;refine tM.own 11 3 1 rfl ?_;refine tM.own 12 3 1 rfl ?_;have jY:(H++[AB.cells [AV.int IntKind.i64 k,AV.int IntKind.i64 n,AV.sl (VT.css ks) Tok.none]]).length=H.length+1:=by simp
 have kx:(H++[AB.cells [AV.int IntKind.i64 k,AV.int IntKind.i64 n,AV.sl (VT.css ks) Tok.none]]++[AB.perm 3 1 0]).length=H.length+2:=by simp
 rw[jY,kx];show LY (.sl [] (.own (H.length+1))) (.sl [] (.own (H.length+2))) (.sl (wz bs) .none) (I6 bs.length) I0 (H++[.cells [I6 k,I6 n,.sl (VT.css ks) .none]]++[.perm 3 1 0]++[.perm 3 1 0]) (Out H.length K);have fO:∀ m m2,HSc (H++[.cells [I6 k,I6 n,.sl (VT.css ks) .none],.perm 3 1 m,.perm 3 1 m2]):=λm m2=>hs.append (by simp[AB.sc,AV.ZH,AV.ZI]);refine zTU (Inv:=λq t11 t12 t30 H'=>∃ i:Nat,i≤bs.length∧q=bs.length-i∧t30=I6 i∧t11=.sl (wD (pos false bs i)) (.own (H.length+1))∧t12=.sl (wD (pos true bs i)) (.own (H.length+2)) ∧
  H'=H++[.cells [I6 k,I6 n,.sl (VT.css ks) .none],.perm 3 1 (pos false bs i).length,.perm 3 1 (pos true bs i).length]) bs.length ?_ ?_
 ·intro _;exact⟨0,by omega,by omega,rfl,by simp[pos,wD],by simp[pos,wD],by simp[pos]⟩
 ·rintro q t11 t12 t30 H' ⟨i,hi,rfl,rfl,rfl,rfl,rfl⟩ fG fz fM Kb fB;by_cases fy:i<bs.length
  ·have kT:=SL false bs i fy;have o6:=SL true bs i fy;have gx:=SM false bs i;have ig:=SM true bs i;have gb:LZ (.sl (wD (pos false bs (i+1))) (.own (H.length+1))) (.sl (wD (pos true bs (i+1))) (.own (H.length+2))) (.sl (wz bs) .none) (I6 bs.length) (I6 i)
     (H++[.cells [I6 k,I6 n,.sl (VT.css ks) .none],.perm 3 1 (pos false bs (i+1)).length,.perm 3 1 (pos true bs (i+1)).length]) (Out H.length K) Kb:=by
    simp[LZ,zFG];rw[um (by omega) (by omega)];refine fB _ _ ⟨bs.length-(i+1),by omega,Back.at (J:=[]) (H2:=H++[.cells [I6 k,I6 n,.sl (VT.css ks) .none],.perm 3 1 (pos false bs (i+1)).length,.perm 3 1 (pos true bs (i+1)).length]) (by simp) (by simp) (fO _ _) ?_ ⟨_,_,_,rfl,i+1,by omega,rfl,by simp,rfl,rfl,rfl⟩⟩;simp[LX,AV.sc,AV.ZJ,AV.ZH,AV.ZI]
   cases mC:bs[i] with
   |true=>rw[mC]at kT o6;simp at kT o6;rw[kT,o6]at gb;simp[L0,AQ,fy,Fx,mC,uk,uI,plain,AV.pd,uj,uD,uy,Fy];refine⟨⟨by omega,by omega⟩,?_⟩;simpa[zB6,wD]using gb
   |false=>rw[mC]at kT o6;simp at kT o6;rw[kT,o6]at gb;simp[L0,AQ,fy,Fx,mC,uk,uI,plain,AV.pd,uj,uD,uy,Fy];refine⟨⟨by omega,by omega⟩,?_⟩;simpa[zB6,wD]using gb
  ·obtain rfl:i=bs.length:=by omega
   simp[L0];refine⟨⟨rfl,rfl,rfl⟩,?_⟩;exact Out.tup (bs:=[.sl (wD (pos false bs bs.length)) .none,.sl (wD (pos true bs bs.length)) .none,.bool true]) hs hK ⟨slV,slV,uJ rfl rfl,trivial⟩
def zEI(eq:List Dat)(hk:vj eq)(t:VT)(ht:t.ZO≤1000)(c:Int)(H:or)(K:Kt)(hK:K (xC (vt eq t c)) H):
  ge tP 102 [.sl (eq.map Dat.cs) .none,.agg t.cs,I6 c] H K:=by
 refine ge.out (zQg λhs=>?_);obtain⟨f1,f2,f3⟩:=BP hk;obtain⟨k,n,ks⟩:=t;simp[zEH,VT.cs,aa];refine QW eq f1 f2 f3 (.mk k n ks) ht c _ _ ?_;cases hf:wa eq (.mk k n ks) c with
 |none=>rw[zCz hf]at hK;simp[xC];refine⟨⟨rfl,rfl⟩,?_⟩;exact Out.tup (bs:=[.sl [] .none,.bool false]) hs hK ⟨xd,uJ rfl rfl,trivial⟩
 |some l=>
  obtain⟨bs,iI,qA,i5,iP,k5,_,lF⟩:=zCA hk hf;rw[i5]at hK;simp[xC];refine zTY eq hk k n ks ht c hf iI qA lF _ _ ?_;simp[Fy];unfold LV;refine tM.own 13 25 3 rfl ?_;have jY:(H++[AB.cells [AV.int IntKind.i64 k,AV.int IntKind.i64 n,AV.sl (VT.css ks) Tok.none]]).length=H.length+1:=by simp
  rw[jY];have hpp:=zCB iI (.mk 0 0 []) l.length (af _);rw[az,iI,az]at hpp;rw[hpp]at hK;have hpt:∀j∈pos false bs bs.length,j<l.length:=λj hj=>by have:=zNk hj;omega
  have hp8:=SM false bs bs.length;generalize pos false bs bs.length=P at *;show LV (.sl (VT.css l) .none) (.sl [] (.own (H.length+1))) (.sl (wD P) .none) (I6 P.length) I0 (H++[.cells [I6 k,I6 n,.sl (VT.css ks) .none]]++[.perm 25 3 0]) (Out H.length K);have fO:∀m,HSc (H++[.cells [I6 k,I6 n,.sl (VT.css ks) .none],.perm 25 3 m]):=λm=>hs.append (by simp[AB.sc,AV.ZH,AV.ZI]);refine zQe (Inv:=λq t13 t35 H'=>∃i:Nat,i≤P.length∧q=P.length-i∧t35=I6 i∧t13=.sl (VT.css ((P.take i).map λj=>l.getD j (.mk 0 0 []))) (.own (H.length+1))∧H'=H++[.cells [I6 k,I6 n,.sl (VT.css ks) .none],.perm 25 3 i]) P.length ?_ ?_
  ·intro _;exact⟨0,by omega,by omega,rfl,by simp[VT.css],by simp⟩
  ·rintro q t13 t35 H' ⟨i,hi,rfl,rfl,rfl,rfl⟩ fG fz fM Kb fB;by_cases fy:i<P.length
   ·have hj:=hpt _ (ae fy);simp[Ss,Fy,zMK,fy,hj];rw[Bu];simp[uj,uD,uy,bo hi];refine⟨⟨by omega,by omega⟩,?_⟩;rw[um (by omega) (by omega)];have fN:VT.css (List.take i (List.map (λj=>l[j]?.getD (VT.mk 0 0 [])) P))++[(l[P[i]]'hj).cs]=VT.css ((P.take (i+1)).map λj=>l.getD j (.mk 0 0 [])):=by rw[ag fy,VT.ZC,VT.ZC,a6,a6,bT];simp[aq,hj]
    rw[fN];refine fB _ _ ⟨P.length-(i+1),by omega,Back.at (J:=[]) (H2:=H++[.cells [I6 k,I6 n,.sl (VT.css ks) .none],.perm 25 3 (i+1)]) (by simp) (by simp) (fO _) ?_ ⟨_,_,rfl,i+1,by omega,rfl,by simp,rfl,rfl⟩⟩;simp[LU,AV.sc,AV.ZJ,AV.ZH,AV.ZI]
   ·obtain rfl:i=P.length:=by omega
    rw[az]at *;simp[Ss,Fy];refine⟨⟨rfl,rfl⟩,?_⟩;exact Out.tup (bs:=[.sl (VT.css (P.map λj=>l.getD j (.mk 0 0 []))) .none,.bool true]) hs hK ⟨slV,uJ rfl rfl,trivial⟩
end Go.Proofs.YtdmamdnkcefmmaaGreatDoor
