import Derived.Test.YtdmamdnkcefmmaaGreatDoorIT
import Derived.Test.YtdmamdnkcefmmaaGreatDoorVO
import Derived.Test.YtdmamdnkcefmmaaGreatDoorAbsN
import Derived.KernelRfl
set_option linter.unusedSimpArgs false
set_option linter.unusedVariables false
set_option maxRecDepth 8000
namespace Go.Proofs.YtdmamdnkcefmmaaGreatDoor
def zaq:List Nat→Nat
 |[]=>0
 |x::l=>x+1000000000*zaq l
def lim(n:Nat):List Nat:=if _h:n=0 then [] else n % 1000000000::lim (n / 1000000000)
termination_by n
decreasing_by exact cL (by omega) (by decide)
@[simp] theorem zwU:lim 0=[]:=by rw[lim];rfl
theorem zcd{n:Nat}(h:n≠0):lim n=n % 1000000000::lim (n / 1000000000):=by rw[lim,dif_neg h]
theorem zbO(n:Nat):zaq (lim n)=n:=by
 induction n using Nat.strongRecOn with
 |_ n ih=>
  by_cases h:n=0
  ·subst h;simp[zaq]
  ·rw[zcd h,zaq,ih _ (cL (by omega) (by decide))];exact Nat.mod_add_div n 1000000000
theorem zci(n:Nat):∀x∈lim n,x<1000000000:=by
 induction n using Nat.strongRecOn with
 |_ n ih=>
  by_cases h:n=0
  ·subst h;simp
  ·rw[zcd h];intro x hx;rcases aS.1 hx with rfl | hx
   ·exact ck _ (by decide)
   ·exact ih _ (cL (by omega) (by decide)) x hx
theorem lim_nil{n:Nat}:lim n=[]↔n=0:=by
 by_cases h:n=0
 ·simp[h]
 ·rw[zcd h];simp[h]
def zbF:List Nat→List Nat
 |[]=>[]
 |x::l=>if x=0∧zbF l=[] then [] else x::zbF l
theorem zhz:∀ (a b:List Nat),zaq (a++b)=zaq a+1000000000 ^ a.length*zaq b
 |[],b=>by simp[zaq]
 |x::a,b=>by simp only[List.cons_append,zaq,zhz a b,List.length_cons,Nat.pow_succ];grind
theorem zfH:∀ (l:List Nat),(∀ x∈l,x<1000000000)→zbF l=lim (zaq l)
 |[],_=>by simp[zbF,zaq]
 |x::l,h=>by
  have hx:=h x (by simp);have ih:=zfH l (λy hy=>h y (by simp[hy]));rw[zbF,zaq,ih];have e1:(x+1000000000*zaq l) % 1000000000=x:=by rw[dv,bH hx]
  have e2:(x+1000000000*zaq l) / 1000000000=zaq l:=by rw[Nat.add_mul_div_left _ _ (by decide),bQ hx];omega
  by_cases h0:x=0∧lim (zaq l)=[]
  ·rw[aA h0];have:=lim_nil.1 h0.2;rw[this,h0.1];simp
  ·rw[ap h0];have:x+1000000000*zaq l≠0:=by
    intro h1;refine h0 ⟨by omega,lim_nil.2 ?_⟩;have:1000000000*zaq l=0:=by omega
    rcases Nat.mul_eq_zero.1 this with h2|h2
    ·cases h2
    ·exact h2
   rw[zcd this,e1,e2]
theorem zeW:∀ (l:List Nat),(∀ x∈l,x<1000000000)→zaq l<1000000000 ^ l.length
 |[],_=>by simp[zaq]
 |x::l,h=>by have hx:=h x (by simp);have ih:=zeW l (λy hy=>h y (by simp[hy]));simp only[zaq,List.length_cons,Nat.pow_succ];have:1000000000*(zaq l+1)≤1000000000*1000000000 ^ l.length:=bp _ ih;rw[ba (1000000000 ^ l.length)];rw[Nat.mul_succ]at this;omega
theorem zbW{n k:Nat}(h:n<1000000000 ^ k):(lim n).length≤k:=by
 induction k generalizing n with
 | zero => have : n = 0 := by simp at h; omega
           subst this;simp
 |succ k ih=>
  by_cases h0:n=0
  ·subst h0;simp
  ·rw[zcd h0,List.length_cons];have:=ih (n:=n / 1000000000) (Nat.div_lt_of_lt_mul (by rw[Nat.pow_succ,ba]at h;exact h));omega
theorem zwT{n:Nat}(h:n≠0):1000000000 ^ ((lim n).length-1)≤n:=by
 induction n using Nat.strongRecOn with
 |_ n ih=>
  rw[zcd h,List.length_cons,cK];by_cases h1:n / 1000000000=0
  ·rw[h1];simp;omega
  ·have:=ih (n / 1000000000) (cL (by omega) (by decide)) h1;have hl:0<(lim (n / 1000000000)).length:=by rw[zcd h1];simp
   have e:(lim (n / 1000000000)).length=(lim (n / 1000000000)).length-1+1:=by omega
   rw[e,Nat.pow_succ];calc _≤(n / 1000000000)*1000000000:=au _ this
    _≤n:=Nat.div_mul_le_self _ _
theorem zfs{n:Nat}(h0:n≠0)(h:n<1000000000):lim n=[n]:=by rw[zcd h0,bH h,bQ h];simp
theorem zpf:∀ (l:List Nat) (j:Nat) (x:Nat) (h:j<l.length),zaq (l.set j x)+l[j]*1000000000 ^ j=zaq l+x*1000000000 ^ j
 |[],j,x,h=>by simp at h
 |y::l,0,x,h=>by simp[zaq];omega
 |y::l,j+1,x,h=>by have:=zpf l j x (by simpa using h);simp only[List.set_cons_succ,zaq,List.getElem_cons_succ,Nat.pow_succ];grind
theorem zgh(l:List Nat)(i:Nat)(h:i<l.length):zaq (l.take (i+1))=zaq (l.take i)+l[i]*1000000000 ^ i:=by rw[af h,zhz];simp[zaq,bj (bN h)];exact ba _ _
theorem zGn(n:Nat):zaq (List.replicate n 0)=0:=by
 induction n with
 |zero=>rfl
 |succ n ih=>rw[List.replicate_succ,zaq,ih]
theorem zhA(l:List Nat)(i:Nat)(h:i<l.length):zaq (l.drop i)=l[i]+1000000000*zaq (l.drop (i+1)):=by rw[ag h,zaq]
theorem zjg{a b:Nat}(h:(lim a).length<(lim b).length):a<b:=by
 by_cases hb:b=0
 ·subst hb;simp at h
 ·have h1:=zwT hb;have h2:=zeW (lim a) (zci a);rw[zbO]at h2;exact bg h2 (ar (a8 (by decide) (by omega)) h1)
def zc9:List (IT × Nat)→IT→Nat→List (IT × Nat)
 |[],i,c=>[(i,c)]
 |p::s,i,c=>if IT.cmp p.1 i<0 then p::zc9 s i c else if IT.cmp p.1 i=0 then (p.1,p.2+c)::s else (i,c)::p::s
theorem zEB{s:List (IT×Nat)}{i:IT}{c:Nat}:∀p∈zc9 s i c,(p∈s∨p=(i,c))∨∃q∈s,p=(q.1,q.2+c):=by
 induction s with
 |nil=>intro p hp;simp[zc9]at hp;exact .inl (.inr hp)
 |cons q s ih=>
  intro p hp;rw[zc9]at hp;split at hp
  ·rcases aS.1 hp with rfl | hp
   ·exact .inl (.inl (by simp))
   ·rcases ih p hp with (h | h) | ⟨r,hr,h⟩
    ·exact .inl (.inl (by simp[h]))
    ·exact .inl (.inr h)
    ·exact .inr ⟨r,by simp[hr],h⟩
  ·split at hp
   ·rcases aS.1 hp with rfl | hp
    ·exact .inr ⟨q,by simp,rfl⟩
    ·exact .inl (.inl (by simp[hp]))
   ·rcases aS.1 hp with rfl | hp
    ·exact .inl (.inr rfl)
    ·exact .inl (.inl hp)
def zaM(f:IT→Nat)(s:List (IT×Nat)):Nat:=(s.map λp=>p.2*f p.1).foldr (·+·) 0
@[simp] theorem zdD(f:IT→Nat):zaM f []=0:=rfl
@[simp] theorem zc3(f:IT→Nat)(p:IT×Nat)(s:List (IT×Nat)):zaM f (p::s)=p.2*f p.1+zaM f s:=rfl
theorem zkt(f:IT→Nat):∀ a b:List (IT × Nat),zaM f (a++b)=zaM f a+zaM f b
 |[],b=>by simp
 |p::a,b=>by simp[zkt f a b];omega
mutual
theorem same_eq:∀ v w:IT,IT.same v w=true→v=w
 |.mk n ks,.mk n' ks',h=>by simp only[IT.same,ai,a6]at h;rw[h.1,sameL_eq ks ks' h.2]
theorem sameL_eq:∀ v w:List IT,IT.sameL v w=true→v=w
 |v::vs,w::ws,h=>by simp only[IT.sameL,ai]at h;rw[same_eq v w h.1,sameL_eq vs ws h.2]
 |[],[],_=>rfl
 |[],_::_,h=>by simp[IT.sameL]at h
 |_::_,[],h=>by simp[IT.sameL]at h
end
theorem zoJ{v w:IT}(h:IT.cmp v w=0):v=w:=same_eq v w ((IT.cmp_zero v w).1 h)
theorem zyO(f:IT→Nat)(i:IT)(c:Nat):∀ s:List (IT × Nat),zaM f (zc9 s i c)=zaM f s+c*f i
 |[]=>by simp[zc9]
 |p::s=>by
  rw[zc9];split
  ·rw[zc3,zc3,zyO f i c s];omega
  ·split
   ·rename_i h;have e:=zoJ h;subst e;simp only[zc3,aZ];omega
   ·rw[zc3];simp only;omega
def zda(s:List (IT×Nat))(i:IT)(c:Nat):List (IT×Nat):=if c=0 then s else zc9 s i c
theorem zI2(f:IT→Nat)(i:IT)(c:Nat)(s:List (IT×Nat)):zaM f (zda s i c)=zaM f s+c*f i:=by
 unfold zda;split
 ·rename_i h;rw[h];simp
 ·exact zyO f i c s
def zbU(s l:List (IT×Nat)):List (IT×Nat):=l.foldl (λs p=>zda s p.1 p.2) s
theorem zcy(f:IT→Nat):∀ (l s:List (IT × Nat)),zaM f (zbU s l)=zaM f s+zaM f l
 |[],s=>by simp[zbU]
 |p::l,s=>by have h:=zcy f l (zda s p.1 p.2);rw[zI2]at h;show zaM f (zbU (zda s p.1 p.2) l)=_;rw[h,zc3];omega
theorem Out.tup{H J:zaa}{K:AV→zaa→Prop}{asx bs:List AV}(hs:HSc H)(h:K (.tup bs) H)(hw:All2 (λa b=>WkV a b∧b.isV=true∧b.scV H.length=true) asx bs):Out H.length K (.tup asx) (H++J):=
 ⟨_,H,J,rfl,aa _,hs,.tup (hw.mono λ_ _ h=>.wk h.1 h.2.1 h.2.2),h⟩
theorem Out.tup0{H:zaa}{K:AV→zaa→Prop}{asx bs:List AV}(hs:HSc H)(h:K (.tup bs) H)(hw:All2 (λa b=>WkV a b∧b.isV=true∧b.scV H.length=true) asx bs):Out H.length K (.tup asx) H:=by have:=Out.tup (J:=[]) hs h hw;simpa using this
theorem Out.one{H J:zaa}{K:AV→zaa→Prop}{a b:AV}(hs:HSc H)(hw:WkV a b)(hv:b.isV=true)(hc:b.scV H.length=true)(h:K b H):Out H.length K a (H++J):=
 ⟨_,H,J,rfl,aa _,hs,.one (.wk hw hv hc),h⟩
theorem Out.one0{H:zaa}{K:AV→zaa→Prop}{a b:AV}(hs:HSc H)(hw:WkV a b)(hv:b.isV=true)(hc:b.scV H.length=true)(h:K b H):Out H.length K a H:=by have:=Out.one (J:=[]) hs hw hv hc h;simpa using this
@[simp] theorem zZW(k:IntKind)(n:Int):(AV.int k n).known=true:=rfl
@[simp] theorem zZ3(s:List UInt8):(AV.str s).known=true:=rfl
@[simp] theorem zZU(b:Bool):(AV.bool b).known=true:=rfl
@[simp] theorem zZ2(es:List (List AV))(t:Tok):(AV.sl es t).known=true:=rfl
@[simp] theorem zcX:AV.snil.known=true:=rfl
@[simp] theorem zZZ:AV.nilp.known=true:=rfl
@[simp] theorem zZ1(i o:Nat):(AV.ptr i o).known=true:=rfl
@[simp] theorem zZY(i o l c:Nat):(AV.ms i o l c).known=true:=rfl
@[simp] theorem zZV(f:Nat)(c:List AV):(AV.fn f c).known=true:=rfl
@[simp] theorem zZX(i:Nat):(AV.map i).known=true:=rfl
@[simp] theorem zZ4(cs:List AV):(AV.view cs).known=true:=rfl
section
variable {H:zaa} {K:AV→zaa→Prop}
@[simp] theorem zWX(i o:Nat):zaw (.ptr i o) H K=K (.ptr H.length 0) (H++[.cells [.ptr i o]]):=propext aL
@[simp] theorem zWV(i o l c:Nat):zaw (.ms i o l c) H K=K (.ptr H.length 0) (H++[.cells [.ms i o l c]]):=propext aL
@[simp] theorem zWU(i:Nat):zaw (.map i) H K=K (.ptr H.length 0) (H++[.cells [.map i]]):=propext aL
@[simp] theorem zWS(f:Nat)(c:List AV):zaw (.fn f c) H K=K (.ptr H.length 0) (H++[.cells [.fn f c]]):=propext aL
@[simp] theorem zWZ:zaw .snil H K=K (.ptr H.length 0) (H++[.cells [.snil]]):=propext aL
end
theorem zaH{H:zaa}{p:zaa→(AV→zaa→Prop)→Prop}{k:AV→Prop}(r:AV)(h:∀J:zaa,p (H++J) λv H'=>v=r∧H'=H++J)(hk:k r):zaJ H p k:=⟨r,h,hk⟩
@[simp] theorem yah(m:Nat)(k:IntKind)(n:Int):(AV.int k n).scA m=true:=rfl
@[simp] theorem yap(m:Nat)(s:List UInt8):(AV.str s).scA m=true:=rfl
@[simp] theorem yag(m:Nat)(b:Bool):(AV.bool b).scA m=true:=rfl
@[simp] theorem yan(m:Nat)(es:List (List AV)):(AV.sl es .none).scA m=true:=rfl
@[simp] theorem yao(m:Nat):AV.snil.scA m=true:=rfl
@[simp] theorem yam(m i o:Nat):(AV.ptr i o).scA m=decide (i<m):=rfl
@[simp] theorem yaj(m i o l c:Nat):(AV.ms i o l c).scA m=decide (i<m):=rfl
@[simp] theorem yai(m i:Nat):(AV.map i).scA m=decide (i<m):=rfl
@[simp] theorem yal(m:Nat)(es:List (List AV))(i:Nat):(AV.sl es (.own i)).scA m=decide (i<m):=rfl
theorem WkV.rfl'{a:AV}:WkV a a:=.atom (.refl a)
theorem zaY{n:Nat}{a:AV}(h1:a.isV=true)(h2:a.scV n=true):WkV a a∧a.isV=true∧a.scV n=true:=⟨.rfl',h1,h2⟩
theorem slV{n:Nat}{es:List (List AV)}{t:Tok}:WkV (.sl es t) (.sl es .none)∧(AV.sl es .none).isV=true∧(AV.sl es .none).scV n=true:=⟨.atom (.sl es t),rfl,rfl⟩
theorem zdS{n:Nat}:WkV .snil (.sl [] .none)∧(AV.sl [] .none).isV=true∧(AV.sl [] .none).scV n=true:=⟨.atom .snil,rfl,rfl⟩
theorem zd0{x:Option AV}{d:Nat}{p:Nat→Prop}{p':AV→Nat→Prop}{q:AV→Prop}(hp:∀n,p n↔∃v,p' v n∧q v):zbN x d p↔∃v,zbN x d (p' v)∧q v:=by
 unfold zbN;split
 ·exact hp d
 ·rename_i n;constructor
  ·rintro⟨h1,h2⟩;obtain⟨v,h3,h4⟩:=(hp _).1 h2;exact⟨v,⟨h1,h3⟩,h4⟩
  ·rintro⟨v,⟨h1,h3⟩,h4⟩;exact⟨h1,(hp _).2 ⟨v,h3,h4⟩⟩
 ·simp
theorem zhx{a:Prop}{q:AV→Prop}{x:AV}:(a∧q x)↔∃v,(a∧x=v)∧q v:=by
 constructor
 ·rintro⟨h1,h2⟩;exact⟨_,⟨h1,rfl⟩,h2⟩
 ·rintro⟨v,⟨h1,rfl⟩,h2⟩;exact⟨h1,h2⟩
@[simp] theorem zY1{H:zaa}{k:AV→Prop}(u e:Nat)(x:AV)(lo hi:Option AV):zab H (λK'=>zaS u e x lo hi λv=>K' v H) k=zaS u e x lo hi k:=zcb (p:=λq=>zaS u e x lo hi q) λq=>by
 unfold zaS;split
 ·exact zd0 λh=>zd0 λl=>zhx
 ·exact zd0 λh=>zd0 λl=>zhx
 ·exact zd0 λh=>zd0 λl=>zhx
 ·exact zd0 λh=>zd0 λl=>zhx
 ·exact zd0 λh=>zd0 λl=>zhx
 ·simp
theorem Out.at{n:Nat}{H2 J H':zaa}{K:AV→zaa→Prop}{a b:AV}(he:H'=H2++J)(hn:n≤H2.length)(hs:HSc H2)(hw:WkV a b)(hv:b.isV=true)(hc:b.scV H2.length=true)(h:K b H2):Out n K a H':=by subst he;exact⟨_,H2,J,rfl,hn,hs,.one (.wk hw hv hc),h⟩
theorem Out.bool{n:Nat}{H2 J H':zaa}{K:AV→zaa→Prop}{b:Bool}(he:H'=H2++J)(hn:n≤H2.length)(hs:HSc H2)(h:K (.bool b) H2):Out n K (.bool b) H':=Out.at he hn hs .rfl' rfl rfl h
theorem Out.int{n:Nat}{H2 J H':zaa}{K:AV→zaa→Prop}{k:IntKind}{b:Int}(he:H'=H2++J)(hn:n≤H2.length)(hs:HSc H2)(h:K (.int k b) H2):Out n K (.int k b) H':=Out.at he hn hs .rfl' rfl rfl h
theorem Back.at{n0:Nat}{Inv:List AV→zaa→Prop}{F:List AV}{H2 J H':zaa}(he:H'=H2++J)(hn:n0≤H2.length)(hsc:HSc H2)(hs:F.all (AV.sc H2.length)=true)(h:Inv F H2):Back n0 Inv F H':=by subst he;exact Back.same hn hsc hs h
theorem HSc.snoc{H:zaa}{b:AB}(h:HSc H)(hb:b.sc (H.length+1)=true):HSc (H++[b]):=h.append (by simpa using hb)
theorem zFK{B:Nat}{w w':World}{G G':Gh}(h:Ext B w G w' G'):G.μ.length≤G'.μ.length:=by
 by_cases h0:G.μ.length=0
 ·omega
 ·obtain⟨g,h1,_⟩:=h.ids (G.μ.length-1) _ (List.getElem?_eq_getElem (by omega));have:=(List.getElem?_eq_some_iff.1 h1).1;omega
theorem ACalls.mono'{P:Program}{f:FuncId}{args:List AV}{H:zaa}{K K':AV→zaa→Prop}(h:ACalls P f args H K)(hk:∀r H',HSc H'→H.length≤H'.length→K r H'→K' r H'):ACalls P f args H K':=
 λB w G vs hH hv=>(h B w G vs hH hv).mono λ_ _ ⟨v,r,H',G',h1,h2,h3,h4,h5⟩=>⟨v,r,H',G',h1,h2,h3,h4,hk _ _ h3.sc (by have:=zFK h2;rw[hH.len,h3.len]at this;exact this) h5⟩
theorem aCallV.mono'{P:Program}{g:AV}{args:List AV}{H:zaa}{K K':AV→zaa→Prop}(h:aCallV P g args H K)(hk:∀r H',HSc H'→H.length≤H'.length→K r H'→K' r H'):aCallV P g args H K':=by
 unfold aCallV at *;split at h
 ·split at h
  ·exact ACalls.mono' h hk
  ·exact h.elim
 ·exact h.elim
section
open Go.RowKit
theorem HRel.reCell{B:Nat}{w:World}{G:Gh}{H:zaa}(h:HRel B w G H){id:Nat}{cs cs':List AV}(d9:H[id]?=some (.cells cs))(hc:∀vs:List Value,All2 (ARel w G) vs cs→All2 (ARel w G) vs cs'):HRel B w G (H.set id (.cells cs')):=by
 refine⟨by simp[h.len],?_,h.dist,h.fresh,h.lt,h.base⟩;intro i ab gi h1 h2;by_cases hi:i=id
 ·subst hi;rw[List.getElem?_set_self (List.getElem?_eq_some_iff.1 d9).1]at h1;cases h1;have eh:=h.ok i _ _ d9 h2;cases gi with
  |blk b=>obtain⟨k1,k2,vs,e,k3,k4⟩:=eh;exact⟨k1,k2,vs,e,k3,hc _ k4⟩
  |own v s n=>exact eh.elim
  |gap=>exact eh.elim
 ·rw[List.getElem?_set_ne (λh=>hi h.symm)]at h1;exact h.ok i ab gi h1 h2
theorem HRel.ownCell{B:Nat}{w:World}{G:Gh}{H:zaa}(h:HRel B w G H){id j:Nat}{cs:List AV}(e size:Nat)(d9:H[id]?=some (.cells cs))(hj:cs[j]?=some .snil):
  ∃G',Ext B w G w G'∧HRel B w G' (H.set id (.cells (cs.set j (.sl [] (.own H.length))))++[.perm e size 0]):=by
 obtain⟨hE,eJ⟩:=h.newOwn e size;refine⟨_,hE,?_⟩;have d7:=(List.getElem?_eq_some_iff.1 d9).1;have:=eJ.reCell (id:=id) (cs:=cs) (cs':=cs.set j (.sl [] (.own H.length))) (by rw[List.getElem?_append_left d7];exact d9) (λvs mC=>by
  obtain⟨v,h1,h2⟩:=All2.get mC hj;have h2:v=.slice none 0 0:=h2;subst h2;have eI:vs=vs.set j (.slice none 0 0):=by
   apply aJ;intro k;by_cases hk:k=j
   ·subst hk;rw[List.getElem?_set_self (List.getElem?_eq_some_iff.1 h1).1];exact h1
   ·rw[List.getElem?_set_ne (λh=>hk h.symm)]
  rw[eI];refine All2.set j mC ?_;refine⟨.slE _ _,.slice none 0 0,size,0,?_,aa _,λ_=>⟨rfl,by simp⟩⟩;rw[←h.len];simp)
 rwa [aN _ _ d7]at this
theorem ALoop.ownC{P:Program}{c:Code}{Q:AExit→List AV→zaa→Prop}{F:List AV}{H:zaa}{cs:List AV}(id j e size:Nat)(d9:H[id]?=some (.cells cs))(hj:cs[j]?=some .snil)(h:ALoop P c Q F (H.set id (.cells (cs.set j (.sl [] (.own H.length))))++[.perm e size 0])):ALoop P c Q F H:=by
 intro B w G a hH hF hd;obtain⟨G',hE,eJ⟩:=hH.ownCell e size d9 hj;refine wp_mono (h B w G' a eJ (hF.ext hE) hd) λe a' w' hp=>?_;obtain⟨F'',H'',G'',e'',rfl,k1,k2,k3,k4,k5⟩:=hp;exact⟨F'',H'',G'',e'',rfl,hE.trans k1,k2,k3,k4,k5⟩
end
structure Con where
 name:List UInt8
 args:List VT
structure Dat where
 name:List UInt8
 vars:Int
 cons:List Con
def ints(l:List Int):List (List AV):=l.map λn=>[.int .i64 n]
def rows(l:List (List Int)):List (List AV):=l.map λr=>[.sl (ints r) .none]
def Con.cs(c:Con):List AV:=[.str c.name,.sl (VT.css c.args) .none]
def Dat.cs(d:Dat):List AV:=[.str d.name,.int .i64 d.vars,.sl (d.cons.map Con.cs) .none]
@[simp] theorem zZT(l:List Int):(ints l).length=l.length:=by simp[ints]
@[simp] theorem yae(l:List (List Int)):(rows l).length=l.length:=by simp[rows]
def VT.kind:VT→Int|.mk k _ _=>k
def VT.num:VT→Int|.mk _ n _=>n
def VT.kids:VT→List VT|.mk _ _ ks=>ks
def zbl(dU:List Dat)(vars k n:Int)(len:Nat):Bool:=
 if k == 1 || k == 2 || k == 3 then n == 0 && len == 0
 else if k == 4 then decide (0≤n) && decide (n<vars) && len == 0
 else if k == 5 then decide (0≤n) && (match dU[n.toNat]? with|some d=>(len:Int) == d.vars|none=>false)
 else if k == 6 then n == 0 && decide (2≤len) && decide (len≤6)
 else if k == 7 || k == 8 then n == 0 && len == 1
 else if k == 9 then n == 0 && decide (1≤len) && decide (len≤7)
 else false
mutual
def za7(dU:List Dat)(vars:Int):VT→Bool
 |.mk k n asx=>zbl dU vars k n asx.length && zbi dU vars asx
def zbi(dU:List Dat)(vars:Int):List VT→Bool
 |[]=>true
 |t::ts=>za7 dU vars t && zbi dU vars ts
end
def za3(dU:List Dat)(vars:Int)(t:VT):Bool:=decide (t.nodes≤200) && za7 dU vars t
mutual
def subst(args:List VT):VT→VT
 |.mk k n ks=>if k=4∧0≤n∧n<args.length then (args[n.toNat]?).getD (.mk 0 0 []) else .mk k n (zaQ args ks)
def zaQ(args:List VT):List VT→List VT
 |[]=>[]
 |t::ts=>subst args t::zaQ args ts
end
def zbr(dU:List Dat)(t:VT)(c:Int):Option (List VT):=
 if t.kind=5∧0≤t.num∧0≤c then
  match dU[t.num.toNat]? with
  | some d=>if (t.kids.length:Int)=d.vars then
    match d.cons[c.toNat]? with
    | some k=>let l:=k.args.map (subst t.kids)
     if l.all (λx=>decide (x.nodes≤200))=true then some l else none
    |none=>none
   else none
  |none=>none
 else none
abbrev Kt:=AV→zaa→Prop
abbrev Lt:=List AV→zaa→Prop
def ux:Nat→List AV→List AV
 |0,l=>l
 |n+1,l=>.unk::ux n l
@[simp] theorem yaB(m n:Nat)(l:List AV):(ux n l).all (AV.sc m)=l.all (AV.sc m):=by
 induction n with
 |zero=>rfl
 |succ n ih=>rw[ux,List.all_cons,ih];rfl
def rl:Bool→List Nat→List Bool
 |_,[]=>[]
 |b,n::l=>List.replicate n b++rl (!b) l
section
open Go.RowKit
variable {P:Program} {M:Nat→List Bool} {c:Code} {Q:AExit→List AV→zaa→Prop} {H:zaa}
def Rd1(fr:AV→List AV)(bd:AV→zaa→Lt→Prop)(H:zaa)(Inv:Nat→AV→zaa→Prop):Prop:=
 ∀n t0 H',Inv n t0 H'→HSc H'→H.length≤H'.length→(fr t0).all (AV.sc H'.length)=true→∀Kb:Lt,(∀F'' H'',(∃n',n'<n∧Back H.length (λF2 H2=>∃t0,F2=fr t0∧Inv n' t0 H2) F'' H'')→Kb F'' H'')→bd t0 H' Kb
theorem lp1{fr:AV→List AV}{bd:AV→zaa→Lt→Prop}(m:List Bool)(t0:AV)(he:(λt0 H Kb=>awp P M c (zbR m Kb Q) (fr t0) H)=bd)(Inv:Nat→AV→zaa→Prop)(n:Nat)(h0:HSc H→Inv n t0 H)(dV:Rd1 fr bd H Inv):ALoop P c Q (fr t0) H:=by subst he;exact zoy (M:=M) m (λn F H=>∃t0,F=fr t0∧Inv n t0 H) n (λhs _=>⟨t0,rfl,h0 hs⟩) (λn F H' ⟨t0,hF,hI⟩ h1 h2 h3=>by subst hF;exact dV n t0 H' hI h1 h2 h3 _ (λ_ _ h=>h))
def Rd2(fr:AV→AV→List AV)(bd:AV→AV→zaa→Lt→Prop)(H:zaa)(Inv:Nat→AV→AV→zaa→Prop):Prop:=
 ∀n t0 t1 H',Inv n t0 t1 H'→HSc H'→H.length≤H'.length→(fr t0 t1).all (AV.sc H'.length)=true→∀Kb:Lt,(∀F'' H'',(∃n',n'<n∧Back H.length (λF2 H2=>∃t0 t1,F2=fr t0 t1∧Inv n' t0 t1 H2) F'' H'')→Kb F'' H'')→bd t0 t1 H' Kb
theorem lp2{fr:AV→AV→List AV}{bd:AV→AV→zaa→Lt→Prop}(m:List Bool)(t0 t1:AV)(he:(λt0 t1 H Kb=>awp P M c (zbR m Kb Q) (fr t0 t1) H)=bd)(Inv:Nat→AV→AV→zaa→Prop)(n:Nat)(h0:HSc H→Inv n t0 t1 H)(dV:Rd2 fr bd H Inv):ALoop P c Q (fr t0 t1) H:=by subst he;exact zoy (M:=M) m (λn F H=>∃t0 t1,F=fr t0 t1∧Inv n t0 t1 H) n (λhs _=>⟨t0,t1,rfl,h0 hs⟩) (λn F H' ⟨t0,t1,hF,hI⟩ h1 h2 h3=>by subst hF;exact dV n t0 t1 H' hI h1 h2 h3 _ (λ_ _ h=>h))
def Rd3(fr:AV→AV→AV→List AV)(bd:AV→AV→AV→zaa→Lt→Prop)(H:zaa)(Inv:Nat→AV→AV→AV→zaa→Prop):Prop:=
 ∀n t0 t1 t2 H',Inv n t0 t1 t2 H'→HSc H'→H.length≤H'.length→(fr t0 t1 t2).all (AV.sc H'.length)=true→∀Kb:Lt,(∀F'' H'',(∃n',n'<n∧Back H.length (λF2 H2=>∃t0 t1 t2,F2=fr t0 t1 t2∧Inv n' t0 t1 t2 H2) F'' H'')→Kb F'' H'')→bd t0 t1 t2 H' Kb
theorem lp3{fr:AV→AV→AV→List AV}{bd:AV→AV→AV→zaa→Lt→Prop}(m:List Bool)(t0 t1 t2:AV)(he:(λt0 t1 t2 H Kb=>awp P M c (zbR m Kb Q) (fr t0 t1 t2) H)=bd)(Inv:Nat→AV→AV→AV→zaa→Prop)(n:Nat)(h0:HSc H→Inv n t0 t1 t2 H)(dV:Rd3 fr bd H Inv):ALoop P c Q (fr t0 t1 t2) H:=by subst he;exact zoy (M:=M) m (λn F H=>∃t0 t1 t2,F=fr t0 t1 t2∧Inv n t0 t1 t2 H) n (λhs _=>⟨t0,t1,t2,rfl,h0 hs⟩) (λn F H' ⟨t0,t1,t2,hF,hI⟩ h1 h2 h3=>by subst hF;exact dV n t0 t1 t2 H' hI h1 h2 h3 _ (λ_ _ h=>h))
def Lo1(fr:AV→List AV)(bd:AV→zaa→Lt→Prop)(t0:AV)(H:zaa)(G:Prop):Prop:=∀(Inv:Nat→AV→zaa→Prop) (n:Nat) (h0:HSc H→Inv n t0 H) (dV:Rd1 fr bd H Inv),G
theorem lq1{P:Program}{c:Code}{Q:AExit→List AV→zaa→Prop}{H:zaa}{fr:AV→List AV}{bd:AV→zaa→Lt→Prop}{t0:AV}(M:Nat→List Bool)(m:List Bool)(he:(λt0 H Kb=>awp P M c (zbR m Kb Q) (fr t0) H)=bd:=by kernel_rfl):Lo1 fr bd t0 H (ALoop P c Q (fr t0) H):=λI n h r=>lp1 (M:=M) m t0 he I n h r
def Lo2(fr:AV→AV→List AV)(bd:AV→AV→zaa→Lt→Prop)(t0 t1:AV)(H:zaa)(G:Prop):Prop:=∀(Inv:Nat→AV→AV→zaa→Prop) (n:Nat) (h0:HSc H→Inv n t0 t1 H) (dV:Rd2 fr bd H Inv),G
theorem lq2{P:Program}{c:Code}{Q:AExit→List AV→zaa→Prop}{H:zaa}{fr:AV→AV→List AV}{bd:AV→AV→zaa→Lt→Prop}{t0 t1:AV}(M:Nat→List Bool)(m:List Bool)(he:(λt0 t1 H Kb=>awp P M c (zbR m Kb Q) (fr t0 t1) H)=bd:=by kernel_rfl):Lo2 fr bd t0 t1 H (ALoop P c Q (fr t0 t1) H):=λI n h r=>lp2 (M:=M) m t0 t1 he I n h r
def Lo3(fr:AV→AV→AV→List AV)(bd:AV→AV→AV→zaa→Lt→Prop)(t0 t1 t2:AV)(H:zaa)(G:Prop):Prop:=∀(Inv:Nat→AV→AV→AV→zaa→Prop) (n:Nat) (h0:HSc H→Inv n t0 t1 t2 H) (dV:Rd3 fr bd H Inv),G
theorem lq3{P:Program}{c:Code}{Q:AExit→List AV→zaa→Prop}{H:zaa}{fr:AV→AV→AV→List AV}{bd:AV→AV→AV→zaa→Lt→Prop}{t0 t1 t2:AV}(M:Nat→List Bool)(m:List Bool)(he:(λt0 t1 t2 H Kb=>awp P M c (zbR m Kb Q) (fr t0 t1 t2) H)=bd:=by kernel_rfl):Lo3 fr bd t0 t1 t2 H (ALoop P c Q (fr t0 t1 t2) H):=λI n h r=>lp3 (M:=M) m t0 t1 t2 he I n h r
def apu(H:zaa)(p:(AV→Prop)→Prop)(K:AV→Prop):Prop:=zab H (λK'=>p λv=>K' v H) K
def apm(H:zaa)(x:AV)(K:AV→Prop):Prop:=zab H (λK'=>K' x H) K
@[congr] theorem zZo{H:zaa}{p:(AV→Prop)→Prop}{k:AV→Prop}:apu H p k=apu H p k:=rfl
@[congr] theorem zZm{H:zaa}{x:AV}{k:AV→Prop}:apm H x k=apm H x k:=rfl
@[simp] theorem zZp{H:zaa}{p:(AV→Prop)→Prop}{k:AV→Prop}:apu H p k=zab H (λK'=>p λv=>K' v H) k:=rfl
@[simp] theorem zZn{H:zaa}{x:AV}{k:AV→Prop}:apm H x k=k x:=by simp[apm,zab]
end
end Go.Proofs.YtdmamdnkcefmmaaGreatDoor
