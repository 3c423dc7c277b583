import Derived.Test.YtdmamdnkcefmmaaGreatDoorKMG
import Derived.Test.YtdmamdnkcefmmaaGreatDoorKNum
import Derived.Test.YtdmamdnkcefmmaaGreatDoorProg
import Derived.KernelRfl
import Derived.Test.YtdmamdnkcefmmaaGreatDoorAbsQ1
import Derived.Test.YtdmamdnkcefmmaaGreatDoorRL2
import Derived.Test.YtdmamdnkcefmmaaGreatDoorKI2
set_option linter.unusedSimpArgs false
set_option linter.unusedVariables false
set_option maxRecDepth 100000
namespace Go.Proofs.YtdmamdnkcefmmaaGreatDoor
def zbD(out:List (List IT×Nat))(ws:List (IT×Nat)):List (List IT×Nat):=out.flatMap λr=>ws.map λw=>(r.1++[w.1],r.2*w.2)
mutual
def zaA(dU:List Dat):Nat→VT→IT→IT→List (IT × Nat)
 |0,_,_,_=>[]
 | f+1,t,i,j=>if t.kind=6 then (zbp dU f t.kids (zaF i) (zaF j)).map λr=>(.mk 0 r.1,r.2)
  else if t.kind=7 then (za4 (zaI i).toNat (zaI j).toNat).filter λp=>p.2 != 0
  else if t.kind=5 then (zaE dU f t (zaF i) (zaF j)).map λr=>(.mk 0 r.1,r.2) else [(.mk 0 [],1)]
def zbp(dU:List Dat):Nat→List VT→List IT→List IT→List (List IT × Nat)
 |0,_,_,_=>[]
 |f+1,ts,l,m=>(List.range ts.length).foldl (λout k=>zbD out (zaA dU f (ts.getD k tz) (l.getD k d0) (m.getD k d0))) [([],1)]
def zaE(dU:List Dat):Nat→VT→List IT→List IT→List (List IT × Nat)
 |0,_,_,_=>[]
 |f+1,t,[],m=>[(m,1)]
 |f+1,t,a::l,[]=>[(a::l,1)]
 |f+1,t,a::l,b::m=>
  (zaE dU f t l (b::m)).map (λr=>(a::r.1,r.2))++(zaE dU f t (a::l) m).map (λr=>(b::r.1,r.2)) ++
   if zaI a=zaI b then (zbp dU f ((zbb dU t (zaI a)).getD []) (zaF a) (zaF b)).flatMap λr=>(zaE dU f t l m).map λx=>(.mk (zaI a) r.1::x.1,r.2*x.2) else []
end
def zah{α:Type}(g:α→Nat)(s:List (α×Nat)):Nat:=(s.map λp=>p.2*g p.1).foldr (·+·) 0
theorem zbS(g:IT→Nat)(s:List (IT×Nat)):zaM g s=zah g s:=rfl
theorem zfI(g:List IT→Nat)(s:List (List IT×Nat)):zbz g s=zah g s:=rfl
section
variable {α β γ:Type}
@[simp] theorem zc4(g:α→Nat):zah g []=0:=rfl
@[simp] theorem zaW(g:α→Nat)(p:α×Nat)(s:List (α×Nat)):zah g (p::s)=p.2*g p.1+zah g s:=rfl
theorem zdj(g:α→Nat):∀ a b:List (α × Nat),zah g (a++b)=zah g a+zah g b
 |[],b=>by simp
 |p::a,b=>by rw[List.cons_append,zaW,zaW,zdj g a b];omega
theorem zb9(g:β→Nat)(h:α→β):∀ s:List (α × Nat),zah g (s.map λp=>(h p.1,p.2))=zah (λx=>g (h x)) s
 |[]=>rfl
 |p::s=>by rw[aD,zaW,zaW,zb9 g h s]
theorem zyT(g:β→Nat)(h:α→β)(c:Nat):∀ s:List (α × Nat),zah g (s.map λp=>(h p.1,c*p.2))=c*zah (λx=>g (h x)) s
 |[]=>rfl
 |p::s=>by rw[aD,zaW,zaW,zyT g h c s,ch,cd]
theorem zeD(g:γ→Nat)(h:α→β→γ)(ws:List (β × Nat)):∀ s:List (α × Nat),zah g (s.flatMap λr=>ws.map λw=>(h r.1 w.1,r.2*w.2))=zah (λa=>zah (λb=>g (h a b)) ws) s
 |[]=>rfl
 |p::s=>by rw[bf,zdj,zaW,zeD g h ws s,zyT g (h p.1)]
theorem zkw(g1 g2:α→Nat):∀ s:List (α × Nat),zah (λx=>g1 x+g2 x) s=zah g1 s+zah g2 s
 |[]=>rfl
 |p::s=>by rw[zaW,zaW,zaW,zkw g1 g2 s,ch];omega
theorem zky(c:Nat)(g:α→Nat):∀ s:List (α × Nat),zah (λx=>c*g x) s=c*zah g s
 |[]=>by simp
 |p::s=>by rw[zaW,zaW,zky c g s,ch,Nat.mul_left_comm]
theorem zqS:∀ s:List (α × Nat),zah (λ_=>0) s=0
 |[]=>rfl
 |p::s=>by rw[zaW,zqS s];rfl
theorem zd7(h:α→β→Nat)(ws:List (β × Nat)):∀ s:List (α × Nat),zah (λa=>zah (λb=>h a b) ws) s=zah (λb=>zah (λa=>h a b) s) ws
 |[]=>by simp[zqS]
 |p::s=>by
  rw[zaW,zd7 h ws s];have:(λb=>zah (λa=>h a b) (p::s))=λb=>p.2*h p.1 b+zah (λa=>h a b) s:=by funext b;rw[zaW]
  rw[this,zkw,zky]
theorem zil(g:α→Nat):∀ s:List (α × Nat),zah g (s.filter λp=>p.2 != 0)=zah g s
 |[]=>rfl
 |p::s=>by
  rw[cz];by_cases h:p.2=0
  ·simp[h,zil g s]
  ·simp[h,zil g s]
end
def zvf(dU:List Dat)(f:Nat):Prop:=∀(t:VT) (i j:IT) (g:IT→Nat),zaM g (zaA dU f t i j)=zaM g (zbE dU f t i j)
def zEg(dU:List Dat)(f:Nat):Prop:=∀(ts:List VT) (l m:List IT) (g:List IT→Nat),zbz g (zbp dU f ts l m)=zbz g (zct dU f ts l m)
def zEf(dU:List Dat)(f:Nat):Prop:=∀(t:VT) (l m:List IT) (g:IT→Nat),zbz (λx=>g (.mk 0 x)) (zaE dU f t l m)=zaM g (zbg dU f t l m)
theorem zqH(g:List IT→Nat)(out:List (List IT×Nat))(ws:List (IT×Nat)):zbz g (zdA out ws)=zah (λx=>zah (λl=>g (l++[x])) out) ws:=by
 have h:zdA out ws=ws.flatMap λw=>out.map λr=>(r.1++[w.1],w.2*r.2):=by unfold zdA;congr 1;funext w;congr 1;funext r;rw[ba]
 rw[h,zfI];exact zeD g (λx l=>l++[x]) out ws
theorem zIV(g:List IT→Nat)(out:List (List IT×Nat))(ws:List (IT×Nat)):zbz g (zbD out ws)=zbz g (zdA out ws):=by rw[zqH,zfI];unfold zbD;rw[zeD g (λl x=>l++[x]) ws out,zd7]
def za6(dU:List Dat)(f:Nat)(ts:List VT)(l m:List IT)(k:Nat):List (List IT×Nat):=(List.range k).foldl (λout k=>zbD out (zaA dU f (ts.getD k tz) (l.getD k d0) (m.getD k d0))) [([],1)]
theorem zfD(dU:List Dat)(f:Nat)(ts:List VT)(l m:List IT):za6 dU f ts l m 0=[([],1)]:=rfl
theorem zcw(dU:List Dat)(f:Nat)(ts:List VT)(l m:List IT)(k:Nat):za6 dU f ts l m (k+1)=zbD (za6 dU f ts l m k) (zaA dU f (ts.getD k tz) (l.getD k d0) (m.getD k d0)):=by rw[za6,bO,List.foldl_append];rfl
theorem zdz(dU:List Dat)(f:Nat)(ts:List VT)(l m:List IT):zbp dU (f+1) ts l m=za6 dU f ts l m ts.length:=by rw[zbp];rfl
theorem zqE{dU:List Dat}{f:Nat}(hP:zvf dU f)(ts:List VT)(l m:List IT):∀ (k:Nat) (g:List IT→Nat),zbz g (za6 dU f ts l m k)=zbz g (zcn dU f ts l m k)
 |0,g=>rfl
 |k+1,g=>by rw[zcw,zie,zIV,zqH,zqH];have h1:∀x,zah (λl=>g (l++[x])) (za6 dU f ts l m k)=zah (λl=>g (l++[x])) (zcn dU f ts l m k):=λx=>zqE hP ts l m k λl=>g (l++[x]);simp only[h1];exact hP (ts.getD k tz) (l.getD k d0) (m.getD k d0) λx=>zah (λl=>g (l++[x])) (zcn dU f ts l m k)
theorem zd8(dU:List Dat):∀ f,zvf dU f∧zEg dU f∧zEf dU f
 |0=>⟨λt i j g=>by rw[zaA,zbE],λts l m g=>by rw[zbp,zct],λt l m g=>by rw[zaE,zbg];rfl⟩
 |f+1=>by
  obtain⟨hP,hQ,hM⟩:=zd8 dU f;refine⟨λt i j g=>?_,λts l m g=>?_,λt l m g=>?_⟩
  ·rw[zaA,zbE];by_cases k6:t.kind=6
   ·simp only[k6,aV];rw[zcy,zdD,aG,zbS,zbS,zb9 g (λl=>IT.mk 0 l),zb9 g (λl=>IT.mk 0 l)];exact hQ t.kids (zaF i) (zaF j) λl=>g (.mk 0 l)
   ·by_cases k7:t.kind=7
    ·simp only[k7,aV,ap (show ¬(7:Int)=6 by omega)];rw[zcy,zdD,aG,zbS,zbS,zil]
    ·by_cases k5:t.kind=5
     ·simp only[k5,aV,ap (show ¬(5:Int)=6 by omega),ap (show ¬(5:Int)=7 by omega)];rw[zcy,zdD,aG,zbS,zb9 g (λl=>IT.mk 0 l)];exact hM _ _ _ _
     ·simp only[k6,k7,k5,aH]
  ·rw[zdz,zjj];exact zqE hP ts l m _ g
  ·cases l with
   |nil=>rw[zaE,zbg];rfl
   |cons a l=>
    cases m with
    |nil=>rw[zaE,zbg];rfl
    |cons b m=>
     have e1:=hM t l (b::m) λi=>g (bef a i);have e2:=hM t (a::l) m λi=>g (bef b i);rw[zaE,zbg];have h1:∀(c:IT) (s:List (List IT×Nat)),zbz (λx=>g (.mk 0 x)) (s.map λr=>(c::r.1,r.2))=zbz (λx=>g (bef c (.mk 0 x))) s:=λc s=>zb9 (λx=>g (.mk 0 x)) (λx=>c::x) s;have h2:∀(c:IT) (s:List (IT×Nat)),zaM g (s.map λw=>(bef c w.1,w.2))=zaM (λi=>g (bef c i)) s:=λc s=>zb9 g (bef c) s;by_cases eS:zaI a=zaI b
     ·rw[aA eS,ap (by simpa using eS),zim,zim,zcy,zcy,zcy,zdD,h1,h1,h2,h2,e1,e2];have h3:=zeD (λx=>g (.mk 0 x)) (λ(r x:List IT)=>IT.mk (zaI a) r::x) (zaE dU f t l m) (zbp dU f ((zbb dU t (zaI a)).getD []) (zaF a) (zaF b));have h4:=zeD g (λ(r:List IT) (x:IT)=>bef (.mk (zaI a) r) x) (zbg dU f t l m) (zct dU f ((zbb dU t (zaI a)).getD []) (zaF a) (zaF b));rw[zfI,zbS _ (List.flatMap _ _),h3,h4];have h5:∀r,zah (λx=>g (.mk 0 (IT.mk (zaI a) r::x))) (zaE dU f t l m)=zah (λx=>g (bef (.mk (zaI a) r) x)) (zbg dU f t l m):=λr=>hM t l m λi=>g (bef (.mk (zaI a) r) i);simp only[h5];have h6:=hQ ((zbb dU t (zaI a)).getD []) (zaF a) (zaF b) λr=>zah (λx=>g (bef (.mk (zaI a) r) x)) (zbg dU f t l m);rw[zfI,zfI]at h6;rw[h6,zbS,zbS];omega
     ·rw[ap eS,aA (by simpa using eS),aK,zim,zcy,zcy,zdD,h1,h1,h2,h2,e1,e2];omega
def Asc(s:List (IT×Nat)):Prop:=s.Pairwise λp q=>IT.cmp p.1 q.1<0
theorem zv6{a b c:IT}(h1:IT.cmp a b<0)(h2:IT.cmp b c≤0):IT.cmp a c<0:=by
 obtain⟨h3,h4⟩:=IT.cmp_tri a b c (by omega) h2;by_cases h:IT.cmp a c=0
 ·have:=h4 h;omega
 ·omega
theorem zf8(a:IT):IT.cmp a a=0:=by have:=IT.cmp_anti a a;omega
theorem zvu{i:IT}{c:Nat}:∀ {s:List (IT × Nat)},Asc s→Asc (zc9 s i c)∧∀ p∈zc9 s i c,p.1=i∨∃ q∈s,q.1=p.1
 |[],_=>⟨by simp[zc9,Asc],λp hp=>by simp[zc9]at hp;exact .inl (by rw[hp])⟩
 |x::s,h=>by
  have h1:=bW.1 h;unfold zc9;by_cases ha:IT.cmp x.1 i<0
  ·obtain⟨k1,k2⟩:=zvu (i:=i) (c:=c) h1.2;rw[aA ha];refine⟨bW.2 ⟨λp hp=>?_,k1⟩,λp hp=>?_⟩
   ·rcases k2 p hp with e | ⟨q,hq,e⟩
    ·rw[e];exact ha
    ·rw[←e];exact h1.1 q hq
   ·rcases aS.1 hp with e | hp
    ·exact .inr ⟨x,aO,by rw[e]⟩
    ·rcases k2 p hp with e | ⟨q,hq,e⟩
     ·exact .inl e
     ·exact .inr ⟨q,aU _ hq,e⟩
  ·rw[ap ha];by_cases h0:IT.cmp x.1 i=0
   ·rw[aA h0];refine⟨bW.2 ⟨h1.1,h1.2⟩,λp hp=>?_⟩;rcases aS.1 hp with e | hp
    ·exact .inr ⟨x,aO,by rw[e]⟩
    ·exact .inr ⟨p,aU _ hp,rfl⟩
   ·rw[ap h0];have hix:IT.cmp i x.1<0:=by have:=IT.cmp_anti i x.1;omega
    refine⟨bW.2 ⟨λp hp=>?_,h⟩,λp hp=>?_⟩
    ·rcases aS.1 hp with e | hp
     ·rw[e];exact hix
     ·exact zv6 hix (by have:=h1.1 p hp;omega)
    ·rcases aS.1 hp with e | hp
     ·exact .inl (by rw[e])
     ·exact .inr ⟨p,hp,rfl⟩
theorem zEC{i:IT}{c:Nat}{s:List (IT×Nat)}(h:Asc s):Asc (zda s i c):=by
 unfold zda;split
 ·exact h
 ·exact(zvu h).1
theorem zg5:∀ (l s:List (IT × Nat)),Asc s→Asc (zbU s l)
 |[],s,h=>h
 |p::l,s,h=>zg5 l _ (zEC h)
open Classical in
noncomputable def one{α:Type}(x:α):α→Nat:=λy=>if y=x then 1 else 0
theorem zxt{α:Type}(x:α):one x x=1:=by simp[one]
theorem zxu{α:Type}{x y:α}(h:y≠x):one x y=0:=by simp[one,h]
theorem zyX{α:Type}{g:α→Nat}:∀ {s:List (α × Nat)},0<zah g s→∃ q∈s,0<q.2∧0<g q.1
 |[],h=>by simp at h
 |p::s,h=>by
  rw[zaW]at h;by_cases h0:0<p.2*g p.1
  ·exact⟨p,aO,Nat.pos_of_mul_pos_right h0,Nat.pos_of_mul_pos_left h0⟩
  ·obtain⟨q,hq,h1⟩:=zyX (s:=s) (g:=g) (by omega);exact⟨q,aU _ hq,h1⟩
theorem zd4{α:Type}(g:α→Nat):∀ {s:List (α × Nat)} {p:α × Nat},p∈s→p.2*g p.1≤zah g s
 |x::s,p,h=>by
  rw[zaW];rcases aS.1 h with rfl|h
  ·omega
  ·have:=zd4 g h;omega
theorem zer{α:Type}{s s':List (α×Nat)}(h:∀g:α→Nat,zah g s=zah g s'){p:α×Nat}(hp:p∈s)(h0:0<p.2):∃q∈s',q.1=p.1:=by
 have h1:=zd4 (one p.1) hp;rw[zxt,h]at h1;obtain⟨q,hq,_,h2⟩:=zyX (s:=s') (g:=one p.1) (by omega);refine⟨q,hq,?_⟩;by_cases he:q.1=p.1
 ·exact he
 ·rw[zxu he]at h2;omega
theorem zqV{x:IT}:∀ {s:List (IT × Nat)},(∀ p∈s,p.1≠x)→zah (one x) s=0
 |[],_=>rfl
 |p::s,h=>by rw[zaW,zxu (h p aO),zqV λq hq=>h q (aU _ hq)];rfl
theorem zhc:∀ {s s':List (IT × Nat)},Asc s→Asc s'→(∀ p∈s,0<p.2)→(∀ p∈s',0<p.2)→(∀ g:IT→Nat,zah g s=zah g s')→s=s'
 |[],[],_,_,_,_,_=>rfl
 |[],q::s',_,_,_,h2,h=>by obtain⟨x,hx,_⟩:=zer (λg=>(h g).symm) (aO (a:=q)) (h2 q aO);simp at hx
 |p::s,[],_,_,h1,_,h=>by obtain⟨x,hx,_⟩:=zer h (aO (a:=p)) (h1 p aO);simp at hx
 |p::s,q::s',a1,a2,h1,h2,h=>by
  have b1:=bW.1 a1;have b2:=bW.1 a2;have c1:IT.cmp q.1 p.1≤0:=by
   obtain⟨x,hx,he⟩:=zer h (aO (a:=p)) (h1 p aO);rcases aS.1 hx with rfl|hx
   ·rw[he,zf8];omega
   ·have:=b2.1 x hx;rw[he]at this;omega
  have c2:IT.cmp p.1 q.1≤0:=by
   obtain⟨x,hx,he⟩:=zer (λg=>(h g).symm) (aO (a:=q)) (h2 q aO);rcases aS.1 hx with rfl|hx
   ·rw[he,zf8];omega
   ·have:=b1.1 x hx;rw[he]at this;omega
  have he:p.1=q.1:=zoJ (by have:=IT.cmp_anti p.1 q.1;omega);have n1:zah (one p.1) s=0:=zqV λx hx e=>by have:=b1.1 x hx;rw[e,zf8]at this;omega
  have n2:zah (one p.1) s'=0:=zqV λx hx e=>by have:=b2.1 x hx;rw[e,he,zf8]at this;omega
  have hc:=h (one p.1);rw[zaW,zaW,n1,n2,←he,zxt]at hc;have hpq:p=q:=Prod.ext he (by omega);subst hpq;have:=zhc b1.2 b2.2 (λx hx=>h1 x (aU _ hx)) (λx hx=>h2 x (aU _ hx)) λg=>by have:=h g;rw[zaW,zaW]at this;omega
  rw[this]
theorem zkx{α:Type}(g:α→Nat)(c:α→Bool):∀ s:List (α × Nat),zah g (s.filter λp=>c p.1)=zah (λx=>if c x then g x else 0) s
 |[]=>rfl
 |p::s=>by
  rw[cz,zaW];by_cases h:c p.1=true
  ·simp only[h,aV];rw[zaW,zkx g c s]
  ·simp only[h,aF,aH];rw[zkx g c s];simp
theorem zI6{α:Type}(g:α→Nat){s s':List (α×Nat)}(h:s.Perm s'):zah g s=zah g s':=by
 induction h with
 |nil=>rfl
 |cons x _ ih=>rw[zaW,zaW,ih]
 |swap x y l=>simp only[zaW];omega
 |trans _ _ h1 h2=>rw[h1,h2]
def tmC(p:IT×Nat):List AV:=p.1.cs++zam (p.2:Int)
def tms(s:List (IT×Nat)):List AV:=(s.map tmC).flatten
@[simp] theorem zJf(p:IT×Nat):(tmC p).length=5:=by simp[tmC,zam]
@[simp] theorem yaw(s:List (IT×Nat)):(tms s).length=s.length*5:=by
 induction s with
 |nil=>rfl
 |cons p s ih=>simp only[tms,aD,List.flatten_cons,az,zJf,List.length_cons]at ih ⊢;omega
theorem zkD(a b:List (IT×Nat)):tms (a++b)=tms a++tms b:=by simp[tms]
theorem zio(p:IT×Nat)(s:List (IT×Nat)):tms (p::s)=tmC p++tms s:=by simp[tms]
theorem zq5{s:List (IT×Nat)}{k:Nat}(h:k<s.length):tms s=tms (s.take k)++(tmC s[k]++tms (s.drop (k+1))):=by rw[←zio,←zkD,←ag h,aT]
theorem zq6{s:List (IT×Nat)}{k:Nat}(h:k≤s.length):(tms (s.take k)).length=k*5:=by simp[bj h]
theorem zJi{s:List (IT×Nat)}{k:Nat}(h:k<s.length):((tms s).drop (k*5+2)).take 3=zam (s[k].2:Int):=by
 have e:tms s=(tms (s.take k)++s[k].1.cs)++(zam (s[k].2:Int)++tms (s.drop (k+1))):=by rw[zq5 h,tmC];simp
 have hl:(tms (s.take k)++s[k].1.cs).length=k*5+2:=by rw[az,zq6 (by omega)];simp
 rw[e,cJ hl,dj (by simp[zam])]
theorem zJl{s:List (IT×Nat)}{k:Nat}(h:k<s.length)(x:Nat):(tms s).take (k*5+2)++zam (x:Int)++(tms s).drop (k*5+2+3)=tms (s.set k (s[k].1,x)):=by
 have e:tms s=(tms (s.take k)++s[k].1.cs)++(zam (s[k].2:Int)++tms (s.drop (k+1))):=by rw[zq5 h,tmC];simp
 have hl:(tms (s.take k)++s[k].1.cs).length=k*5+2:=by rw[az,zq6 (by omega)];simp
 have e1:(tms s).take (k*5+2)=tms (s.take k)++s[k].1.cs:=by rw[e,dj hl]
 have e2:(tms s).drop (k*5+2+3)=tms (s.drop (k+1)):=by rw[←cS,e,cJ hl,cJ (by simp[zam])]
 rw[e1,e2,bl,aA h,zkD,zio,tmC];simp
theorem zq4(s:List (IT×Nat))(n:Nat):(tms s).all (AV.scA n)=true:=by
 induction s with
 |nil=>rfl
 |cons p s ih=>rw[zio,bo,ih,tmC,bo,IT.cs_scA,zgz];rfl
theorem zJk(s:List (IT×Nat)):(tms s).all AV.known=true:=by
 induction s with
 |nil=>rfl
 |cons p s ih=>rw[zio,bo,ih,tmC,bo,IT.cs_known];simp[zam,AV.known]
def zaD(s:List (IT×Nat)):List (List AV):=s.map tmC
@[simp] theorem ze8(s:List (IT×Nat)):(zaD s).length=s.length:=by simp[zaD]
theorem zyZ(s:List (IT×Nat)):(zaD s).flatten=tms s:=rfl
@[simp] theorem yav{s:List (IT×Nat)}{i:Nat}(h:i<(zaD s).length):(zaD s)[i]=tmC (s[i]'(by simpa using h)):=by simp[zaD]
theorem zid:∀ {a b c d:List AV},plain a=some c→plain b=some d→plain (a++b)=some (c++d)
 |[],b,c,d,h,h'=>by simp[plain]at h;subst h;simpa using h'
 |x::a,b,c,d,h,h'=>by
  simp only[plain]at h;split at h
  ·rename_i p q hp hq;cases h;simp only[List.cons_append,plain];rw[hp,zid hq h']
  ·cases h
theorem zkh(v:IT):plain v.cs=some v.cs:=by obtain⟨n,ks⟩:=v;simp[IT.cs,plain,AV.pd]
theorem zdh(z:Int):plain (zam z)=some (zam z):=rfl
theorem zgw(p:IT×Nat):plain (tmC p)=some (tmC p):=zid (zkh p.1) (zdh _)
theorem zqs:∀ s:List (IT × Nat),plain (tms s)=some (tms s)
 |[]=>rfl
 |p::s=>by rw[zio];exact zid (zgw p) (zqs s)
theorem zG6{H J:zaa}{K:Kt}(s:List (IT×Nat))(id:Nat)(eH:H.length≤id)(d9:(H++J)[id]?=some (.vec zaC 5 s.length (tms s)))(hs:HSc H)(hK:K (.sl (zaD s) .none) H):Out H.length K (.ov id s.length) (H++J):=
 ⟨.sl (zaD s) .none,H,J,rfl,aa _,hs,.one (.vfz id zaC 5 s.length (tms s) (zaD s) eH d9 (by rw[zyZ];exact zqs s) (by simp) (λc hc=>by
  obtain⟨p,_,rfl⟩:=aC.1 hc;simp)),hK⟩
def zaR(out:List (List IT×Nat)):List (List AV):=out.map λr=>.sl (IT.css r.1) .none::zam (r.2:Int)
@[simp] theorem yad(s:List (List IT×Nat)):(zaR s).length=s.length:=by simp[zaR]
@[simp] theorem yac{s:List (List IT×Nat)}{i:Nat}(h:i<(zaR s).length):(zaR s)[i]=.sl (IT.css (s[i]'(by simpa using h)).1) .none::zam ((s[i]'(by simpa using h)).2:Int):=by simp[zaR]
theorem zqG(a b:List (List IT×Nat)):zaR (a++b)=zaR a++zaR b:=by simp[zaR]
theorem zx9{dU:List Dat}{f:Nat}{ts:List VT}{l m:List IT}{k:Nat}:∀j,j≤k→zcn dU f (ts.take k) (l.take k) (m.take k) j=zcn dU f ts l m j:=by
 intro j;induction j with
 |zero=>intro _;rfl
 |succ j ih=>intro h;rw[zie,zie,ih (by omega)];simp[List.getD_eq_getElem?_getD,List.getElem?_take,show j<k by omega]
theorem zGp{s:List (List IT×Nat)}{p:List IT×Nat}(h:p∈s):p.2≤zbz (λ_=>1) s:=by
 induction s with
 |nil=>simp at h
 |cons q s ih=>
  rw[zin];rcases aS.1 h with rfl|h
  ·omega
  ·have:=ih h;omega
theorem zGi{s:List (List IT×Nat)}(h:∀p∈s,0<p.2):s.length≤zbz (λ_=>1) s:=by
 induction s with
 |nil=>simp
 |cons q s ih=>have h1:=ih λp hp=>h p (by simp[hp]);have h2:=h q (by simp);rw[zin,List.length_cons];omega
theorem ze2{a:Int}(h:a≤6):3 ^ a.toNat≤729:=ar (a8 (by omega) (show a.toNat≤6 by omega)) (by decide)
theorem zHE{dU:List Dat}(h8:∀ D∈dU,D.cons.length≤8){f:Nat}{ts:List VT}{l m:List IT}(hf:IT.nodesL l+IT.nodesL m≤f)(hl:l.length=ts.length)(hm:m.length=ts.length)(hA:0≤rdA dU l ts 0)(hB:0≤rdA dU m ts 0)(h6:rdA dU l ts 0+rdA dU m ts 0≤6)(k:Nat)(hk:k≤ts.length):
  (∀r∈zcn dU f ts l m k,0<r.2∧r.2≤729∧IT.nodesL r.1≤IT.nodesL l+IT.nodesL m)∧(zcn dU f ts l m k).length≤729:=by
 have a1:=zcu l ts 0 k hl (by omega) hA;have b1:=zcu m ts 0 k hm (by omega) hB;have n1:=IT.nodesL_take_le l k;have n2:=IT.nodesL_take_le m k;obtain⟨h1,h2⟩:=(zep h8 (f+1)).2.1 (ts.take k) (l.take k) (m.take k) (by omega) (by simp;omega) (by simp;omega) a1.1 b1.1 (by omega);have e:zct dU (f+1) (ts.take k) (l.take k) (m.take k)=zcn dU f ts l m k:=by rw[zjj,aW,bj hk,zx9 k (aa _)]
 rw[e]at h1 h2;have hN:zbz (λ_=>1) (zcn dU f ts l m k)≤729:=ar h2 (ze2 (by omega));refine⟨λr hr=>?_,ar (zGi λp hp=>(h1 p hp).1) hN⟩;obtain⟨q1,_,_,_,_,_,q6⟩:=h1 r hr;have:=zGp hr;exact⟨q1,by omega,by omega⟩
theorem zIW{out:List (List IT×Nat)}{ws:List (IT×Nat)}(h1:∀r∈out,0<r.2)(h2:∀w∈ws,0<w.2):∀r∈zbD out ws,0<r.2:=by intro r hr;obtain⟨x,hx,hr⟩:=bI.1 hr;obtain⟨w,hw,rfl⟩:=aC.1 hr;exact da (h1 x hx) (h2 w hw)
theorem zqC{dU:List Dat}{f:Nat}(hP:∀ (t:VT) (i j:IT),∀ p∈zaA dU f t i j,0<p.2)(ts:List VT)(l m:List IT):∀ k,∀ r∈za6 dU f ts l m k,0<r.2
 |0,r,hr=>by rw[zfD]at hr;simp at hr;rw[hr];omega
 |k+1,r,hr=>by rw[zcw]at hr;exact zIW (zqC hP ts l m k) (hP _ _ _) r hr
theorem zgx(dU:List Dat):∀ f,(∀ (t:VT) (i j:IT),∀ p∈zaA dU f t i j,0<p.2)∧(∀ (ts:List VT) (l m:List IT),∀ r∈zbp dU f ts l m,0<r.2)∧(∀ (t:VT) (l m:List IT),∀ r∈zaE dU f t l m,0<r.2)
 |0=>⟨λt i j p hp=>by rw[zaA]at hp;simp at hp,λts l m r hr=>by rw[zbp]at hr;simp at hr,λt l m r hr=>by rw[zaE]at hr;simp at hr⟩
 |f+1=>by
  obtain⟨hP,hQ,hM⟩:=zgx dU f;refine⟨λt i j p hp=>?_,λts l m r hr=>?_,λt l m r hr=>?_⟩
  ·rw[zaA]at hp;split at hp
   ·obtain⟨r,hr,rfl⟩:=aC.1 hp;exact hQ _ _ _ r hr
   ·split at hp
    ·have:=(cq.1 hp).2;simp at this;omega
    ·split at hp
     ·obtain⟨r,hr,rfl⟩:=aC.1 hp;exact hM _ _ _ r hr
     ·simp at hp;rw[hp];omega
  ·rw[zdz]at hr;exact zqC hP ts l m _ r hr
  ·cases l with
   |nil=>rw[zaE]at hr;simp at hr;rw[hr];omega
   |cons a l=>
    cases m with
    |nil=>rw[zaE]at hr;simp at hr;rw[hr];omega
    |cons b m=>
     rw[zaE]at hr;rcases aX.1 hr with hr|hr
     ·rcases aX.1 hr with hr | hr
      ·obtain⟨x,hx,rfl⟩:=aC.1 hr;exact hM _ _ _ x hx
      ·obtain⟨x,hx,rfl⟩:=aC.1 hr;exact hM _ _ _ x hx
     ·split at hr
      ·obtain⟨x,hx,hr⟩:=bI.1 hr;obtain⟨w,hw,rfl⟩:=aC.1 hr;exact da (hQ _ _ _ x hx) (hM _ _ _ w hw)
      ·simp at hr
theorem zdu{α:Type}:∀ {s:List (α × Nat)},(∀ p∈s,0<p.2)→s.length≤zah (λ_=>1) s
 |[],_=>by simp
 |p::s,h=>by rw[List.length_cons,zaW];have:=h p aO;have:=zdu λq hq=>h q (aU p hq);omega
theorem zem{dU:List Dat}(h8:∀ D∈dU,D.cons.length≤8){f:Nat}{t:VT}{i j:IT}(hf:i.nodes+j.nodes≤f)(hi:0≤rdV dU i t)(hj:0≤rdV dU j t)(h6:rdV dU i t+rdV dU j t≤6):
  (∀p∈zaA dU f t i j,0<p.2∧p.2≤729∧0≤rdV dU p.1 t∧rdV dU p.1 t≤rdV dU i t+rdV dU j t∧rdV dU i t≤rdV dU p.1 t∧rdV dU j t≤rdV dU p.1 t∧p.1.nodes≤i.nodes+j.nodes)∧zah (λ_=>1) (zaA dU f t i j)≤3 ^ (rdV dU i t+rdV dU j t).toNat∧zah (λ_=>1) (zaA dU f t i j)≤729∧(zaA dU f t i j).length≤729:=by
 obtain⟨d1,d2⟩:=(zep h8 f).1 t i j hf hi hj h6;have hs:=(zd8 dU f).1 t i j;have f8:=(zgx dU f).1 t i j;have h1:zah (λ_=>1) (zaA dU f t i j)≤3 ^ (rdV dU i t+rdV dU j t).toNat:=by rw[←zbS,hs];exact d2
 have h2:=ar h1 (ze2 h6);refine⟨λp hp=>?_,h1,h2,ar (zdu f8) h2⟩;obtain⟨q,hq,he⟩:=zer (s:=zaA dU f t i j) (s':=zbE dU f t i j) hs hp (f8 p hp);have:=d1 q hq;rw[he]at this;have hm:=zd4 (λ_=>1) hp;rw[bv]at hm;exact⟨f8 p hp,by omega,this.2⟩
theorem zvR{dU:List Dat}(h8:∀ D∈dU,D.cons.length≤8){f:Nat}{ts:List VT}{l m:List IT}(hf:IT.nodesL l+IT.nodesL m+1≤f)(hl:l.length=ts.length)(hm:m.length=ts.length)(hi:0≤rdA dU l ts 0)(hj:0≤rdA dU m ts 0)(h6:rdA dU l ts 0+rdA dU m ts 0≤6):
  (∀r∈zbp dU f ts l m,0<r.2∧r.2≤729∧r.1.length=ts.length∧0≤rdA dU r.1 ts 0∧rdA dU r.1 ts 0≤rdA dU l ts 0+rdA dU m ts 0∧IT.nodesL r.1≤IT.nodesL l+IT.nodesL m)∧zah (λ_=>1) (zbp dU f ts l m)≤3 ^ (rdA dU l ts 0+rdA dU m ts 0).toNat∧zah (λ_=>1) (zbp dU f ts l m)≤729∧(zbp dU f ts l m).length≤729:=by
 obtain⟨d1,d2⟩:=(zep h8 f).2.1 ts l m hf hl hm hi hj h6;have hs:=(zd8 dU f).2.1 ts l m;have f8:=(zgx dU f).2.1 ts l m;have h1:zah (λ_=>1) (zbp dU f ts l m)≤3 ^ (rdA dU l ts 0+rdA dU m ts 0).toNat:=by rw[←zfI,hs];exact d2
 have h2:=ar h1 (ze2 h6);refine⟨λp hp=>?_,h1,h2,ar (zdu f8) h2⟩;obtain⟨q,hq,he⟩:=zer (s:=zbp dU f ts l m) (s':=zct dU f ts l m) hs hp (f8 p hp);obtain⟨_,e1,e2,e3,_,_,e6⟩:=d1 q hq;rw[he]at e1 e2 e3 e6;have hm:=zd4 (λ_=>1) hp;rw[bv]at hm;exact⟨f8 p hp,by omega,e1,e2,e3,e6⟩
theorem zi4{dU:List Dat}(h8:∀ D∈dU,D.cons.length≤8){f:Nat}{t:VT}{l m:List IT}(hf:IT.nodesL l+IT.nodesL m+1≤f)(hi:0≤rdE dU l t 0)(hj:0≤rdE dU m t 0)(h6:rdE dU l t 0+rdE dU m t 0≤6):
  (∀r∈zaE dU f t l m,0<r.2∧r.2≤729∧0≤rdE dU r.1 t 0∧rdE dU r.1 t 0≤rdE dU l t 0+rdE dU m t 0∧IT.nodesL r.1≤IT.nodesL l+IT.nodesL m)∧zah (λ_=>1) (zaE dU f t l m)≤3 ^ (rdE dU l t 0+rdE dU m t 0).toNat∧zah (λ_=>1) (zaE dU f t l m)≤729∧(zaE dU f t l m).length≤729:=by
 obtain⟨d1,d2⟩:=(zep h8 f).2.2 t l m hf hi hj h6;have hs:=(zd8 dU f).2.2 t l m;have f8:=(zgx dU f).2.2 t l m;have h1:zah (λ_=>1) (zaE dU f t l m)≤3 ^ (rdE dU l t 0+rdE dU m t 0).toNat:=by have:=hs λ_=>1;rw[zfI]at this;rw[this];exact d2
 have h2:=ar h1 (ze2 h6);refine⟨λp hp=>?_,h1,h2,ar (zdu f8) h2⟩;have kg:∀g:IT→Nat,zah g ((zaE dU f t l m).map λr=>(IT.mk 0 r.1,r.2))=zah g (zbg dU f t l m):=λg=>by rw[zb9 g (λx=>IT.mk 0 x)];exact hs g
 obtain⟨q,hq,he⟩:=zer kg (p:=(IT.mk 0 p.1,p.2)) (aC.2 ⟨p,hp,rfl⟩) (f8 p hp);obtain⟨_,_,e2,e3,_,_,e6⟩:=d1 q hq;simp only at he;rw[he]at e2 e3 e6;have hm:=zd4 (λ_=>1) hp;rw[bv]at hm;exact⟨f8 p hp,by omega,e2,e3,e6⟩
theorem zws:∀ n,0<fct n
 |0=>by simp[fct]
 |n+1=>by have:=zws n;unfold fct;exact da (by omega) this
theorem zxM(b k:Nat)(h:k≤b):pcf 0 b k=if k=b then 1 else 0:=by
 unfold pcf;by_cases hk:k=b
 ·subst hk;have:=zws k;simp[fct];exact dQ this
 ·rw[ap (by omega),ap hk]
theorem zHf(a b k:Nat):pcf a b k=pcf b a k:=by unfold pcf;rw[Nat.max_comm,cF a b,ba (fct (k-a)) (fct (k-b))]
theorem zFM(g:Nat→Nat):∀ n,(∀ k<n,g k=0)→((List.range n).map λk:Nat=>((IT.mk (k:Int) [],g k):IT × Nat)).filter (λp=>p.2 != 0)=[]
 |n,h=>by rw[cP];intro p hp;obtain⟨k,hk,rfl⟩:=aC.1 hp;simp[h k (by simpa using hk)]
theorem zEM(b:Nat):(za4 0 b).filter (λp=>p.2 != 0)=[(.mk (b:Int) [],1)]:=by unfold za4;rw[aG,bO,aP,cN,zFM _ b λk hk=>by rw[zxM b k (by omega),ap (by omega)]];simp[zxM b b (aa _)]
theorem zvI(a b:Nat):za4 a b=za4 b a:=by unfold za4;rw[cF a b];refine be λk _=>?_;rw[zHf]
theorem zqF{dU:List Dat}{f:Nat}{ts:List VT}{l m r:List IT}(hl:r.length=ts.length)(h:∀ k (h1:k<ts.length) (h2:k<r.length),zaA dU f ts[k] (l.getD k d0) (m.getD k d0)=[(r[k],1)]):∀ k,k≤ts.length→za6 dU f ts l m k=[(r.take k,1)]
 |0,_=>by simp[zfD]
 |k+1,hk=>by
  have h1:k<ts.length:=by omega
  have h2:k<r.length:=by omega
  have e:ts.getD k tz=ts[k]:=by simp[List.getD_eq_getElem?_getD,h1]
  rw[zcw,zqF hl h k (by omega),e,h k h1 h2,af h2];rfl
theorem zzA{ts:List VT}{k:Nat}(h:k<ts.length):(zbd ts).getD k d0=zaX ts[k]:=by rw[zdT];simp[List.getD_eq_getElem?_getD,h]
theorem zJI(ts:List VT):(zbd ts).length=ts.length:=by rw[zdT];simp
theorem zxb{dU:List Dat}:∀ (f:Nat) (t:VT) (i:IT),(zaX t).nodes+i.nodes≤f→0≤rdV dU i t→zaA dU f t (zaX t) i=[(i,1)]∧zaA dU f t i (zaX t)=[(i,1)]
 |0,t,i,h,_=>by have:=i.nodes_pos;omega
 |f+1,.mk k tn tks,.mk n l,h,hi=>by
  rw[zdi]at hi;rw[zaX]at h ⊢;simp only[IT.nodes]at h;by_cases h6:k=6
  ·subst h6;simp only[aV]at hi h ⊢;by_cases hn:n=0;case neg=>rw[ap hn]at hi;omega
   subst hn;simp only[aV]at hi;by_cases hl:tks.length=l.length;case neg=>rw[ap hl]at hi;omega
   rw[aA hl]at hi;have mw:=(zdO (dU:=dU) l tks 0 (by omega) hl.symm hi).1;cases f with
   |zero=>omega
   |succ f=>
    have key:∀k (h1:k<tks.length) (h2:k<l.length),zaA dU f tks[k] (zaX tks[k]) l[k]=[(l[k],1)]∧zaA dU f tks[k] l[k] (zaX tks[k])=[(l[k],1)]:=λk h1 h2=>by
     refine zxb f tks[k] l[k] ?_ (mw k h2 h1);have:=zck h2;have hz:k<(zbd tks).length:=by rw[zJI];exact h1
     have:=zck hz;have he:(zbd tks)[k]=zaX tks[k]:=by simp[zdT]
     rw[he]at this;omega
    have gl:∀k (h:k<l.length),l.getD k d0=l[k]:=λk h=>by simp[List.getD_eq_getElem?_getD,h]
    rw[zaA,zaA];simp only[VT.kind,VT.kids,zaF,aV];rw[zdz,zdz,zqF (r:=l) hl.symm (λk h1 h2=>by rw[zzA h1,gl k h2];exact (key k h1 h2).1) _ (aa _),
     zqF (r:=l) hl.symm (λk h1 h2=>by rw[zzA h1,gl k h2];exact(key k h1 h2).2) _ (aa _),hl,aq]
    simp
  ·simp only[h6,aH]at hi h ⊢;rw[zaA,zaA];simp only[VT.kind,h6,aH,zaF,zaI];by_cases h7:k=7
   ·subst h7;simp only[aV]at hi ⊢;by_cases hc:0≤n∧n≤6∧l.length=0;case neg=>rw[ap hc]at hi;omega
    obtain⟨c1,c2,c3⟩:=hc;obtain rfl:=aB c3;obtain⟨b,rfl⟩:∃b:Nat,n=b:=⟨n.toNat,by omega⟩;have e0:(0:Int).toNat=0:=rfl;rw[e0,Int.toNat_natCast,zvI b 0,zEM];exact⟨rfl,rfl⟩
   ·simp only[h7,aH]at hi ⊢;by_cases h5:k=5
    ·subst h5;simp only[aV]at hi ⊢;by_cases hc:n=0∧l.length≤6;case neg=>rw[ap hc]at hi;omega
     obtain⟨rfl,_⟩:=hc;cases f with
     |zero=>omega
     |succ f=>cases l <;> simp[zaE]
    ·simp only[h5,aH]at hi ⊢;by_cases hc:n=0∧l.length=0;case neg=>rw[ap hc]at hi;omega
     obtain⟨rfl,c⟩:=hc;obtain rfl:=aB c;exact⟨rfl,rfl⟩
theorem zw5{dU:List Dat}:∀ (f:Nat) (t:VT) (l m:List IT),IT.nodesL l+IT.nodesL m+1≤f→zaE dU f t l m≠[]
 |0,_,_,_,h=>by omega
 |f+1,t,[],m,h=>by simp[zaE]
 |f+1,t,a::l,[],h=>by simp[zaE]
 |f+1,t,a::l,b::m,h=>by have na:=a.nodes_pos;simp only[IT.nodesL]at h;have:=zw5 (dU:=dU) f t l (b::m) (by simp only[IT.nodesL];omega);rw[zaE];simp[this]
theorem zHh:∀a<7,∀b<7,pcf a b (max a b)≠0:=by decide
theorem zyb{dU:List Dat}{f:Nat}{ts:List VT}{l m:List IT}(h:∀ k,k<ts.length→zaA dU f (ts.getD k tz) (l.getD k d0) (m.getD k d0)≠[]):∀ k,k≤ts.length→za6 dU f ts l m k≠[]
 |0,_=>by simp[zfD]
 |k+1,hk=>by
  have h1:=zyb h k (by omega);have h2:=h k (by omega);rw[zcw];generalize za6 dU f ts l m k=out at *;generalize zaA dU f (ts.getD k tz) (l.getD k d0) (m.getD k d0)=ws at *;cases out with
  |nil=>exact absurd rfl h1
  |cons r out=>
   cases ws with
   |nil=>exact absurd rfl h2
   |cons w ws=>simp[zbD]
theorem zxa{dU:List Dat}:∀ (f:Nat) (t:VT) (i j:IT),i.nodes+j.nodes≤f→0≤rdV dU i t→0≤rdV dU j t→zaA dU f t i j≠[]
 |0,t,i,j,h,_,_=>by have:=i.nodes_pos;omega
 |f+1,.mk k tn tks,.mk n l,.mk n' m,h,hi,hj=>by
  rw[zdi]at hi hj;simp only[IT.nodes]at h;rw[zaA];simp only[VT.kind,VT.kids,zaF,zaI];by_cases h6:k=6
  ·subst h6;simp only[aV]at hi hj ⊢;by_cases hn:n=0;case neg=>rw[ap hn]at hi;omega
   by_cases ff:n'=0;case neg=>rw[ap ff]at hj;omega
   rw[aA hn]at hi;rw[aA ff]at hj;by_cases hl:tks.length=l.length;case neg=>rw[ap hl]at hi;omega
   by_cases hm:tks.length=m.length;case neg=>rw[ap hm]at hj;omega
   rw[aA hl]at hi;rw[aA hm]at hj;have ii:=(zdO (dU:=dU) l tks 0 (by omega) hl.symm hi).1;have ij:=(zdO (dU:=dU) m tks 0 (by omega) hm.symm hj).1;cases f with
   |zero=>omega
   |succ f=>
    rw[zdz];have:=zyb (dU:=dU) (f:=f) (ts:=tks) (l:=l) (m:=m) (λk hk=>by
     have h1:k<l.length:=by omega
     have h2:k<m.length:=by omega
     have n1:=zck h1;have n2:=zck h2;have e1:tks.getD k tz=tks[k]:=by simp[List.getD_eq_getElem?_getD,hk]
     have e2:l.getD k d0=l[k]:=by simp[List.getD_eq_getElem?_getD,h1]
     have e3:m.getD k d0=m[k]:=by simp[List.getD_eq_getElem?_getD,h2]
     rw[e1,e2,e3];exact zxa f tks[k] l[k] m[k] (by omega) (ii k h1 hk) (ij k h2 hk)) tks.length (aa _)
    simp[this]
  ·simp only[h6,aH]at hi hj ⊢;by_cases h7:k=7
   ·subst h7;simp only[aV]at hi hj ⊢;by_cases hc:0≤n∧n≤6∧l.length=0;case neg=>rw[ap hc]at hi;omega
    by_cases iY:0≤n'∧n'≤6∧m.length=0;case neg=>rw[ap iY]at hj;omega
    have hp:=zHh n.toNat (by omega) n'.toNat (by omega);intro he;rw[cP]at he;have:=he (.mk ((max n.toNat n'.toNat:Nat):Int) [],pcf n.toNat n'.toNat (max n.toNat n'.toNat)) (by
     unfold za4;exact aC.2 ⟨max n.toNat n'.toNat,by simp;omega,rfl⟩)
    simp at this;exact hp this
   ·simp only[h7,aH]at hi hj ⊢;by_cases h5:k=5
    ·subst h5;simp only[aV]at hi hj ⊢;have:=zw5 (dU:=dU) f (.mk 5 tn tks) l m (by omega);simp[this]
    ·simp[h5]
theorem zpo{dU:List Dat}{t:VT}{i j:IT}{f:Nat}(h:i.nodes+j.nodes≤f)(hi:0≤rdV dU i t)(hj:0≤rdV dU j t):0<zah (λ_=>1) (zaA dU f t i j):=by
 have h1:=zxa f t i j h hi hj;have h2:=(zgx dU f).1 t i j;generalize zaA dU f t i j=s at *;cases s with
 |nil=>exact absurd rfl h1
 |cons p s=>have:=h2 p (by simp);rw[zaW];omega
def FuT(dU:List Dat)(f:Nat):Prop:=∀(t:VT) (i j:IT),i.nodes+j.nodes≤f→0≤rdV dU i t→0≤rdV dU j t→zaA dU (f+1) t i j=zaA dU f t i j
def FuQ(dU:List Dat)(f:Nat):Prop:=∀(ts:List VT) (l m:List IT),IT.nodesL l+IT.nodesL m+1≤f→l.length=ts.length→m.length=ts.length→0≤rdA dU l ts 0→0≤rdA dU m ts 0→zbp dU (f+1) ts l m=zbp dU f ts l m
def FuM(dU:List Dat)(f:Nat):Prop:=∀(t:VT) (l m:List IT),IT.nodesL l+IT.nodesL m+1≤f→0≤rdE dU l t 0→0≤rdE dU m t 0→zaE dU (f+1) t l m=zaE dU f t l m
theorem zya{dU:List Dat}{f f':Nat}{ts:List VT}{l m:List IT}(h:∀ k,k<ts.length→zaA dU f (ts.getD k tz) (l.getD k d0) (m.getD k d0)=zaA dU f' (ts.getD k tz) (l.getD k d0) (m.getD k d0)):∀ k,k≤ts.length→za6 dU f ts l m k=za6 dU f' ts l m k
 |0,_=>rfl
 |k+1,hk=>by rw[zcw,zcw,zya h k (by omega),h k (by omega)]
theorem zoZ{dU:List Dat}(h8:∀ D∈dU,D.cons.length≤8):∀ f,FuT dU f∧FuQ dU f∧FuM dU f
 |0=>⟨λt i j h=>by have:=i.nodes_pos;omega,λts l m h=>by omega,λt l m h=>by omega⟩
 |f+1=>by
  obtain⟨hT,hQ,hM⟩:=zoZ h8 f;refine⟨?_,?_,?_⟩
  ·rintro⟨k,tn,tks⟩ ⟨n,l⟩ ⟨n',m⟩ h hi hj;simp only[IT.nodes]at h;rw[zaA,zaA];simp only[VT.kind,VT.kids,zaF,zaI];by_cases h6:k=6
   ·subst h6;rw[zdi]at hi hj;simp only[aV]at hi hj ⊢;by_cases hn:n=0;case neg=>rw[ap hn]at hi;omega
    by_cases ff:n'=0;case neg=>rw[ap ff]at hj;omega
    rw[aA hn]at hi;rw[aA ff]at hj;by_cases hl:tks.length=l.length;case neg=>rw[ap hl]at hi;omega
    by_cases hm:tks.length=m.length;case neg=>rw[ap hm]at hj;omega
    rw[aA hl]at hi;rw[aA hm]at hj;rw[hQ tks l m (by omega) hl.symm hm.symm hi hj]
   ·simp only[h6,aH];by_cases h7:k=7
    ·simp only[h7,aV]
    ·simp only[h7,aH];by_cases h5:k=5
     ·subst h5;simp only[aV];rw[zey]at hi hj;by_cases hc:n=0∧l.length≤6;case neg=>rw[ap hc]at hi;omega
      by_cases iY:n'=0∧m.length≤6;case neg=>rw[ap iY]at hj;omega
      rw[aA hc]at hi;rw[aA iY]at hj;rw[hM _ l m (by omega) hi hj]
     ·simp only[h5,aH]
  ·intro ts l m h hl hm hi hj;have ii:=(zdO (dU:=dU) l ts 0 (by omega) hl hi).1;have ij:=(zdO (dU:=dU) m ts 0 (by omega) hm hj).1;rw[zdz,zdz];refine zya (λk hk=>?_) _ (aa _);have h1:k<l.length:=by omega
   have h2:k<m.length:=by omega
   have n1:=zck h1;have n2:=zck h2;have e1:ts.getD k tz=ts[k]:=by simp[List.getD_eq_getElem?_getD,hk]
   have e2:l.getD k d0=l[k]:=by simp[List.getD_eq_getElem?_getD,h1]
   have e3:m.getD k d0=m[k]:=by simp[List.getD_eq_getElem?_getD,h2]
   rw[e1,e2,e3];exact hT ts[k] l[k] m[k] (by omega) (ii k h1 hk) (ij k h2 hk)
  ·intro t l m h hi hj;cases l with
   |nil=>rw[zaE,zaE]
   |cons a l=>
    cases m with
    |nil=>rw[zaE,zaE]
    |cons b m=>
     obtain⟨la,ll,el⟩:=zdP h8 t a l hi;obtain⟨mb,mm,em⟩:=zdP h8 t b m hj;obtain⟨ca,pa⟩:=a;obtain⟨cb,pb⟩:=b;simp only[IT.nodesL,IT.nodes]at h;rw[zaE,zaE,hM t l _ (by simp only[IT.nodesL,IT.nodes];omega) ll hj,hM t _ m (by simp only[IT.nodesL,IT.nodes];omega) hi mm];congr 1;by_cases hc:ca=cb
     ·subst hc;obtain⟨ca0,ca8,psa,ix,k0,mV,ea⟩:=zdy la;obtain⟨cb0,cb8,psb,kP,fV,mW,eb⟩:=zdy mb;rw[ix]at kP;cases kP;simp only[zaI,zaF,aV,ix,Option.getD_some];rw[hM t l m (by omega) ll mm,hQ psa pa pb (by omega) k0.symm fV.symm mV mW]
     ·simp only[zaI,hc,aH]
theorem zpj{dU:List Dat}{f:Nat}{t:VT}(g:List IT→Nat)(a b:IT)(l m:List IT):zah g (zaE dU (f+1) t (a::l) (b::m)) =
  zah (λx=>g (a::x)) (zaE dU f t l (b::m))+zah (λx=>g (b::x)) (zaE dU f t (a::l) m) +
  (if zaI a=zaI b then zah (λr=>zah (λx=>g (.mk (zaI a) r::x)) (zaE dU f t l m)) (zbp dU f ((zbb dU t (zaI a)).getD []) (zaF a) (zaF b)) else 0):=by
 rw[zaE,zdj,zdj,zb9 g (λx=>a::x),zb9 g (λx=>b::x)];congr 1;by_cases h:zaI a=zaI b
 ·rw[aA h,aA h,zeD g (λr x=>IT.mk (zaI a) r::x)]
 ·rw[ap h,ap h,zc4]
theorem zgE(g:List IT→Nat)(out:List (List IT×Nat))(ws:List (IT×Nat)):zah g (zbD out ws)=zah (λr=>zah (λw=>g (r++[w])) ws) out:=by unfold zbD;rw[zeD g (λl x=>l++[x])]
theorem zoL(dU:List Dat):∀ f,(∀ (t:VT) (i j:IT) (g:IT→Nat),zah g (zaA dU f t i j)=zah g (zaA dU f t j i)) ∧
  (∀(ts:List VT) (l m:List IT) (g:List IT→Nat),zah g (zbp dU f ts l m)=zah g (zbp dU f ts m l)) ∧
  (∀(t:VT) (l m:List IT) (g:List IT→Nat),zah g (zaE dU f t l m)=zah g (zaE dU f t m l))
 |0=>⟨λt i j g=>by rw[zaA,zaA],λts l m g=>by rw[zbp,zbp],λt l m g=>by rw[zaE,zaE]⟩
 |f+1=>by
  obtain⟨hT,hQ,hM⟩:=zoL dU f;refine⟨?_,?_,?_⟩
  ·intro t i j g;rw[zaA,zaA];by_cases h6:t.kind=6
   ·rw[aA h6,aA h6,zb9 g (λr=>IT.mk 0 r),zb9 g (λr=>IT.mk 0 r),hQ]
   ·rw[ap h6,ap h6];by_cases h7:t.kind=7
    ·rw[aA h7,aA h7,zvI]
    ·rw[ap h7,ap h7];by_cases h5:t.kind=5
     ·rw[aA h5,aA h5,zb9 g (λr=>IT.mk 0 r),zb9 g (λr=>IT.mk 0 r),hM]
     ·rw[ap h5,ap h5]
  ·intro ts l m;rw[zdz,zdz];generalize ts.length=k;induction k with
   |zero=>intro g;rfl
   |succ k ih=>intro g;rw[zcw,zcw,zgE,zgE,ih];congr 1;funext r;exact hT _ _ _ _
  ·intro t l m g;cases l with
   | nil=>cases m with
    |nil=>rfl
    |cons b m=>rw[zaE,zaE]
   |cons a l=>
    cases m with
    |nil=>rw[zaE,zaE]
    |cons b m=>
     rw[zpj,zpj,hM t l (b::m),hM t (a::l) m,cF (zah (λx=>g (b::x)) _)];congr 1;by_cases h:zaI a=zaI b
     ·rw[aA h,aA h.symm,hQ,h];congr 1;funext r;exact hM t l m _
     ·rw[ap h,ap (Ne.symm h)]
theorem zqB{dU:List Dat}{f:Nat}{ts:List VT}{l m:List IT}:∀ k,∀ r∈za6 dU f ts l m k,r.1.length=k
 |0,r,h=>by rw[zfD]at h;simp at h;rw[h];rfl
 |k+1,r,h=>by rw[zcw]at h;unfold zbD at h;obtain⟨s,hs,h⟩:=bI.1 h;obtain⟨w,hw,rfl⟩:=aC.1 h;have:=zqB k s hs;simp[this]
theorem zqD{dU:List Dat}{f:Nat}{ts:List VT}{l l' m m':List IT}:∀ k,(∀ q<k,l.getD q d0=l'.getD q d0)→(∀ q<k,m.getD q d0=m'.getD q d0)→za6 dU f ts l m k=za6 dU f ts l' m' k
 |0,_,_=>rfl
 |k+1,h1,h2=>by rw[zcw,zcw,zqD k (λq hq=>h1 q (by omega)) (λq hq=>h2 q (by omega)),h1 k (by omega),h2 k (by omega)]
theorem zik{α:Type}{g h:α→Nat}:∀ {s:List (α × Nat)},(∀ p∈s,g p.1=h p.1)→zah g s=zah h s
 |[],_=>rfl
 |p::s,e=>by rw[zaW,zaW,e p (by simp),zik λq hq=>e q (by simp[hq])]
theorem zye{dU:List Dat}{f:Nat}{ts:List VT}{l m n:List IT}:∀ k,
  (∀ q<k,∀ g:IT→Nat,zah (λu=>zah g (zaA dU f (ts.getD q tz) u (n.getD q d0))) (zaA dU f (ts.getD q tz) (l.getD q d0) (m.getD q d0)) =
   zah (λu=>zah g (zaA dU f (ts.getD q tz) (l.getD q d0) u)) (zaA dU f (ts.getD q tz) (m.getD q d0) (n.getD q d0))) →
  ∀g:List IT→Nat,zah (λr=>zah g (za6 dU f ts r n k)) (za6 dU f ts l m k)=zah (λr=>zah g (za6 dU f ts l r k)) (za6 dU f ts m n k)
 |0,_,g=>by simp[zfD]
 |k+1,h,g=>by
  rw[zcw,zcw,zgE,zgE];have e1:zah (λr=>zah (λw=>zah g (za6 dU f ts (r++[w]) n (k+1))) (zaA dU f (ts.getD k tz) (l.getD k d0) (m.getD k d0))) (za6 dU f ts l m k) =
    zah (λr=>zah (λs=>zah (λu=>zah (λx=>g (s++[x])) (zaA dU f (ts.getD k tz) (l.getD k d0) u)) (zaA dU f (ts.getD k tz) (m.getD k d0) (n.getD k d0))) (za6 dU f ts r n k)) (za6 dU f ts l m k):=by
   refine zik λr hr=>?_;have hl:=zqB k r hr;have:∀w,zah g (za6 dU f ts (r.1++[w]) n (k+1))=zah (λs=>zah (λx=>g (s++[x])) (zaA dU f (ts.getD k tz) w (n.getD k d0))) (za6 dU f ts r.1 n k):=λw=>by
    rw[zcw,zgE,zqD (l':=r.1) (m':=n) k (λq hq=>by simp[List.getD_eq_getElem?_getD,List.getElem?_append_left (show q<r.1.length by omega)]) (λ_ _=>rfl),
     show (r.1++[w]).getD k d0=w by simp[List.getD_eq_getElem?_getD,←hl]]
   simp only[this];rw[zd7];congr 1;funext s;exact h k (by omega) _
  have e2:zah (λr=>zah (λw=>zah g (za6 dU f ts l (r++[w]) (k+1))) (zaA dU f (ts.getD k tz) (m.getD k d0) (n.getD k d0))) (za6 dU f ts m n k) =
    zah (λr=>zah (λs=>zah (λu=>zah (λx=>g (s++[x])) (zaA dU f (ts.getD k tz) (l.getD k d0) u)) (zaA dU f (ts.getD k tz) (m.getD k d0) (n.getD k d0))) (za6 dU f ts l r k)) (za6 dU f ts m n k):=by
   refine zik λr hr=>?_;have hl:=zqB k r hr;have:∀w,zah g (za6 dU f ts l (r.1++[w]) (k+1))=zah (λs=>zah (λx=>g (s++[x])) (zaA dU f (ts.getD k tz) (l.getD k d0) w)) (za6 dU f ts l r.1 k):=λw=>by
    rw[zcw,zgE,zqD (l':=l) (m':=r.1) k (λ_ _=>rfl) (λq hq=>by simp[List.getD_eq_getElem?_getD,List.getElem?_append_left (show q<r.1.length by omega)]),
     show (r.1++[w]).getD k d0=w by simp[List.getD_eq_getElem?_getD,←hl]]
   simp only[this];rw[zd7]
  rw[e1,e2];exact zye k (λq hq=>h q (by omega)) _
theorem zhs{dU:List Dat}(h8:∀ D∈dU,D.cons.length≤8){t:VT}{i j:IT}(hi:0≤rdV dU i t)(hj:0≤rdV dU j t):∀ {f f':Nat},i.nodes+j.nodes≤f→f≤f'→zaA dU f' t i j=zaA dU f t i j
 |f,0,h,hf=>by rw[show f=0 by omega]
 |f,f'+1,h,hf=>by
  by_cases e:f=f'+1
  ·rw[e]
  ·rw[(zoZ h8 f').1 t i j (by omega) hi hj,zhs h8 hi hj h (by omega)]
theorem zo0{dU:List Dat}(h8:∀ D∈dU,D.cons.length≤8){t:VT}{l m:List IT}(hi:0≤rdE dU l t 0)(hj:0≤rdE dU m t 0):∀ {f f':Nat},IT.nodesL l+IT.nodesL m+1≤f→f≤f'→zaE dU f' t l m=zaE dU f t l m
 |f,0,h,hf=>by rw[show f=0 by omega]
 |f,f'+1,h,hf=>by
  by_cases e:f=f'+1
  ·rw[e]
  ·rw[(zoZ h8 f').2.2 t l m (by omega) hi hj,zo0 h8 hi hj h (by omega)]
theorem zw6{dU:List Dat}{f:Nat}{t:VT}(l:List IT):zaE dU (f+1) t l []=[(l,1)]:=by
 cases l with
 |nil=>rw[zaE]
 |cons a l=>rw[zaE]
theorem zpk{dU:List Dat}{f:Nat}{t:VT}(l:List IT):zaE dU (f+1) t [] l=[(l,1)]:=by rw[zaE]
@[simp] theorem zfJ{α:Type}(g:α→Nat)(x:α):zah g [(x,1)]=g x:=by simp
theorem zI5{α:Type}{p:Prop}[Decidable p](g:α→Nat):∀s:List (α×Nat),zah (λx=>if p then g x else 0) s=if p then zah g s else 0:=by
 intro s;by_cases h:p
 ·simp[h]
 ·simp[h,zqS]
theorem zI4{α:Type}(g1 g2 g3:α→Nat)(s:List (α×Nat)):zah (λx=>g1 x+g2 x+g3 x) s=zah g1 s+zah g2 s+zah g3 s:=by rw[zkw (λx=>g1 x+g2 x) g3,zkw]
theorem zI8{α β γ δ:Type}{P:α→List (β × Nat)}{P':δ→List (β × Nat)}{s:List (α × Nat)}{s':List (δ × Nat)}(hA:∀ g:β→Nat,zah (λu=>zah g (P u)) s=zah (λu=>zah g (P' u)) s')(k:γ→β→Nat)(W:List (γ × Nat)):
  zah (λx=>zah (λr=>zah (k r) (P x)) W) s=zah (λx=>zah (λr=>zah (k r) (P' x)) W) s':=by
 rw[zd7,zd7 (λx r=>zah (k r) (P' x))];congr 1;funext r;exact hA _
theorem zES{α ρ:Type}{num:α→Int}{kids:α→ρ}{mk:Int→ρ→α}(hn:∀k r,num (mk k r)=k)(hk:∀k r,kids (mk k r)=r){M M':List α→List α→List (List α×Nat)}{R:Int→ρ→ρ→List (ρ×Nat)}(E:∀(g:List α→Nat) a b l m,zah g (M' (a::l) (b::m))=zah (λx=>g (a::x)) (M l (b::m))+zah (λx=>g (b::x)) (M (a::l) m)+(if num a=num b then zah (λr=>zah (λx=>g (mk (num a) r::x)) (M l m)) (R (num a) (kids a) (kids b)) else 0)){a b c:α}{l m n:List α}(FU1:M' (a::l) (b::m)=M (a::l) (b::m))(FU2:M' (b::m) (c::n)=M (b::m) (c::n))(A1:∀g:List α→Nat,zah (λu=>zah g (M u (c::n))) (M l (b::m))=zah (λu=>zah g (M l u)) (M (b::m) (c::n)))(A2:∀g:List α→Nat,zah (λu=>zah g (M u (c::n))) (M (a::l) m)=zah (λu=>zah g (M (a::l) u)) (M m (c::n)))(A3:∀g:List α→Nat,zah (λu=>zah g (M u n)) (M (a::l) (b::m))=zah (λu=>zah g (M (a::l) u)) (M (b::m) n))(A4:∀g:List α→Nat,zah (λu=>zah g (M u (c::n))) (M l m)=zah (λu=>zah g (M l u)) (M m (c::n)))(A5:∀g:List α→Nat,zah (λu=>zah g (M u n)) (M l (b::m))=zah (λu=>zah g (M l u)) (M (b::m) n))(A6:∀g:List α→Nat,zah (λu=>zah g (M u n)) (M (a::l) m)=zah (λu=>zah g (M (a::l) u)) (M m n))(A7:∀g:List α→Nat,zah (λu=>zah g (M u n)) (M l m)=zah (λu=>zah g (M l u)) (M m n))(Q:num a=num b→num b=num c→∀G:ρ→Nat,zah (λr=>zah G (R (num b) r (kids c))) (R (num b) (kids a) (kids b))=zah (λr=>zah G (R (num b) (kids a) r)) (R (num b) (kids b) (kids c)))(g:List α→Nat):zah (λu=>zah g (M' u (c::n))) (M' (a::l) (b::m))=zah (λu=>zah g (M' (a::l) u)) (M' (b::m) (c::n)):=by
 have C:=E (λu=>zah (λx=>g (c::x)) (M u n)) a b l m;rw[FU1,A3 λx=>g (c::x)]at C;have B:=E (λu=>zah (λx=>g (a::x)) (M l u)) b c m n;rw[FU2,←A1 λx=>g (a::x)]at B;have ab:zah (λr=>zah (λx=>zah (λy=>g (mk (num a) r::y)) (M x (c::n))) (M l m)) (R (num a) (kids a) (kids b))=zah (λx=>zah (λr=>zah (λy=>g (mk (num a) r::y)) (M l x)) (R (num a) (kids a) (kids b))) (M m (c::n)):=by rw[zd7 (λx r=>zah (λy=>g (mk (num a) r::y)) (M l x))];congr 1;funext r;exact A4 _
 have bc:zah (λx=>zah (λr=>zah (λy=>g (mk (num b) r::y)) (M x n)) (R (num b) (kids b) (kids c))) (M (a::l) m)=zah (λr=>zah (λx=>zah (λy=>g (mk (num b) r::y)) (M (a::l) x)) (M m n)) (R (num b) (kids b) (kids c)):=by rw[zd7];congr 1;funext r;exact A6 _
 have ac:zah (λx=>zah (λr=>zah (λy=>g (mk (num a) r::y)) (M x n)) (R (num a) (kids a) (kids c))) (M l (b::m))=zah (λx=>zah (λr=>zah (λy=>g (mk (num a) r::y)) (M l x)) (R (num a) (kids a) (kids c))) (M (b::m) n):=
  zI8 A5 (λr y=>g (mk (num a) r::y)) _
 have abc:num a=num b→num b=num c→zah (λp=>zah (λx=>zah (λr=>zah (λy=>g (mk (num b) r::y)) (M x n)) (R (num b) p (kids c))) (M l m)) (R (num b) (kids a) (kids b)) =
   zah (λp=>zah (λx=>zah (λr=>zah (λy=>g (mk (num b) r::y)) (M l x)) (R (num b) (kids a) p)) (M m n)) (R (num b) (kids b) (kids c)):=λh1 h2=>by
  have e1:∀p,zah (λx=>zah (λr=>zah (λy=>g (mk (num b) r::y)) (M x n)) (R (num b) p (kids c))) (M l m)=zah (λr=>zah (λx=>zah (λy=>g (mk (num b) r::y)) (M l x)) (M m n)) (R (num b) p (kids c)):=λp=>by rw[zd7];congr 1;funext r;exact A7 _
  have e2:∀p,zah (λx=>zah (λr=>zah (λy=>g (mk (num b) r::y)) (M l x)) (R (num b) (kids a) p)) (M m n)=zah (λr=>zah (λx=>zah (λy=>g (mk (num b) r::y)) (M l x)) (M m n)) (R (num b) (kids a) p):=λp=>by rw[zd7]
  simp only[e1,e2];exact Q h1 h2 _
 rw[E _ a b l m,E _ b c m n];simp only[E,hn,hk,zI4,zI5]at B C ⊢;by_cases h1:num a=num b
 ·by_cases h2:num b=num c
  ·have h3:num a=num c:=h1.trans h2;rw[h1]at ab ac;have:=abc h1 h2;have A2:=A2 λx=>g (b::x);simp only[h1,h2,aV]at *;omega
  ·have h3:num a≠num c:=λe=>h2 (h1 ▸ e);have A2:=A2 λx=>g (b::x);simp only[h1,h2,aV,aH]at *;omega
 ·by_cases h2:num b=num c
  ·have h3:num a≠num c:=λe=>h1 (e.trans h2.symm);have A2:=A2 λx=>g (b::x);simp only[h1,h2,h3,aV,aH]at *;omega
  ·have A2:=A2 λx=>g (b::x);by_cases h3:num a=num c
   ·have h4:¬num c=num b:=λe=>h1 (h3.trans e);simp only[h2,h3,h4,aV,aH]at *;omega
   ·simp only[h1,h2,h3,aV,aH]at *;omega
def pc(a b k:Nat):Nat:=if k≤a+b then pcf a b k else 0
def asc(a b c q:Nat):Bool:=decide (((List.range 7).map λk=>pc a b k*pc k c q).sum=((List.range 7).map λk=>pc b c k*pc a k q).sum)
theorem zEQ:((List.range 7).all λa=>(List.range 7).all λb=>(List.range 7).all λc=>decide (6<a+b+c) || (List.range 7).all λq=>asc a b c q)=true:=by decide +kernel
theorem zET{a b c q:Nat}(h:a+b+c≤6)(hq:q≤6):((List.range 7).map λk=>pc a b k*pc k c q).sum=((List.range 7).map λk=>pc b c k*pc a k q).sum:=by
 have h1:=ak.1 zEQ a (bh.2 (by omega));have h2:=ak.1 h1 b (bh.2 (by omega));have h3:=ak.1 h2 c (bh.2 (by omega));simp only[bZ,aR]at h3;rcases h3 with h3|h3
 ·omega
 ·have h4:=ak.1 h3 q (bh.2 (by omega));exact bY h4
theorem zEK(a b:Nat)(G:IT→Nat):zah G (za4 a b)=zah G ((List.range (a+b+1)).map λk:Nat=>(.mk (k:Int) [],pc a b k)):=by unfold za4;congr 1;refine be λk hk=>?_;rw[pc,aA (by have:=bh.1 hk;omega)]
theorem zyQ(f:Nat→Nat)(G:IT→Nat)(n:Nat):∀ d,(∀ k,n≤k→f k=0)→zah G ((List.range n).map λk:Nat=>(.mk (k:Int) [],f k))=zah G ((List.range (n+d)).map λk:Nat=>(.mk (k:Int) [],f k))
 |0,_=>rfl
 |d+1,h=>by rw[←ae,bO,aP,zdj,zyQ f G n d h];simp[h (n+d) (by omega)]
theorem zoC{a b:Nat}(h:a+b≤6)(G:IT→Nat):zah G (za4 a b)=zah G ((List.range 7).map λk:Nat=>(.mk (k:Int) [],pc a b k)):=by rw[zEK,zyQ (pc a b) G (a+b+1) (6-(a+b)) (λk hk=>by rw[pc,ap (by omega)]),show a+b+1+(6-(a+b))=7 by omega]
theorem zyR(f:Nat→Nat)(G:IT→Nat):∀ l:List Nat,zah G (l.map λk:Nat=>(.mk (k:Int) [],f k))=(l.map λk=>f k*G (.mk (k:Int) [])).sum
 |[]=>rfl
 |k::l=>by rw[aD,zaW,zyR f G l];simp
theorem zyS{α:Type}{g h:α→Nat}:∀ {s:List (α × Nat)},(∀ p∈s,p.2=0∨g p.1=h p.1)→zah g s=zah h s
 |[],_=>rfl
 |p::s,e=>by
  rw[zaW,zaW,zyS λq hq=>e q (by simp[hq])];rcases e p (by simp) with h1|h1
  ·rw[h1];simp
  ·rw[h1]
theorem zvK{a b:Nat}(h:a+b≤6){F:Nat→Nat→Nat}(g:IT→Nat){P:IT→List (IT × Nat)}(hP:∀ k:Nat,k≤a+b→∀ g:IT→Nat,zah g (P (.mk k []))=zah g ((List.range 7).map λq:Nat=>(.mk (q:Int) [],F k q))):
  zah (λu=>zah g (P u)) (za4 a b)=zah g ((List.range 7).map λq:Nat=>(.mk (q:Int) [],((List.range 7).map λk=>pc a b k*F k q).sum)):=by
 rw[zoC h];have:zah (λu=>zah g (P u)) ((List.range 7).map λk:Nat=>((.mk (k:Int) [],pc a b k):IT×Nat))=zah (λu=>zah g ((List.range 7).map λq:Nat=>(.mk (q:Int) [],F (zaI u).toNat q))) ((List.range 7).map λk:Nat=>(.mk (k:Int) [],pc a b k)):=by
  refine zyS λp hp=>?_;obtain⟨k,hk,rfl⟩:=aC.1 hp;by_cases hc:k≤a+b
  ·exact .inr (hP k hc g)
  ·exact .inl (by simp only[pc,ap hc])
 rw[this];simp only[zyR];simp only[List.range,List.range.loop,aD,bJ,List.sum_cons,List.sum_nil,zaI,Int.toNat_natCast];simp only[aZ,ch,cd,Nat.add_zero,dN,Nat.mul_zero];omega
theorem zEL{a b c:Nat}(h:a+b+c≤6)(g:IT→Nat):zah (λu=>zah g (za4 (zaI u).toNat c)) (za4 a b)=zah (λu=>zah g (za4 a (zaI u).toNat)) (za4 b c):=by rw[zvK (F:=λk q=>pc k c q) (by omega) g (P:=λu=>za4 (zaI u).toNat c) (λk hk g=>by simpa[zaI]using zoC (by omega) g),zvK (F:=λk q=>pc a k q) (by omega) g (P:=λu=>za4 a (zaI u).toNat) (λk hk g=>by simpa[zaI]using zoC (by omega) g)];congr 1;refine be λq hq=>?_;rw[zET h (by have:=bh.1 hq;omega)]
end Go.Proofs.YtdmamdnkcefmmaaGreatDoor
