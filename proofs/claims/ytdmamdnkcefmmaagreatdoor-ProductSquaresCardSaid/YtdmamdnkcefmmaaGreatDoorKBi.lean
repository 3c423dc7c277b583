import Derived.Test.YtdmamdnkcefmmaaGreatDoorKMI
import Derived.Test.YtdmamdnkcefmmaaGreatDoorKZ2
import Derived.Test.YtdmamdnkcefmmaaGreatDoorVO
import Derived.Test.YtdmamdnkcefmmaaGreatDoorKGI
import Derived.Test.YtdmamdnkcefmmaaGreatDoorKNum
import Derived.Test.YtdmamdnkcefmmaaGreatDoorProg
import Derived.KernelRfl
import Derived.WalkKit
import Derived.BigCall
import Derived.Laws.Externs
import Derived.Laws.Entries
import Derived.Lib.Builder
import Derived.Lib.AppendStr
import Derived.Lib.UnsafeStr
import Derived.RegionTactic
set_option linter.unusedSimpArgs false
set_option linter.unusedVariables false
set_option maxRecDepth 8000
namespace Go.Proofs.YtdmamdnkcefmmaaGreatDoor
open Go Go.Abs
def Gd (s:List (IT × Nat)):Prop:=∀ p∈s,p.1.nodes≤1000∧0<p.2
theorem Gd.add {s:List (IT × Nat)} (h:Gd s) {i:IT} (hi:i.nodes≤1000) (c:Nat):Gd (zdg s i c):=by
 intro p hp;rcases znQ p hp with ⟨q,hq,he,aS⟩ | ⟨h0,he,aS⟩
 ·have:=h q hq;rw[←he];omega
 ·rw[he];omega
theorem Gd.nil:Gd []:=λp hp=>by simp at hp
theorem zda (p:IT × Nat):List.take 5 (tmC p)=tmC p:=List.take_of_length_le (by simp)
theorem zcn (p:IT × Nat):List.take 2 (tmC p)=p.1.cs:=by rw[tmC,List.take_left' (by simp)]
theorem zcd (p:IT × Nat):List.take 3 (List.drop 2 (tmC p))=zal (p.2:Int):=by rw[tmC,List.drop_left' (by simp),List.take_of_length_le (by simp[zal])]
theorem zeN (p:IT × Nat):∀ x∈tmC p,x.known=true:=List.all_eq_true.1 (by rw[tmC,List.all_append,IT.cs_known,zfj];rfl)
def hpM (H:zaa) (tn:Int) (tks:List VT) (s:List (IT × Nat)):zaa:=H++[.cells [.int .i64 5,.int .i64 tn,.sl (VT.css tks) .none],.vec zaB 5 s.length (tms s)]
@[simp] theorem zEC {H:zaa} {tn:Int} {tks:List VT} {s:List (IT × Nat)}:(hpM H tn tks s).length=H.length+2:=by simp[hpM]
@[simp] theorem zXN {H:zaa} {tn:Int} {tks:List VT} {s:List (IT × Nat)} {c:AB} {J:zaa}:(hpM H tn tks s++c::J)[H.length+2]?=some c:=by rw[←zEC (H:=H) (tn:=tn) (tks:=tks) (s:=s)];simp
@[simp] theorem zXL {H:zaa} {tn:Int} {tks:List VT} {s:List (IT × Nat)} {J:zaa}:(hpM H tn tks s++J)[H.length]?=some (.cells [.int .i64 5,.int .i64 tn,.sl (VT.css tks) .none]):=by simp[hpM,List.getElem?_append]
@[simp] theorem zXM {H:zaa} {tn:Int} {tks:List VT} {s:List (IT × Nat)}:(hpM H tn tks s)[H.length]?=some (.cells [.int .i64 5,.int .i64 tn,.sl (VT.css tks) .none]):=by simp[hpM,List.getElem?_append]
@[simp] theorem zXO {H:zaa} {tn:Int} {tks:List VT} {s:List (IT × Nat)} (h:H.length<(hpM H tn tks s).length):(hpM H tn tks s)[H.length]=.cells [.int .i64 5,.int .i64 tn,.sl (VT.css tks) .none]:=by simp[hpM,List.getElem_append]
def zcj (l:List Nat):List (List AV):=l.map λ(z:Nat)=>zal (z:Int)
@[simp] theorem zFR (l:List Nat):(zcj l).length=l.length:=by simp[zcj]
@[simp] theorem zX1 {l:List Nat} {i:Nat} (h:i<(zcj l).length):(zcj l)[i]=zal ((l[i]'(by simpa using h):Nat):Int):=by simp[zcj]
def zcT (a b n:Nat):List Nat:=(List.range n).map (pcf a b)
def zbT (out:List (List IT × Nat)) (ws:List (IT × Nat)):List (List IT × Nat):=out.flatMap λr=>ws.map λw=>(r.1++[w.1],r.2*w.2)
mutual
def zaQ (aa:List Dat):Nat→VT→IT→IT→List (IT × Nat)
 | 0,_,_,_=>[]
 | f+1,t,i,j=>if t.kind=6 then (zcm aa f t.kids (zaF i) (zaF j)).map λr=>(.mk 0 r.1,r.2)
  else if t.kind=7 then (zbw (zaU i).toNat (zaU j).toNat).filter λp=>p.2 != 0
  else if t.kind=5 then (za0 aa f t (zaF i) (zaF j)).map λr=>(.mk 0 r.1,r.2) else [(.mk 0 [],1)]
def zcm (aa:List Dat):Nat→List VT→List IT→List IT→List (List IT × Nat)
 | 0,_,_,_=>[]
 | f+1,ts,l,m=>(List.range ts.length).foldl (λout k=>zbT out (zaQ aa f (ts.getD k tz) (l.getD k d0) (m.getD k d0))) [([],1)]
def za0 (aa:List Dat):Nat→VT→List IT→List IT→List (List IT × Nat)
 | 0,_,_,_=>[]
 | f+1,t,[],m=>[(m,1)]
 | f+1,t,a::l,[]=>[(a::l,1)]
 | f+1,t,a::l,b::m=>
  (za0 aa f t l (b::m)).map (λr=>(a::r.1,r.2))++(za0 aa f t (a::l) m).map (λr=>(b::r.1,r.2)) ++
   if zaU a=zaU b then (zcm aa f ((zbd aa t (zaU a)).getD []) (zaF a) (zaF b)).flatMap λr=>(za0 aa f t l m).map λx=>(.mk (zaU a) r.1::x.1,r.2*x.2) else []
end
def zaA {α:Type} (g:α→Nat) (s:List (α × Nat)):Nat:=(s.map λp=>p.2*g p.1).foldr (·+·) 0
theorem zcJ (g:IT→Nat) (s:List (IT × Nat)):zaM g s=zaA g s:=rfl
theorem zfp (g:List IT→Nat) (s:List (List IT × Nat)):zbu g s=zaA g s:=rfl
section
variable {α β γ:Type}
@[simp] theorem zgj (g:α→Nat):zaA g []=0:=rfl
@[simp] theorem zba (g:α→Nat) (p:α × Nat) (s:List (α × Nat)):zaA g (p::s)=p.2*g p.1+zaA g s:=rfl
theorem zjW (g:α→Nat):∀ a b:List (α × Nat),zaA g (a++b)=zaA g a+zaA g b
 | [],b=>by simp
 | p::a,b=>by rw[List.cons_append,zba,zba,zjW g a b];omega
theorem zfq (g:β→Nat) (h:α→β):∀ s:List (α × Nat),zaA g (s.map λp=>(h p.1,p.2))=zaA (λx=>g (h x)) s
 | []=>rfl
 | p::s=>by rw[List.map_cons,zba,zba,zfq g h s]
theorem zxR (g:β→Nat) (h:α→β) (c:Nat):∀ s:List (α × Nat),zaA g (s.map λp=>(h p.1,c*p.2))=c*zaA (λx=>g (h x)) s
 | []=>rfl
 | p::s=>by rw[List.map_cons,zba,zba,zxR g h c s,Nat.mul_add,Nat.mul_assoc]
theorem zhM (g:γ→Nat) (h:α→β→γ) (ws:List (β × Nat)):∀ s:List (α × Nat),zaA g (s.flatMap λr=>ws.map λw=>(h r.1 w.1,r.2*w.2))=zaA (λa=>zaA (λb=>g (h a b)) ws) s
 | []=>rfl
 | p::s=>by rw[List.flatMap_cons,zjW,zba,zhM g h ws s,zxR g (h p.1)]
theorem zxP (g1 g2:α→Nat):∀ s:List (α × Nat),zaA (λx=>g1 x+g2 x) s=zaA g1 s+zaA g2 s
 | []=>rfl
 | p::s=>by rw[zba,zba,zba,zxP g1 g2 s,Nat.mul_add];omega
theorem zxQ (c:Nat) (g:α→Nat):∀ s:List (α × Nat),zaA (λx=>c*g x) s=c*zaA g s
 | []=>by simp
 | p::s=>by rw[zba,zba,zxQ c g s,Nat.mul_add,Nat.mul_left_comm]
theorem zxT:∀ s:List (α × Nat),zaA (λ_=>0) s=0
 | []=>rfl
 | p::s=>by rw[zba,zxT s];rfl
theorem zxS (h:α→β→Nat) (ws:List (β × Nat)):∀ s:List (α × Nat),zaA (λa=>zaA (λb=>h a b) ws) s=zaA (λb=>zaA (λa=>h a b) s) ws
 | []=>by simp[zxT]
 | p::s=>by
  rw[zba,zxS h ws s];have:(λb=>zaA (λa=>h a b) (p::s))=λb=>p.2*h p.1 b+zaA (λa=>h a b) s:=by funext b;rw[zba]
  rw[this,zxP,zxQ]
theorem zp8 (g:α→Nat):∀ s:List (α × Nat),zaA g (s.filter λp=>p.2 != 0)=zaA g s
 | []=>rfl
 | p::s=>by
  rw[List.filter_cons];by_cases h:p.2=0
  ·simp[h,zp8 g s]
  ·simp[h,zp8 g s]
end
def zup (aa:List Dat) (f:Nat):Prop:=∀ (t:VT) (i j:IT) (g:IT→Nat),zaM g (zaQ aa f t i j)=zaM g (zbR aa f t i j)
def zC5 (aa:List Dat) (f:Nat):Prop:=∀ (ts:List VT) (l m:List IT) (g:List IT→Nat),zbu g (zcm aa f ts l m)=zbu g (zcr aa f ts l m)
def zC4 (aa:List Dat) (f:Nat):Prop:=∀ (t:VT) (l m:List IT) (g:IT→Nat),zbu (λx=>g (.mk 0 x)) (za0 aa f t l m)=zaM g (zbb aa f t l m)
theorem zpY (g:List IT→Nat) (out:List (List IT × Nat)) (ws:List (IT × Nat)):zbu g (zdn out ws)=zaA (λx=>zaA (λl=>g (l++[x])) out) ws:=by
 have h:zdn out ws=ws.flatMap λw=>out.map λr=>(r.1++[w.1],w.2*r.2):=by unfold zdn;congr 1;funext w;congr 1;funext r;rw[Nat.mul_comm]
 rw[h,zfp];exact zhM g (λx l=>l++[x]) out ws
theorem zHj (g:List IT→Nat) (out:List (List IT × Nat)) (ws:List (IT × Nat)):zbu g (zbT out ws)=zbu g (zdn out ws):=by rw[zpY,zfp];unfold zbT;rw[zhM g (λl x=>l++[x]) ws out,zxS]
def zcb (aa:List Dat) (f:Nat) (ts:List VT) (l m:List IT) (k:Nat):List (List IT × Nat):=(List.range k).foldl (λout k=>zbT out (zaQ aa f (ts.getD k tz) (l.getD k d0) (m.getD k d0))) [([],1)]
theorem zjO (aa:List Dat) (f:Nat) (ts:List VT) (l m:List IT):zcb aa f ts l m 0=[([],1)]:=rfl
theorem zhG (aa:List Dat) (f:Nat) (ts:List VT) (l m:List IT) (k:Nat):zcb aa f ts l m (k+1)=zbT (zcb aa f ts l m k) (zaQ aa f (ts.getD k tz) (l.getD k d0) (m.getD k d0)):=by rw[zcb,List.range_succ,List.foldl_append];rfl
theorem zgf (aa:List Dat) (f:Nat) (ts:List VT) (l m:List IT):zcm aa (f+1) ts l m=zcb aa f ts l m ts.length:=by rw[zcm];rfl
theorem zpV {aa:List Dat} {f:Nat} (hP:zup aa f) (ts:List VT) (l m:List IT):∀ (k:Nat) (g:List IT→Nat),zbu g (zcb aa f ts l m k)=zbu g (zcl aa f ts l m k)
 | 0,g=>rfl
 | k+1,g=>by rw[zhG,zhF,zHj,zpY,zpY];have h1:∀ x,zaA (λl=>g (l++[x])) (zcb aa f ts l m k)=zaA (λl=>g (l++[x])) (zcl aa f ts l m k):=λx=>zpV hP ts l m k λl=>g (l++[x]);simp only[h1];exact hP (ts.getD k tz) (l.getD k d0) (m.getD k d0) λx=>zaA (λl=>g (l++[x])) (zcl aa f ts l m k)
theorem zfs (aa:List Dat):∀ f,zup aa f∧zC5 aa f∧zC4 aa f
 | 0=>⟨λt i j g=>by rw[zaQ,zbR],λts l m g=>by rw[zcm,zcr],λt l m g=>by rw[za0,zbb];rfl⟩
 | f+1=>by
  obtain⟨hP,hQ,hM⟩:=zfs aa f;refine⟨λt i j g=>?_,λts l m g=>?_,λt l m g=>?_⟩
  ·rw[zaQ,zbR];by_cases k6:t.kind=6
   ·simp only[k6,if_true];rw[zcA,zdT,Nat.zero_add,zcJ,zcJ,zfq g (λl=>IT.mk 0 l),zfq g (λl=>IT.mk 0 l)];exact hQ t.kids (zaF i) (zaF j) λl=>g (.mk 0 l)
   ·by_cases k7:t.kind=7
    ·simp only[k7,if_true,if_neg (show ¬ (7:Int)=6 by omega)];rw[zcA,zdT,Nat.zero_add,zcJ,zcJ,zp8]
    ·by_cases k5:t.kind=5
     ·simp only[k5,if_true,if_neg (show ¬ (5:Int)=6 by omega),if_neg (show ¬ (5:Int)=7 by omega)];rw[zcA,zdT,Nat.zero_add,zcJ,zfq g (λl=>IT.mk 0 l)];exact hM _ _ _ _
     ·simp only[k6,k7,k5,if_false]
  ·rw[zgf,ziJ];exact zpV hP ts l m _ g
  ·cases l with
   | nil=>rw[za0,zbb];rfl
   | cons a l=>
    cases m with
    | nil=>rw[za0,zbb];rfl
    | cons b m=>
     have e1:=hM t l (b::m) λi=>g (bef a i);have e2:=hM t (a::l) m λi=>g (bef b i);rw[za0,zbb];have h1:∀ (c:IT) (s:List (List IT × Nat)),zbu (λx=>g (.mk 0 x)) (s.map λr=>(c::r.1,r.2))=zbu (λx=>g (bef c (.mk 0 x))) s:=λc s=>zfq (λx=>g (.mk 0 x)) (λx=>c::x) s;have h2:∀ (c:IT) (s:List (IT × Nat)),zaM g (s.map λw=>(bef c w.1,w.2))=zaM (λi=>g (bef c i)) s:=λc s=>zfq g (bef c) s;by_cases bb:zaU a=zaU b
     ·rw[if_pos bb,if_neg (by simpa using bb),zhN,zhN,zcA,zcA,zcA,zdT,h1,h1,h2,h2,e1,e2];have h3:=zhM (λx=>g (.mk 0 x)) (λ(r x:List IT)=>IT.mk (zaU a) r::x) (za0 aa f t l m) (zcm aa f ((zbd aa t (zaU a)).getD []) (zaF a) (zaF b));have h4:=zhM g (λ(r:List IT) (x:IT)=>bef (.mk (zaU a) r) x) (zbb aa f t l m) (zcr aa f ((zbd aa t (zaU a)).getD []) (zaF a) (zaF b));rw[zfp,zcJ _ (List.flatMap _ _),h3,h4];have h5:∀ r,zaA (λx=>g (.mk 0 (IT.mk (zaU a) r::x))) (za0 aa f t l m)=zaA (λx=>g (bef (.mk (zaU a) r) x)) (zbb aa f t l m):=λr=>hM t l m λi=>g (bef (.mk (zaU a) r) i);simp only[h5];have h6:=hQ ((zbd aa t (zaU a)).getD []) (zaF a) (zaF b) λr=>zaA (λx=>g (bef (.mk (zaU a) r) x)) (zbb aa f t l m);rw[zfp,zfp]at h6;rw[h6,zcJ,zcJ];omega
     ·rw[if_neg bb,if_pos (by simpa using bb),List.append_nil,zhN,zcA,zcA,zdT,h1,h1,h2,h2,e1,e2];omega
def Asc (s:List (IT × Nat)):Prop:=s.Pairwise λp q=>IT.cmp p.1 q.1<0
theorem zve {a b c:IT} (h1:IT.cmp a b<0) (h2:IT.cmp b c≤0):IT.cmp a c<0:=by
 obtain⟨h3,h4⟩:=IT.cmp_tri a b c (by omega) h2;by_cases h:IT.cmp a c=0
 ·have:=h4 h;omega
 ·omega
theorem zfR (a:IT):IT.cmp a a=0:=by have:=IT.cmp_anti a a;omega
theorem zuE {i:IT} {c:Nat}:∀ {s:List (IT × Nat)},Asc s→Asc (zc2 s i c)∧∀ p∈zc2 s i c,p.1=i∨∃ q∈s,q.1=p.1
 | [],_=>⟨by simp[zc2,Asc],λp hp=>by simp[zc2]at hp;exact .inl (by rw[hp])⟩
 | x::s,h=>by
  have h1:=List.pairwise_cons.1 h;unfold zc2;by_cases ha:IT.cmp x.1 i<0
  ·obtain⟨k1,k2⟩:=zuE (i:=i) (c:=c) h1.2;rw[if_pos ha];refine⟨List.pairwise_cons.2 ⟨λp hp=>?_,k1⟩,λp hp=>?_⟩
   ·rcases k2 p hp with e | ⟨q,hq,e⟩
    ·rw[e];exact ha
    ·rw[←e];exact h1.1 q hq
   ·rcases List.mem_cons.1 hp with e | hp
    ·exact .inr ⟨x,List.mem_cons_self,by rw[e]⟩
    ·rcases k2 p hp with e | ⟨q,hq,e⟩
     ·exact .inl e
     ·exact .inr ⟨q,List.mem_cons_of_mem _ hq,e⟩
  ·rw[if_neg ha];by_cases h0:IT.cmp x.1 i=0
   ·rw[if_pos h0];refine⟨List.pairwise_cons.2 ⟨h1.1,h1.2⟩,λp hp=>?_⟩;rcases List.mem_cons.1 hp with e | hp
    ·exact .inr ⟨x,List.mem_cons_self,by rw[e]⟩
    ·exact .inr ⟨p,List.mem_cons_of_mem _ hp,rfl⟩
   ·rw[if_neg h0];have hix:IT.cmp i x.1<0:=by have:=IT.cmp_anti i x.1;omega
    refine⟨List.pairwise_cons.2 ⟨λp hp=>?_,h⟩,λp hp=>?_⟩
    ·rcases List.mem_cons.1 hp with e | hp
     ·rw[e];exact hix
     ·exact zve hix (by have:=h1.1 p hp;omega)
    ·rcases List.mem_cons.1 hp with e | hp
     ·exact .inl (by rw[e])
     ·exact .inr ⟨p,hp,rfl⟩
theorem zDq {i:IT} {c:Nat} {s:List (IT × Nat)} (h:Asc s):Asc (zdg s i c):=by
 unfold zdg;split
 ·exact h
 ·exact (zuE h).1
theorem ziu:∀ (l s:List (IT × Nat)),Asc s→Asc (zcf s l)
 | [],s,h=>h
 | p::l,s,h=>ziu l _ (zDq h)
open Classical in
noncomputable def one {α:Type} (x:α):α→Nat:=λy=>if y=x then 1 else 0
theorem zww {α:Type} (x:α):one x x=1:=by simp[one]
theorem zwx {α:Type} {x y:α} (h:y≠x):one x y=0:=by simp[one,h]
theorem zxW {α:Type} {g:α→Nat}:∀ {s:List (α × Nat)},0<zaA g s→∃ q∈s,0<q.2∧0<g q.1
 | [],h=>by simp at h
 | p::s,h=>by
  rw[zba]at h;by_cases h0:0<p.2*g p.1
  ·exact⟨p,List.mem_cons_self,Nat.pos_of_mul_pos_right h0,Nat.pos_of_mul_pos_left h0⟩
  ·obtain⟨q,hq,h1⟩:=zxW (s:=s) (g:=g) (by omega);exact⟨q,List.mem_cons_of_mem _ hq,h1⟩
theorem zeE {α:Type} (g:α→Nat):∀ {s:List (α × Nat)} {p:α × Nat},p∈s→p.2*g p.1≤zaA g s
 | x::s,p,h=>by
  rw[zba];rcases List.mem_cons.1 h with rfl | h
  ·omega
  ·have:=zeE g h;omega
theorem zec {α:Type} {s s':List (α × Nat)} (h:∀ g:α→Nat,zaA g s=zaA g s') {p:α × Nat} (hp:p∈s) (h0:0<p.2):∃ q∈s',q.1=p.1:=by
 have h1:=zeE (one p.1) hp;rw[zww,h]at h1;obtain⟨q,hq,_,h2⟩:=zxW (s:=s') (g:=one p.1) (by omega);refine⟨q,hq,?_⟩;by_cases he:q.1=p.1
 ·exact he
 ·rw[zwx he]at h2;omega
theorem zqc {x:IT}:∀ {s:List (IT × Nat)},(∀ p∈s,p.1≠x)→zaA (one x) s=0
 | [],_=>rfl
 | p::s,h=>by rw[zba,zwx (h p List.mem_cons_self),zqc λq hq=>h q (List.mem_cons_of_mem _ hq)];rfl
theorem zuT:∀ {s s':List (IT × Nat)},Asc s→Asc s'→(∀ p∈s,0<p.2)→(∀ p∈s',0<p.2)→(∀ g:IT→Nat,zaA g s=zaA g s')→s=s'
 | [],[],_,_,_,_,_=>rfl
 | [],q::s',_,_,_,h2,h=>by obtain⟨x,hx,_⟩:=zec (λg=>(h g).symm) (List.mem_cons_self (a:=q)) (h2 q List.mem_cons_self);simp at hx
 | p::s,[],_,_,h1,_,h=>by obtain⟨x,hx,_⟩:=zec h (List.mem_cons_self (a:=p)) (h1 p List.mem_cons_self);simp at hx
 | p::s,q::s',a1,a2,h1,h2,h=>by
  have b1:=List.pairwise_cons.1 a1;have b2:=List.pairwise_cons.1 a2;have c1:IT.cmp q.1 p.1≤0:=by
   obtain⟨x,hx,he⟩:=zec h (List.mem_cons_self (a:=p)) (h1 p List.mem_cons_self);rcases List.mem_cons.1 hx with rfl | hx
   ·rw[he,zfR];omega
   ·have:=b2.1 x hx;rw[he]at this;omega
  have c2:IT.cmp p.1 q.1≤0:=by
   obtain⟨x,hx,he⟩:=zec (λg=>(h g).symm) (List.mem_cons_self (a:=q)) (h2 q List.mem_cons_self);rcases List.mem_cons.1 hx with rfl | hx
   ·rw[he,zfR];omega
   ·have:=b1.1 x hx;rw[he]at this;omega
  have he:p.1=q.1:=zn3 (by have:=IT.cmp_anti p.1 q.1;omega);have n1:zaA (one p.1) s=0:=zqc λx hx e=>by have:=b1.1 x hx;rw[e,zfR]at this;omega
  have n2:zaA (one p.1) s'=0:=zqc λx hx e=>by have:=b2.1 x hx;rw[e,he,zfR]at this;omega
  have hc:=h (one p.1);rw[zba,zba,n1,n2,←he,zww]at hc;have hpq:p=q:=Prod.ext he (by omega);subst hpq;have:=zuT b1.2 b2.2 (λx hx=>h1 x (List.mem_cons_of_mem _ hx)) (λx hx=>h2 x (List.mem_cons_of_mem _ hx)) λg=>by have:=h g;rw[zba,zba]at this;omega
  rw[this]
theorem zjX {α:Type} (g:α→Nat) (c:α→Bool):∀ s:List (α × Nat),zaA g (s.filter λp=>c p.1)=zaA (λx=>if c x then g x else 0) s
 | []=>rfl
 | p::s=>by
  rw[List.filter_cons,zba];by_cases h:c p.1=true
  ·simp only[h,if_true];rw[zba,zjX g c s]
  ·simp only[h,Bool.false_eq_true,if_false];rw[zjX g c s];simp
theorem zHs {α:Type} (g:α→Nat) {s s':List (α × Nat)} (h:s.Perm s'):zaA g s=zaA g s':=by
 induction h with
 | nil=>rfl
 | cons x _ ih=>rw[zba,zba,ih]
 | swap x y l=>simp only[zba];omega
 | trans _ _ h1 h2=>rw[h1,h2]
theorem zHk {out:List (List IT × Nat)} {ws:List (IT × Nat)} (h1:∀ r∈out,0<r.2) (h2:∀ w∈ws,0<w.2):∀ r∈zbT out ws,0<r.2:=by intro r hr;obtain⟨x,hx,hr⟩:=List.mem_flatMap.1 hr;obtain⟨w,hw,rfl⟩:=List.mem_map.1 hr;exact Nat.mul_pos (h1 x hx) (h2 w hw)
theorem zpU {aa:List Dat} {f:Nat} (hP:∀ (t:VT) (i j:IT),∀ p∈zaQ aa f t i j,0<p.2) (ts:List VT) (l m:List IT):∀ k,∀ r∈zcb aa f ts l m k,0<r.2
 | 0,r,hr=>by rw[zjO]at hr;simp at hr;rw[hr];omega
 | k+1,r,hr=>by rw[zhG]at hr;exact zHk (zpU hP ts l m k) (hP _ _ _) r hr
theorem zga (aa:List Dat):∀ f,(∀ (t:VT) (i j:IT),∀ p∈zaQ aa f t i j,0<p.2)∧(∀ (ts:List VT) (l m:List IT),∀ r∈zcm aa f ts l m,0<r.2)∧(∀ (t:VT) (l m:List IT),∀ r∈za0 aa f t l m,0<r.2)
 | 0=>⟨λt i j p hp=>by rw[zaQ]at hp;simp at hp,λts l m r hr=>by rw[zcm]at hr;simp at hr,λt l m r hr=>by rw[za0]at hr;simp at hr⟩
 | f+1=>by
  obtain⟨hP,hQ,hM⟩:=zga aa f;refine⟨λt i j p hp=>?_,λts l m r hr=>?_,λt l m r hr=>?_⟩
  ·rw[zaQ]at hp;split at hp
   ·obtain⟨r,hr,rfl⟩:=List.mem_map.1 hp;exact hQ _ _ _ r hr
   ·split at hp
    ·have:=(List.mem_filter.1 hp).2;simp at this;omega
    ·split at hp
     ·obtain⟨r,hr,rfl⟩:=List.mem_map.1 hp;exact hM _ _ _ r hr
     ·simp at hp;rw[hp];omega
  ·rw[zgf]at hr;exact zpU hP ts l m _ r hr
  ·cases l with
   | nil=>rw[za0]at hr;simp at hr;rw[hr];omega
   | cons a l=>
    cases m with
    | nil=>rw[za0]at hr;simp at hr;rw[hr];omega
    | cons b m=>
     rw[za0]at hr;rcases List.mem_append.1 hr with hr | hr
     ·rcases List.mem_append.1 hr with hr | hr
      ·obtain⟨x,hx,rfl⟩:=List.mem_map.1 hr;exact hM _ _ _ x hx
      ·obtain⟨x,hx,rfl⟩:=List.mem_map.1 hr;exact hM _ _ _ x hx
     ·split at hr
      ·obtain⟨x,hx,hr⟩:=List.mem_flatMap.1 hr;obtain⟨w,hw,rfl⟩:=List.mem_map.1 hr;exact Nat.mul_pos (hQ _ _ _ x hx) (hM _ _ _ w hw)
      ·simp at hr
theorem ze8 {α:Type}:∀ {s:List (α × Nat)},(∀ p∈s,0<p.2)→s.length≤zaA (λ_=>1) s
 | [],_=>by simp
 | p::s,h=>by rw[List.length_cons,zba];have:=h p List.mem_cons_self;have:=ze8 λq hq=>h q (List.mem_cons_of_mem p hq);omega
theorem zfQ {aa:List Dat} (h8:∀ D∈aa,D.cons.length≤8) {f:Nat} {t:VT} {i j:IT} (hf:i.nodes+j.nodes≤f) (hi:0≤rdV aa i t) (hj:0≤rdV aa j t) (h6:rdV aa i t+rdV aa j t≤6) :
  (∀ p∈zaQ aa f t i j,0<p.2∧p.2≤729∧0≤rdV aa p.1 t∧rdV aa p.1 t≤rdV aa i t+rdV aa j t∧rdV aa i t≤rdV aa p.1 t∧rdV aa j t≤rdV aa p.1 t∧p.1.nodes≤i.nodes+j.nodes)∧zaA (λ_=>1) (zaQ aa f t i j)≤3 ^ (rdV aa i t+rdV aa j t).toNat∧zaA (λ_=>1) (zaQ aa f t i j)≤729∧(zaQ aa f t i j).length≤729:=by
 obtain⟨d1,d2⟩:=(zea h8 f).1 t i j hf hi hj h6;have hs:=(zfs aa f).1 t i j;have cp:=(zga aa f).1 t i j;have h1:zaA (λ_=>1) (zaQ aa f t i j)≤3 ^ (rdV aa i t+rdV aa j t).toNat:=by rw[←zcJ,hs];exact d2
 have h2:=Nat.le_trans h1 (zeh h6);refine⟨λp hp=>?_,h1,h2,Nat.le_trans (ze8 cp) h2⟩;obtain⟨q,hq,he⟩:=zec (s:=zaQ aa f t i j) (s':=zbR aa f t i j) hs hp (cp p hp);have:=d1 q hq;rw[he]at this;have hm:=zeE (λ_=>1) hp;rw[Nat.mul_one]at hm;exact⟨cp p hp,by omega,this.2⟩
theorem zu0 {aa:List Dat} (h8:∀ D∈aa,D.cons.length≤8) {f:Nat} {ts:List VT} {l m:List IT} (hf:IT.nodesL l+IT.nodesL m+1≤f) (hl:l.length=ts.length) (hm:m.length=ts.length) (hi:0≤rdA aa l ts 0) (hj:0≤rdA aa m ts 0) (h6:rdA aa l ts 0+rdA aa m ts 0≤6) :
  (∀ r∈zcm aa f ts l m,0<r.2∧r.2≤729∧r.1.length=ts.length∧0≤rdA aa r.1 ts 0∧rdA aa r.1 ts 0≤rdA aa l ts 0+rdA aa m ts 0∧IT.nodesL r.1≤IT.nodesL l+IT.nodesL m)∧zaA (λ_=>1) (zcm aa f ts l m)≤3 ^ (rdA aa l ts 0+rdA aa m ts 0).toNat∧zaA (λ_=>1) (zcm aa f ts l m)≤729∧(zcm aa f ts l m).length≤729:=by
 obtain⟨d1,d2⟩:=(zea h8 f).2.1 ts l m hf hl hm hi hj h6;have hs:=(zfs aa f).2.1 ts l m;have cp:=(zga aa f).2.1 ts l m;have h1:zaA (λ_=>1) (zcm aa f ts l m)≤3 ^ (rdA aa l ts 0+rdA aa m ts 0).toNat:=by rw[←zfp,hs];exact d2
 have h2:=Nat.le_trans h1 (zeh h6);refine⟨λp hp=>?_,h1,h2,Nat.le_trans (ze8 cp) h2⟩;obtain⟨q,hq,he⟩:=zec (s:=zcm aa f ts l m) (s':=zcr aa f ts l m) hs hp (cp p hp);obtain⟨_,e1,e2,e3,_,_,e6⟩:=d1 q hq;rw[he]at e1 e2 e3 e6;have hm:=zeE (λ_=>1) hp;rw[Nat.mul_one]at hm;exact⟨cp p hp,by omega,e1,e2,e3,e6⟩
theorem zix {aa:List Dat} (h8:∀ D∈aa,D.cons.length≤8) {f:Nat} {t:VT} {l m:List IT} (hf:IT.nodesL l+IT.nodesL m+1≤f) (hi:0≤rdE aa l t 0) (hj:0≤rdE aa m t 0) (h6:rdE aa l t 0+rdE aa m t 0≤6) :
  (∀ r∈za0 aa f t l m,0<r.2∧r.2≤729∧0≤rdE aa r.1 t 0∧rdE aa r.1 t 0≤rdE aa l t 0+rdE aa m t 0∧IT.nodesL r.1≤IT.nodesL l+IT.nodesL m)∧zaA (λ_=>1) (za0 aa f t l m)≤3 ^ (rdE aa l t 0+rdE aa m t 0).toNat∧zaA (λ_=>1) (za0 aa f t l m)≤729∧(za0 aa f t l m).length≤729:=by
 obtain⟨d1,d2⟩:=(zea h8 f).2.2 t l m hf hi hj h6;have hs:=(zfs aa f).2.2 t l m;have cp:=(zga aa f).2.2 t l m;have h1:zaA (λ_=>1) (za0 aa f t l m)≤3 ^ (rdE aa l t 0+rdE aa m t 0).toNat:=by have:=hs λ_=>1;rw[zfp]at this;rw[this];exact d2
 have h2:=Nat.le_trans h1 (zeh h6);refine⟨λp hp=>?_,h1,h2,Nat.le_trans (ze8 cp) h2⟩;have fk:∀ g:IT→Nat,zaA g ((za0 aa f t l m).map λr=>(IT.mk 0 r.1,r.2))=zaA g (zbb aa f t l m):=λg=>by rw[zfq g (λx=>IT.mk 0 x)];exact hs g
 obtain⟨q,hq,he⟩:=zec fk (p:=(IT.mk 0 p.1,p.2)) (List.mem_map.2 ⟨p,hp,rfl⟩) (cp p hp);obtain⟨_,_,e2,e3,_,_,e6⟩:=d1 q hq;simp only at he;rw[he]at e2 e3 e6;have hm:=zeE (λ_=>1) hp;rw[Nat.mul_one]at hm;exact⟨cp p hp,by omega,e2,e3,e6⟩
def hpL (H:zaa) (t:VT) (i j:IT) (s:List (IT × Nat)):zaa:=H++[.cells t.cs,.cells i.cs,.cells j.cs,.vec zaB 5 s.length (tms s)]
@[simp] theorem zEB {H:zaa} {t:VT} {i j:IT} {s:List (IT × Nat)}:(hpL H t i j s).length=H.length+4:=by simp[hpL]
@[simp] theorem zXK {H:zaa} {t:VT} {i j:IT} {s:List (IT × Nat)} {c:AB} {J:zaa}:(hpL H t i j s++c::J)[H.length+4]?=some c:=by rw[←zEB (H:=H) (t:=t) (i:=i) (j:=j) (s:=s)];simp
def ofD (aa:List Dat) (t:VT) (s:List (IT × Nat)) (d:Nat):List (IT × Nat):=s.filter λp=>rdV aa p.1 t == (d:Int)
def zbM (aa:List Dat) (t:VT) (s:List (IT × Nat)) (d:Nat):List (IT × Nat):=(List.range d).flatMap (ofD aa t s)
theorem zwH (aa:List Dat) (t:VT) (s:List (IT × Nat)) (d:Nat):zbM aa t s (d+1)=zbM aa t s d++ofD aa t s d:=by simp[zbM,List.range_succ]
theorem zwv (aa:List Dat) (t:VT) (f:IT→Nat):∀ (s:List (IT × Nat)),(∀ p∈s,0≤rdV aa p.1 t∧rdV aa p.1 t≤6)→∀ d:Nat,zaM f (zbM aa t s d)=zaM f (s.filter λp=>decide (rdV aa p.1 t<(d:Int)))
 | s,h,0=>by
  have:(s.filter λp=>decide (rdV aa p.1 t<((0:Nat):Int)))=[]:=by rw[List.filter_eq_nil_iff];intro p hp;have:=h p hp;simp;omega
  rw[this];rfl
 | s,h,d+1=>by
  rw[zwH,zjT,zwv aa t f s h d];unfold ofD;clear h;induction s with
  | nil=>rfl
  | cons p s ih=>
   simp only[List.filter_cons];by_cases h1:rdV aa p.1 t<(d:Int)
   ·have h2:(rdV aa p.1 t == (d:Int))=false:=by simp;omega
    have h3:rdV aa p.1 t<((d+1:Nat):Int):=by omega
    simp only[h1,h2,h3,decide_true,if_true,Bool.false_eq_true,if_false,zcW];omega
   ·by_cases h2:rdV aa p.1 t=(d:Int)
    ·have h3:rdV aa p.1 t<((d+1:Nat):Int):=by omega
     have h4:(rdV aa p.1 t == (d:Int))=true:=by simpa using h2
     simp only[h1,h4,h3,decide_true,decide_false,if_true,Bool.false_eq_true,if_false,zcW];omega
    ·have h3:¬ rdV aa p.1 t<((d+1:Nat):Int):=by omega
     have h4:(rdV aa p.1 t == (d:Int))=false:=by simpa using h2
     simp only[h1,h4,h3,decide_false,if_false,Bool.false_eq_true];omega
theorem zFx {aa:List Dat} {t:VT} {s:List (IT × Nat)} (h:∀ p∈s,0≤rdV aa p.1 t∧rdV aa p.1 t≤6) (f:IT→Nat):zaM f (zbM aa t s 7)=zaM f s:=by rw[zwv aa t f s h 7];congr 1;rw[List.filter_eq_self];intro p hp;have:=h p hp;simp;omega
theorem zFw {aa:List Dat} {t:VT} {s:List (IT × Nat)} {d:Nat}:∀ p∈zbM aa t s d,p∈s:=by intro p hp;obtain⟨k,_,h⟩:=List.mem_flatMap.1 hp;exact (List.mem_filter.1 h).1
theorem zFi {aa:List Dat} {t:VT} {s:List (IT × Nat)} {d j:Nat} (hj:j<s.length):ofD aa t (s.take (j+1)) d=ofD aa t (s.take j) d++if rdV aa s[j].1 t=(d:Int) then [s[j]] else []:=by
 rw[List.take_succ_eq_append_getElem hj];simp only[ofD,List.filter_append,List.filter_cons,List.filter_nil];by_cases h:rdV aa s[j].1 t=(d:Int)
 ·simp[h]
 ·have h4:(rdV aa s[j].1 t == (d:Int))=false:=by simpa using h
  simp[h,h4]
theorem zpC {aa:List Dat} {t:VT} {s:List (IT × Nat)} {d:Nat}:(ofD aa t s d).length≤s.length:=List.length_filter_le _ _
theorem zpD {aa:List Dat} {t:VT} {s:List (IT × Nat)}:∀ d:Nat,(zbM aa t s d).length≤d*s.length
 | 0=>by simp[zbM]
 | d+1=>by rw[zwH,List.length_append,Nat.succ_mul];have:=zpD (aa:=aa) (t:=t) (s:=s) d;have:=zpC (aa:=aa) (t:=t) (s:=s) (d:=d);omega
def za6:List (IT × Nat)→IT→Nat→List (IT × Nat)
 | [],i,c=>[(i,c)]
 | p::s,i,c=>if IT.same p.1 i then (p.1,p.2+c)::s else p::za6 s i c
theorem zxl (i:IT):IT.same i i=true:=(IT.cmp_zero i i).1 (zfR i)
theorem znR (g:IT→Nat) (i:IT) (c:Nat):∀ s:List (IT × Nat),zaA g (za6 s i c)=zaA g s+c*g i
 | []=>by simp[za6]
 | p::s=>by
  unfold za6;split
  ·rename_i h;rw[zba,zba,same_eq _ _ h,Nat.add_mul];omega
  ·rw[zba,zba,znR g i c s];omega
theorem zgE {i:IT} {c:Nat}:∀ {s:List (IT × Nat)} {p:IT × Nat},p∈za6 s i c→p.1=i∧c≤p.2∨p∈s
 | [],p,h=>by simp[za6]at h;rw[h];exact .inl ⟨rfl,Nat.le_refl _⟩
 | x::s,p,h=>by
  unfold za6 at h;split at h
  ·rename_i he;rcases List.mem_cons.1 h with rfl | h
   ·exact .inl ⟨same_eq _ _ he,by simp⟩
   ·exact .inr (List.mem_cons_of_mem _ h)
  ·rcases List.mem_cons.1 h with rfl | h
   ·exact .inr List.mem_cons_self
   ·rcases zgE h with h | h
    ·exact .inl h
    ·exact .inr (List.mem_cons_of_mem _ h)
theorem zuH {i:IT} {c:Nat}:∀ {s:List (IT × Nat)},(s.map Prod.fst).Nodup→((za6 s i c).map Prod.fst).Nodup
 | [],_=>by simp[za6]
 | x::s,h=>by
  rw[List.map_cons,List.nodup_cons]at h;unfold za6;split
  ·rw[List.map_cons,List.nodup_cons];exact h
  ·rename_i he;rw[List.map_cons,List.nodup_cons];refine⟨λhx=>?_,zuH h.2⟩;obtain⟨p,hp,hpe⟩:=List.mem_map.1 hx;rcases zgE hp with ⟨h1,_⟩ | h1
   ·exact he (by rw[←hpe,h1,zxl])
   ·exact h.1 (List.mem_map.2 ⟨p,h1,hpe⟩)
theorem zuF {i:IT} {c:Nat}:∀ {s:List (IT × Nat)} {k:Nat} (hk:k<s.length),s[k].1=i→(s.map Prod.fst).Nodup→za6 s i c=s.set k (s[k].1,s[k].2+c)
 | x::s,0,_,he,_=>by simp only[List.getElem_cons_zero]at he;unfold za6;rw[if_pos (by rw[he];exact zxl i)];rfl
 | x::s,k+1,hk,he,hn=>by
  rw[List.map_cons,List.nodup_cons]at hn;simp only[List.getElem_cons_succ]at he;have bV:k<s.length:=by simpa using hk
  unfold za6;rw[if_neg λh=>hn.1 (by rw[same_eq _ _ h,←he];exact List.mem_map.2 ⟨s[k],List.getElem_mem bV,rfl⟩),zuF bV he hn.2];rfl
theorem zuI {i:IT} {c:Nat}:∀ {s:List (IT × Nat)},(∀ p∈s,p.1≠i)→za6 s i c=s++[(i,c)]
 | [],_=>rfl
 | x::s,h=>by unfold za6;rw[if_neg λhe=>h x List.mem_cons_self (same_eq _ _ he),zuI λp hp=>h p (List.mem_cons_of_mem _ hp)];rfl
def zaP (s l:List (IT × Nat)):List (IT × Nat):=l.foldl (λs p=>za6 s p.1 p.2) s
theorem zvg (s:List (IT × Nat)):zaP s []=s:=rfl
theorem zDX (s l:List (IT × Nat)) (p:IT × Nat):zaP s (l++[p])=za6 (zaP s l) p.1 p.2:=by simp[zaP]
theorem zDW (s a b:List (IT × Nat)):zaP s (a++b)=zaP (zaP s a) b:=by simp[zaP]
theorem zgO (g:IT→Nat):∀ (l s:List (IT × Nat)),zaA g (zaP s l)=zaA g s+zaA g l
 | [],s=>by simp[zaP]
 | p::l,s=>by have:=zgO g l (za6 s p.1 p.2);rw[znR]at this;show zaA g (zaP (za6 s p.1 p.2) l)=_;rw[this,zba];omega
theorem zgN:∀ (l s:List (IT × Nat)),(s.map Prod.fst).Nodup→((zaP s l).map Prod.fst).Nodup
 | [],s,h=>h
 | p::l,s,h=>zgN l _ (zuH h)
theorem zn5:∀ (l s:List (IT × Nat)),(∀ q∈s,0<q.2)→(∀ q∈l,0<q.2)→∀ p∈zaP s l,0<p.2∧((∃ q∈s,q.1=p.1)∨∃ q∈l,q.1=p.1)
 | [],s,hs,_,p,hp=>⟨hs p hp,.inl ⟨p,hp,rfl⟩⟩
 | x::l,s,hs,hl,p,hp=>by
  have hx:=hl x List.mem_cons_self;obtain⟨h1,h2⟩:=zn5 l (za6 s x.1 x.2) (λq hq=>(zgE hq).elim (λh=>Nat.lt_of_lt_of_le hx h.2) (hs q)) (λq hq=>hl q (List.mem_cons_of_mem _ hq)) p hp;refine⟨h1,?_⟩;rcases h2 with ⟨q,hq,he⟩ | ⟨q,hq,he⟩
  ·rcases zgE hq with ⟨h,_⟩ | h
   ·exact .inr ⟨x,List.mem_cons_self,by rw[←he,h]⟩
   ·exact .inl ⟨q,h,he⟩
  ·exact .inr ⟨q,List.mem_cons_of_mem _ hq,he⟩
theorem zDz {aa:List Dat} {t:VT} {d:Nat} {s r L:List (IT × Nat)} (hr:r.Perm (ofD aa t s d)) (hso:r.Pairwise λp q=>¬ IT.cmp q.1 p.1<0) (hn:(s.map Prod.fst).Nodup) (hs:∀ p∈s,0<p.2) (hL:Asc L) (dB:∀ p∈L,0<p.2) (cS:∀ g:IT→Nat,zaA g s=zaA g L):r=ofD aa t L d:=by
 have lQ:(r.map Prod.fst).Nodup:=((hr.map Prod.fst).nodup_iff).2 (hn.sublist ((List.filter_sublist).map _));have hasc:Asc r:=by
  unfold List.Nodup at lQ;rw[List.pairwise_map]at lQ;refine (hso.and lQ).imp λ{p q} h=>?_;have h0:=IT.cmp_anti p.1 q.1;by_cases h1:IT.cmp p.1 q.1=0
  ·exact absurd (zn3 h1) h.2
  ·omega
 refine zuT hasc (hL.sublist List.filter_sublist) (λp hp=>hs p (List.mem_filter.1 (hr.subset hp)).1) (λp hp=>dB p (List.mem_filter.1 hp).1) λg=>?_;rw[zHs g hr];have h1:=zjX g (λx=>rdV aa x t == (d:Int)) s;have h2:=zjX g (λx=>rdV aa x t == (d:Int)) L;unfold ofD;rw[h1,h2,cS]
theorem zwb (aa:List Dat) (f:Nat) (t:VT) (i j:IT):Asc (zbR aa f t i j):=by
 have h0:Asc ([]:List (IT × Nat)):=List.Pairwise.nil;cases f with
 | zero=>rw[zbR];exact h0
 | succ f=>
  rw[zbR];split
  ·exact ziu _ _ h0
  ·split
   ·exact ziu _ _ h0
   ·split
    ·exact ziu _ _ h0
    ·exact List.pairwise_singleton _ _
mutual
def wrI:IT→List UInt8
 | .mk n ks=>UInt8.ofNat (48+n.toNat)::(if ks.length=0 then [] else 40::(zbi ks++[41]))
def zbi:List IT→List UInt8
 | []=>[]
 | k::ks=>wrI k++44::zbi ks
end
mutual
def Dig:IT→Prop
 | .mk n ks=>0≤n∧n≤9∧zcC ks
def zcC:List IT→Prop
 | []=>True
 | k::ks=>Dig k∧zcC ks
end
theorem zud:∀ {ks:List IT},zcC ks→∀ k∈ks,Dig k
 | k::ks,h,x,hx=>by
  rw[zcC]at h;rcases List.mem_cons.1 hx with rfl | hx
  ·exact h.1
  ·exact zud h.2 x hx
theorem znF:∀ {ks:List IT},(∀ k∈ks,Dig k)→zcC ks
 | [],_=>by rw[zcC];trivial
 | k::ks,h=>by rw[zcC];exact⟨h k List.mem_cons_self,znF λx hx=>h x (List.mem_cons_of_mem _ hx)⟩
theorem zEc {a b:Int} (ha:0≤a) (ha9:a≤9) (hb:0≤b) (hb9:b≤9) (h:UInt8.ofNat (48+a.toNat)=UInt8.ofNat (48+b.toNat)):a=b:=by have:=congrArg UInt8.toNat h;rw[UInt8.toNat_ofNat_of_lt' (by show _<256;omega),UInt8.toNat_ofNat_of_lt' (by show _<256;omega)]at this;omega
theorem zvq {a:Int} (ha:0≤a) (ha9:a≤9):UInt8.ofNat (48+a.toNat)≠41:=by intro h;have:=congrArg UInt8.toNat h;rw[UInt8.toNat_ofNat_of_lt' (by show _<256;omega)]at this;simp at this;omega
theorem zqy (k:IT) (s:List UInt8):∃ r,wrI k++s=UInt8.ofNat (48+(zaU k).toNat)::r:=by obtain⟨n,ks⟩:=k;rw[wrI];exact⟨_,rfl⟩
theorem zue {k:IT} (h:Dig k):0≤zaU k∧zaU k≤9:=by obtain⟨n,ks⟩:=k;rw[Dig]at h;exact⟨h.1,h.2.1⟩
mutual
theorem zyy:∀ (i j:IT) (s s':List UInt8),Dig i→Dig j→s.head?≠some 40→s'.head?≠some 40→wrI i++s=wrI j++s'→i=j∧s=s'
 | .mk n ks,.mk m ls,s,s',hi,hj,h1,h2,h=>by
  rw[Dig]at hi hj;rw[wrI,wrI,List.cons_append,List.cons_append,List.cons.injEq]at h;obtain rfl:=zEc hi.1 hi.2.1 hj.1 hj.2.1 h.1;have h':=h.2;by_cases hk:ks.length=0
  ·obtain rfl:=List.eq_nil_of_length_eq_zero hk;by_cases hl:ls.length=0
   ·obtain rfl:=List.eq_nil_of_length_eq_zero hl;simp at h';exact⟨rfl,h'⟩
   ·rw[if_pos (show ([]:List IT).length=0 from rfl),if_neg hl]at h';rw[List.nil_append]at h';rw[h']at h1;simp at h1
  ·by_cases hl:ls.length=0
   ·obtain rfl:=List.eq_nil_of_length_eq_zero hl;rw[if_neg hk,if_pos (show ([]:List IT).length=0 from rfl),List.nil_append]at h';rw[←h']at h2;simp at h2
   ·rw[if_neg hk,if_neg hl,List.cons_append,List.cons_append,List.cons.injEq]at h';have h3:=h'.2;simp only[List.append_assoc,List.cons_append,List.nil_append]at h3;obtain⟨e1,e2⟩:=zyw ks ls s s' hi.2.2 hj.2.2 h3;exact⟨by rw[e1],e2⟩
theorem zyw:∀ (ks ls:List IT) (s s':List UInt8),zcC ks→zcC ls→zbi ks++41::s=zbi ls++41::s'→ks=ls∧s=s'
 | [],[],s,s',_,_,h=>by rw[zbi,List.nil_append,List.nil_append]at h;simp at h;exact⟨rfl,h⟩
 | [],l::ls,s,s',_,hl,h=>by rw[zcC]at hl;rw[zbi,zbi,List.append_assoc,List.nil_append,List.cons_append]at h;obtain⟨r,hr⟩:=zqy l (44::(zbi ls++41::s'));rw[hr]at h;have h0:=(List.cons.inj h).1;have:=zue hl.1;exact absurd h0.symm (zvq this.1 this.2)
 | k::ks,[],s,s',hk,_,h=>by rw[zcC]at hk;rw[zbi,zbi,List.append_assoc,List.nil_append,List.cons_append]at h;obtain⟨r,hr⟩:=zqy k (44::(zbi ks++41::s));rw[hr]at h;have h0:=(List.cons.inj h).1;have:=zue hk.1;exact absurd h0 (zvq this.1 this.2)
 | k::ks,l::ls,s,s',hk,hl,h=>by rw[zcC]at hk hl;rw[zbi,zbi,List.append_assoc,List.append_assoc,List.cons_append,List.cons_append]at h;obtain⟨e1,e2⟩:=zyy k l (44::(zbi ks++41::s)) (44::(zbi ls++41::s')) hk.1 hl.1 (by simp) (by simp) h;rw[List.cons.injEq]at e2;obtain⟨e3,e4⟩:=zyw ks ls s s' hk.2 hl.2 e2.2;exact⟨by rw[e1,e3],e4⟩
end
theorem zyz {i j:IT} (hi:Dig i) (hj:Dig j) (h:wrI i=wrI j):i=j:=
 (zyy i j [] [] hi hj (by simp) (by simp) (by rw[h])).1
theorem ziC {aa:List Dat} (h8:∀ D∈aa,D.cons.length≤8):∀ (m:Nat) (i:IT),i.nodes≤m→∀ t:VT,0≤rdV aa i t→Dig i:=by
 intro m;induction m with
 | zero=>intro i h;have:=i.nodes_pos;omega
 | succ m ih=>
  have hA:∀ (l:List IT) (ts:List VT),IT.nodesL l≤m→l.length=ts.length→0≤rdA aa l ts 0→zcC l:=by intro l ts hm hl h;refine znF λk hk=>?_;obtain⟨j,hj,rfl⟩:=List.getElem_of_mem hk;have:=(zfk (aa:=aa) l ts 0 (by omega) hl h).1 j hj (by omega);exact ih l[j] (by have:=zdB hj;omega) ts[j] this
  intro i hm t h;obtain⟨n,ks⟩:=i;obtain⟨k,tn,tks⟩:=t;simp only[IT.nodes]at hm;rw[Dig];by_cases k6:k=6
  ·subst k6;rw[rdV]at h;simp only[VT.kind,VT.kids,if_true]at h;by_cases hn:n=0
   ·by_cases hl:tks.length=ks.length
    ·simp[hn,hl]at h;exact⟨by omega,by omega,hA ks tks (by omega) hl.symm h⟩
    ·simp[hn,hl]at h
   ·simp[hn]at h
  ·by_cases k7:k=7
   ·subst k7;rw[rdV]at h;simp only[VT.kind,k6,if_false,if_true]at h;by_cases hc:0≤n∧n≤6∧ks.length=0
    ·obtain rfl:=List.eq_nil_of_length_eq_zero hc.2.2;exact⟨hc.1,by omega,by rw[zcC];trivial⟩
    ·rw[if_neg hc]at h;omega
   ·by_cases k5:k=5
    ·subst k5;rw[zjM]at h;by_cases hc:n=0∧ks.length≤6
     ·rw[if_pos hc]at h;refine⟨by omega,by omega,znF λx hx=>?_⟩;obtain⟨j,hj,rfl⟩:=List.getElem_of_mem hx;have hn:=zdB hj;obtain⟨c,eks,he⟩:∃ c eks,ks[j]=.mk c eks:=⟨zaU ks[j],zaF ks[j],by cases ks[j];rfl⟩;obtain⟨ps,e1,e2,e3⟩:=zFX h8 h hj he;have hrE:0≤rdE aa [ks[j]] (.mk 5 tn tks) 0:=by have h0:=h;rw[zp5 ks]at h0;exact (zjK h8 (.mk 5 tn tks) (ks.map λx=>[x]) 0 (by omega) (by omega) h0).1 [ks[j]] (List.mem_map.2 ⟨ks[j],List.getElem_mem hj,rfl⟩)
      rw[he]at hrE;obtain⟨c0,c8,_⟩:=zhE hrE;rw[he,Dig];rw[he]at hn;simp only[IT.nodes]at hn;exact⟨c0,by omega,hA eks ps (by omega) e2.symm e3.1⟩
     ·rw[if_neg hc]at h;omega
    ·rw[rdV]at h;simp only[VT.kind,k6,k7,k5,if_false]at h;by_cases hc:n=0∧ks.length=0
     ·obtain rfl:=List.eq_nil_of_length_eq_zero hc.2;exact⟨by omega,by omega,by rw[zcC];trivial⟩
     ·rw[if_neg hc]at h;omega
theorem zgZ:∀ {L:List (List AV)},(∀ c∈L,c.length=3)→L.flatten.length=L.length*3
 | [],_=>rfl
 | c::L,h=>by rw[List.flatten_cons,List.length_append,zgZ λx hx=>h x (List.mem_cons_of_mem _ hx),h c List.mem_cons_self,List.length_cons];omega
theorem zvE {L:List (List AV)} (h3:∀ c∈L,c.length=3) {i:Nat} (hi:i<L.length) (x:List AV):L.flatten.take (i*3)++(x++L.flatten.drop (i*3+3))=(L.set i x).flatten:=by
 have e:L.flatten=(L.take i).flatten++(L[i]++(L.drop (i+1)).flatten):=by
  have h0:L=L.take i++L[i]::L.drop (i+1):=by rw[←List.drop_eq_getElem_cons hi,List.take_append_drop]
  have h1:=congrArg List.flatten h0;rwa [List.flatten_append,List.flatten_cons]at h1
 have l1:(L.take i).flatten.length=i*3:=by rw[zgZ λc hc=>h3 c (List.mem_of_mem_take hc)];simp;omega
 have l2:((L.take i).flatten++L[i]).length=i*3+3:=by rw[List.length_append,l1,h3 _ (List.getElem_mem hi)]
 rw[e,List.take_left' l1,←List.append_assoc (L.take i).flatten L[i],List.drop_left' l2,List.set_eq_take_append_cons_drop,if_pos hi];simp
def zR:List AV:=[.bool false,.snil,.snil]
def zsL (n i:Nat):List (List AV):=List.replicate i (zal 0)++List.replicate (n-i) zR
theorem zCS (n i:Nat):∀ c∈zsL n i,c.length=3:=by intro c hc;rcases List.mem_append.1 hc with h | h <;> rw[List.eq_of_mem_replicate h] <;> rfl
theorem zUE {n i:Nat} (h:i<n):(zsL n i).set i (zal 0)=zsL n (i+1):=by unfold zsL;rw[List.set_append_right _ _ (by simp),List.length_replicate,Nat.sub_self,show n-i=n-(i+1)+1 by omega,List.replicate_succ,List.set_cons_zero,List.replicate_succ',List.append_assoc];rfl
theorem zH1 (n:Nat) (hn:n≤100) (H:zaa) (K:Kt) (hK:HSc H→K (.ms H.length 0 n n) (H++[.cells (List.replicate n (zal 0)).flatten])):ACalls tP zo7 [.int .i64 n] H K:=by
 refine zNd λhs=>?_;simp[zAq,zbp];refine⟨⟨by omega,by omega⟩,?_⟩;have h0:(List.replicate n ([.bool false,.snil,.snil]:List AV))=zsL n 0:=by simp[zsL,zR]
 rw[h0];have hsc:∀ i,HSc (H++[.cells (zsL n i).flatten]):=λi=>hs.append (by
  simp only[AB.sc,List.all_cons,List.all_nil,Bool.and_true];rw[List.all_eq_true];intro x hx;obtain⟨c,hc,hx⟩:=List.mem_flatten.1 hx;rcases List.mem_append.1 hc with h | h <;> rw[List.eq_of_mem_replicate h]at hx
  ·exact List.all_eq_true.1 (zhD _ _) x hx
  ·exact List.all_eq_true.1 (show zR.all (AV.scA _)=true by simp[zR,AV.scA,AV.scB]) x hx)
 refine zNb (Inv:=λq t9 H'=>∃ i:Nat,i≤n∧n-i=q∧t9=.int .i64 i∧H'=H++[.cells (zsL n i).flatten]) n ?_ ?_
 ·intro _;exact⟨0,by omega,rfl,rfl,rfl⟩
 ·rintro q t9 H' ⟨i,hi,rfl,rfl,rfl⟩ aM am aP Kb ar;by_cases ak:i<n
  ·have hL:(zsL n i).length=n:=by simp[zsL];omega
   simp[zr7,ak,wi i (by omega)];refine zd1 0 (by omega) _ _ ?_;have bi:=zgZ (zCS n i);have aN:=zvE (zCS n i) (i:=i) (by omega) (zal 0);rw[zUE ak]at aN;rw[List.length_flatten]at bi;simp[zgb,bi,hL];rw[aN];refine⟨by omega,?_⟩;exact ar _ _ ⟨n-(i+1),by omega,Back.here (by simp) (hsc _) (by simp[zlM,ux,AV.sc,AV.scA,AV.scB,AV.scV]) ⟨_,rfl,i+1,by omega,rfl,rfl,rfl⟩⟩
  ·obtain rfl:i=n:=by omega
   have:=hK hs;have e:zsL i i=List.replicate i (zal 0):=by simp[zsL]
   simp[zr7,e];exact this
theorem zFJ:∀ a,a<7→∀ b,b<7→∀ k,k<13→(k≤a+b∧max a b≤k→pcf a b k=chs k a*chs a (k-b)∧pcf a b k<1000000∧chs k a<1000000∧chs a (k-b)<1000000):=by
 have:=(by decide +kernel:((List.range 7).all λa=>(List.range 7).all λb=>(List.range 13).all λk=>decide (¬ (k≤a+b∧max a b≤k)∨(pcf a b k=chs k a*chs a (k-b)∧pcf a b k<1000000∧chs k a<1000000∧chs a (k-b)<1000000)))=true);intro a ha b hb k hk h;have h1:=List.all_eq_true.mp this a (List.mem_range.mpr ha);have h2:=List.all_eq_true.mp h1 b (List.mem_range.mpr hb);have h3:=List.all_eq_true.mp h2 k (List.mem_range.mpr hk);rcases of_decide_eq_true h3 with h4 | h4
 ·exact absurd h h4
 ·exact⟨h4.1,h4.2⟩
def rwL (a b k:Nat):List (List AV):=(List.range (a+b+1)).map λj=>zal (((if j<k then pcf a b j else 0:Nat)):Int)
theorem zxj (a b k:Nat):(rwL a b k).length=a+b+1:=by simp[rwL]
theorem zp1 (a b k:Nat):∀ c∈rwL a b k,c.length=3:=by intro c hc;obtain⟨j,_,rfl⟩:=List.mem_map.1 hc;rfl
theorem zGf (a b:Nat):List.replicate (a+b+1) (zal 0)=rwL a b (max a b):=by
 refine List.ext_getElem (by simp[rwL]) λj h1 h2=>?_;simp only[rwL,List.getElem_replicate,List.getElem_map,List.getElem_range];by_cases h:j<max a b
 ·rw[if_pos h];have:pcf a b j=0:=by simp[pcf];omega
  rw[this];rfl
 ·rw[if_neg h];rfl
theorem zGg {a b k:Nat} (h:k≤a+b):(rwL a b k).set k (zal (pcf a b k:Int))=rwL a b (k+1):=by
 refine List.ext_getElem (by simp[rwL]) λj h1 h2=>?_;rw[List.getElem_set];simp only[rwL,List.getElem_map,List.getElem_range];by_cases hj:k=j
 ·subst hj;simp
 ·rw[if_neg hj];by_cases hk:j<k
  ·rw[if_pos hk,if_pos (by omega)]
  ·rw[if_neg hk,if_neg (by omega)]
theorem zxi (a b:Nat):rwL a b (a+b+1)=zcj (zcT a b (a+b+1)):=by
 refine List.ext_getElem (by simp[rwL,zcj,zcT]) λj h1 h2=>?_;have hj:j<a+b+1:=by simpa[rwL]using h1
 simp[rwL,zcj,zcT,hj]
theorem zwX:∀ l:List Nat,plain (zcj l).flatten=some (zcj l).flatten
 | []=>rfl
 | z::l=>by show plain (zal (z:Int)++(zcj l).flatten)=_;exact zhB (zc8 _) (zwX l)
theorem zJP (a b:Nat) (ha:a≤6) (hb:b≤6) (H:zaa) (K:Kt) (hK:K (.sl (zcj (zcT a b (a+b+1))) .none) H):ACalls tP zoP [.int .i64 a,.int .i64 b] H K:=by
 refine ACalls.out (zJN λhs=>?_);have w1:IntKind.i64.wrap ((a:Int)+(b:Int))=((a+b:Nat):Int):=by rw[zat (by omega) (by omega)];omega
 have w2:IntKind.i64.wrap ((a:Int)+(b:Int)+1)=((a+b+1:Nat):Int):=by rw[zat (by omega) (by omega)];omega
 have kB:(if a<b then (b:Int) else (a:Int))=((max a b:Nat):Int):=by split <;> omega
 have hmx':(if (b:Int)>(a:Int) then (b:Int) else (a:Int))=((max a b:Nat):Int):=by split <;> omega
 simp[zy7,w1,w2,kB,hmx'];refine zH1 (a+b+1) (by omega) _ _ λ_=>?_;rw[zGf];have hsc:∀ i,HSc (H++[.cells (rwL a b i).flatten]):=λi=>hs.append (by
  simp only[AB.sc,List.all_cons,List.all_nil,Bool.and_true];rw[List.all_eq_true];intro x hx;obtain⟨c,hc,hx⟩:=List.mem_flatten.1 hx;obtain⟨j,_,rfl⟩:=List.mem_map.1 hc;exact List.all_eq_true.1 (zhD _ _) x hx)
 try simp only[kB,hmx']
 refine zJL (Inv:=λq t6 H'=>∃ k:Nat,max a b≤k∧k≤a+b+1∧a+b+1-k=q∧t6=.int .i64 k∧H'=H++[.cells (rwL a b k).flatten]) (a+b+1-max a b) ?_ ?_
 ·intro _;exact⟨max a b,by omega,by omega,rfl,rfl,rfl⟩
 ·rintro q t6 H' ⟨k,cO,hk,rfl,rfl,rfl⟩ aM am aP Kb ar;by_cases ak:k≤a+b
  ·have aO:(k:Int)≤(a:Int)+(b:Int):=by omega
   obtain⟨p1,p2,p3,p4⟩:=zFJ a (by omega) b (by omega) k (by omega) ⟨ak,cO⟩;have w3:IntKind.i64.wrap ((k:Int)-(b:Int))=((k-b:Nat):Int):=by rw[zat (by omega) (by omega)];omega
   simp[zq3,w1,aO,w3,wi k (by omega)];refine zvx k a (by omega) (by omega) _ _ ?_;refine zvx a (k-b) (by omega) (by omega) _ _ ?_;refine zig _ _ (zdq (Nat.lt_trans p3 (by decide))) (zdq (Nat.lt_trans p4 (by decide))) _ _ ?_;rw[←Int.natCast_mul,←p1];have bi:=zgZ (zp1 a b k);have aN:=zvE (zp1 a b k) (i:=k) (by rw[zxj];omega) (zal (pcf a b k:Int));rw[zGg ak]at aN;rw[List.length_flatten,zxj]at bi;simp[zgb,bi];rw[aN];refine⟨by omega,by omega,?_⟩;exact ar _ _ ⟨a+b+1-(k+1),by omega,Back.here (by simp) (hsc _) (by simp[zkI,ux,AV.sc,AV.scA,AV.scB,AV.scV]) ⟨_,rfl,k+1,by omega,by omega,rfl,rfl,rfl⟩⟩
  ·obtain rfl:k=a+b+1:=by omega
   have aO:¬ ((a:Int)+(b:Int)+1≤(a:Int)+(b:Int)):=by omega
   simp[zq3,w1,aO];rw[zxi];have bi:=zgZ (zp1 a b (a+b+1));rw[zxi,zFR]at bi;have cq:(zcT a b (a+b+1)).length=a+b+1:=by simp[zcT]
   refine⟨_,H,[_],rfl,Nat.le_refl _,hs,.one (.frz H.length 0 (a+b+1) (a+b+1) 3 (zcj (zcT a b (a+b+1))).flatten (zcj (zcT a b (a+b+1))) (Nat.le_refl _) (by simp) (by omega) ?_ (by simp[cq]) (λc hc=>?_) (Nat.le_refl _)),hK⟩
   ·rw[List.drop_zero,List.take_of_length_le (by omega)];exact zwX _
   ·obtain⟨z,_,rfl⟩:=List.mem_map.1 hc;rfl
theorem zTg (a b:Nat) (ha:a≤6) (hb:b≤6) (H:zaa) (K:Kt) (hK:K (.tup [.sl (zcj (zcT a b (a+b+1))) .none,.bool true]) H):ACalls tP zpx [.int .i64 a,.int .i64 b] H K:=by
 refine ACalls.out (zTf λhs=>?_);have c1:¬ ((a:Int)<0):=by omega
 have c2:¬ ((b:Int)<0):=by omega
 have c3:¬ ((16:Int)<(a:Int)):=by omega
 have c4:¬ ((16:Int)<(b:Int)):=by omega
 simp[zCp,c1,c2,c3,c4];refine zJP a b ha hb _ _ ?_;exact⟨⟨rfl,rfl⟩,Out.tup0 (bs:=[.sl (zcj (zcT a b (a+b+1))) .none,.bool true]) hs hK ⟨zaW rfl rfl,zaW rfl rfl,trivial⟩⟩
end Go.Proofs.YtdmamdnkcefmmaaGreatDoor
namespace Go.Abs
open Go Go.RowKit
variable {P:Program} {B:Nat} {w:World} {G:Gh} {H:zaa}
theorem HRel.newRow (h:HRel B w G H) (e size cap:Nat) (cur:Array Value) (hc:cap≤maxLen) (hs:cur.size=cap*size) :
  Ext B w G (w.alloc (.cells cur e)) ⟨G.L,G.μ++[.own (.slice (some ⟨w.heap.size,0,none⟩) 0 cap) size 0]⟩∧HRel B (w.alloc (.cells cur e)) ⟨G.L,G.μ++[.own (.slice (some ⟨w.heap.size,0,none⟩) 0 cap) size 0]⟩ (H++[.perm e size 0]):=by
 have he:=Ext.alloc h (.cells cur e) G.L (λ_ _=>rfl) [.own (.slice (some ⟨w.heap.size,0,none⟩) 0 cap) size 0];have split:∀ (id:Nat) gi,(G.μ++[GI.own (.slice (some ⟨w.heap.size,0,none⟩) 0 cap) size 0])[id]?=some gi→G.μ[id]?=some gi∨(id=G.μ.length∧gi=.own (.slice (some ⟨w.heap.size,0,none⟩) 0 cap) size 0):=by
  intro id gi hg;by_cases ak:id<G.μ.length
  ·rw[List.getElem?_append_left ak]at hg;exact .inl hg
  ·have aZ:=(List.getElem?_eq_some_iff.1 hg).1;simp at aZ;have:id=G.μ.length:=by omega
   subst this;simp at hg;exact .inr ⟨rfl,hg.symm⟩
 refine⟨he,by simp[h.len],?_,?_,λb hb=>?_,?_,?_⟩
 ·intro id ab gi h1 h2;rcases split id gi h2 with h2 | ⟨rfl,rfl⟩
  ·have ak:id<H.length:=by rw[←h.len];exact (List.getElem?_eq_some_iff.1 h2).1
   rw[List.getElem?_append_left ak]at h1;exact (h.ok id ab gi h1 h2).keep he (λb hb=>⟨zcD (h.lt id gi b h2 hb),rfl⟩)
  ·rw[h.len]at h1;simp at h1;subst h1;refine⟨rfl,rfl,⟨[],by simp,.inr ⟨w.heap.size,cap,cur,rfl,h.base,zdh _,Nat.zero_le _,hc,hs,by simp⟩⟩,λb hb=>?_⟩;simp[Value.ownBlock]at hb;subst hb;rw[Nat.zero_mul];exact h.fresh _ (Nat.le_refl _)
 ·intro id id' gi gi' b h1 h2 h3 h4;rcases split id gi h1 with k1 | ⟨e1,e2⟩ <;> rcases split id' gi' h2 with k2 | ⟨e3,e4⟩
  ·exact h.dist id id' gi gi' b k1 k2 h3 h4
  ·rw[e4]at h4;simp[GI.block,Value.ownBlock]at h4;have:=h.lt id gi b k1 h3;omega
  ·rw[e2]at h3;simp[GI.block,Value.ownBlock]at h3;have:=h.lt id' gi' b k2 h4;omega
  ·rw[e1,e3]
 ·rw[zb4]at hb;exact h.fresh b (by omega)
 ·intro id gi b h1 h2;rw[zb4];rcases split id gi h1 with k1 | ⟨e1,e2⟩
  ·have:=h.lt id gi b k1 h2;omega
  ·rw[e2]at h2;simp[GI.block,Value.ownBlock]at h2;omega
 ·rw[zb4];have:=h.base;omega
end Go.Abs
namespace Go.Proofs.YtdmamdnkcefmmaaGreatDoor
open Go Go.Abs
theorem zGB (n:Nat) (hn:0<n) (fV:n≤1000000) (H:zaa) (K:Kt) (hK:K (.sl [] (.own H.length)) (H++[.perm za7 2 0])) :
  ACalls tP zwj [.snil,.int .i64 n] H K:=by
 rintro B w G ⟨vs⟩ hR hv
 match vs,hv with
 | [v1,v2],⟨h1,h2,_⟩=>
 have h1:v1=.slice none 0 0:=h1;have h2:v2=.int .i64 n:=h2;subst h1 h2;obtain⟨i0,lR,kC,gV,bE⟩:∃ i0,tP.info? 28=some i0∧i0.zero=some (.agg #[.int .i64 0,.slice none 0 0])∧i0.size=2∧i0.bytes=32:=⟨_,rfl,rfl,rfl,rfl⟩;refine (Go.Proofs.Any8.slices_Grow_grow zH2 i0 _ lR kC (by omega) none 0 0 n [] w (Nat.le_refl _) (by omega) (by rw[bE];omega) (by omega) (by simp) (λ_=>rfl) (λ_ h=>by cases h)).mono ?_;rintro e w' ⟨rfl,rfl⟩;have dR:=grownCap_ge w (0+n) 0 28;have bB:=grownCap_le_maxLen w (0+n) 0 28 (by simp only[maxLen];omega);obtain⟨hE,hH⟩:=hR.drew (w.drawn+1) (Nat.le_succ _) |>.newRow 28 2 (grownCap w (0+n) 0 28) (([]:List Value).toArray++Builtin.zeroCells (Value.agg #[.int .i64 0,.slice none 0 0]).cells (0+n-0)++Builtin.zeroCells (Value.agg #[.int .i64 0,.slice none 0 0]).cells (grownCap w (0+n) 0 28-(0+n))) bB (by
  simp only[Array.size_append,size_zeroCells,List.size_toArray,List.length_nil];have:(Value.agg #[.int .i64 0,.slice none 0 0]).cells.size=2:=rfl;rw[this];omega)
 refine⟨_,_,_,_,rfl,(Ext.drew B w G (w.drawn+1) (Nat.le_succ _)).trans hE,hH,?_,hK⟩;refine⟨.slE _ _,_,2,0,?_,Nat.le_refl _,λ_=>⟨rfl,λc hc=>by simp at hc⟩⟩;rw[←hR.len];simp;rfl
theorem zGz (a b:List IT) (ha:0<a.length) (hb:a.length+b.length≤1000000) (H:zaa) (K:Kt) (hK:K (.sl (IT.css (a++b)) .none) H) :
  ACalls tP zoS [.sl [[.sl (IT.css a) .none],[.sl (IT.css b) .none]] .full] H K:=by
 refine ACalls.out (zKd λhs=>?_);have e:∀ l:List IT,(IT.css l).length=l.length:=λl=>by simp[IT.css_map]
 have hS:∀ c:List IT,∀ k:AV→Prop,k (.int .i64 c.length)→zah 1 (.sl (IT.css c) .none) k:=λc k hk=>by simpa[e]using hk
 simp[zze];let row:Nat→List IT:=λi=>if i=0 then a else b
 let sum:Nat→Nat:=λi=>if i=0 then 0 else if i=1 then a.length else a.length+b.length
 have aA:∀ i (hi:i < [[AV.sl (IT.css a) .none],[.sl (IT.css b) .none]].length),[[AV.sl (IT.css a) .none],[.sl (IT.css b) .none]][i]=[.sl (IT.css (row i)) .none]:=λi hi=>by rcases (by simp at hi;omega:i=0∨i=1) with rfl | rfl <;> rfl
 refine zKa (Inv:=λq t3 t11 H'=>∃ i:Nat,i≤2∧q=2-i∧t11=.int .i64 i∧t3=.int .i64 (sum i)∧H'=H) 2 ?_ ?_
 ·intro _;exact⟨0,by omega,rfl,rfl,rfl,rfl⟩
 ·rintro q t3 t11 H' ⟨i,hi,rfl,rfl,rfl,rfl⟩ hsc am aP Kb ar;by_cases ak:i<2
  ·have aO:(i:Int)<2:=by omega
   have cS:(sum i:Int)+(row i).length=sum (i+1):=by rcases (by omega:i=0∨i=1) with rfl | rfl <;> simp[sum,row]
   have bC:sum (i+1)≤1000000:=by rcases (by omega:i=0∨i=1) with rfl | rfl <;> simp[sum] <;> omega
   have dv:¬ ((sum (i+1):Int)<0):=by omega
   simp[zre,aO,ak,aA,e];rw[cS,zat (by omega) (by omega)];simp[dv,zzf,zzg];rw[zat (by omega) (by omega)];refine ar _ _ ⟨2-(i+1),by omega,Back.at (J:=[]) (H2:=H') (by simp) (by omega) hsc ?_ ⟨_,_,rfl,i+1,by omega,rfl,by simp,rfl,rfl⟩⟩;simp[zkO,AV.sc,AV.scV,AV.scA,AV.scB]
  ·obtain rfl:i=2:=by omega
   simp[zre];refine zGB _ (by simp[sum];omega) (by simp[sum];omega) _ _ ?_;let all:Nat→List IT:=λi=>if i=0 then [] else if i=1 then a else a++b
   refine zJ9 (Inv:=λq t6 t27 H2=>∃ i:Nat,i≤2∧q=2-i∧t27=.int .i64 i∧t6=.sl (IT.css (all i)) (.own H'.length)∧H2=H'++[.perm za7 2 (all i).length]) 2 ?_ ?_
   ·intro _;exact⟨0,by omega,rfl,rfl,rfl,rfl⟩
   ·rintro q t6 t27 H2 ⟨i,hi,rfl,rfl,rfl,rfl⟩ bZ dy gx Kb2 bQ;by_cases ak:i<2
    ·have aO:(i:Int)<2:=by omega
     have aL:IT.css (all i)++IT.css (row i)=IT.css (all (i+1)):=by rcases (by omega:i=0∨i=1) with rfl | rfl <;> simp[all,row,IT.css_map]
     have hall2:(all i).length+(row i).length=(all (i+1)).length:=by rcases (by omega:i=0∨i=1) with rfl | rfl <;> simp[all,row]
     have bC:(all (i+1)).length≤1000000:=by rcases (by omega:i=0∨i=1) with rfl | rfl <;> simp[all] <;> omega
     have h2:∀ c∈IT.css (row i),c.length=2:=λc hc=>by rw[IT.css_map]at hc;obtain⟨x,_,rfl⟩:=List.mem_map.1 hc;simp
     simp[zrd,aO,ak,aA,e,zaw,zaL,zaI,List.set_append_right];rw[aL,hall2,zat (by omega) (by omega)];refine⟨h2,⟨by omega,by omega⟩,?_⟩;refine bQ _ _ ⟨2-(i+1),by omega,Back.at (J:=[]) (H2:=H'++[.perm za7 2 (all (i+1)).length]) (by simp) (by simp) (hs.append (by simp[AB.sc])) ?_ ⟨_,_,rfl,i+1,by omega,rfl,by simp,rfl,rfl⟩⟩;simp[zkN,AV.sc,AV.scV,AV.scA,AV.scB]
    ·obtain rfl:i=2:=by omega
     simp[zrd];exact Out.at (H2:=H') (J:=[.perm za7 2 (a++b).length]) (by simp[all]) (Nat.le_refl _) hs (.atom (.sl _ _)) rfl rfl (by simpa[all]using hK)
theorem zKk {aa:List Dat} (hk:zbr aa) (n:Int) (ks:List VT) (ht:(VT.mk 5 n ks).nodes≤1000) (c:Int) {ps:List VT} (hp:zbd aa (.mk 5 n ks) c=some ps) (H:zaa) (K:Kt)
  (hK:K (.sl (VT.css ps) .none) H):ACalls tP zoT [.sl (aa.map Dat.cs) .none,.agg (VT.mk 5 n ks).cs,.int .i64 c] H K:=by
 obtain⟨l,hf⟩:∃ lf,zbm aa (.mk 5 n ks) c=some lf:=by
  cases js:zbm aa (.mk 5 n ks) c with
  | none=>simp[zbd,js]at hp
  | some lf=>exact⟨lf,rfl⟩
 obtain⟨bs,kp,cx,jN,dh,cz,_,ed,_⟩:=zwO hk hf;rw[hp]at dh;obtain rfl:=Option.some.inj dh;refine ACalls.out (zKi λhs=>?_);obtain⟨f1,f2,f3⟩:=ze6 hk;simp[zzk,VT.cs,Nat.add_assoc];refine zAj aa f1 f2 f3 (.mk 5 n ks) ht c _ _ ?_;rw[hf];simp[zcx];refine ed _ _ ?_;simp[zex];unfold zkT;refine ALoop.own 9 zaZ 3 rfl ?_;have d8:(H++[AB.cells [AV.int IntKind.i64 5,AV.int IntKind.i64 n,AV.sl (VT.css ks) Tok.none]]).length=H.length+1:=by simp
 rw[d8,List.append_assoc];show zkT _ (.sl (VT.css (pick (l.take 0) (bs.take 0))) (.own (H.length+1))) _ _ _ (H++[.cells [.int .i64 5,.int .i64 n,.sl (VT.css ks) .none],.perm zaZ 3 0]) _;have aH:∀ m,HSc (H++[.cells [.int .i64 5,.int .i64 n,.sl (VT.css ks) .none],.perm zaZ 3 m]):=λm=>hs.append (by simp[AB.sc,AV.scA,AV.scB]);refine zKg (Inv:=λq t9 t25 H'=>∃ i:Nat,i≤bs.length∧bs.length-i=q∧t25=.int .i64 i∧t9=.sl (VT.css (pick (l.take i) (bs.take i))) (.own (H.length+1)) ∧
  H'=H++[.cells [.int .i64 5,.int .i64 n,.sl (VT.css ks) .none],.perm zaZ 3 (pick (l.take i) (bs.take i)).length]) bs.length ?_ ?_
 ·intro _;exact⟨0,by omega,rfl,rfl,rfl,rfl⟩
 ·rintro q t9 t25 H' ⟨i,hi,rfl,rfl,rfl,rfl⟩ aM am aP Kb ar;by_cases ak:i<bs.length
  ·have bn:i<l.length:=by omega
   have aN:=zpI cx bn;have cq:=zjF (l.take i) (bs.take i);rw[List.length_take]at cq;generalize hA:pick (l.take i) (bs.take i)=A at *;have aY:∀ A',A'=pick (l.take (i+1)) (bs.take (i+1))→zkS (.sl (VT.css l) .none) (.sl (VT.css A') (.own (H.length+1))) (.sl (zbP bs) .none) (.int .i64 bs.length) (.int .i64 i)
     (H++[.cells [.int .i64 5,.int .i64 n,.sl (VT.css ks) .none],.perm zaZ 3 A'.length]) (Out H.length K) Kb:=by
    rintro A' rfl;simp[zkS,zzl,wi i (by omega)];exact ar _ _ ⟨bs.length-(i+1),by omega,Back.here (by simp) (aH _) (by simp[zkR,ux,AV.sc,AV.scA,AV.scB,AV.scV]) ⟨_,_,rfl,i+1,by omega,rfl,rfl,rfl,rfl⟩⟩
   obtain⟨x1,x2,x3,az,bI,bh,bK⟩:=zbh l[i];cases fe:bs[i] with
   | true=>rw[fe,if_pos rfl,List.append_nil]at aN;simp[zkQ,zex,ak,zgJ,fe];exact aY A aN.symm
   | false=>
    rw[fe]at aN;simp only[Bool.false_eq_true,if_false]at aN;simp[zkQ,zex,ak,bn,zgJ,fe];have hpv:∀ v:VT,plain v.cs=some v.cs:=λv=>by cases v;rfl
    have aK:VT.css A++[l[i].cs]=VT.css (A++[l[i]]):=by rw[VT.css_map,VT.css_map,List.map_append];rfl
    simp[zau,zaV,hpv,plain,AV.pd];simp only[zaw,zaL,zaI];simp[List.set_append_right];refine⟨⟨by omega,by omega⟩,?_⟩;rw[aK];have:=aY (A++[l[i]]) aN.symm;rw[List.length_append]at this;exact this
  ·obtain rfl:i=bs.length:=by omega
   rw[←cx,List.take_length,cx,List.take_length];simp[zkQ];exact Out.at (b:=.sl (VT.css (pick l bs)) .none) rfl (Nat.le_refl _) hs (.atom (.sl _ _)) rfl rfl hK
theorem zTw:∀ (m:Nat) (v:IT),v.nodes≤m→v.nodes≤1000000→∀ (H:zaa) (K:Kt),K (.agg v.cs) H→ACalls tP zjq [.agg v.cs] H K:=by
 intro m;induction m with
 | zero=>intro v h;have:=v.nodes_pos;omega
 | succ m ih=>
  intro v hm hb H K hK;obtain⟨n,ks⟩:=v;have bn:=IT.len_le ks;have dv:(IT.mk n ks).nodes=IT.nodesL ks+1:=by simp[IT.nodes]
  refine ACalls.out (zTu λhs=>?_);simp[zCt,IT.cs,zar,zaJ,AV.known,Nat.add_assoc];unfold zno;refine ALoop.ownC (H.length+2) 1 za7 2 (cs:=[.int .i64 n,.snil]) (by simp) rfl ?_;have aU:(H++[AB.cells [.int .i64 n,.sl (IT.css ks) .none],.cells [.int .i64 0,.snil],.cells [.int .i64 n,.snil]]).set (H.length+2) (.cells ([AV.int .i64 n,.snil].set 1 (.sl [] (.own (H++[AB.cells [.int .i64 n,.sl (IT.css ks) .none],.cells [.int .i64 0,.snil],.cells [.int .i64 n,.snil]]).length))))++[.perm za7 2 0] =
    H++[.cells [.int .i64 n,.sl (IT.css ks) .none],.cells [.int .i64 0,.snil],.cells [.int .i64 n,.sl [] (.own (H.length+3))],.perm za7 2 0]:=by simp[List.set_append_right]
  rw[aU];show zno (.ptr (H.length+1) 0) (.ptr (H.length+2) 0) (.sl (IT.css ks) .none) (.int .i64 ks.length) (.int .i64 0) _ (Out H.length K);have hsc:∀ i,HSc (H++[.cells [.int .i64 n,.sl (IT.css ks) .none],.cells [.int .i64 0,.snil],.cells [.int .i64 n,.sl (IT.css (ks.take i)) (.own (H.length+3))],.perm za7 2 i]):=λi=>hs.append (by simp[AB.sc,AV.scA,AV.scB]);refine zTs (Inv:=λq t12 H'=>∃ i:Nat,i≤ks.length∧q=ks.length-i∧t12=.int .i64 i ∧
   H'=H++[.cells [.int .i64 n,.sl (IT.css ks) .none],.cells [.int .i64 0,.snil],.cells [.int .i64 n,.sl (IT.css (ks.take i)) (.own (H.length+3))],.perm za7 2 i]) ks.length ?_ ?_
  ·intro _;exact⟨0,by omega,by omega,rfl,by simp[IT.css]⟩
  ·rintro q t12 H' ⟨i,hi,rfl,rfl,rfl⟩ aM am aP Kb ar;by_cases ak:i<ks.length
   ·obtain⟨x,y,az,hx,hy⟩:=zc5 ks[i];have cI:=IT.kid_lt (n:=n) ak;simp[ztT,ak,az,hx,hy];rw[←az];refine zaC (.agg (ks[i]).cs) (λJ=>ih ks[i] (by omega) (by omega) _ _ ⟨rfl,rfl⟩) ?_;rw[zn0];simp[zaw,zaL,zaI,Nat.min_eq_left hi,AV.known,List.set_append_right];refine⟨⟨by omega,by omega⟩,?_⟩;rw[zat (by omega) (by omega)];rw[←zEF ak];refine ar _ _ ⟨ks.length-(i+1),by omega,Back.at (J:=[.cells (ks[i]).cs]) (H2:=H++[.cells [.int .i64 n,.sl (IT.css ks) .none],.cells [.int .i64 0,.snil],.cells [.int .i64 n,.sl (IT.css (ks.take (i+1))) (.own (H.length+3))],.perm za7 2 (i+1)]) (by simp) (by simp) (hsc _) ?_ ⟨_,rfl,i+1,by omega,rfl,by simp,rfl⟩⟩;simp[znn,AV.sc,AV.scV,AV.scA,AV.scB]
   ·obtain rfl:i=ks.length:=by omega
    rw[List.take_length]at *;simp[ztT,AV.known,List.set_append_right];exact Out.at rfl (Nat.le_refl _) hs (WkV.agg (ds:=[.int .i64 n,.sl (IT.css ks) .none]) ⟨.refl _,.sl _ _,trivial⟩) rfl (by simp[AV.scV,AV.scA,AV.scB]) (by simpa[IT.cs]using hK)
theorem zTA (z:Int) (hz:Sm z) (H:zaa) (K:Kt) (hK:K (.agg (zal z)) H):ACalls tP zpz [.agg (zal z)] H K:=by
 refine ACalls.out (zTz λhs=>?_);have hl:=hz.len;simp[zCu,zgb,Nat.add_assoc];refine zfW z (by omega) _ _ ?_;have e:zal z=[.bool (decide (z<0)),.sl (zam (lim z.natAbs)) .none,.sl (zam [1]) .none]:=rfl
 conv=>lhs
 rw[e];refine zjS (decide (z<0)) z.natAbs (by omega) (z:=z) (by by_cases h:z<0 <;> simp[h] <;> omega) _ _ ?_;simp[zgb,Nat.add_assoc];exact zdD hs hK
theorem zCr (a:Nat) (ha:Sm (a:Int)) (H:zaa) (K:Kt) (hK:K (.int .i64 (if a=0 then 0 else 1)) H):ACalls tP zjp [.agg (zal (a:Int))] H K:=by refine ACalls.out (zTj λhs=>?_);have hl:=ha.len;simp[zCq,zgb,Nat.add_assoc];refine zfW (a:Int) (by omega) _ _ ?_;refine zGv a _ _ ?_;exact Out.int rfl (Nat.le_refl _) hs hK
end Go.Proofs.YtdmamdnkcefmmaaGreatDoor
namespace Go.Proofs.YtdmamdnkcefmmaaGreatDoor
open Go Go.Abs
set_option maxRecDepth 100000
section
variable (t0 t1 t2 t3 t9 t10 t11 t12 t14 t20 t21 t22 t27 t28 t29 t43 t44 t45:AV) (H:zaa) (K:Kt) (Kb3 Kb7:Lt)
def zd2:Nat→List Bool | 3=>rl false [0,1,1,2,5,1,10,3,47] | 7=>rl false [0,1,1,2,6,3,7,3,4,3,40] | 10=>rl false [0,1,1,2,6,3,1,1,5,3,4,3,13,3,24] | 200012=>rl false [0,2] | _=>[]
noncomputable def ztO:Code:=Tryz.f78.body.getD .skip
noncomputable def zTc:List ResultVar:=Tryz.f78.results.toList
def zii:List AV:=t0::ux 1 (t2::t3::ux 5 (t9::ux 10 (t20::t21::t22::ux 47 [])))
def zCn:List Bool:=zd2 3
noncomputable def ztP:Code:=zaq [1,1,0,1,0,0] ztO
def zCj:AExit→List AV→zaa→Prop:=zas tP zd2 [1,1,0,1,0] ztO (zay tP zTc K)
def zCm:Prop:=ALoop tP ztP (zCj K) (zii t0 t2 t3 t9 t20 t21 t22) H
def zng:List AV:=t0::ux 1 (t2::t3::ux 6 (t10::t11::t12::ux 7 (t20::t21::t22::ux 4 (t27::t28::t29::ux 40 []))))
def zCo:List Bool:=zd2 7
noncomputable def ztQ:Code:=zaq [1,1,0,0,1,1,0,1,0,0] ztP
def zCk:AExit→List AV→zaa→Prop:=zas tP zd2 [1,1,0,0,1,1,0,1,0] ztP (zb1 zCn Kb3 (zCj K))
def znh:Prop:=ALoop tP ztQ (zCk K Kb3) (zng t0 t2 t3 t10 t11 t12 t20 t21 t22 t27 t28 t29) H
def zih:List AV:=t0::ux 1 (t2::t3::ux 6 (t10::t11::t12::ux 1 (t14::ux 5 (t20::t21::t22::ux 4 (t27::t28::t29::ux 13 (t43::t44::t45::ux 24 []))))))
def zTa:List Bool:=zd2 10
noncomputable def zS6:Code:=zaq [1,1,0,0,1,1,0,0] ztQ
def zS5:AExit→List AV→zaa→Prop:=zas tP zd2 [1,1,0,0,1,1,0] ztQ (zb1 zCo Kb7 (zCk K Kb3))
def zCl:Prop:=ALoop tP zS6 (zS5 K Kb3 Kb7) (zih t0 t2 t3 t10 t11 t12 t14 t20 t21 t22 t27 t28 t29 t43 t44 t45) H
def ztL (t0 t2 t3 t10 t11 t12 t14 t20 t21 t22 t27 t28 t29 t43 t44 t45:AV) (H:zaa) (K:Kt) (Kb3:Lt) (Kb7:Lt) (Kb10:Lt):Prop:=zac .lss false t45 t44 λt46=>zag t46 (zai 5 t43 t45 λt47=>zae true 5 t47 H λt48=>zax [(.int .i64 0),.snil,(.bool false),.snil,.snil] H λt16 H=>zan 5 t16 t48 H λH=>zab H (λK'=>K' t12 H) λt49=>zab H (λK'=>zaf 0 t14 (K' · H)) λt50=>zab H (λK'=>zak false 1 t50 H (K' · H)) λt51=>zdv .g true H (λK'=>ACalls tP zoO [t51] H K') λt52 H=>zab H (λK'=>zaf 0 t16 (K' · H)) λt53=>zab H (λK'=>zak true 2 t53 H (K' · H)) λt54=>zab H (λK'=>zau 2 [(.int .i64 0),.snil] 1 [(0,t54)] (K' · H)) λt55=>zdv .g false H (λK'=>zaw za7 2 32 t52 t55 H K') λt56 H=>zab H (λK'=>zaf 1 t14 (K' · H)) λt57=>zab H (λK'=>zak true 3 t57 H (K' · H)) λt58=>zab H (λK'=>zaf 2 t16 (K' · H)) λt59=>zab H (λK'=>zak true 3 t59 H (K' · H)) λt60=>zdv .g true H (λK'=>ACalls tP zeI [t58,t60] H K') λt61 H=>zab H (λK'=>zar [.snil,(.bool false),.snil,.snil] [(0,1),(1,3)] [(0,t56),(1,t61)] (K' · H)) λt62=>zab H (λK'=>zau 4 [.snil,(.bool false),.snil,.snil] 1 [(0,t62)] (K' · H)) λt63=>zdv .g false H (λK'=>zaw zbq 4 80 t49 t63 H K') λt64 H=>zab H (λK'=>K' t64 H) λt12=>zac .add false t45 (.int .i64 1) λt65=>Kb10 (zih t0 t2 t3 t10 t11 t12 t14 t20 t21 t22 t27 t28 t29 t43 t44 t65) H) (zac .add false t29 (.int .i64 1) λt66=>Kb7 (zng t0 t2 t3 t10 t11 t12 t20 t21 t22 t27 t28 t66) H)
def ztN:Prop:=zac .lss false t29 t28 λt30=>zag t30 (zai 4 t27 t29 λt31=>zae true 4 t31 H λt32=>zax [.snil,(.bool false),.snil,.snil] H λt14 H=>zan 4 t14 t32 H λH=>zab H (λK'=>K' t0 H) λt33=>zab H (λK'=>zak true 3 t11 H (K' · H)) λt34=>zab H (λK'=>K' t2 H) λt35=>zab H (λK'=>K' t10 H) λt36=>zab H (λK'=>zai 2 t35 t36 (K' · H)) λt37=>zab H (λK'=>zak true 2 t37 H (K' · H)) λt38=>zab H (λK'=>K' t3 H) λt39=>zab H (λK'=>K' t10 H) λt40=>zab H (λK'=>zai 2 t39 t40 (K' · H)) λt41=>zab H (λK'=>zak true 2 t41 H (K' · H)) λt42=>zaE H (λH K'=>ACalls tP zhn [t33,t34,t38,t42] H K') λt43=>zab H (λK'=>zah 1 t43 (K' · H)) λt44=>zab H (λK'=>K' (.int .i64 0) H) λt45=>zCl t0 t2 t3 t10 t11 t12 t14 t20 t21 t22 t27 t28 t29 t43 t44 t45 H K Kb3 Kb7) (zac .add false t22 (.int .i64 1) λt68=>Kb3 (zii t0 t2 t3 t12 t20 t21 t68) H)
def ztM:Prop:=zac .lss false t22 t21 λt23=>zag t23 (zai 3 t20 t22 λt25=>zae true 3 t25 H λt26=>zax [(.int .i64 0),(.int .i64 0),.snil] H λt11 H=>zan 3 t11 t26 H λH=>zah 1 t9 λt28=>znh t0 t2 t3 t22 t11 .snil t20 t21 t22 t9 t28 (.int .i64 0) H K Kb3) (K t9 H)
def zCi:Prop:=ACalls tP zc6 [(.int .i64 1)] H λt17 H=>zar [.snil,(.bool false),.snil,.snil] [(0,1),(1,3)] [(1,t17)] λt18=>zau 4 [.snil,(.bool false),.snil,.snil] 1 [(0,t18)] λt19=>zah 1 t1 λt21=>zCm t0 t2 t3 t19 t1 t21 (.int .i64 0) H K
variable {t0 t1 t2 t3 t9 t10 t11 t12 t14 t20 t21 t22 t27 t28 t29 t43 t44 t45} {H} {K} {Kb3 Kb7}
theorem zS7 (Inv:Nat→AV→AV→zaa→Prop) (n:Nat) (h0:HSc H→Inv n t12 t45 H)
  (ac:Rd2 (λt12=>λt45=>zih t0 t2 t3 t10 t11 t12 t14 t20 t21 t22 t27 t28 t29 t43 t44 t45) (λt12=>λt45=>λH Kb10=>ztL t0 t2 t3 t10 t11 t12 t14 t20 t21 t22 t27 t28 t29 t43 t44 t45 H K Kb3 Kb7 Kb10) H Inv):zCl t0 t2 t3 t10 t11 t12 t14 t20 t21 t22 t27 t28 t29 t43 t44 t45 H K Kb3 Kb7:=
 lp2 (M:=zd2) zTa t12 t45 (by kernel_rfl) Inv n h0 ac
theorem zS9 (Inv:Nat→AV→AV→zaa→Prop) (n:Nat) (h0:HSc H→Inv n t12 t29 H)
  (ac:Rd2 (λt12=>λt29=>zng t0 t2 t3 t10 t11 t12 t20 t21 t22 t27 t28 t29) (λt12=>λt29=>λH Kb7=>ztN t0 t2 t3 t10 t11 t12 t20 t21 t22 t27 t28 t29 H K Kb3 Kb7) H Inv):znh t0 t2 t3 t10 t11 t12 t20 t21 t22 t27 t28 t29 H K Kb3:=
 lp2 (M:=zd2) zCo t12 t29 (by kernel_rfl) Inv n h0 ac
theorem zS8 (Inv:Nat→AV→AV→zaa→Prop) (n:Nat) (h0:HSc H→Inv n t9 t22 H)
  (ac:Rd2 (λt9=>λt22=>zii t0 t2 t3 t9 t20 t21 t22) (λt9=>λt22=>λH Kb3=>ztM t0 t2 t3 t9 t20 t21 t22 H K Kb3) H Inv):zCm t0 t2 t3 t9 t20 t21 t22 H K:=
 lp2 (M:=zd2) zCn t9 t22 (by kernel_rfl) Inv n h0 ac
theorem zTb (h:HSc H→zCi t0 t1 t2 t3 H K):ACalls tP zjo [t0,t1,t2,t3] H K:=
 acb zd2 Tryz.func78 ztO (by kernel_rfl) (by kernel_rfl) h
end
end Go.Proofs.YtdmamdnkcefmmaaGreatDoor
namespace Go.Proofs.YtdmamdnkcefmmaaGreatDoor
open Go Go.Abs
theorem _root_.Go.Abs.ACalls.snilFull {P:Program} {f:FuncId} {us:List AV} {H:zaa} {K:AV→zaa→Prop} (h:ACalls P f us H λr H'=>(r=.snil∧K (.sl [] .full) H')∨K r H'):ACalls P f us H K:=by
 intro B w G vs hH hv;refine (h B w G vs hH hv).mono λe w' ⟨v,r,H',G',h1,h2,h3,h4,h5⟩=>?_;rcases h5 with ⟨rfl,hk⟩ | hk
 ·refine⟨v,.sl [] .full,H',G',h1,h2,h3,?_,hk⟩;have:v=.slice none 0 0:=h4;subst this;exact⟨.slE _ _,_,rfl⟩
 ·exact⟨v,r,H',G',h1,h2,h3,h4,hk⟩
theorem zvc (r:List IT) (hr:r.length≤1000000) (H:zaa) (K:Kt) (h0:r=[]→K (.sl [] .full) H) (h1:r≠[]→K (.sl (IT.css r) (.own H.length)) (H++[.perm za7 2 r.length])) :
  ACalls tP zoO [.sl (IT.css r) .none] H K:=by
 refine ACalls.snilFull (zJI λhs=>?_);cases r with
 | nil=>simp[zq2,IT.css,zgC,zfU,zau,zaV,plain,AV.pd,zaw,zaL,zaI];exact⟨.inl (h0 rfl),h0 rfl⟩
 | cons x r=>have:=h1 (by simp);simp[zq2,IT.css,zgC,zfU,zau,zaV,plain,AV.pd,zaw,zaL,zaI];simp only[List.length_cons]at hr;refine⟨λc hc=>?_,⟨by omega,by omega⟩,by simpa[IT.css]using this⟩;rw[IT.css_map]at hc;obtain⟨v,_,rfl⟩:=List.mem_map.1 hc;simp
theorem zgA {H:zaa} {g:Bool} {p:(AV→zaa→Prop)→Prop} {k:AV→zaa→Prop} (r:AV) (H':zaa) (h:p λv H2=>v=r∧H2=H') (hg:GrowA H H') (hk:k r H'):zdv .g g H p k:=⟨r,H',h,λ_=>hg,hk⟩
theorem znL {H:zaa} {g:Bool} {p:(AV→zaa→Prop)→Prop} {k:AV→zaa→Prop} (r:AV) (h:p λv H2=>v=r∧H2=H) (hk:k r H):zdv .g g H p k:=⟨r,H,h,λ_=>.inl rfl,hk⟩
def znI (aa:List Dat) (f:Nat):Prop:=∀ (t:VT) (i j:IT),i.nodes+j.nodes≤f→t.nodes≤1000→za1 aa 0 t=true→0≤rdV aa i t→0≤rdV aa j t→rdV aa i t+rdV aa j t≤6→i.nodes+j.nodes≤300 →
 ∀ (H:zaa) (K:Kt),K (.sl (zaH (zaQ aa f t i j)) .none) H→ACalls tP zhn [.sl (aa.map Dat.cs) .none,.agg t.cs,.agg i.cs,.agg j.cs] H K
def zir (aa:List Dat) (f:Nat):Prop:=∀ (ts:List VT) (l m:List IT),IT.nodesL l+IT.nodesL m+1≤f→l.length=ts.length→m.length=ts.length→ts.length≤1000→(∀ x∈ts,x.nodes≤1000∧za1 aa 0 x=true)→0≤rdA aa l ts 0→0≤rdA aa m ts 0→rdA aa l ts 0+rdA aa m ts 0≤6→IT.nodesL l+IT.nodesL m≤300 →
 ∀ (H:zaa) (K:Kt),K (.sl (zaO (zcm aa f ts l m)) .none) H→ACalls tP zjo [.sl (aa.map Dat.cs) .none,.sl (VT.css ts) .none,.sl (IT.css l) .none,.sl (IT.css m) .none] H K
def ziq (aa:List Dat) (f:Nat):Prop:=∀ (t:VT) (l m:List IT),IT.nodesL l+IT.nodesL m+1≤f→t.nodes≤1000→za1 aa 0 t=true→t.kind=5→0≤rdE aa l t 0→0≤rdE aa m t 0→rdE aa l t 0+rdE aa m t 0≤6→IT.nodesL l+IT.nodesL m≤300 →
 ∀ (H:zaa) (K:Kt),K (.sl (zaO (za0 aa f t l m)) .none) H→ACalls tP zf6 [.sl (aa.map Dat.cs) .none,.agg t.cs,.sl (IT.css l) .none,.sl (IT.css m) .none] H K
theorem zF6 {aa:List Dat} (h8:∀ D∈aa,D.cons.length≤8) {f:Nat} {ts:List VT} {l m:List IT} (hf:IT.nodesL l+IT.nodesL m≤f) (hl:l.length=ts.length) (hm:m.length=ts.length) (hA:0≤rdA aa l ts 0) (hB:0≤rdA aa m ts 0) (h6:rdA aa l ts 0+rdA aa m ts 0≤6) (k:Nat) (hk:k≤ts.length) :
  (∀ r∈zcb aa f ts l m k,0<r.2∧r.2≤729∧r.1.length≤IT.nodesL l+IT.nodesL m)∧(zcb aa f ts l m k).length≤729:=by
 have hb:=zF5 (f:=f) h8 hf hl hm hA hB h6 k hk;have hp:=zpU (zga aa f).1 ts l m k;have hs:∀ g:List IT→Nat,zaA g (zcb aa f ts l m k)=zaA g (zcl aa f ts l m k):=λg=>zpV (zfs aa f).1 ts l m k g;have a1:=zc9 l ts 0 k hl (by omega) hA;have b1:=zc9 m ts 0 k hm (by omega) hB;have n1:=IT.nodesL_take_le l k;have n2:=IT.nodesL_take_le m k;have hN:zaA (λ_=>1) (zcb aa f ts l m k)≤729:=by obtain⟨h1,h2⟩:=(zea h8 (f+1)).2.1 (ts.take k) (l.take k) (m.take k) (by omega) (by simp;omega) (by simp;omega) a1.1 b1.1 (by omega);have e:=zxb (aa:=aa) (f:=f) (ts:=ts) (l:=l) (m:=m) (k:=k) k (Nat.le_refl _);rw[ziJ,List.length_take,Nat.min_eq_left hk,e]at h2;rw[hs];exact Nat.le_trans h2 (zeh (by omega))
 refine⟨λr hr=>?_,Nat.le_trans (ze8 hp) hN⟩;obtain⟨q,hq,he⟩:=zec hs hr (hp r hr);have h1:=zeE (λ_=>1) hr;rw[Nat.mul_one]at h1;obtain⟨_,_,h2⟩:=hb.1 q hq;rw[he]at h2;have h3:=IT.len_le r.1;exact⟨hp r hr,by omega,by omega⟩
theorem zHl {out:List (List IT × Nat)} {ws:List (IT × Nat)} {j:Nat} (h:j<out.length):zbT (out.take (j+1)) ws=zbT (out.take j) ws++ws.map λw=>(out[j].1++[w.1],out[j].2*w.2):=by rw[List.take_succ_eq_append_getElem h];simp only[zbT,List.flatMap_append,List.flatMap_cons,List.flatMap_nil,List.append_nil]
theorem zxB (ws:List (IT × Nat)):∀ out:List (List IT × Nat),(zbT out ws).length=out.length*ws.length
 | []=>by simp[zbT]
 | r::out=>by have:=zxB ws out;unfold zbT at this ⊢;rw[List.flatMap_cons,List.length_append,this,List.length_map,List.length_cons,Nat.succ_mul];omega
theorem zF9 {aa:List Dat} (h8:∀ D∈aa,D.cons.length≤8) {f:Nat} (hM:znI aa f):zir aa (f+1):=by
 intro ts l m hf hl hm htl eX hA hB h6 hn H K hK;rw[zgf]at hK;refine ACalls.out (zTb λhs=>?_);simp[zCi,Nat.add_assoc];refine zd1 1 (by omega) _ _ ?_;simp[zar,zaJ,zau,zaV,plain,AV.pd,AV.known,zc8,Nat.add_assoc];have eu:([AV.sl [] .none::zal 1]:List (List AV))=zaO (zcb aa f ts l m 0):=by simp[zjO,zaO,IT.css]
 rw[eu];refine zS8 (Inv:=λq t9 t22 H'=>∃ (k:Nat) (J:zaa) (tok:Tok),k≤ts.length∧ts.length-k=q∧t22=.int .i64 k∧t9=.sl (zaO (zcb aa f ts l m k)) tok∧H'=H++J) ts.length ?_ ?_
 ·intro _;exact⟨0,[],.full,by omega,rfl,rfl,rfl,by simp⟩
 ·rintro q t9 t22 H' ⟨k,J,tok,hk,rfl,rfl,rfl,rfl⟩ aM am aP Kb ar;have hbnd:=zF6 (f:=f) h8 (by omega) hl hm hA hB h6 k hk;obtain⟨out,eY⟩:∃ out,out=zcb aa f ts l m k:=⟨_,rfl⟩;rw[←eY]at hbnd aP ⊢;obtain⟨b1,b2⟩:=hbnd;by_cases ak:k<ts.length
  ·have h3:k<l.length:=by omega
   have h4:k<m.length:=by omega
   obtain⟨x1,x2,x3,az,bI,bh,bK⟩:=zbh ts[k];obtain⟨y1,y2,fW,hy1,eW⟩:=zc5 l[k];obtain⟨z1,z2,hvz,hz1,ky⟩:=zc5 m[k];have n1:=zdB h3;have n2:=zdB h4;have d1:=(zfk (aa:=aa) l ts 0 (by omega) hl hA).1 k h3 ak;have d2:=(zfk (aa:=aa) m ts 0 (by omega) hm hB).1 k h4 ak;have a1:=zc9 l ts 0 k hl (by omega) hA;have a2:=zc9 l ts 0 (k+1) hl (by omega) hA;have c1:=zc9 m ts 0 k hm (by omega) hB;have c2:=zc9 m ts 0 (k+1) hm (by omega) hB;have sl:=zgc (aa:=aa) l[k] ts[k] (l.take k) (ts.take k) 0 (by simp;omega) (by omega) a1.1;have sm:=zgc (aa:=aa) m[k] ts[k] (m.take k) (ts.take k) 0 (by simp;omega) (by omega) c1.1;rw[←List.take_succ_eq_append_getElem h3,←List.take_succ_eq_append_getElem ak]at sl;rw[←List.take_succ_eq_append_getElem h4,←List.take_succ_eq_append_getElem ak]at sm;have dd:rdV aa l[k] ts[k]+rdV aa m[k] ts[k]≤6:=by
    by_cases cl:rdV aa l[k] ts[k]<0∨rdA aa (l.take k) (ts.take k) 0+rdV aa l[k] ts[k]>6
    ·rw[if_pos cl]at sl;omega
    ·rw[if_neg cl]at sl;by_cases cm:rdV aa m[k] ts[k]<0∨rdA aa (m.take k) (ts.take k) 0+rdV aa m[k] ts[k]>6
     ·rw[if_pos cm]at sm;omega
     ·rw[if_neg cm]at sm;omega
   obtain⟨fd,ik⟩:=eX _ (List.getElem_mem ak);obtain⟨ws,g8⟩:∃ ws,ws=zaQ aa f ts[k] l[k] m[k]:=⟨_,rfl⟩;obtain⟨p1,p2,p3,p4⟩:=zfQ h8 (f:=f) (t:=ts[k]) (i:=l[k]) (j:=m[k]) (by omega) d1 d2 dd;rw[←g8]at p1 p2 p3 p4;have aY:zcb aa f ts l m (k+1)=zbT out ws:=by rw[zhG,←eY];simp[List.getD_eq_getElem?_getD,ak,h3,h4,g8]
   generalize hHB:H++J=HB at *;simp[ztM,ak,az];rw[←az];refine⟨⟨bI,bh,bK⟩,?_⟩;unfold znh;refine ALoop.own 12 zbq 4 rfl ?_;have d8:(HB++[AB.cells ts[k].cs]).length=HB.length+1:=by simp
   rw[d8,List.append_assoc];show znh _ _ _ _ _ (.sl (zaO (zbT (out.take 0) ws)) (.own (HB.length+1))) _ _ _ _ _ _ (HB++[.cells ts[k].cs,.perm zbq 4 0]) _ _;have htc:∀ n,ts[k].cs.all (AV.scA n)=true:=λn=>by obtain⟨v1,v2,v3⟩:=ts[k];simp[VT.cs,AV.scA,AV.scB]
   have hp7:∀ n,HSc (HB++[.cells ts[k].cs,.perm zbq 4 n]):=λn=>aM.append (by simp only[AB.sc,List.all_cons,List.all_nil,htc];rfl);have gA:∀ J,(AV.sl (zaO out) tok).sc (HB++J).length=true:=λJ=>by
    have h0:(AV.sl (zaO out) tok).sc HB.length=true:=by rw[List.all_eq_true]at aP;exact aP _ (by simp[zii,ux])
    exact zcc (by simp) h0
   refine zS9 (Inv:=λq t12 t29 H'=>∃ j:Nat,j≤out.length∧out.length-j=q∧t29=.int .i64 j∧t12=.sl (zaO (zbT (out.take j) ws)) (.own (HB.length+1))∧H'=HB++[.cells ts[k].cs,.perm zbq 4 (zbT (out.take j) ws).length]) out.length ?_ ?_
   ·intro _;exact⟨0,by omega,rfl,rfl,rfl,by simp[zbT]⟩
   ·rintro q t12 t29 H' ⟨j,hj,rfl,rfl,rfl,rfl⟩ hsc7 hlen7 hsF7 Kb7 hKb7;have dm:(zbT (out.take j) ws).length≤729*729:=by rw[zxB];exact Nat.mul_le_mul (by simp;omega) p4
    by_cases aV:j<out.length
    ·obtain⟨r1,r2,r3⟩:=b1 out[j] (List.getElem_mem aV);have aW:=zHl (ws:=ws) aV;simp[ztN,aV,h3,h4,az,fW,hvz];rw[←az,←fW,←hvz];refine zaC (.sl (zaH ws) .none) (λJ=>by rw[g8];exact hM ts[k] l[k] m[k] (by omega) fd ik d1 d2 dd (by omega) _ _ ⟨rfl,rfl⟩) ?_;simp;obtain⟨ah,dA⟩:∃ ah,ah=zbT (out.take j) ws:=⟨_,rfl⟩;rw[←dA]at dm aW ⊢;obtain⟨g,hg⟩:∃ g:IT × Nat→List IT × Nat,g=λw=>(out[j].1++[w.1],out[j].2*w.2):=⟨_,rfl⟩;rw[←hg]at aW;have hrc:(AV.sl (IT.css out[j].1) .none::zal (out[j].2:Int)).length=4:=by simp
     have hp10:∀ n,HSc (HB++[.cells ts[k].cs,.perm zbq 4 n,.cells (.sl (IT.css out[j].1) .none::zal (out[j].2:Int))]):=λn=>aM.append (by simp only[AB.sc,List.all_cons,List.all_nil,htc];simp[zal,AV.scA,AV.scB]);refine zS7 (Inv:=λq t12 t45 H'=>∃ i:Nat,i≤ws.length∧ws.length-i=q∧t45=.int .i64 i∧t12=.sl (zaO (ah++(ws.take i).map g)) (.own (HB.length+1))∧H'=HB++[.cells ts[k].cs,.perm zbq 4 (ah.length+i),.cells (.sl (IT.css out[j].1) .none::zal (out[j].2:Int))]) ws.length ?_ ?_
     ·intro _;exact⟨0,by omega,rfl,rfl,by simp,rfl⟩
     ·rintro q t12 t45 H' ⟨i,hi,rfl,rfl,rfl,rfl⟩ hsc10 hlen10 hsF10 Kb10 hKb10;have dz:(ah++(ws.take i).map g).length=ah.length+i:=by simp;omega
      by_cases bm:i<ws.length
      ·obtain⟨w1,w2,_⟩:=p1 ws[i] (List.getElem_mem bm);have cK:ah++(ws.take (i+1)).map g=(ah++(ws.take i).map g)++[g ws[i]]:=by rw[List.take_succ_eq_append_getElem bm];simp only[List.map_append,List.map_cons,List.map_nil,List.append_assoc]
       have f5:Sm (ws[i].2:Int):=zdq (Nat.lt_of_le_of_lt w2 (by decide));have eu:Sm (out[j].2:Int):=zdq (Nat.lt_of_le_of_lt r2 (by decide));simp[ztL,bm,zda,zcn,zcd];refine⟨zeN _,?_⟩;have bn:=r3;have lx:∀ (a:List IT) (x:IT),IT.css a++[x.cs]=IT.css (a++[x]):=λa x=>by rw[IT.css_map,IT.css_map,List.map_append];rfl
       have cX:∀ (a:List IT),∀ c∈IT.css a,c.length=2:=λa c hc=>by rw[IT.css_map]at hc;obtain⟨v,_,rfl⟩:=List.mem_map.1 hc;simp
       have kD:plain ([.int .i64 0,.snil]:List AV)=some [.int .i64 0,.sl [] .none]:=rfl;by_cases fx:out[j].1=[]
       ·refine znL (.sl [] .full) (zvc _ (by omega) _ _ (λ_=>⟨rfl,rfl⟩) (λh=>absurd fx h)) ?_;simp[zcn,zau,zaV,kD,zjH];refine zgA (.sl (IT.css (out[j].1++[ws[i].1])) (.own (HB.length+4))) (HB++[.cells ts[k].cs,.perm zbq 4 (ah.length+i),.cells (.sl (IT.css out[j].1) .none::zal (out[j].2:Int)),.cells (tmC ws[i])]++[.perm za7 2 (out[j].1.length+1)]) ?_ (.inr (.inl ⟨_,_,_,rfl⟩)) ?_
        ·simp[zaw,zaL,zaI,fx,IT.css]
        ·simp[zcd];refine znL (.agg (zal ((out[j].2*ws[i].2:Nat):Int))) (zig _ _ eu f5 _ _ ⟨by rw[Int.natCast_mul],rfl⟩) ?_;have cq:plain (AV.sl (IT.css (out[j].1++[ws[i].1])) (.own (HB.length+4))::zal ((out[j].2*ws[i].2:Nat):Int))=some (.sl (IT.css (out[j].1++[ws[i].1])) .none::zal ((out[j].2*ws[i].2:Nat):Int)):=by simp[plain,AV.pd,zc8]
         have jt:plain ([.snil,.bool false,.snil,.snil]:List AV)=some [.sl [] .none,.bool false,.sl [] .none,.sl [] .none]:=rfl;have iW:zaO (ah++(ws.take i).map g)++[.sl (IT.css (out[j].1++[ws[i].1])) .none::zal ((out[j].2*ws[i].2:Nat):Int)]=zaO (ah++(ws.take (i+1)).map g):=by rw[cK,zpX _ [g ws[i]],hg];rfl
         rw[Int.natCast_mul]at cq iW;simp only[List.map_take]at iW;simp[zar,zaJ,cq,jt];have df:min i ws.length=i:=by omega
         refine zgA (.sl (zaO (ah++List.take (i+1) (List.map g ws))) (.own (HB.length+1))) (HB++[.cells ts[k].cs,.perm zbq 4 (ah.length+(i+1)),.cells (.sl (IT.css out[j].1) .none::zal (out[j].2:Int)),.cells (tmC ws[i]),.perm za7 2 (out[j].1.length+1)]) ?_ (.inr (.inr (.inl ⟨HB.length+1,zbq,4,ah.length+i,ah.length+(i+1),by simp,by simp[List.set_append_right]⟩))) ?_
         ·simp[zaw,zaL,zaI,List.set_append_right,df];exact⟨⟨by omega,by omega⟩,iW,by omega⟩
         ·rw[wi i (by omega)];exact hKb10 _ _ ⟨ws.length-(i+1),by omega,Back.at (J:=[.cells (tmC ws[i]),.perm za7 2 (out[j].1.length+1)]) (H2:=HB++[.cells ts[k].cs,.perm zbq 4 (ah.length+(i+1)),.cells (.sl (IT.css out[j].1) .none::zal (out[j].2:Int))]) (by simp) (by simp) (hp10 _) (by
           have:=gA [.cells ts[k].cs,.perm zbq 4 (ah.length+(i+1)),.cells (.sl (IT.css out[j].1) .none::zal (out[j].2:Int))];simp only[zih,ux,List.all_cons,List.all_append,List.all_replicate,List.all_nil,this];simp[AV.sc,AV.scA,AV.scB,AV.scV]) ⟨_,_,rfl,i+1,by omega,rfl,rfl,by simp only[List.map_take],rfl⟩⟩
       ·refine zgA (.sl (IT.css out[j].1) (.own (HB.length+4))) (HB++[.cells ts[k].cs,.perm zbq 4 (ah.length+i),.cells (.sl (IT.css out[j].1) .none::zal (out[j].2:Int)),.cells (tmC ws[i])]++[.perm za7 2 out[j].1.length]) (zvc _ (by omega) _ _ (λh=>absurd h fx) (λ_=>⟨by simp,by simp⟩)) (.inr (.inl ⟨_,_,_,rfl⟩)) ?_;simp[zcn,zau,zaV,kD,zjH];refine zgA (.sl (IT.css (out[j].1++[ws[i].1])) (.own (HB.length+4))) (HB++[.cells ts[k].cs,.perm zbq 4 (ah.length+i),.cells (.sl (IT.css out[j].1) .none::zal (out[j].2:Int)),.cells (tmC ws[i])]++[.perm za7 2 (out[j].1.length+1)]) ?_ (.inr (.inr (.inl ⟨HB.length+4,za7,2,out[j].1.length,out[j].1.length+1,by simp,by simp[List.set_append_right]⟩))) ?_
        ·simp[zaw,zaL,zaI,List.set_append_right,lx];omega
        ·simp[zcd];refine znL (.agg (zal ((out[j].2*ws[i].2:Nat):Int))) (zig _ _ eu f5 _ _ ⟨by rw[Int.natCast_mul],rfl⟩) ?_;have cq:plain (AV.sl (IT.css (out[j].1++[ws[i].1])) (.own (HB.length+4))::zal ((out[j].2*ws[i].2:Nat):Int))=some (.sl (IT.css (out[j].1++[ws[i].1])) .none::zal ((out[j].2*ws[i].2:Nat):Int)):=by simp[plain,AV.pd,zc8]
         have jt:plain ([.snil,.bool false,.snil,.snil]:List AV)=some [.sl [] .none,.bool false,.sl [] .none,.sl [] .none]:=rfl;have iW:zaO (ah++(ws.take i).map g)++[.sl (IT.css (out[j].1++[ws[i].1])) .none::zal ((out[j].2*ws[i].2:Nat):Int)]=zaO (ah++(ws.take (i+1)).map g):=by rw[cK,zpX _ [g ws[i]],hg];rfl
         rw[Int.natCast_mul]at cq iW;simp only[List.map_take]at iW;simp[zar,zaJ,cq,jt];have df:min i ws.length=i:=by omega
         refine zgA (.sl (zaO (ah++List.take (i+1) (List.map g ws))) (.own (HB.length+1))) (HB++[.cells ts[k].cs,.perm zbq 4 (ah.length+(i+1)),.cells (.sl (IT.css out[j].1) .none::zal (out[j].2:Int)),.cells (tmC ws[i]),.perm za7 2 (out[j].1.length+1)]) ?_ (.inr (.inr (.inl ⟨HB.length+1,zbq,4,ah.length+i,ah.length+(i+1),by simp,by simp[List.set_append_right]⟩))) ?_
         ·simp[zaw,zaL,zaI,List.set_append_right,df];exact⟨⟨by omega,by omega⟩,iW,by omega⟩
         ·rw[wi i (by omega)];exact hKb10 _ _ ⟨ws.length-(i+1),by omega,Back.at (J:=[.cells (tmC ws[i]),.perm za7 2 (out[j].1.length+1)]) (H2:=HB++[.cells ts[k].cs,.perm zbq 4 (ah.length+(i+1)),.cells (.sl (IT.css out[j].1) .none::zal (out[j].2:Int))]) (by simp) (by simp) (hp10 _) (by
           have:=gA [.cells ts[k].cs,.perm zbq 4 (ah.length+(i+1)),.cells (.sl (IT.css out[j].1) .none::zal (out[j].2:Int))];simp only[zih,ux,List.all_cons,List.all_append,List.all_replicate,List.all_nil,this];simp[AV.sc,AV.scA,AV.scB,AV.scV]) ⟨_,_,rfl,i+1,by omega,rfl,rfl,by simp only[List.map_take],rfl⟩⟩
      ·obtain rfl:i=ws.length:=by omega
       rw[List.take_length,←aW];simp[ztL,wi j (by omega)];have hlen10:ah.length+ws.length=(zbT (out.take (j+1)) ws).length:=by rw[aW];simp
       exact hKb7 _ _ ⟨out.length-(j+1),by omega,Back.at (J:=[.cells (.sl (IT.css out[j].1) .none::zal (out[j].2:Int))]) (H2:=HB++[.cells ts[k].cs,.perm zbq 4 (zbT (out.take (j+1)) ws).length]) (by rw[←hlen10];simp) (by simp) (hp7 _) (by
        have:=gA [.cells ts[k].cs,.perm zbq 4 (zbT (out.take (j+1)) ws).length];simp only[zng,ux,List.all_cons,List.all_append,List.all_replicate,List.all_nil,this];simp[AV.sc,AV.scA,AV.scB,AV.scV]) ⟨_,_,rfl,j+1,by omega,rfl,rfl,rfl,rfl⟩⟩
    ·obtain rfl:j=out.length:=by omega
     rw[List.take_length]at dm ⊢;simp[ztN,wi k (by omega)];exact ar _ _ ⟨ts.length-(k+1),by omega,Back.here (by simp;omega) (hp7 _) (by simp[zii,ux,AV.sc,AV.scA,AV.scB,AV.scV]) ⟨_,_,rfl,k+1,J++[.cells ts[k].cs,.perm zbq 4 (zbT out ws).length],.own (HB.length+1),by omega,rfl,rfl,by rw[aY],by rw[←hHB];simp⟩⟩
  ·obtain rfl:k=ts.length:=by omega
   rw[←eY]at hK;simp[ztM];exact Out.at (b:=.sl (zaO out) .none) rfl (Nat.le_refl _) hs (.atom (.sl _ _)) rfl rfl hK
end Go.Proofs.YtdmamdnkcefmmaaGreatDoor
namespace Go.Proofs.YtdmamdnkcefmmaaGreatDoor
open Go Go.Abs
set_option maxRecDepth 100000
section
variable (t0 t1 t2 t3 t4 t5 t9 t10 t11 t34 t35 t36 t60 t61 t62 t85 t86 t87 t88:AV) (H:zaa) (K:Kt) (Kb2 Kb6 Kb12 Kb13 Kb20:Lt)
def zdZ:Nat→List Bool | 6=>rl false [9,1,24,3,66] | 13=>rl false [9,1,50,3,40] | 20=>rl false [9,1,76,3,14] | _=>[]
noncomputable def zfF:Code:=Tryz.f43.body.getD .skip
noncomputable def ztj:List ResultVar:=Tryz.f43.results.toList
def zmG:List AV:=ux 9 (t9::ux 24 (t34::t35::t36::ux 66 []))
def zRk:List Bool:=zdZ 6
noncomputable def zRe:Code:=zaq [1,1,0,1,0,1,0,1,0,0] zfF
def zRb:AExit→List AV→zaa→Prop:=zas tP zdZ [1,1,0,1,0,1,0,1,0] zfF (zay tP ztj K)
def zmL:Prop:=ALoop tP zRe (zRb K) (zmG t9 t34 t35 t36) H
def zmH:Prop:=K t9 H
def zfG:Prop:=zmH t9 H K
def zth:Prop:=zac .lss false t36 t35 λt37=>zag t37 (zai 4 t34 t36 λt38=>zae true 4 t38 H λt39=>zax [.snil,(.bool false),.snil,.snil] H λt11 H=>zan 4 t11 t39 H λH=>zaf 0 t11 λt41=>zae false 1 t41 H λt42=>zar [(.int .i64 0),.snil] [(0,1),(1,1)] [(1,t42)] λt43=>zaf 1 t11 λt44=>zae true 3 t44 H λt45=>zar [(.int .i64 0),.snil,(.bool false),.snil,.snil] [(0,2),(2,3)] [(0,t43),(1,t45)] λt46=>zau 5 [(.int .i64 0),.snil,(.bool false),.snil,.snil] 1 [(0,t46)] λt47=>zaw zaB 5 88 t9 t47 H λt48 H=>zac .add false t36 (.int .i64 1) λt49=>Kb6 (zmG t48 t34 t35 t49) H) (zfG t9 H K)
def zic:List AV:=ux 9 (t9::ux 50 (t60::t61::t62::ux 40 []))
def zRi:List Bool:=zdZ 13
noncomputable def zRc:Code:=zaq [1,1,0,1,0,1,1,1,0,1,1,0,0] zfF
def zQ9:AExit→List AV→zaa→Prop:=zas tP zdZ [1,1,0,1,0,1,1,1,0,1,1,0] zfF (zay tP ztj K)
def zmJ:Prop:=ALoop tP zRc (zQ9 K) (zic t9 t60 t61 t62) H
def zti (t9 t60 t61 t62:AV) (H:zaa) (K:Kt) (Kb13:Lt):Prop:=zac .add false t62 (.int .i64 1) λt77=>Kb13 (zic t9 t60 t61 t77) H
def zmI:Prop:=zti t9 t60 t61 t62 H K Kb13
def ztf:Prop:=zac .lss false t62 t61 λt63=>zag t63 (zai 3 t60 t62 λt65=>zae true 3 t65 H λt66=>zax [(.bool false),.snil,.snil] H λt15 H=>zan 3 t15 t66 H λH=>zae true 3 t15 H λt67=>ACalls tP zjp [t67] H λt68 H=>zac .neq false t68 (.int .i64 0) λt69=>zag t69 (zar [(.int .i64 0),.snil] [(0,1),(1,1)] [(0,t62)] λt72=>zae true 3 t15 H λt73=>zar [(.int .i64 0),.snil,(.bool false),.snil,.snil] [(0,2),(2,3)] [(0,t72),(1,t73)] λt74=>zau 5 [(.int .i64 0),.snil,(.bool false),.snil,.snil] 1 [(0,t74)] λt75=>zaw zaB 5 88 t9 t75 H λt76 H=>zmI t76 t60 t61 t62 H K Kb13) (zmI t9 t60 t61 t62 H K Kb13)) (zfG t9 H K)
def zmF:List AV:=ux 9 (t9::ux 76 (t86::t87::t88::ux 14 []))
def zRj:List Bool:=zdZ 20
noncomputable def zRd:Code:=zaq [1,1,0,1,0,1,1,1,1,1,0,1,0,0] zfF
def zRa:AExit→List AV→zaa→Prop:=zas tP zdZ [1,1,0,1,0,1,1,1,1,1,0,1,0] zfF (zay tP ztj K)
def zmK:Prop:=ALoop tP zRd (zRa K) (zmF t9 t86 t87 t88) H
def ztg:Prop:=zac .lss false t88 t87 λt89=>zag t89 (zai 4 t86 t88 λt90=>zae true 4 t90 H λt91=>zax [.snil,(.bool false),.snil,.snil] H λt17 H=>zan 4 t17 t91 H λH=>zaf 0 t17 λt93=>zae false 1 t93 H λt94=>zar [(.int .i64 0),.snil] [(0,1),(1,1)] [(1,t94)] λt95=>zaf 1 t17 λt96=>zae true 3 t96 H λt97=>zar [(.int .i64 0),.snil,(.bool false),.snil,.snil] [(0,2),(2,3)] [(0,t95),(1,t97)] λt98=>zau 5 [(.int .i64 0),.snil,(.bool false),.snil,.snil] 1 [(0,t98)] λt99=>zaw zaB 5 88 t9 t99 H λt100 H=>zac .add false t88 (.int .i64 1) λt101=>Kb20 (zmF t100 t86 t87 t101) H) (zfG t9 H K)
def zib:Prop:=zav t1 H λt5 H=>zav t2 H λt6 H=>zav t3 H λt7 H=>zaf 0 t5 λt18=>zae false 1 t18 H λt19=>zac .eql false t19 (.int .i64 6) λt26=>zag t26 (zaf 2 t5 λt28=>zae false 1 t28 H λt29=>zaf 1 t6 λt30=>zae false 1 t30 H λt31=>zaf 1 t7 λt32=>zae false 1 t32 H λt33=>ACalls tP zjo [t0,t29,t31,t33] H λt34 H=>zah 1 t34 λt35=>zmL .snil t34 t35 (.int .i64 0) H K) (zac .eql false t19 (.int .i64 7) λt51=>zag t51 (zaf 0 t6 λt53=>zae false 1 t53 H λt54=>zaf 0 t7 λt55=>zae false 1 t55 H λt56=>ACalls tP zpx [t54,t56] H λt57 H=>zaz t57 0 λt58=>zaz t57 1 λt59=>zah 1 t58 λt61=>zmJ .snil t58 t61 (.int .i64 0) H K) (zac .eql false t19 (.int .i64 5) λt79=>zag t79 (zae true 3 t5 H λt81=>zaf 1 t6 λt82=>zae false 1 t82 H λt83=>zaf 1 t7 λt84=>zae false 1 t84 H λt85=>ACalls tP zf6 [t0,t81,t83,t85] H λt86 H=>zah 1 t86 λt87=>zmK .snil t86 t87 (.int .i64 0) H K) (ACalls tP zc6 [(.int .i64 1)] H λt21 H=>zar [(.int .i64 0),.snil,(.bool false),.snil,.snil] [(0,2),(2,3)] [(1,t21)] λt22=>zau 5 [(.int .i64 0),.snil,(.bool false),.snil,.snil] 1 [(0,t22)] λt23=>zaw zaB 5 88 .snil t23 H λt24 H=>zfG t24 H K)))
def znj:Nat→List Bool | 200007=>rl false [0,5] | 200008=>rl false [0,5] | 12=>rl false [2,1,6,3,73,3,17] | 200014=>rl false [0,5] | _=>[]
noncomputable def ztS:Code:=Tryz.f81.body.getD .skip
noncomputable def zTp:List ResultVar:=Tryz.f81.results.toList
def znk:List AV:=ux 2 (t2::ux 6 (t9::t10::t11::ux 73 (t85::t86::t87::ux 17 [])))
def zTn:List Bool:=znj 12
noncomputable def zTl:Code:=zaq [1,1,1,1,1,1,1,0,1,0,1,1,0,0] ztS
def zTk:AExit→List AV→zaa→Prop:=zas tP znj [1,1,1,1,1,1,1,0,1,0,1,1,0] ztS (zay tP zTp K)
def zCs:Prop:=ALoop tP zTl (zTk K) (znk t2 t9 t10 t11 t85 t86 t87) H
def znl:Prop:=zae false 1 t9 H λt104=>K t104 H
def ztR:Prop:=zac .lss false t87 t86 λt88=>zag t88 (zai 4 t85 t87 λt89=>zae true 4 t89 H λt90=>zax [.snil,(.bool false),.snil,.snil] H λt13 H=>zan 4 t13 t90 H λH=>zab H (λK'=>K' t10 H) λt91=>zab H (λK'=>K' t2 H) λt92=>zab H (λK'=>zai 2 t92 (.int .i64 0) (K' · H)) λt93=>zab H (λK'=>zaf 0 t93 (K' · H)) λt94=>zab H (λK'=>zak false 1 t94 H (K' · H)) λt95=>zab H (λK'=>zaf 0 t13 (K' · H)) λt96=>zab H (λK'=>zak false 1 t96 H (K' · H)) λt97=>zab H (λK'=>zar [(.int .i64 0),.snil] [(0,1),(1,1)] [(0,t95),(1,t97)] (K' · H)) λt98=>zab H (λK'=>zaf 1 t13 (K' · H)) λt99=>zab H (λK'=>zak true 3 t99 H (K' · H)) λt100=>zab H (λK'=>K' t11 H) λt101=>aCallV tP t91 [t98,t100,t101] H λt102 H=>zac .add false t87 (.int .i64 1) λt103=>Kb12 (znk t2 t9 t10 t11 t85 t86 t103) H) (znl t9 H K)
def zni:Prop:=zav t1 H λt5 H=>zah 1 t2 λt15=>zac .eql false t15 (.int .i64 0) λt16=>zag t16 (ACalls tP zc6 [(.int .i64 1)] H λt18 H=>zar [.snil,(.bool false),.snil,.snil] [(0,1),(1,3)] [(0,t3),(1,t18)] λt19=>zau 4 [.snil,(.bool false),.snil,.snil] 1 [(0,t19)] λt20=>K t20 H) (zah 1 t3 λt22=>zac .eql false t22 (.int .i64 0) λt23=>zag t23 (ACalls tP zc6 [(.int .i64 1)] H λt25 H=>zar [.snil,(.bool false),.snil,.snil] [(0,1),(1,3)] [(0,t2),(1,t25)] λt26=>zau 4 [.snil,(.bool false),.snil,.snil] 1 [(0,t26)] λt27=>K t27 H) (zax [.snil] H λt9 H=>zcw ziQ [t9] λt28=>zab H (λK'=>K' t28 H) λt29=>zab H (λK'=>K' t2 H) λt30=>zab H (λK'=>zai 2 t30 (.int .i64 0) (K' · H)) λt31=>zab H (λK'=>zak true 2 t31 H (K' · H)) λt32=>zaE H (λH K'=>ACalls tP zc6 [(.int .i64 1)] H K') λt33=>zab H (λK'=>K' t0 H) λt34=>zab H (λK'=>zak true 3 t5 H (K' · H)) λt35=>zab H (λK'=>K' t2 H) λt36=>zab H (λK'=>zaR 1 2 t36 (some (.int .i64 1)) none (K' · H)) λt37=>zab H (λK'=>K' t3 H) λt38=>zaE H (λH K'=>ACalls tP zf6 [t34,t35,t37,t38] H K') λt39=>aCallV tP t29 [t32,t33,t39] H λt40 H=>zab H (λK'=>K' t28 H) λt41=>zab H (λK'=>K' t3 H) λt42=>zab H (λK'=>zai 2 t42 (.int .i64 0) (K' · H)) λt43=>zab H (λK'=>zak true 2 t43 H (K' · H)) λt44=>zaE H (λH K'=>ACalls tP zc6 [(.int .i64 1)] H K') λt45=>zab H (λK'=>K' t0 H) λt46=>zab H (λK'=>zak true 3 t5 H (K' · H)) λt47=>zab H (λK'=>K' t2 H) λt48=>zab H (λK'=>K' t3 H) λt49=>zab H (λK'=>zaR 1 2 t49 (some (.int .i64 1)) none (K' · H)) λt50=>zaE H (λH K'=>ACalls tP zf6 [t46,t47,t48,t50] H K') λt51=>aCallV tP t41 [t44,t45,t51] H λt52 H=>zab H (λK'=>K' t2 H) λt53=>zab H (λK'=>zai 2 t53 (.int .i64 0) (K' · H)) λt54=>zab H (λK'=>zaf 0 t54 (K' · H)) λt55=>zab H (λK'=>zak false 1 t55 H (K' · H)) λt56=>zab H (λK'=>K' t3 H) λt57=>zab H (λK'=>zai 2 t57 (.int .i64 0) (K' · H)) λt58=>zab H (λK'=>zaf 0 t58 (K' · H)) λt59=>zab H (λK'=>zak false 1 t59 H (K' · H)) λt60=>zab H (λK'=>zac .eql false t56 t60 (K' · H)) λt61=>zag t61 (zab H (λK'=>K' t0 H) λt62=>zab H (λK'=>zak true 3 t5 H (K' · H)) λt63=>zab H (λK'=>K' t2 H) λt64=>zab H (λK'=>zaR 1 2 t64 (some (.int .i64 1)) none (K' · H)) λt65=>zab H (λK'=>K' t3 H) λt66=>zab H (λK'=>zaR 1 2 t66 (some (.int .i64 1)) none (K' · H)) λt67=>zaE H (λH K'=>ACalls tP zf6 [t62,t63,t65,t67] H K') λt68=>zab H (λK'=>K' t68 H) λt11=>zab H (λK'=>K' t0 H) λt69=>zab H (λK'=>K' t0 H) λt70=>zab H (λK'=>zak true 3 t5 H (K' · H)) λt71=>zab H (λK'=>K' t2 H) λt72=>zab H (λK'=>zai 2 t72 (.int .i64 0) (K' · H)) λt73=>zab H (λK'=>zaf 0 t73 (K' · H)) λt74=>zab H (λK'=>zak false 1 t74 H (K' · H)) λt75=>zaE H (λH K'=>ACalls tP zoT [t70,t71,t75] H K') λt76=>zab H (λK'=>K' t2 H) λt77=>zab H (λK'=>zai 2 t77 (.int .i64 0) (K' · H)) λt78=>zab H (λK'=>zaf 1 t78 (K' · H)) λt79=>zab H (λK'=>zak false 1 t79 H (K' · H)) λt80=>zab H (λK'=>K' t3 H) λt81=>zab H (λK'=>zai 2 t81 (.int .i64 0) (K' · H)) λt82=>zab H (λK'=>zaf 1 t82 (K' · H)) λt83=>zab H (λK'=>zak false 1 t83 H (K' · H)) λt84=>zaE H (λH K'=>ACalls tP zjo [t69,t76,t80,t84] H K') λt85=>zab H (λK'=>zah 1 t85 (K' · H)) λt86=>zab H (λK'=>K' (.int .i64 0) H) λt87=>zCs t2 t9 t28 t11 t85 t86 t87 H K) (znl t9 H K)))
def zkL:Nat→List Bool | 2=>rl false [3,3,3,3,18] | _=>[]
noncomputable def zrc:Code:=Tryz.f133.body.getD .skip
noncomputable def zJ4:List ResultVar:=Tryz.f133.results.toList
def zkM:List AV:=ux 3 (t3::t4::t5::ux 3 (t9::t10::t11::ux 18 []))
def zJ2:List Bool:=zkL 2
noncomputable def zJ0:Code:=zaq [1,1,0,0] zrc
def zJZ:AExit→List AV→zaa→Prop:=zas tP zkL [1,1,0] zrc (zay tP zJ4 K)
def zzd:Prop:=ALoop tP zJ0 (zJZ K) (zkM t3 t4 t5 t9 t10 t11) H
def zrb:Prop:=zac .lss false t11 t10 λt12=>zag t12 (zai 4 t9 t11 λt13=>zae true 4 t13 H λt14=>zax [.snil,(.bool false),.snil,.snil] H λt8 H=>zan 4 t8 t14 H λH=>zab H (λK'=>zak false 1 t3 H (K' · H)) λt15=>zab H (λK'=>zak true 2 t4 H (K' · H)) λt16=>zab H (λK'=>zau 2 [(.int .i64 0),.snil] 1 [(0,t16)] (K' · H)) λt17=>zab H (λK'=>zaf 0 t8 (K' · H)) λt18=>zab H (λK'=>zak false 1 t18 H (K' · H)) λt19=>zab H (λK'=>zau 1 [.snil] 2 [(0,t17),(1,t19)] (K' · H)) λt20=>zaE H (λH K'=>ACalls tP zoS [t20] H K') λt21=>zab H (λK'=>zak true 3 t5 H (K' · H)) λt22=>zab H (λK'=>zaf 1 t8 (K' · H)) λt23=>zab H (λK'=>zak true 3 t23 H (K' · H)) λt24=>zaE H (λH K'=>ACalls tP zeI [t22,t24] H K') λt25=>zab H (λK'=>zar [.snil,(.bool false),.snil,.snil] [(0,1),(1,3)] [(0,t21),(1,t25)] (K' · H)) λt26=>zab H (λK'=>zau 4 [.snil,(.bool false),.snil,.snil] 1 [(0,t26)] (K' · H)) λt27=>zaw zbq 4 80 t15 t27 H λt28 H=>zan 1 t3 t28 H λH=>zac .add false t11 (.int .i64 1) λt29=>Kb2 (zkM t3 t4 t5 t9 t10 t29) H) (zaD [] (K · H))
def zzc:Prop:=zav t0 H λt4 H=>zav t1 H λt5 H=>zah 1 t2 λt10=>zzd t3 t4 t5 t2 t10 (.int .i64 0) H K
variable {t0 t1 t2 t3 t4 t5 t9 t10 t11 t34 t35 t36 t60 t61 t62 t85 t86 t87 t88} {H} {K} {Kb2 Kb6 Kb12 Kb13 Kb20}
theorem zRh (Inv:Nat→AV→AV→zaa→Prop) (n:Nat) (h0:HSc H→Inv n t9 t36 H)
  (ac:Rd2 (λt9=>λt36=>zmG t9 t34 t35 t36) (λt9=>λt36=>λH Kb6=>zth t9 t34 t35 t36 H K Kb6) H Inv):zmL t9 t34 t35 t36 H K:=
 lp2 (M:=zdZ) zRk t9 t36 (by kernel_rfl) Inv n h0 ac
theorem zRf (Inv:Nat→AV→AV→zaa→Prop) (n:Nat) (h0:HSc H→Inv n t9 t62 H)
  (ac:Rd2 (λt9=>λt62=>zic t9 t60 t61 t62) (λt9=>λt62=>λH Kb13=>ztf t9 t60 t61 t62 H K Kb13) H Inv):zmJ t9 t60 t61 t62 H K:=
 lp2 (M:=zdZ) zRi t9 t62 (by kernel_rfl) Inv n h0 ac
theorem zRg (Inv:Nat→AV→AV→zaa→Prop) (n:Nat) (h0:HSc H→Inv n t9 t88 H)
  (ac:Rd2 (λt9=>λt88=>zmF t9 t86 t87 t88) (λt9=>λt88=>λH Kb20=>ztg t9 t86 t87 t88 H K Kb20) H Inv):zmK t9 t86 t87 t88 H K:=
 lp2 (M:=zdZ) zRj t9 t88 (by kernel_rfl) Inv n h0 ac
theorem zRl (h:HSc H→zib t0 t1 t2 t3 H K):ACalls tP zhn [t0,t1,t2,t3] H K:=
 acb zdZ Tryz.func43 zfF (by kernel_rfl) (by kernel_rfl) h
theorem zTm (Inv:Nat→AV→zaa→Prop) (n:Nat) (h0:HSc H→Inv n t87 H)
  (ac:Rd1 (λt87=>znk t2 t9 t10 t11 t85 t86 t87) (λt87=>λH Kb12=>ztR t2 t9 t10 t11 t85 t86 t87 H K Kb12) H Inv):zCs t2 t9 t10 t11 t85 t86 t87 H K:=
 lp1 (M:=znj) zTn t87 (by kernel_rfl) Inv n h0 ac
theorem zTo (h:HSc H→zni t0 t1 t2 t3 H K):ACalls tP zf6 [t0,t1,t2,t3] H K:=
 acb znj Tryz.func81 ztS (by kernel_rfl) (by kernel_rfl) h
theorem zJ1 (Inv:Nat→AV→zaa→Prop) (n:Nat) (h0:HSc H→Inv n t11 H)
  (ac:Rd1 (λt11=>zkM t3 t4 t5 t9 t10 t11) (λt11=>λH Kb2=>zrb t3 t4 t5 t9 t10 t11 H K Kb2) H Inv):zzd t3 t4 t5 t9 t10 t11 H K:=
 lp1 (M:=zkL) zJ2 t11 (by kernel_rfl) Inv n h0 ac
theorem zJ3 (h:HSc H→zzc t0 t1 t2 t3 H K):ACalls tP ziQ [t0,t1,t2,t3] H K:=
 acb zkL Tryz.func133 zrc (by kernel_rfl) (by kernel_rfl) h
end
end Go.Proofs.YtdmamdnkcefmmaaGreatDoor
namespace Go.Proofs.YtdmamdnkcefmmaaGreatDoor
open Go Go.Abs
def bw (H:zaa) (io iv:Nat) (l:List (List IT × Nat)):zaa:=(H.set iv (.vec zbq 4 l.length (zaO l).flatten)).set io (.cells [.ov iv l.length])
structure Bw (H:zaa) (io iv:Nat) (l:List (List IT × Nat)):Prop where
 ne:io≠iv
 h1:H[io]?=some (.cells [.ov iv l.length])
 h2:H[iv]?=some (.vec zbq 4 l.length (zaO l).flatten)
section
variable {H J:zaa} {io iv:Nat} {l l':List (List IT × Nat)}
@[simp] theorem zn1:(bw H io iv l).length=H.length:=by simp[bw]
theorem Bw.app (h:Bw H io iv l):Bw (H++J) io iv l:=⟨h.ne,zbF h.h1,zbF h.h2⟩
theorem Bw.bw_app (h:Bw H io iv l):bw (H++J) io iv l'=bw H io iv l'++J:=by unfold bw;rw[List.set_append_left _ _ (zbc h.h2),List.set_append_left _ _ (by simpa using zbc h.h1)]
theorem zDK (aB:io≠iv):bw (bw H io iv l) io iv l'=bw H io iv l':=by unfold bw;rw[List.set_comm _ _ aB,List.set_set,List.set_set]
theorem Bw.next (h:Bw H io iv l):Bw (bw H io iv l') io iv l':=by
 have l1:=zbc h.h1;have l2:=zbc h.h2;refine⟨h.ne,?_,?_⟩
 ·unfold bw;rw[List.getElem?_set_self (by simpa using l1)]
 ·unfold bw;rw[List.getElem?_set_ne h.ne,List.getElem?_set_self l2]
theorem zxd (l:List (List IT × Nat)) (n:Nat):(zaO l).flatten.all (AV.scA n)=true:=by
 rw[List.all_eq_true];intro x hx;obtain⟨c,hc,hx⟩:=List.mem_flatten.1 hx;obtain⟨r,_,rfl⟩:=List.mem_map.1 hc;rcases List.mem_cons.1 hx with rfl | hx
 ·rfl
 ·exact List.all_eq_true.1 (zhD _ _) x hx
theorem Bw.hsc (h:Bw H io iv l) (hs:HSc H):HSc (bw H io iv l'):=by have l2:=zbc h.h2;unfold bw;refine HSc.set (HSc.set hs (by simp only[AB.sc];exact zxd _ _)) ?_;simp[AB.sc,AV.scA,AV.scB];omega
theorem Bw.self (h:Bw H io iv l):bw H io iv l=H:=by
 unfold bw;have e1:H.set iv (.vec zbq 4 l.length (zaO l).flatten)=H:=by
  refine List.ext_getElem? λi=>?_;by_cases hi:iv=i
  ·subst hi;rw[List.getElem?_set_self (zbc h.h2),h.h2]
  ·rw[List.getElem?_set_ne hi]
 rw[e1];refine List.ext_getElem? λi=>?_;by_cases hi:io=i
 ·subst hi;rw[List.getElem?_set_self (zbc h.h1),h.h1]
 ·rw[List.getElem?_set_ne hi]
end
theorem zu6:zd7 tP ziQ=true:=by kernel_rfl
theorem znY (e:IT) (he:e.nodes≤1000) (c:Nat) (hc:c≤729) (rest:List (List IT × Nat)) (hr:∀ r∈rest,r.2≤729∧r.1.length≤1000) (hl:rest.length≤729) (H:zaa) (io iv:Nat) (l:List (List IT × Nat)) (hP:Bw H io iv l) (bn:l.length≤100000)
  (K:Kt) (hK:K (.tup []) (bw H io iv (l++rest.map λr=>(e::r.1,c*r.2)))):ACalls tP ziQ [.agg e.cs,.agg (zal (c:Int)),.sl (zaO rest) .none,.ptr io 0] H K:=by
 refine ACalls.out (zJ3 λhs=>?_);obtain⟨x,y,az,hx,hy⟩:=zc5 e;obtain⟨g,hg⟩:∃ g:List IT × Nat→List IT × Nat,g=λr=>(e::r.1,c*r.2):=⟨_,rfl⟩;rw[←hg]at hK;simp[zzc,Nat.add_assoc];have hsc:∀ l',HSc (bw H io iv l'++[.cells e.cs,.cells (zal (c:Int))]):=λl'=>(hP.hsc hs).append (by
  obtain⟨a,b⟩:=e;simp[AB.sc,IT.cs,zal,AV.scA,AV.scB])
 refine zJ1 (Inv:=λq t11 H'=>∃ i:Nat,i≤rest.length∧rest.length-i=q∧t11=.int .i64 i∧H'=bw H io iv (l++(rest.take i).map g)++[.cells e.cs,.cells (zal (c:Int))]) rest.length ?_ ?_
 ·intro _;exact⟨0,by omega,rfl,rfl,by simp[hP.self]⟩
 ·rintro q t11 H' ⟨i,hi,rfl,rfl,rfl⟩ bZ am aP Kb ar;by_cases bm:i<rest.length
  ·obtain⟨r1,r2⟩:=hr _ (List.getElem_mem bm);have kE:Bw (bw H io iv (l++(rest.take i).map g)) io iv (l++(rest.take i).map g):=hP.next;obtain⟨ah,dA⟩:∃ ah,ah=l++(rest.take i).map g:=⟨_,rfl⟩;have cK:l++(rest.take (i+1)).map g=ah++[g rest[i]]:=by rw[dA,List.take_succ_eq_append_getElem bm];simp only[List.map_append,List.map_cons,List.map_nil,List.append_assoc]
   have dz:ah.length=l.length+i:=by rw[dA];simp;omega
   rw[←dA]at kE ⊢;have g1:∀ J,(bw H io iv ah++J)[io]?=some (.cells [.ov iv ah.length]):=λJ=>zbF kE.h1;have g2:∀ J,(bw H io iv ah++J)[iv]?=some (.vec zbq 4 ah.length (zaO ah).flatten):=λJ=>zbF kE.h2;have g3:∀ b J,(bw H io iv ah++AB.cells b::J)[H.length]?=some (.cells b):=λb J=>by rw[←zn1 (H:=H) (io:=io) (iv:=iv) (l:=ah)];simp
   have g4:∀ b b' J,(bw H io iv ah++AB.cells b::AB.cells b'::J)[H.length+1]?=some (.cells b'):=λb b' J=>by rw[←zn1 (H:=H) (io:=io) (iv:=iv) (l:=ah)];simp
   have g5:∀ b b' b'' J,(bw H io iv ah++AB.cells b::AB.cells b'::AB.cells b''::J)[H.length+2]?=some (.cells b''):=λb b' b'' J=>by rw[←zn1 (H:=H) (io:=io) (iv:=iv) (l:=ah)];simp
   have kD:plain ([.int .i64 0,.snil]:List AV)=some [.int .i64 0,.sl [] .none]:=rfl;simp[zrb,bm,g1,g3,g4,g5,zau,zaV,kD,zjH,plain,AV.pd];refine zaC (.sl (IT.css (e::rest[i].1)) .none) (λJ=>by
    have:=zGz [e] rest[i].1 (by simp) (by simp;omega) (bw H io iv ah++[.cells e.cs,.cells (zal (c:Int)),.cells (.sl (IT.css rest[i].1) .none::zal (rest[i].2:Int))]++J) (λv H'=>v=.sl (IT.css (e::rest[i].1)) .none∧H'=bw H io iv ah++[.cells e.cs,.cells (zal (c:Int)),.cells (.sl (IT.css rest[i].1) .none::zal (rest[i].2:Int))]++J) ⟨rfl,rfl⟩;exact this) ?_
   refine zaC (.agg (zal ((c*rest[i].2:Nat):Int))) (λJ=>zig _ _ (zdq (Nat.lt_of_le_of_lt hc (by decide))) (zdq (Nat.lt_of_le_of_lt r1 (by decide))) _ _ ⟨by rw[Int.natCast_mul],rfl⟩) ?_;have aG:([.sl (IT.css (e::rest[i].1)) .none::zal ((c*rest[i].2:Nat):Int)]:List (List AV))=zaO [g rest[i]]:=by rw[hg];rfl
   have cq:plain (AV.sl (IT.css (e::rest[i].1)) .none::zal ((c*rest[i].2:Nat):Int))=some (.sl (IT.css (e::rest[i].1)) .none::zal ((c*rest[i].2:Nat):Int)):=by simp[plain,AV.pd,zc8]
   rw[Int.natCast_mul]at cq aG;have aU:∀ J:zaa,(((bw H io iv ah++J).set iv (.vec zbq 4 (ah.length+1) ((zaO ah).flatten++(.sl (IT.css (e::rest[i].1)) .none::zal ((c:Int)*(rest[i].2:Int)))))).set io (.cells [.ov iv (ah.length+1)]))=bw H io iv (ah++[g rest[i]])++J:=by intro J;have h1:=kE.bw_app (J:=J) (l':=ah++[g rest[i]]);rw[zDK hP.ne]at h1;rw[←h1];unfold bw;rw[zpX,←aG];simp
   have g6:∀ X J,((bw H io iv ah++J).set iv X)[io]?=some (.cells [.ov iv ah.length]):=λX J=>by rw[List.getElem?_set_ne (λh=>hP.ne h.symm)];exact g1 J
   simp[zar,zaJ,cq,zaw,zaL,zaI,g2,g6,wi i (by omega)];refine⟨⟨by omega,by omega⟩,?_⟩;rw[aU,←cK];exact ar _ _ ⟨rest.length-(i+1),by omega,Back.at (J:=[.cells (.sl (IT.css rest[i].1) .none::zal (rest[i].2:Int))]) (H2:=bw H io iv (l++(rest.take (i+1)).map g)++[.cells e.cs,.cells (zal (c:Int))]) (by simp) (by simp) (hsc _) (by
    have l1:=zbc hP.h1;simp[zkM,ux,AV.sc,AV.scA,AV.scB,AV.scV];try omega) ⟨_,rfl,i+1,by omega,rfl,rfl,rfl⟩⟩
  ·obtain rfl:i=rest.length:=by omega
   rw[List.take_length]at *;simp[zrb];exact zHJ (J:=[_,_]) rfl (by simp) (hP.hsc hs) hK
def hpB (H:zaa) (T:VT) (l:List (List IT × Nat)):zaa:=H++[.cells T.cs,.cells [.ov (H.length+2) l.length],.vec zbq 4 l.length (zaO l).flatten]
theorem hpB_B {H:zaa} {T:VT} {l:List (List IT × Nat)}:Bw (hpB H T l) (H.length+1) (H.length+2) l:=⟨by omega,by simp[hpB],by simp[hpB]⟩
theorem zok {H:zaa} {T:VT} {l l':List (List IT × Nat)}:bw (hpB H T l) (H.length+1) (H.length+2) l'=hpB H T l':=by simp[bw,hpB,List.set_append_right]
@[simp] theorem zXJ {H:zaa} {T:VT} {l:List (List IT × Nat)}:(hpB H T l).length=H.length+3:=by simp[hpB]
@[simp] theorem zXH {H:zaa} {T:VT} {l:List (List IT × Nat)} (h:H.length<(hpB H T l).length):(hpB H T l)[H.length]=.cells T.cs:=by simp[hpB]
@[simp] theorem zvM {H:zaa} {T:VT} {l:List (List IT × Nat)}:(hpB H T l)[H.length]?=some (.cells T.cs):=by simp[hpB]
@[simp] theorem zXI {H:zaa} {T:VT} {l:List (List IT × Nat)} (h:H.length+1<(hpB H T l).length):(hpB H T l)[H.length+1]=.cells [.ov (H.length+2) l.length]:=by simp[hpB,List.getElem_append]
theorem zwY:∀ l:List (List IT × Nat),plain (zaO l).flatten=some (zaO l).flatten
 | []=>rfl
 | r::l=>by show plain ((.sl (IT.css r.1) .none::zal (r.2:Int))++(zaO l).flatten)=_;exact zhB (by simp[plain,AV.pd,zc8]) (zwY l)
theorem zFA {H:zaa} {T:VT} {K:Kt} (l:List (List IT × Nat)) (hs:HSc H) (hK:K (.sl (zaO l) .none) H):Out H.length K (.ov (H.length+2) l.length) (hpB H T l):=
 ⟨.sl (zaO l) .none,H,_,rfl,Nat.le_refl _,hs,.one (.vfz (H.length+2) zbq 4 l.length (zaO l).flatten (zaO l) (by omega) (by simp[hpB]) (zwY l) (by simp) (λc hc=>by
  obtain⟨p,_,rfl⟩:=List.mem_map.1 hc;simp)),hK⟩
theorem zE2 {aa:List Dat} (hk:zbr aa) (h8:∀ D∈aa,D.cons.length≤8) (hD:zbx aa=true) {f:Nat} (hQ:zir aa f) (hM:ziq aa f):ziq aa (f+1):=by
 intro t l m hf gC eX kF hl hm h6 hn H K hK;obtain⟨k,tn,tks⟩:=t;simp only[VT.kind]at kF;subst kF;refine ACalls.out (zTo λhs=>?_);have dN:(VT.mk 5 tn tks).cs=[.int .i64 5,.int .i64 tn,.sl (VT.css tks) .none]:=rfl;have jt:plain ([.snil,.bool false,.snil,.snil]:List AV)=some [.sl [] .none,.bool false,.sl [] .none,.sl [] .none]:=rfl;cases l with
 | nil=>
  have e:za0 aa (f+1) (.mk 5 tn tks) [] m=[(m,1)]:=by rw[za0]
  rw[e]at hK;simp[zni,IT.css,dN,Nat.add_assoc];refine zd1 1 (by omega) _ _ ?_;simp[zar,zaJ,zau,zaV,plain,AV.pd,AV.known,zc8,jt];exact Out.at (b:=.sl (zaO [(m,1)]) .none) rfl (Nat.le_refl _) hs (.atom (.sl _ _)) rfl rfl hK
 | cons a l=>
  cases m with
  | nil=>
   have e:za0 aa (f+1) (.mk 5 tn tks) (a::l) []=[(a::l,1)]:=by rw[za0]
   rw[e]at hK;have hb:(((l.length:Int)+1) == 0)=false:=by simp;omega
   simp[zni,dN,hb,Nat.add_assoc];refine zd1 1 (by omega) _ _ ?_;simp[zar,zaJ,zau,zaV,plain,AV.pd,AV.known,zc8,jt];exact Out.at (b:=.sl (zaO [(a::l,1)]) .none) rfl (Nat.le_refl _) hs (.atom (.sl _ _)) rfl rfl hK
  | cons b m=>
   obtain⟨ca,pa⟩:=a;obtain⟨cb,pb⟩:=b;obtain⟨la,ll,el⟩:=zjL h8 _ _ l hl;obtain⟨mb,mm,em⟩:=zjL h8 _ _ m hm;obtain⟨ca0,ca8,psa,fu,jp,kz,ea⟩:=zhE la;obtain⟨cb0,cb8,psb,jP,cx,kA,eb⟩:=zhE mb;have na:=(IT.mk ca pa).nodes_pos;have nb:=(IT.mk cb pb).nodes_pos;simp only[IT.nodesL]at hf hn;have bC:(((l.length:Int)+1) == 0)=false:=by simp;omega
   have bD:(((m.length:Int)+1) == 0)=false:=by simp;omega
   have tl1:(List.take (l.length+1) (IT.css (.mk ca pa::l))).tail=IT.css l:=by simp[IT.css,List.take_of_length_le]
   have tl2:(List.take (m.length+1) (IT.css (.mk cb pb::m))).tail=IT.css m:=by simp[IT.css,List.take_of_length_le]
   have kG:∀ (x:List IT),∀ c∈IT.css x,c.length=2:=λx c hc=>by rw[IT.css_map]at hc;obtain⟨v,_,rfl⟩:=List.mem_map.1 hc;simp
   simp[zni,dN,bC,bD,Nat.add_assoc];refine⟨rfl,?_⟩;refine zaC (.agg (zal ((1:Nat):Int))) (λJ=>zd1 1 (by omega) _ _ ⟨rfl,rfl⟩) ?_;refine⟨kG _,?_⟩;rw[tl1,←dN];obtain⟨A,hA⟩:∃ A,A=za0 aa f (.mk 5 tn tks) l (.mk cb pb::m):=⟨_,rfl⟩;obtain⟨B,hB⟩:∃ B,B=za0 aa f (.mk 5 tn tks) (.mk ca pa::l) m:=⟨_,rfl⟩;obtain⟨C,hC⟩:∃ C,C=za0 aa f (.mk 5 tn tks) l m:=⟨_,rfl⟩;obtain⟨A1,A2,A3,A4⟩:=zix h8 (f:=f) (t:=.mk 5 tn tks) (l:=l) (m:=.mk cb pb::m) (by simp only[IT.nodesL];omega) ll hm (by omega);obtain⟨B1,B2,B3,B4⟩:=zix h8 (f:=f) (t:=.mk 5 tn tks) (l:=.mk ca pa::l) (m:=m) (by simp only[IT.nodesL];omega) hl mm (by omega);obtain⟨C1,C2,C3,C4⟩:=zix h8 (f:=f) (t:=.mk 5 tn tks) (l:=l) (m:=m) (by omega) ll mm (by omega);rw[←hA]at A1 A2 A3 A4;rw[←hB]at B1 B2 B3 B4;rw[←hC]at C1 C2 C3 C4;simp only[IT.nodesL]at A1 B1;refine zaC (.sl (zaO A) .none) (λJ=>by rw[hA];exact hM _ l (.mk cb pb::m) (by simp only[IT.nodesL];omega) gC eX rfl ll hm (by omega) (by simp only[IT.nodesL];omega) _ _ ⟨rfl,rfl⟩) ?_;simp only[aCallV,zu6];refine ACalls.ovC (id:=H.length+1) (j:=0) (cs:=[.snil]) zbq 4 (by simp) rfl ?_;have aU:(H++[AB.cells (VT.mk 5 tn tks).cs,.cells [.snil]]).set (H.length+1) (.cells ([AV.snil].set 0 (.ov (H++[AB.cells (VT.mk 5 tn tks).cs,.cells [.snil]]).length 0)))++[.vec zbq 4 0 []]=hpB H (.mk 5 tn tks) []:=by simp[hpB,List.set_append_right,zaO]
   rw[aU];have lS:∀ r:List IT × Nat,IT.nodesL r.1≤700→r.1.length≤1000:=λr h=>by have:=IT.len_le r.1;omega
   refine znY (.mk ca pa) (by simp only[IT.nodes]at hn ⊢;omega) 1 (by omega) A (λr hr=>⟨(A1 r hr).2.1,lS r (by have:=(A1 r hr).2.2.2.2;omega)⟩) A4 _ (H.length+1) (H.length+2) [] hpB_B (by simp) _ ?_;rw[zok];simp only[List.nil_append,Nat.one_mul];obtain⟨s1,bJ⟩:∃ s1:List (List IT × Nat),s1=A.map λr=>(IT.mk ca pa::r.1,r.2):=⟨_,rfl⟩;rw[←bJ];have hs1l:s1.length≤729:=by rw[bJ];simpa using A4
   have h0:=zvM (H:=H) (T:=.mk 5 tn tks) (l:=s1);refine zaC (.agg (zal ((1:Nat):Int))) (λJ=>zd1 1 (by omega) _ _ ⟨rfl,rfl⟩) ?_;simp[h0,dN];refine⟨kG _,?_⟩;rw[tl2,←dN];refine zaC (.sl (zaO B) .none) (λJ=>by rw[hB];exact hM _ (.mk ca pa::l) m (by simp only[IT.nodesL];omega) gC eX rfl hl mm (by omega) (by simp only[IT.nodesL];omega) _ _ ⟨rfl,rfl⟩) ?_;refine znY (.mk cb pb) (by simp only[IT.nodes]at hn ⊢;omega) 1 (by omega) B (λr hr=>⟨(B1 r hr).2.1,lS r (by have:=(B1 r hr).2.2.2.2;omega)⟩) B4 _ (H.length+1) (H.length+2) s1 hpB_B (by omega) _ ?_;rw[zok];simp only[Nat.one_mul];obtain⟨s2,er⟩:∃ s2:List (List IT × Nat),s2=s1++B.map λr=>(IT.mk cb pb::r.1,r.2):=⟨_,rfl⟩;rw[←er];have hs2l:s2.length≤1458:=by rw[er];simp;omega
   have h02:=λl'=>zvM (H:=H) (T:=.mk 5 tn tks) (l:=l');have eY:∀ l',l'=za0 aa (f+1) (.mk 5 tn tks) (.mk ca pa::l) (.mk cb pb::m)→znl (.ptr (H.length+1) 0) (hpB H (.mk 5 tn tks) l') (Out H.length K):=by rintro l' rfl;have h1:=(hpB_B (H:=H) (T:=.mk 5 tn tks) (l:=za0 aa (f+1) (.mk 5 tn tks) (.mk ca pa::l) (.mk cb pb::m))).h1;have h2:=(hpB_B (H:=H) (T:=.mk 5 tn tks) (l:=za0 aa (f+1) (.mk 5 tn tks) (.mk ca pa::l) (.mk cb pb::m))).h2;simp[znl,h1];exact zFA _ hs hK
   by_cases bb:ca=cb
   ·subst bb;simp[h02,dN,IT.cs];refine⟨kG _,kG _,?_⟩;rw[←dN];rw[fu]at jP;cases jP;obtain⟨R,hR⟩:∃ R,R=zcm aa f psa pa pb:=⟨_,rfl⟩;obtain⟨R1,R2,R3,R4⟩:=zu0 h8 (f:=f) (ts:=psa) (l:=pa) (m:=pb) (by simp only[IT.nodes]at hf;omega) jp.symm cx.symm kz kA (by omega);rw[←hR]at R1 R2 R3 R4;obtain⟨lf,js⟩:∃ lf,zbm aa (.mk 5 tn tks) ca=some lf:=by
     cases js:zbm aa (.mk 5 tn tks) ca with
     | none=>simp[zbd,js]at fu
     | some lf=>exact⟨lf,rfl⟩
    obtain⟨bs,kp,hlb2,jN,dh,cz,_⟩:=zwO hk js;rw[fu]at dh;have dH:psa=pick lf bs:=Option.some.inj dh;have hpsl:psa.length≤8:=by rw[dH];have:=zjF lf bs;omega
    have hpsv:∀ x∈psa,x.nodes≤1000∧za1 aa 0 x=true:=λx hx=>by rw[dH]at hx;have hm:=zhz hx;have:=cz x hm;exact⟨by omega,zvz hD (zHL eX) js _ hm⟩
    refine zaC (.sl (zaO C) .none) (λJ=>by rw[hC];exact hM _ l m (by omega) gC eX rfl ll mm (by omega) (by omega) _ _ ⟨rfl,rfl⟩) ?_;refine zaC (.sl (VT.css psa) .none) (λJ=>zKk hk tn tks gC ca fu _ _ ⟨rfl,rfl⟩) ?_;refine zaC (.sl (zaO R) .none) (λJ=>by rw[hR];exact hQ psa pa pb (by simp only[IT.nodes]at hf;omega) jp.symm cx.symm (by omega) hpsv kz kA (by omega) (by simp only[IT.nodes]at hn;omega) _ _ ⟨rfl,rfl⟩) ?_;simp;obtain⟨F,hF⟩:∃ F:List IT × Nat→List (List IT × Nat),F=λr=>C.map λx=>(IT.mk ca r.1::x.1,r.2*x.2):=⟨_,rfl⟩;have gE:s2++R.flatMap F=za0 aa (f+1) (.mk 5 tn tks) (.mk ca pa::l) (.mk ca pb::m):=by rw[za0,if_pos (show zaU (.mk ca pa)=zaU (.mk ca pb) from rfl),er,bJ,hA,hB,hF,hR,hC];simp only[zaU,zaF,fu,Option.getD_some]
    have gw:R.length*C.length≤729:=by refine Nat.le_trans (Nat.mul_le_mul (ze8 λp hp=>(R1 p hp).1) (ze8 λp hp=>(C1 p hp).1)) (Nat.le_trans (Nat.mul_le_mul R2 C2) ?_);rw[←zpG (by omega) (by omega)];exact zeh (by omega)
    have gn:∀ i,((R.take i).flatMap F).length≤729:=λi=>by
     have:∀ L:List (List IT × Nat),(L.flatMap F).length=L.length*C.length:=λL=>by
      induction L with
      | nil=>simp
      | cons r L ih=>rw[List.flatMap_cons,List.length_append,ih,hF,List.length_map,List.length_cons,Nat.succ_mul];omega
     rw[this];exact Nat.le_trans (Nat.mul_le_mul_right _ (by simp;omega)) gw
    have hscB:∀ l',HSc (hpB H (.mk 5 tn tks) l'):=λl'=>hs.append (by simp only[AB.sc,List.all_cons,List.all_nil,zxd];simp[VT.cs,AV.scA,AV.scB]);refine zTm (Inv:=λq t87 H'=>∃ i:Nat,i≤R.length∧R.length-i=q∧t87=.int .i64 i∧H'=hpB H (.mk 5 tn tks) (s2++(R.take i).flatMap F)) R.length ?_ ?_
    ·intro _;exact⟨0,by omega,rfl,rfl,by simp⟩
    ·rintro q t87 H' ⟨i,hi,rfl,rfl,rfl⟩ hsc12 am aP Kb ar;by_cases bm:i<R.length
     ·obtain⟨r1,r2,r3,_,_,r6⟩:=R1 _ (List.getElem_mem bm);have cK:s2++(R.take (i+1)).flatMap F=(s2++(R.take i).flatMap F)++F R[i]:=by rw[List.take_succ_eq_append_getElem bm];simp only[List.flatMap_append,List.flatMap_cons,List.flatMap_nil,List.append_nil,List.append_assoc]
      have bi:=gn i;obtain⟨ah,dA⟩:∃ ah,ah=s2++(R.take i).flatMap F:=⟨_,rfl⟩;have dz:ah.length≤3000:=by rw[dA,List.length_append];omega
      rw[←dA]at cK ⊢;simp[ztR,bm,IT.cs,IT.css,zar,zaJ,AV.known];simp only[aCallV,zu6];have hBa:Bw (hpB H (.mk 5 tn tks) ah++[.cells (.sl (IT.css R[i].1) .none::zal (R[i].2:Int))]) (H.length+1) (H.length+2) ah:=hpB_B.app;refine znY (.mk ca R[i].1) (by simp only[IT.nodes]at hn ⊢;omega) R[i].2 (by omega) C (λr hr=>⟨(C1 r hr).2.1,lS r (by have:=(C1 r hr).2.2.2.2;omega)⟩) C4 _ (H.length+1) (H.length+2) ah hBa (by omega) _ ?_;rw[hpB_B.bw_app,zok];have hFi:F R[i]=C.map λr=>(IT.mk ca R[i].1::r.1,R[i].2*r.2):=by rw[hF]
      rw[←hFi,←cK,wi i (by omega)];exact ar _ _ ⟨R.length-(i+1),by omega,Back.at (J:=[.cells (.sl (IT.css R[i].1) .none::zal (R[i].2:Int))]) (H2:=hpB H (.mk 5 tn tks) (s2++(R.take (i+1)).flatMap F)) rfl (by simp) (hscB _) (by simp[znk,ux,AV.sc,AV.scA,AV.scB,AV.scV]) ⟨_,rfl,i+1,by omega,rfl,rfl,rfl⟩⟩
     ·obtain rfl:i=R.length:=by omega
      rw[List.take_length,gE];simp[ztR];exact eY _ rfl
   ·have ly:(ca == cb)=false:=by simpa using bb
    simp[h02,IT.cs,ly];refine eY s2 ?_;rw[za0,if_neg (by simpa[zaU]using bb),List.append_nil,er,bJ,hA,hB]
theorem zqj (a:List (IT × Nat)) (i:IT) (c:Nat):zaH a++[i.cs++zal (c:Int)]=zaH (a++[(i,c)]):=by simp[zaH,tmC]
theorem zE6 {aa:List Dat} (h8:∀ D∈aa,D.cons.length≤8) {f:Nat} (hQ:zir aa f) (hM:ziq aa f):znI aa (f+1):=by
 intro t i j hf gC eX hi hj h6 hn H K hK;obtain⟨k,tn,tks⟩:=t;obtain⟨n,l⟩:=i;obtain⟨n',m⟩:=j;simp only[IT.nodes]at hf hn;refine ACalls.out (zRl λhs=>?_);have dN:(VT.mk k tn tks).cs=[.int .i64 k,.int .i64 tn,.sl (VT.css tks) .none]:=rfl;have gF:(IT.mk n l).cs=[.int .i64 n,.sl (IT.css l) .none]:=rfl;have iX:(IT.mk n' m).cs=[.int .i64 n',.sl (IT.css m) .none]:=rfl;have cW:plain ([.int .i64 0,.snil,.bool false,.snil,.snil]:List AV)=some [.int .i64 0,.sl [] .none,.bool false,.sl [] .none,.sl [] .none]:=rfl;have gG:(H++[AB.cells (VT.mk k tn tks).cs,.cells (IT.mk n l).cs,.cells (IT.mk n' m).cs]).length=H.length+3:=by simp
 have eS:∀ c,HSc (H++[AB.cells (VT.mk k tn tks).cs,.cells (IT.mk n l).cs,.cells (IT.mk n' m).cs,.perm zaB 5 c]):=λc=>hs.append (by simp[AB.sc,VT.cs,IT.cs,AV.scA,AV.scB]);by_cases k6:k=6
 ·subst k6;have ev:∀ (n:Int) (l:List IT),0≤rdV aa (.mk n l) (.mk 6 tn tks)→n=0∧l.length=tks.length∧rdV aa (.mk n l) (.mk 6 tn tks)=rdA aa l tks 0:=λn l h=>by
   rw[rdV]at h ⊢;simp only[VT.kind,VT.kids,if_true]at h ⊢;by_cases hn:n=0
   ·by_cases hl:tks.length=l.length
    ·simp[hn,hl]
    ·simp[hn,hl]at h
   ·simp[hn]at h
  obtain⟨i1,i2,i3⟩:=ev n l hi;obtain⟨j1,j2,j3⟩:=ev n' m hj;rw[i3]at hi h6;rw[j3]at hj h6;have dL:=VT.len_le tks;have bc:∀ (ts:List VT) (x:VT),x∈ts→x.nodes≤VT.nodesL ts:=by
   intro ts;induction ts with
   | nil=>intro x hx;simp at hx
   | cons t ts ih=>
    intro x hx;simp only[VT.nodesL];rcases List.mem_cons.1 hx with rfl | hx
    ·omega
    ·have:=ih x hx;omega
  have htks:∀ x∈tks,x.nodes≤1000∧za1 aa 0 x=true:=λx hx=>by have:=bc tks x hx;simp only[VT.nodes]at gC;exact⟨by omega,zyf eX x hx⟩
  simp only[VT.nodes]at gC;obtain⟨R,hR⟩:∃ R,R=zcm aa f tks l m:=⟨_,rfl⟩;obtain⟨R1,R2,R3,R4⟩:=zu0 h8 (f:=f) (ts:=tks) (l:=l) (m:=m) (by omega) i2 j2 hi hj h6;rw[←hR]at R1 R2 R3 R4;have gE:zaQ aa (f+1) (.mk 6 tn tks) (.mk n l) (.mk n' m)=R.map λr=>(.mk 0 r.1,r.2):=by rw[zaQ,hR];simp[VT.kind,VT.kids,zaF]
  rw[gE]at hK;simp[zib,dN,gF,iX,Nat.add_assoc];refine hQ tks l m (by omega) i2 j2 (by omega) htks hi hj h6 (by omega) _ _ ?_;rw[←hR];simp;rw[←dN,←gF,←iX];unfold zmL;refine ALoop.own 9 zaB 5 rfl ?_;rw[gG,List.append_assoc];show zmL (.sl (zaH ((R.take 0).map λr=>(IT.mk 0 r.1,r.2))) (.own (H.length+3))) _ _ _ (H++[AB.cells (VT.mk 6 tn tks).cs,.cells (IT.mk n l).cs,.cells (IT.mk n' m).cs,.perm zaB 5 0]) _;refine zRh (Inv:=λq t9 t36 H'=>∃ q':Nat,q'≤R.length∧R.length-q'=q∧t36=.int .i64 q'∧t9=.sl (zaH ((R.take q').map λr=>(IT.mk 0 r.1,r.2))) (.own (H.length+3))∧H'=H++[AB.cells (VT.mk 6 tn tks).cs,.cells (IT.mk n l).cs,.cells (IT.mk n' m).cs,.perm zaB 5 q']) R.length ?_ ?_
  ·intro _;exact⟨0,by omega,rfl,rfl,rfl,rfl⟩
  ·rintro q t9 t36 H' ⟨q',hq,rfl,rfl,rfl,rfl⟩ hsc6 hlen6 hsF6 Kb6 iY;have df:min q' R.length=q':=by omega
   by_cases g7:q'<R.length
   ·have aN:(R.take (q'+1)).map (λr=>(IT.mk 0 r.1,r.2))=(R.take q').map (λr=>(IT.mk 0 r.1,r.2))++[(IT.mk 0 R[q'].1,R[q'].2)]:=by rw[List.take_succ_eq_append_getElem g7];simp only[List.map_append,List.map_cons,List.map_nil]
    simp[zth,g7,zar,zaJ,wi q' (by omega),AV.known,zau,zaV,plain,AV.pd,zc8,cW];simp only[zaw,zaL,zaI];simp[df,List.set_append_right];refine⟨⟨by omega,by omega⟩,?_⟩;have iZ:zaH (List.take q' (List.map (λr=>(IT.mk 0 r.1,r.2)) R))++[.int .i64 0::.sl (IT.css R[q'].1) .none::zal (R[q'].2:Int)]=zaH ((R.take (q'+1)).map λr=>(IT.mk 0 r.1,r.2)):=by rw[aN,←zqj,List.map_take];rfl
    rw[iZ];exact iY _ _ ⟨R.length-(q'+1),by omega,Back.at (J:=[.cells (.sl (IT.css R[q'].1) .none::zal (R[q'].2:Int))]) (H2:=H++[AB.cells (VT.mk 6 tn tks).cs,.cells (IT.mk n l).cs,.cells (IT.mk n' m).cs,.perm zaB 5 (q'+1)]) (by simp) (by simp) (eS _) (by simp[zmG,ux,AV.sc,AV.scA,AV.scB,AV.scV]) ⟨_,_,rfl,q'+1,by omega,rfl,rfl,rfl,rfl⟩⟩
   ·obtain rfl:q'=R.length:=by omega
    rw[List.take_length];simp[zth,zfG,zmH];exact Out.at (b:=.sl (zaH (R.map λr=>(IT.mk 0 r.1,r.2))) .none) rfl (Nat.le_refl _) hs (.atom (.sl _ _)) rfl rfl hK
 ·by_cases k7:k=7
  ·subst k7;have ev:∀ (n:Int) (l:List IT),0≤rdV aa (.mk n l) (.mk 7 tn tks)→0≤n∧n≤6∧rdV aa (.mk n l) (.mk 7 tn tks)=n:=λn l h=>by
    rw[rdV]at h ⊢;simp only[VT.kind,k6,if_false,if_true]at h ⊢;by_cases hc:0≤n∧n≤6∧l.length=0
    ·rw[if_pos hc];exact⟨hc.1,hc.2.1,rfl⟩
    ·rw[if_neg hc]at h;omega
   obtain⟨i1,i2,i3⟩:=ev n l hi;obtain⟨j1,j2,j3⟩:=ev n' m hj;rw[i3]at hi h6;rw[j3]at hj h6;obtain⟨a,rfl⟩:∃ a:Nat,n=a:=⟨n.toNat,by omega⟩;obtain⟨b,rfl⟩:∃ b:Nat,n'=b:=⟨n'.toNat,by omega⟩;have gE:zaQ aa (f+1) (.mk 7 tn tks) (.mk a l) (.mk b m)=(zbw a b).filter λp=>p.2 != 0:=by rw[zaQ];simp[VT.kind,zaU]
   rw[gE]at hK;simp[zib,dN,gF,iX,Nat.add_assoc];refine zTg a b (by omega) (by omega) _ _ ?_;simp;rw[←dN,←gF,←iX];unfold zmJ;refine ALoop.own 9 zaB 5 rfl ?_;rw[gG,List.append_assoc];have cq:(zcT a b (a+b+1)).length=a+b+1:=by simp[zcT]
   have dz:(zbw a b).length=a+b+1:=by simp[zbw]
   show zmJ (.sl (zaH (((zbw a b).take 0).filter λp=>p.2 != 0)) (.own (H.length+3))) _ _ _ (H++[AB.cells (VT.mk 7 tn tks).cs,.cells (IT.mk a l).cs,.cells (IT.mk b m).cs,.perm zaB 5 0]) _;refine zRf (Inv:=λq t9 t62 H'=>∃ q':Nat,q'≤a+b+1∧a+b+1-q'=q∧t62=.int .i64 q'∧t9=.sl (zaH (((zbw a b).take q').filter λp=>p.2 != 0)) (.own (H.length+3))∧H'=H++[AB.cells (VT.mk 7 tn tks).cs,.cells (IT.mk a l).cs,.cells (IT.mk b m).cs,.perm zaB 5 (((zbw a b).take q').filter λp=>p.2 != 0).length]) (a+b+1) ?_ ?_
   ·intro _;exact⟨0,by omega,rfl,rfl,rfl,rfl⟩
   ·rintro q t9 t62 H' ⟨q',hq,rfl,rfl,rfl,rfl⟩ hsc13 hlen13 hsF13 Kb13 ey;by_cases g7:q'<a+b+1
    ·have hq':q'<(zbw a b).length:=by omega
     have hql':(q':Int)<(a:Int)+(b:Int)+1:=by omega
     have he:(zbw a b)[q']=(.mk (q':Int) [],pcf a b q'):=by simp[zbw]
     have aN:((zbw a b).take (q'+1)).filter (λp=>p.2 != 0)=((zbw a b).take q').filter (λp=>p.2 != 0)++(if pcf a b q'=0 then [] else [(.mk (q':Int) [],pcf a b q')]):=by rw[List.take_succ_eq_append_getElem hq',he,List.filter_append];by_cases h0:pcf a b q'=0 <;> simp[h0]
     have bi:(((zbw a b).take q').filter λp=>p.2 != 0).length≤20:=Nat.le_trans (List.length_filter_le _ _) (by simp;omega);have lD:(zcj (zcT a b (a+b+1)))[q']?=some (zal (pcf a b q':Int)):=by simp[zcj,zcT,g7]
     obtain⟨s,fk⟩:∃ s,s=((zbw a b).take q').filter λp=>p.2 != 0:=⟨_,rfl⟩;rw[←fk]at aN bi ⊢;have hNa:zaM (λ_=>1) (zbw a b)≤729:=by rw[zbw,zjU];have:=zuR a (by omega) b (by omega) (by omega);unfold zqa at this;refine Nat.le_trans (by simpa using this) (Nat.le_trans (Nat.pow_le_pow_right (by omega) (show a+b≤6 by omega)) (by decide))
     have hpc:pcf a b q'≤729:=by have hc:=zoz (List.getElem_mem hq');rw[he]at hc;exact Nat.le_trans hc hNa
     have hsmp:pcf a b q'<1000000000 ^ 30:=Nat.lt_of_le_of_lt hpc (by decide);simp[ztf,cq,hql',lD,zgb];refine zCr (pcf a b q') (zdq hsmp) _ _ ?_;by_cases h0:pcf a b q'=0
     ·rw[if_pos h0,List.append_nil]at aN;simp[h0,zmI,zti,wi q' (by omega)];have cw:s=List.filter (λp=>p.2 != 0) ((zbw a b).take (q'+1)):=aN.symm;exact ey _ _ ⟨a+b+1-(q'+1),by omega,Back.at (J:=[.cells (zal 0)]) (H2:=H++[AB.cells (VT.mk 7 tn tks).cs,.cells (IT.mk a l).cs,.cells (IT.mk b m).cs,.perm zaB 5 s.length]) (by simp) (by simp) (eS _) (by simp[zic,ux,AV.sc,AV.scA,AV.scB,AV.scV]) ⟨_,_,by simp only[cq];rfl,q'+1,by omega,rfl,rfl,by rw[←cw],by rw[←cw]⟩⟩
     ·rw[if_neg h0]at aN;simp[h0,zar,zaJ,zau,zaV,plain,AV.pd,AV.known,zc8,cW];simp only[zaw,zaL,zaI];simp[List.set_append_right,zmI,zti,wi q' (by omega)];refine⟨⟨by omega,by omega⟩,?_⟩;have iZ:zaH s++[.int .i64 (q':Int)::.sl [] .none::zal (pcf a b q':Int)]=zaH (((zbw a b).take (q'+1)).filter λp=>p.2 != 0):=by rw[aN,←zqj];rfl
      have dx:s.length+1=(((zbw a b).take (q'+1)).filter λp=>p.2 != 0).length:=by rw[aN];simp
      rw[iZ,dx];exact ey _ _ ⟨a+b+1-(q'+1),by omega,Back.at (J:=[.cells (zal (pcf a b q':Int))]) (H2:=H++[AB.cells (VT.mk 7 tn tks).cs,.cells (IT.mk a l).cs,.cells (IT.mk b m).cs,.perm zaB 5 (((zbw a b).take (q'+1)).filter λp=>p.2 != 0).length]) (by simp) (by simp) (eS _) (by simp[zic,ux,AV.sc,AV.scA,AV.scB,AV.scV]) ⟨_,_,by simp only[cq];rfl,q'+1,by omega,rfl,rfl,rfl,rfl⟩⟩
    ·obtain rfl:q'=a+b+1:=by omega
     rw[List.take_of_length_le (by omega)];simp[ztf,zfG,zmH,cq];exact Out.at (b:=.sl (zaH ((zbw a b).filter λp=>p.2 != 0)) .none) rfl (Nat.le_refl _) hs (.atom (.sl _ _)) rfl rfl hK
  ·by_cases k5:k=5
   ·subst k5;have ev:∀ (n:Int) (l:List IT),0≤rdV aa (.mk n l) (.mk 5 tn tks)→n=0∧l.length≤6∧rdV aa (.mk n l) (.mk 5 tn tks)=rdE aa l (.mk 5 tn tks) 0:=λn l h=>by
     rw[zjM]at h ⊢;by_cases hc:n=0∧l.length≤6
     ·rw[if_pos hc];exact⟨hc.1,hc.2,rfl⟩
     ·rw[if_neg hc]at h;omega
    obtain⟨i1,i2,i3⟩:=ev n l hi;obtain⟨j1,j2,j3⟩:=ev n' m hj;rw[i3]at hi h6;rw[j3]at hj h6;obtain⟨R,hR⟩:∃ R,R=za0 aa f (.mk 5 tn tks) l m:=⟨_,rfl⟩;obtain⟨R1,R2,R3,R4⟩:=zix h8 (f:=f) (t:=.mk 5 tn tks) (l:=l) (m:=m) (by omega) hi hj h6;rw[←hR]at R1 R2 R3 R4;have gE:zaQ aa (f+1) (.mk 5 tn tks) (.mk n l) (.mk n' m)=R.map λr=>(.mk 0 r.1,r.2):=by rw[zaQ,hR];simp[VT.kind,zaF]
    rw[gE]at hK;simp[zib,dN,gF,iX,Nat.add_assoc];rw[←dN];refine hM (.mk 5 tn tks) l m (by omega) gC eX rfl hi hj h6 (by omega) _ _ ?_;rw[←hR];simp;rw[←gF,←iX];unfold zmK;refine ALoop.own 9 zaB 5 rfl ?_;rw[gG,List.append_assoc];show zmK (.sl (zaH ((R.take 0).map λr=>(IT.mk 0 r.1,r.2))) (.own (H.length+3))) _ _ _ (H++[AB.cells (VT.mk 5 tn tks).cs,.cells (IT.mk n l).cs,.cells (IT.mk n' m).cs,.perm zaB 5 0]) _;refine zRg (Inv:=λq t9 t36 H'=>∃ q':Nat,q'≤R.length∧R.length-q'=q∧t36=.int .i64 q'∧t9=.sl (zaH ((R.take q').map λr=>(IT.mk 0 r.1,r.2))) (.own (H.length+3))∧H'=H++[AB.cells (VT.mk 5 tn tks).cs,.cells (IT.mk n l).cs,.cells (IT.mk n' m).cs,.perm zaB 5 q']) R.length ?_ ?_
    ·intro _;exact⟨0,by omega,rfl,rfl,rfl,rfl⟩
    ·rintro q t9 t36 H' ⟨q',hq,rfl,rfl,rfl,rfl⟩ hsc6 hlen6 hsF6 Kb6 iY;have df:min q' R.length=q':=by omega
     by_cases g7:q'<R.length
     ·have aN:(R.take (q'+1)).map (λr=>(IT.mk 0 r.1,r.2))=(R.take q').map (λr=>(IT.mk 0 r.1,r.2))++[(IT.mk 0 R[q'].1,R[q'].2)]:=by rw[List.take_succ_eq_append_getElem g7];simp only[List.map_append,List.map_cons,List.map_nil]
      simp[ztg,g7,zar,zaJ,wi q' (by omega),AV.known,zau,zaV,plain,AV.pd,zc8,cW];simp only[zaw,zaL,zaI];simp[df,List.set_append_right];refine⟨⟨by omega,by omega⟩,?_⟩;have iZ:zaH (List.take q' (List.map (λr=>(IT.mk 0 r.1,r.2)) R))++[.int .i64 0::.sl (IT.css R[q'].1) .none::zal (R[q'].2:Int)]=zaH ((R.take (q'+1)).map λr=>(IT.mk 0 r.1,r.2)):=by rw[aN,←zqj,List.map_take];rfl
      rw[iZ];exact iY _ _ ⟨R.length-(q'+1),by omega,Back.at (J:=[.cells (.sl (IT.css R[q'].1) .none::zal (R[q'].2:Int))]) (H2:=H++[AB.cells (VT.mk 5 tn tks).cs,.cells (IT.mk n l).cs,.cells (IT.mk n' m).cs,.perm zaB 5 (q'+1)]) (by simp) (by simp) (eS _) (by simp[zmF,ux,AV.sc,AV.scA,AV.scB,AV.scV]) ⟨_,_,rfl,q'+1,by omega,rfl,rfl,rfl,rfl⟩⟩
     ·obtain rfl:q'=R.length:=by omega
      rw[List.take_length];simp[ztg,zfG,zmH];exact Out.at (b:=.sl (zaH (R.map λr=>(IT.mk 0 r.1,r.2))) .none) rfl (Nat.le_refl _) hs (.atom (.sl _ _)) rfl rfl hK
   ·have gE:zaQ aa (f+1) (.mk k tn tks) (.mk n l) (.mk n' m)=[(.mk 0 [],1)]:=by rw[zaQ];simp[VT.kind,k6,k7,k5]
    rw[gE]at hK;have b6:(k == 6)=false:=by simpa using k6
    have b7:(k == 7)=false:=by simpa using k7
    have b5:(k == 5)=false:=by simpa using k5
    simp[zib,dN,gF,iX,b6,b7,b5,zar,zaJ,AV.known,Nat.add_assoc];refine zd1 1 (by omega) _ _ ?_;simp[zar,zaJ,zau,zaV,plain,AV.pd,AV.known,zc8,zaw,zaL,zaI];exact Out.at (b:=.sl (zaH [(IT.mk 0 [],1)]) .none) rfl (Nat.le_refl _) hs (.atom (.sl _ _)) rfl rfl hK
theorem zoE {aa:List Dat} (hk:zbr aa) (h8:∀ D∈aa,D.cons.length≤8) (hD:zbx aa=true):∀ f,znI aa f∧zir aa f∧ziq aa f
 | 0=>⟨λt i j h=>by have:=i.nodes_pos;omega,λts l m h=>by omega,λt l m h=>by omega⟩
 | f+1=>by obtain⟨h1,h2,h3⟩:=zoE hk h8 hD f;exact⟨zE6 h8 h2 h3,zF9 h8 h1,zE2 hk h8 hD h2 h3⟩
end Go.Proofs.YtdmamdnkcefmmaaGreatDoor
namespace Go.Proofs.YtdmamdnkcefmmaaGreatDoor
open Go Go.Abs
set_option maxRecDepth 100000
section
variable (t0 t1 t2 t3 t5 t6 t8 t9 t10 t11 t12 t13 t14 t48 t49 t57 t58 t59:AV) (H:zaa) (K:Kt) (Kb3 Kb4 Kb12:Lt)
def zfD:Nat→List Bool | 200010=>rl false [0,5] | 12=>rl false [0,1,4,2,6,1,34,2,31] | 15=>rl false [0,1,4,2,7,1,33,2,7,3,21] | 200017=>rl false [0,5] | _=>[]
noncomputable def zsT:Code:=Tryz.f26.body.getD .skip
noncomputable def zPR:List ResultVar:=Tryz.f26.results.toList
def zmn:List AV:=t0::ux 4 (t5::t6::ux 6 (t13::ux 34 (t48::t49::ux 31 [])))
def zBe:List Bool:=zfD 12
noncomputable def zsU:Code:=zaq [1,1,1,1,1,1,1,1,0,1,0,0] zsT
def zBc:AExit→List AV→zaa→Prop:=zas tP zfD [1,1,1,1,1,1,1,1,0,1,0] zsT (zay tP zPR K)
def zBd:Prop:=ALoop tP zsU (zBc K) (zmn t0 t5 t6 t13 t48 t49) H
def zmo:List AV:=t0::ux 4 (t5::t6::ux 7 (t14::ux 33 (t48::t49::ux 7 (t57::t58::t59::ux 21 []))))
def zPQ:List Bool:=zfD 15
noncomputable def zPN:Code:=zaq [1,1,0,0,1,0,1,0,0] zsU
def zPM:AExit→List AV→zaa→Prop:=zas tP zfD [1,1,0,0,1,0,1,0] zsU (zb1 zBe Kb12 (zBc K))
def zmp:Prop:=ALoop tP zPN (zPM K Kb12) (zmo t0 t5 t6 t14 t48 t49 t57 t58 t59) H
def zsS (t0 t5 t6 t14 t48 t49 t57 t58 t59:AV) (H:zaa) (K:Kt) (Kb12:Lt) (Kb15:Lt):Prop:=zac .lss false t59 t58 λt60=>zag t60 (zai 5 t57 t59 λt61=>zae true 5 t61 H λt62=>zax [(.int .i64 0),.snil,(.bool false),.snil,.snil] H λt16 H=>zan 5 t16 t62 H λH=>zab H (λK'=>K' t14 H) λt63=>zab H (λK'=>K' t0 H) λt64=>zab H (λK'=>zak true 3 t5 H (K' · H)) λt65=>zab H (λK'=>zaf 0 t16 (K' · H)) λt66=>zab H (λK'=>zak true 2 t66 H (K' · H)) λt67=>zab H (λK'=>zak true 2 t6 H (K' · H)) λt68=>zaE H (λH K'=>ACalls tP zhn [t64,t65,t67,t68] H K') λt69=>zab H (λK'=>zaf 2 t16 (K' · H)) λt70=>zab H (λK'=>zak true 3 t70 H (K' · H)) λt71=>zaE H (λH K'=>ACalls tP zpu [t69,t71] H K') λt72=>ACalls tP zhm [t63,t72] H λt73 H=>zac .add false t59 (.int .i64 1) λt74=>Kb15 (zmo t0 t5 t6 t14 t48 t49 t57 t58 t74) H) (zac .add false t49 (.int .i64 1) λt76=>Kb12 (zmn t0 t5 t6 t14 t48 t76) H)
def zsR:Prop:=zac .lss false t49 t48 λt50=>zag t50 (zae true 3 t5 H λt52=>ACalls tP zhl [t0,t52] H λt53 H=>za5 t13 λt55=>zaf 5 t55 λt56=>zae false 1 t56 H λt57=>zah 1 t57 λt58=>zmp t0 t5 t6 t53 t48 t49 t57 t58 (.int .i64 0) H K Kb12) (ACalls tP zjg [t13] H λt78 H=>zaz t78 0 λt79=>zaz t78 1 λt80=>zaD [t79,t80] (K · H))
def zsP:Prop:=zav t1 H λt5 H=>zav t2 H λt6 H=>zae true 3 t5 H λt18=>zae true 2 t6 H λt19=>ACalls tP zf4 [t0,t18,t19] H λt20 H=>zac .lss false t20 (.int .i64 0) λt22=>zag t22 (zaD [.snil,(.int .i64 1)] (K · H)) (zac .lss false t3 (.int .i64 0) λt24=>zad t24 false H (λK'=>K' t3 H) λt26 H=>zad t24 false H (λK'=>zac .gtr false t26 (.int .i64 6) (K' · H)) λt27 H=>zaj t24 (.bool true) t27 λt28=>zag t28 (zaD [.snil,(.int .i64 8)] (K · H)) (zac .mul false t3 t20 λt31=>zac .gtr false t31 (.int .i64 6) λt32=>zag t32 (zaD [.snil,(.int .i64 13)] (K · H)) (zae true 3 t5 H λt35=>ACalls tP zpt [t0,t35] H λt36 H=>zaz t36 0 λt37=>zaz t36 1 λt38=>zax [(.int .i64 0),.snil] H λt11 H=>zan 2 t11 t37 H λH=>zae true 3 t5 H λt40=>ACalls tP zhl [t0,t40] H λt41 H=>zab H (λK'=>K' t41 H) λt42=>zab H (λK'=>zak true 2 t11 H (K' · H)) λt43=>zaE H (λH K'=>ACalls tP zc6 [(.int .i64 1)] H K') λt44=>zab H (λK'=>zar [(.int .i64 0),.snil,(.bool false),.snil,.snil] [(0,2),(2,3)] [(0,t43),(1,t44)] (K' · H)) λt45=>zab H (λK'=>zau 5 [(.int .i64 0),.snil,(.bool false),.snil,.snil] 1 [(0,t45)] (K' · H)) λt46=>ACalls tP zhm [t42,t46] H λt47 H=>zBd t0 t5 t6 t41 t3 (.int .i64 0) H K)))
def zm2:Nat→List Bool | 3=>rl false [3,1,1,1,2,3,15] | _=>[]
noncomputable def ztz:Code:=Tryz.f62.body.getD .skip
noncomputable def zSn:List ResultVar:=Tryz.f62.results.toList
def zm3:List AV:=ux 3 (t3::ux 1 (t5::ux 2 (t8::t9::t10::ux 15 [])))
def zSl:List Bool:=zm2 3
noncomputable def zSj:Code:=zaq [1,1,0,1,0,0] ztz
def zSi:AExit→List AV→zaa→Prop:=zas tP zm2 [1,1,0,1,0] ztz (zay tP zSn K)
def zm4:Prop:=ALoop tP zSj (zSi K) (zm3 t3 t5 t8 t9 t10) H
def zty:Prop:=zac .lss false t10 t9 λt11=>zag t11 (zai 5 t8 t10 λt12=>zae true 5 t12 H λt13=>zax [(.int .i64 0),.snil,(.bool false),.snil,.snil] H λt7 H=>zan 5 t7 t13 H λH=>zab H (λK'=>K' t5 H) λt14=>zab H (λK'=>zaf 0 t7 (K' · H)) λt15=>zab H (λK'=>zak true 2 t15 H (K' · H)) λt16=>zab H (λK'=>zaf 2 t7 (K' · H)) λt17=>zab H (λK'=>zak true 3 t17 H (K' · H)) λt18=>zab H (λK'=>zak true 3 t3 H (K' · H)) λt19=>zaE H (λH K'=>ACalls tP zeI [t18,t19] H K') λt20=>zab H (λK'=>zar [(.int .i64 0),.snil,(.bool false),.snil,.snil] [(0,2),(2,3)] [(0,t16),(1,t20)] (K' · H)) λt21=>zab H (λK'=>zau 5 [(.int .i64 0),.snil,(.bool false),.snil,.snil] 1 [(0,t21)] (K' · H)) λt22=>zaw zaB 5 88 t14 t22 H λt23 H=>zab H (λK'=>K' t23 H) λt5=>zac .add false t10 (.int .i64 1) λt24=>Kb3 (zm3 t3 t5 t8 t9 t24) H) (K t5 H)
def zB3:Prop:=zav t1 H λt3 H=>zah 1 t0 λt9=>zm4 t3 .snil t0 t9 (.int .i64 0) H K
def zSf (_:Nat):List Bool:=[]
noncomputable def zSg:Code:=Tryz.f7.body.getD .skip
def zq5:Prop:=zav t1 H λt4 H=>zav t2 H λt5 H=>zae true 3 t4 H λt16=>ACalls tP zpy [t0,t16] H λt17 H=>aUn .not t17 λt18=>zad t18 false H (λK'=>zae true 2 t5 H (K' · H)) λt20 H=>zad t18 false H (λK'=>ACalls tP zpB [t20] H K') λt21 H=>zad t18 false H (λK'=>aUn .not t21 (K' · H)) λt22 H=>zaj t18 (.bool true) t22 λt23=>zad t23 false H (λK'=>K' t0 H) λt25 H=>zad t23 false H (λK'=>zae true 3 t4 H (K' · H)) λt26 H=>zad t23 false H (λK'=>zae true 2 t5 H (K' · H)) λt27 H=>zad t23 false H (λK'=>ACalls tP zpm [t25,t26,t27] H K') λt28 H=>zad t23 false H (λK'=>aUn .not t28 (K' · H)) λt29 H=>zaj t23 (.bool true) t29 λt30=>zag t30 (K (.bool true) H) (zae true 3 t4 H λt33=>zae true 2 t5 H λt34=>ACalls tP zeH [t0,t33,t34,(.int .i64 0)] H λt35 H=>zaz t35 0 λt36=>zaz t35 1 λt37=>zae true 3 t4 H λt40=>zae true 2 t5 H λt41=>ACalls tP zeH [t0,t40,t41,(.int .i64 1)] H λt42 H=>zaz t42 0 λt43=>zaz t42 1 λt44=>zae true 3 t4 H λt47=>zae true 2 t5 H λt48=>ACalls tP zeH [t0,t47,t48,(.int .i64 2)] H λt49 H=>zaz t49 0 λt50=>zaz t49 1 λt51=>zae true 3 t4 H λt54=>zae true 2 t5 H λt55=>zae true 2 t5 H λt56=>ACalls tP ziK [t0,t54,t55,t56] H λt57 H=>zaz t57 0 λt58=>zaz t57 1 λt59=>zab H (λK'=>K' t37 H) λt60=>zab H (λK'=>zac .eql false t60 (.int .i64 0) (K' · H)) λt61=>zab H (λK'=>K' t61 H) λt62=>zad t62 true H (λK'=>zab H (λK''=>K'' t44 H) (K' · H)) λt63 H=>zad t62 true H (λK'=>zab H (λK''=>zac .eql false t63 (.int .i64 0) (K'' · H)) (K' · H)) λt64 H=>zab H (λK'=>zaj t62 t64 (.bool false) (K' · H)) λt65=>zab H (λK'=>K' t65 H) λt66=>zad t66 true H (λK'=>zab H (λK''=>K'' t51 H) (K' · H)) λt67 H=>zad t66 true H (λK'=>zab H (λK''=>K'' t59 H) (K' · H)) λt68 H=>zad t66 true H (λK'=>zab H (λK''=>zac .eql false t67 t68 (K'' · H)) (K' · H)) λt69 H=>zab H (λK'=>zaj t66 t69 (.bool false) (K' · H)) λt70=>zab H (λK'=>K' t70 H) λt71=>zad t71 true H (λK'=>zab H (λK''=>K'' t36 H) (K' · H)) λt72 H=>zad t71 true H (λK'=>zab H (λK''=>zah 1 t72 (K'' · H)) (K' · H)) λt73 H=>zad t71 true H (λK'=>zab H (λK''=>zac .eql false t73 (.int .i64 1) (K'' · H)) (K' · H)) λt74 H=>zab H (λK'=>zaj t71 t74 (.bool false) (K' · H)) λt75=>zab H (λK'=>K' t75 H) λt76=>zad t76 true H (λK'=>zab H (λK''=>K'' t36 H) (K' · H)) λt77 H=>zad t76 true H (λK'=>zab H (λK''=>zai 5 t77 (.int .i64 0) (K'' · H)) (K' · H)) λt78 H=>zad t76 true H (λK'=>zab H (λK''=>zaf 0 t78 (K'' · H)) (K' · H)) λt79 H=>zad t76 true H (λK'=>zab H (λK''=>zak true 2 t79 H (K'' · H)) (K' · H)) λt80 H=>zad t76 true H (λK'=>zab H (λK''=>zak true 3 t4 H (K'' · H)) (K' · H)) λt81 H=>zad t76 true H (λK'=>zaE H (λH K''=>ACalls tP zje [t81] H K'') (K' · H)) λt82 H=>zad t76 true H (λK'=>zaE H (λH K''=>ACalls tP zfg [t80,t82] H K'') (K' · H)) λt83 H=>zab H (λK'=>zaj t76 t83 (.bool false) (K' · H)) λt84=>zab H (λK'=>K' t84 H) λt85=>zad t85 true H (λK'=>zab H (λK''=>K'' t43 H) (K' · H)) λt86 H=>zad t85 true H (λK'=>zab H (λK''=>zah 1 t86 (K'' · H)) (K' · H)) λt87 H=>zad t85 true H (λK'=>zab H (λK''=>zac .eql false t87 (.int .i64 1) (K'' · H)) (K' · H)) λt88 H=>zab H (λK'=>zaj t85 t88 (.bool false) (K' · H)) λt89=>zab H (λK'=>K' t89 H) λt90=>zad t90 true H (λK'=>zab H (λK''=>K'' t43 H) (K' · H)) λt91 H=>zad t90 true H (λK'=>zab H (λK''=>zai 5 t91 (.int .i64 0) (K'' · H)) (K' · H)) λt92 H=>zad t90 true H (λK'=>zab H (λK''=>zaf 0 t92 (K'' · H)) (K' · H)) λt93 H=>zad t90 true H (λK'=>zab H (λK''=>zak true 2 t93 H (K'' · H)) (K' · H)) λt94 H=>zad t90 true H (λK'=>zab H (λK''=>zak true 2 t5 H (K'' · H)) (K' · H)) λt95 H=>zad t90 true H (λK'=>zaE H (λH K''=>ACalls tP zfg [t94,t95] H K'') (K' · H)) λt96 H=>zab H (λK'=>zaj t90 t96 (.bool false) (K' · H)) λt97=>zab H (λK'=>K' t97 H) λt98=>zad t98 true H (λK'=>zab H (λK''=>K'' t50 H) (K' · H)) λt99 H=>zad t98 true H (λK'=>zab H (λK''=>K'' t58 H) (K' · H)) λt100 H=>zad t98 true H (λK'=>zaE H (λH K''=>ACalls tP zoJ [t99,t100] H K'') (K' · H)) λt101 H=>zab H (λK'=>zaj t98 t101 (.bool false) (K' · H)) λt102=>zab H (λK'=>K' t102 H) λt103=>zad t103 true H (λK'=>zaE H (λH K''=>ACalls tP zoQ [] H K'') (K' · H)) λt104 H=>zab H (λK'=>zaj t103 t104 (.bool false) (K' · H)) λt105=>zab H (λK'=>K' t105 H) λt6=>K t6 H)
def zmv:Nat→List Bool | 4=>rl false [2,2,7,3,12] | _=>[]
noncomputable def zs1:Code:=Tryz.f30.body.getD .skip
noncomputable def zQy:List ResultVar:=Tryz.f30.results.toList
def zmw:List AV:=ux 2 (t2::t3::ux 7 (t11::t12::t13::ux 12 []))
def zQw:List Bool:=zmv 4
noncomputable def zQu:Code:=zaq [1,1,0,1,0,1,0,0] zs1
def zQt:AExit→List AV→zaa→Prop:=zas tP zmv [1,1,0,1,0,1,0] zs1 (zay tP zQy K)
def zmy:Prop:=ALoop tP zQu (zQt K) (zmw t2 t3 t11 t12 t13) H
def zmx:Prop:=zae true 2 t3 H λt25=>zan 2 t2 t25 H λH=>zae true 2 t2 H λr0=>K r0 H
def zs0:Prop:=zac .lss false t13 t12 λt14=>zag t14 (zai 3 t11 t13 λt15=>zae true 3 t15 H λt16=>zax [(.int .i64 0),(.int .i64 0),.snil] H λt5 H=>zan 3 t5 t16 H λH=>zab H (λK'=>zaf 1 t3 (K' · H)) λt17=>zab H (λK'=>zak false 1 t17 H (K' · H)) λt18=>zab H (λK'=>zak true 3 t5 H (K' · H)) λt19=>zaE H (λH K'=>ACalls tP zje [t19] H K') λt20=>zab H (λK'=>zau 2 [(.int .i64 0),.snil] 1 [(0,t20)] (K' · H)) λt21=>zaw za7 2 32 t18 t21 H λt22 H=>zab H (λK'=>zaf 1 t3 (K' · H)) λt23=>zan 1 t23 t22 H λH=>zac .add false t13 (.int .i64 1) λt24=>Kb4 (zmw t2 t3 t11 t12 t24) H) (zmx t2 t3 H K)
def zBr:Prop:=zav t0 H λt1 H=>zax [(.int .i64 0),.snil] H λt2 H=>zar [(.int .i64 0),.snil] [(0,1),(1,1)] [] λt6=>zax [(.int .i64 0),.snil] H λt3 H=>zan 2 t3 t6 H λH=>zaf 0 t1 λt7=>zae false 1 t7 H λt8=>zac .eql false t8 (.int .i64 6) λt9=>zag t9 (zaf 2 t1 λt10=>zae false 1 t10 H λt11=>zah 1 t11 λt12=>zmy t2 t3 t11 t12 (.int .i64 0) H K) (zmx t2 t3 H K)
variable {t0 t1 t2 t3 t5 t6 t8 t9 t10 t11 t12 t13 t14 t48 t49 t57 t58 t59} {H} {K} {Kb3 Kb4 Kb12}
theorem zPP (Inv:Nat→AV→zaa→Prop) (n:Nat) (h0:HSc H→Inv n t59 H)
  (ac:Rd1 (λt59=>zmo t0 t5 t6 t14 t48 t49 t57 t58 t59) (λt59=>λH Kb15=>zsS t0 t5 t6 t14 t48 t49 t57 t58 t59 H K Kb12 Kb15) H Inv):zmp t0 t5 t6 t14 t48 t49 t57 t58 t59 H K Kb12:=
 lp1 (M:=zfD) zPQ t59 (by kernel_rfl) Inv n h0 ac
theorem zPO (Inv:Nat→AV→AV→zaa→Prop) (n:Nat) (h0:HSc H→Inv n t13 t49 H)
  (ac:Rd2 (λt13=>λt49=>zmn t0 t5 t6 t13 t48 t49) (λt13=>λt49=>λH Kb12=>zsR t0 t5 t6 t13 t48 t49 H K Kb12) H Inv):zBd t0 t5 t6 t13 t48 t49 H K:=
 lp2 (M:=zfD) zBe t13 t49 (by kernel_rfl) Inv n h0 ac
theorem zBf (h:HSc H→zsP t0 t1 t2 t3 H K):ACalls tP zeH [t0,t1,t2,t3] H K:=
 acb zfD Tryz.func26 zsT (by kernel_rfl) (by kernel_rfl) h
theorem zSk (Inv:Nat→AV→AV→zaa→Prop) (n:Nat) (h0:HSc H→Inv n t5 t10 H)
  (ac:Rd2 (λt5=>λt10=>zm3 t3 t5 t8 t9 t10) (λt5=>λt10=>λH Kb3=>zty t3 t5 t8 t9 t10 H K Kb3) H Inv):zm4 t3 t5 t8 t9 t10 H K:=
 lp2 (M:=zm2) zSl t5 t10 (by kernel_rfl) Inv n h0 ac
theorem zSm (h:HSc H→zB3 t0 t1 H K):ACalls tP zpu [t0,t1] H K:=
 acb zm2 Tryz.func62 ztz (by kernel_rfl) (by kernel_rfl) h
theorem zSh (h:HSc H→zq5 t0 t1 t2 H K):ACalls tP zpr [t0,t1,t2] H K:=
 acb zSf Tryz.func7 zSg (by kernel_rfl) (by kernel_rfl) h
theorem zQv (Inv:Nat→AV→zaa→Prop) (n:Nat) (h0:HSc H→Inv n t13 H)
  (ac:Rd1 (λt13=>zmw t2 t3 t11 t12 t13) (λt13=>λH Kb4=>zs0 t2 t3 t11 t12 t13 H K Kb4) H Inv):zmy t2 t3 t11 t12 t13 H K:=
 lp1 (M:=zmv) zQw t13 (by kernel_rfl) Inv n h0 ac
theorem zQx (h:HSc H→zBr t0 H K):ACalls tP zje [t0] H K:=
 acb zmv Tryz.func30 zs1 (by kernel_rfl) (by kernel_rfl) h
end
end Go.Proofs.YtdmamdnkcefmmaaGreatDoor
namespace Go.Proofs.YtdmamdnkcefmmaaGreatDoor
open Go Go.Abs
def scl (l:List (IT × Nat)) (c:Nat):List (IT × Nat):=l.map λp=>(p.1,p.2*c)
@[simp] theorem zYm (l:List (IT × Nat)) (c:Nat):(scl l c).length=l.length:=by simp[scl]
theorem zGk {l:List (IT × Nat)} {c j:Nat} (h:j<l.length):scl (l.take (j+1)) c=scl (l.take j) c++[(l[j].1,l[j].2*c)]:=by rw[List.take_succ_eq_append_getElem h];simp only[scl,List.map_append,List.map_cons,List.map_nil]
theorem zHA (a:List (IT × Nat)) (p:IT × Nat):zaH (a++[p])=zaH a++[tmC p]:=by simp[zaH]
theorem zSo (l:List (IT × Nat)) (c:Nat) (hl:l.length≤100000) (hc:Sm (c:Int)) (gV:∀ p∈l,Sm (p.2:Int)) (H:zaa) (K:Kt) (hK:K (.sl (zaH (scl l c)) .none) H) :
  ACalls tP zpu [.sl (zaH l) .none,.agg (zal (c:Int))] H K:=by
 refine ACalls.out (zSm λhs=>?_);simp[zB3,Nat.add_assoc];unfold zm4;refine ALoop.own 5 zaB 5 rfl ?_;have cQ:(H++[AB.cells (zal (c:Int))]).length=H.length+1:=by simp
 rw[cQ,List.append_assoc];show zm4 _ (.sl (zaH (scl (l.take 0) c)) (.own (H.length+1))) _ _ _ (H++[.cells (zal (c:Int)),.perm zaB 5 0]) _;have lT:∀ n,HSc (H++[.cells (zal (c:Int)),.perm zaB 5 n]):=λn=>hs.append (by simp[AB.sc,zhD]);refine zSk (Inv:=λq t5 t10 H'=>∃ j:Nat,j≤l.length∧l.length-j=q∧t10=.int .i64 j∧t5=.sl (zaH (scl (l.take j) c)) (.own (H.length+1))∧H'=H++[.cells (zal (c:Int)),.perm zaB 5 j]) l.length ?_ ?_
 ·intro _;exact⟨0,by omega,rfl,rfl,rfl,rfl⟩
 ·rintro q t5 t10 H' ⟨j,hj,rfl,rfl,rfl,rfl⟩ aM am aP Kb ar;by_cases ak:j<l.length
  ·have aN:=zGk (c:=c) ak;have hm:=gV _ (List.getElem_mem ak);have dm:(scl (l.take j) c).length=j:=by simp;omega
   generalize hS:scl (l.take j) c=S at *;simp[zty,ak,zcn,zcd,zda,Nat.add_assoc];refine⟨zeN _,?_⟩;try simp[zcd]
   refine zaC (.agg (zal ((l[j].2*c:Nat):Int))) (λJ=>zig _ _ hm hc _ _ ⟨by rw[Int.natCast_mul],rfl⟩) ?_;have i4:List.drop 5 (l[j].1.cs++[AV.bool false,.snil,.snil])=[]:=List.drop_of_length_le (by simp);have cp:plain ([.int .i64 0,.snil,.bool false,.snil,.snil]:List AV)=some [.int .i64 0,.sl [] .none,.bool false,.sl [] .none,.sl [] .none]:=rfl;have gm:∀ x∈l[j].1.cs,x.known=true:=List.all_eq_true.1 (IT.cs_known l[j].1);have i5:∀ x∈zal ((l[j].2*c:Nat):Int),x.known=true:=List.all_eq_true.1 (zfj _);simp[zar,zaJ,i4];have iU:l[j].1.cs++zal ((l[j].2:Int)*(c:Int))=tmC (l[j].1,l[j].2*c):=by simp[tmC,Int.natCast_mul]
   rw[iU];simp[zau,zaV,zhC,cp];simp only[zaw,zaL,zaI];simp[List.set_append_right,dm,wi j (by omega)];refine⟨⟨by omega,by omega⟩,?_⟩;have iZ:zaH S++[tmC (l[j].1,l[j].2*c)]=zaH (scl (l.take (j+1)) c):=by rw[aN,zHA]
   rw[iZ];exact ar _ _ ⟨l.length-(j+1),by omega,Back.at (J:=[.cells (tmC l[j])]) (H2:=H++[.cells (zal (c:Int)),.perm zaB 5 (j+1)]) (by simp) (by simp) (lT _) (by simp[zm3,ux,AV.sc,AV.scA,AV.scB,AV.scV]) ⟨_,_,rfl,j+1,by omega,rfl,rfl,rfl,rfl⟩⟩
  ·obtain rfl:j=l.length:=by omega
   rw[List.take_length];simp[zty];exact Out.at (b:=.sl (zaH (scl l c)) .none) rfl (Nat.le_refl _) hs (.atom (.sl _ _)) rfl rfl hK
def kvS:List (IT × Nat)→Nat→List (List UInt8 × AV)
 | [],_=>[]
 | p::s,k=>(wrI p.1,.int .i64 k)::kvS s (k+1)
theorem zvT {i:IT} (hi:Dig i):∀ (s:List (IT × Nat)) (k:Nat),(∀ p∈s,Dig p.1)→(∀ p∈s,p.1≠i)→zbL (kvS s k) (wrI i)=none∧∀ c,zcz (kvS s k) (wrI i) (.int .i64 (k+s.length:Nat))=kvS (s++[(i,c)]) k
 | [],k,_,_=>by simp[kvS,zbL,zcz]
 | p::s,k,h,hn=>by
  have hb:(wrI p.1 == wrI i)=false:=by simp only[beq_eq_false_iff_ne,ne_eq];intro he;exact hn p (by simp) (zyz (h p (by simp)) hi he)
  obtain⟨h1,h2⟩:=zvT hi s (k+1) (λq hq=>h q (by simp[hq])) (λq hq=>hn q (by simp[hq]));refine⟨by simp[kvS,zbL,hb,h1],λc=>?_⟩;have:=h2 c;rw[show k+1+s.length=k+(p::s).length by simp;omega]at this;simp[kvS,zcz,hb]at this ⊢;exact this
theorem zvV {i:IT} (hi:Dig i):∀ (s:List (IT × Nat)) (k j:Nat) (hj:j<s.length),(∀ p∈s,Dig p.1)→(s.map Prod.fst).Nodup→s[j].1=i→zbL (kvS s k) (wrI i)=some (.int .i64 (k+j:Nat))
 | p::s,k,0,hj,h,hn,he=>by simp at he;simp[kvS,zbL,he]
 | p::s,k,j+1,hj,h,hn,he=>by
  simp only[List.getElem_cons_succ]at he;simp only[List.map_cons,List.nodup_cons]at hn;have hb:(wrI p.1 == wrI i)=false:=by simp only[beq_eq_false_iff_ne,ne_eq];intro hh;have:=zyz (h p (by simp)) hi hh;exact hn.1 (by rw[this,←he];exact List.mem_map.2 ⟨_,List.getElem_mem (by simpa using hj),rfl⟩)
  have:=zvV hi s (k+1) j (by simpa using hj) (λq hq=>h q (by simp[hq])) hn.2 he;rw[show k+1+j=k+(j+1) by omega]at this;simp[kvS,zbL,hb,this]
theorem zvS:∀ (s s':List (IT × Nat)) (k:Nat),s.map Prod.fst=s'.map Prod.fst→kvS s k=kvS s' k
 | [],[],_,_=>rfl
 | [],_::_,_,h=>by simp at h
 | _::_,[],_,h=>by simp at h
 | p::s,q::s',k,h=>by simp only[List.map_cons,List.cons.injEq]at h;rw[kvS,kvS,h.1,zvS s s' (k+1) h.2]
theorem zEP (s:List (IT × Nat)) {j:Nat} (hj:j<s.length) (c k:Nat):kvS (s.set j (s[j].1,c)) k=kvS s k:=by
 refine zvS _ _ _ ?_;rw[List.map_set];refine List.ext_getElem (by simp) λn h1 h2=>?_;rw[List.getElem_set];split
 ·rename_i h;subst h;simp
 ·rfl
theorem zvU {n:Nat}:∀ (s:List (IT × Nat)) (k:Nat),((kvS s k).all λp=>p.2.scV n)=true
 | [],_=>rfl
 | p::s,k=>by rw[kvS,List.all_cons,zvU s (k+1),Bool.and_true];simp[AV.scV,AV.scA,AV.scB]
mutual
theorem zqz:∀ i:IT,(wrI i).length+1≤4*i.nodes
 | .mk n ks=>by
  have:=zkb ks;rw[wrI];simp only[IT.nodes];split
  ·simp;omega
  ·rename_i h;have hl:=IT.len_le ks;simp;omega
theorem zkb:∀ ks:List IT,(zbi ks).length≤4*IT.nodesL ks
 | []=>by simp[zbi]
 | k::ks=>by have:=zqz k;have:=zkb ks;rw[zbi];simp only[IT.nodesL,List.length_append,List.length_cons];omega
end
end Go.Proofs.YtdmamdnkcefmmaaGreatDoor
namespace Go.Proofs.YtdmamdnkcefmmaaGreatDoor
open Go Go.RowKit
set_option maxHeartbeats 1000000 in
set_option maxRecDepth 100000 in
theorem zD4 (b:Nat) (w:World) (h0:w.cell? ⟨b,0,none⟩=some (.pointer (some ⟨b,0,none⟩))) :
  Calls tP zhe #[.pointer (some ⟨b,0,none⟩)] w λe w'=>e=.returned (.tuple #[])∧w'=w:=by
 obtain⟨j,hj⟩:∃ j,tP.info? 112=some j:=Option.isSome_iff_exists.1 (by kernel_rfl)
 go_enter Tryz.func169,Tryz.ntmps169
 go_wp2
 rw[Lib.run_neq_ptr_same w _ Tryz.underlying109 hj]
 go_wp2
 go_end0
 exact⟨rfl,rfl⟩
set_option maxHeartbeats 1000000 in
set_option maxRecDepth 100000 in
theorem zD3 (b:Nat) (w:World) (h0:w.cell? ⟨b,0,none⟩=some (.pointer none)) (aR:w.shape? b=some (112,2)) (hfz:w.frozen? ⟨b,0,none⟩=false) :
  Calls tP zhe #[.pointer (some ⟨b,0,none⟩)] w λe w'=>e=.returned (.tuple #[])∧w'=w.setCell ⟨b,0,none⟩ (.pointer (some ⟨b,0,none⟩)):=by
 obtain⟨j,hj⟩:∃ j,tP.info? 112=some j:=Option.isSome_iff_exists.1 (by kernel_rfl);have hjs:j.size=2:=by
  have:(tP.info? 112).map (·.size)=some 2:=by kernel_rfl
  rw[hj]at this;simpa using this
 go_enter Tryz.func169,Tryz.ntmps169
 go_wp2
 rw[Lib.run_to_unsafe w ⟨b,0,none⟩ Tryz.underlying109 Tryz.underlying256 hj (by rw[hjs];decide) aR (Nat.zero_lt_succ 1)];simp only[Result.andThen];rw[Oper.upon_value]
 go_wp2
 rw[run_callFunc_extern Tryz.func214 (by kernel_rfl) (by kernel_rfl) (by kernel_rfl) (e:=Extern.AbiNoEscape.same) (by kernel_rfl)];rw[Lib.run_noEscape];simp only[Result.andThen];rw[Oper.upon_value]
 go_wp2
 rw[Lib.run_from_unsafe w ⟨b,0,none⟩ Tryz.underlying256 Tryz.underlying109 hj aR (by kernel_rfl)];simp only[Result.andThen];rw[Oper.upon_value]
 go_wp2
 go_end0
 exact⟨rfl,rfl⟩
end Go.Proofs.YtdmamdnkcefmmaaGreatDoor
namespace Go.Proofs.YtdmamdnkcefmmaaGreatDoor
open Go Go.RowKit
set_option maxHeartbeats 2000000 in
set_option maxRecDepth 100000 in
theorem zHZ (b:Nat) (s:ByteArray) (v v':Value) (w w1 w2:World)
  (bX:Calls tP zhe #[.pointer (some ⟨b,0,none⟩)] w λe w'=>e=.returned (.tuple #[])∧w'=w1)
  (bC:w1.heap[b]?=some (.cells #[.pointer (some ⟨b,0,none⟩),v] 112 (0,0)))
  (hr:∀ ty,(Builtin.append_ #[110,9] ty #[v,.string s]).run tP w1=.ok v' w2)
  (bD:w2.heap[b]?=some (.cells #[.pointer (some ⟨b,0,none⟩),v] 112 (0,0))) (bL:∃ ao n cap,v'=.slice ao n cap) :
  Calls tP ziP #[.pointer (some ⟨b,0,none⟩),.string s] w λe w'=>e=.returned (.tuple #[.int .i64 s.size,.nilIface])∧w'=w2.setCell ⟨b,1,none⟩ v':=by
 obtain⟨ao,n',cap,rfl⟩:=bL;have c1:w1.cell? ⟨b,1,none⟩=some v:=by rw[Lib.cell_of_heap bC];rfl
 have d1:w2.cell? ⟨b,1,none⟩=some v:=by rw[Lib.cell_of_heap bD];rfl
 have f1:w2.frozen? ⟨b,1,none⟩=false:=Lib.frozen_of_heap bD 1
 go_enter Tryz.func126,Tryz.ntmps126
 go_wp2_with (go_at_call 169;refine bX.mono ?_)
 rintro e w1' ⟨rfl,rfl⟩
 go_wp2_with (at_builtin;refine Go.Abs.wpList_append_str rfl _ _ 110 9 rfl rfl rfl hr ?_)
 go_wp2
 go_ret2
 exact⟨rfl,rfl⟩
end Go.Proofs.YtdmamdnkcefmmaaGreatDoor
namespace Go.Proofs.YtdmamdnkcefmmaaGreatDoor
open Go Go.RowKit Go.Abs
theorem zu4:∃ i,tP.info? 5=some i∧i.zero=some (.int .u8 0)∧i.size=1∧i.bytes=1:=by
 obtain⟨i,hi⟩:∃ i,tP.info? 5=some i:=Option.isSome_iff_exists.1 (by kernel_rfl);have h1:(tP.info? 5).map (·.size)=some 1:=by kernel_rfl
 have h2:(tP.info? 5).map (·.bytes)=some 1:=by kernel_rfl
 have h3:(tP.info? 5).bind (·.zero)=some (.int .u8 0):=by kernel_rfl
 rw[hi]at h1 h2 h3;exact⟨i,hi,by simpa using h3,by simpa using h1,by simpa using h2⟩
theorem zvh {B:Nat} {w:World} {G:Gh} {H:zaa} (hH:HRel B w G H) {id b:Nat} {p c:AV} (hp:p=.nilp∨p=.ptr id 0) (h1:H[id]?=some (.bld 112 [p,c])) (hμ:G.μ[id]?=some (.blk b)) :
  ∃ w1 v,Calls tP zhe #[.pointer (some ⟨b,0,none⟩)] w (λe w'=>e=.returned (.tuple #[])∧w'=w1)∧Ext B w G w1 G∧HRel B w1 G (H.set id (.bld 112 [.ptr id 0,c])) ∧
   w1.heap[b]?=some (.cells #[.pointer (some ⟨b,0,none⟩),v] 112 (0,0))∧ARel w1 G v c:=by
 obtain⟨hB,hL,⟨vs⟩,hw,hc⟩:=hH.ok id _ _ h1 hμ
 match vs,hc with
 | [vp,v],⟨jk,hv,_⟩=>
  have hvp':vp=.pointer none∨vp=.pointer (some ⟨b,0,none⟩):=by
   rcases hp with rfl | rfl
   ·exact .inl jk
   ·obtain⟨b',k1,k2⟩:=jk;rw[hμ]at k1;cases k1;exact .inr k2
  have aW:=hH.storeB (cs':=[.ptr id 0,c]) (vs':=#[.pointer (some ⟨b,0,none⟩),v]) h1 hμ hw ⟨⟨b,hμ,rfl⟩,hv,trivial⟩;rcases hvp' with rfl | rfl
  ·refine⟨_,v,?_,aW.1,aW.2,setRow_heap w b _ _ _ _ hw,aW.1.arel hv⟩;refine (zD3 b w (by rw[Lib.cell_of_heap hw];rfl) (by simp[World.shape?,hw]) (Lib.frozen_of_heap hw 0)).mono ?_;rintro e w' ⟨rfl,rfl⟩;refine⟨rfl,?_⟩;rw[setCell_eq_setRow w b 0 _ _ _ _ hw];rfl
  ·refine⟨w,v,zD4 b w (by rw[Lib.cell_of_heap hw];rfl),Ext.refl _ _ _,?_,hw,hv⟩;refine hH.reCellB h1 λus hus=>?_
   match us,hus with
   | [u1,u2],⟨k1,k2⟩=>
    refine⟨?_,k2⟩;rcases hp with rfl | rfl
    ·cases jk
    ·exact k1
theorem zC7 {H:zaa} {id id2:Nat} {l s:List UInt8} {p:AV} (hp:p=.nilp∨p=.ptr id 0) (h1:H[id]?=some (.bld 112 [p,.sl (bcs l) (.own id2)])) (h2:H[id2]?=some (.perm 5 1 l.length))
  (hn:l.length+s.length≤140737488355328) {K:AV→zaa→Prop}
  (hK:K (.tup [.int .i64 s.length,.nili]) ((H.set id2 (.perm 5 1 (l.length+s.length))).set id (.bld 112 [.ptr id 0,.sl (bcs (l++s)) (.own id2)]))) :
  ACalls tP ziP [.ptr id 0,.str s] H K:=by
 intro B w G ⟨vs⟩ hH hv
 match vs,hv with
 | [v0,v1],⟨⟨b,hμ,da⟩,fd,_⟩=>
  have fd:v1=.string ⟨s.toArray⟩:=fd;subst da fd;obtain⟨w1,v,bX,fw,cQ,ju,kH⟩:=zvh hH hp h1 hμ;obtain⟨hd,v',size,n',hμ2,aS,heq⟩:=kH;have aB:id≠id2:=by rintro rfl;rw[h1]at h2;cases h2
  have i6:(H.set id (.bld 112 [.ptr id 0,.sl (bcs l) (.own id2)]))[id2]?=some (.perm 5 1 l.length):=by rw[List.getElem?_set_ne aB];exact h2
  have aw:=cQ.ok id2 _ _ i6 hμ2;obtain⟨bJ,ep,⟨xs,aq⟩,hL2⟩:=aw;subst bJ ep;obtain⟨rfl,aL⟩:=heq (zd6 l);have i7:v.ownBlock≠some b:=λh=>aB (cQ.dist id id2 _ _ b hμ hμ2 rfl h);have fP:b<w1.heap.size:=cQ.lt id _ b hμ rfl;obtain⟨i,hi,hz,aC,bp⟩:=zu4;have kB:maxLen=9223372036854775807:=rfl;have key:∃ v' w2 G2,(∀ ty,(Builtin.append_ #[110,9] ty #[v,.string ⟨s.toArray⟩]).run tP w1=.ok v' w2)∧Ext B w1 G w2 G2 ∧
    HRel B w2 G2 ((H.set id (.bld 112 [.ptr id 0,.sl (bcs l) (.own id2)])).set id2 (.perm 5 1 (l.length+s.length)))∧ARel w2 G2 v' (.sl (bcs (l++s)) (.own id2))∧w2.heap[b]?=w1.heap[b]?:=by
   by_cases hs:s=[]
   ·subst hs;refine⟨v,w1,G,λty=>zFE Tryz.underlying110 Tryz.underlying9 hi aC aq _ rfl,Ext.refl _ _ _,?_,?_,rfl⟩
    ·have:(H.set id (.bld 112 [.ptr id 0,.sl (bcs l) (.own id2)])).set id2 (.perm 5 1 (l.length+([]:List UInt8).length))=H.set id (.bld 112 [.ptr id 0,.sl (bcs l) (.own id2)]):=by
      apply List.ext_getElem?;intro k;by_cases hk:k=id2
      ·subst hk;rw[List.getElem?_set_self (List.getElem?_eq_some_iff.1 i6).1,i6];rfl
      ·rw[List.getElem?_set_ne (λh=>hk h.symm)]
     rw[this];exact cQ
    ·rw[List.append_nil];exact⟨hd,v,1,_,hμ2,aS,heq⟩
   ·have bU:0<s.length:=List.length_pos_iff.2 hs;obtain⟨v',w2,au,aQ,aD⟩:=zFD (P:=tP) (ty:=110) (B:=B) Tryz.underlying110 Tryz.underlying9 hi hz aC bp aq ⟨s.toArray⟩ (by simpa[ByteArray.size]using bU) (by simp[ByteArray.size];omega) (by simpa[ByteArray.size]using hn) cQ.base;have kU:(⟨s.toArray⟩:ByteArray).size=s.length:=rfl;rw[kU]at aQ;have hx:All2 (DRel w1 G.L) xs (bcs l).flatten:=zqA aq hd (zd6 l) (zeZ l);obtain⟨G2,eN,cn,hT⟩:=zjD cQ i6 hμ2 aq aQ aD (zd6 s) bU (zd6 l) (zeZ l) (zeZ s) hx (zDB s);refine⟨v',w2,G2,λty=>au,eN,cn,by rw[←zuY];exact hT,?_⟩;rcases aD with ⟨g,k1,_,k3⟩ | ⟨_,k3⟩
    ·exact k3.block b fP (λh=>i7 (by rw[k1,h]))
    ·exact k3.block b fP (by simp)
  obtain⟨v',w2,G2,au,eN,cn,fQ,bD⟩:=key;have f5:=bD.trans ju;have hμ':=(eN.blk hμ);obtain⟨jQ,gG⟩:=cn.storeB (id:=id) (cs':=[.ptr id 0,.sl (bcs (l++s)) (.own id2)]) (vs':=#[.pointer (some ⟨b,0,none⟩),v']) (by rw[List.getElem?_set_ne (λh=>aB h.symm)];exact List.getElem?_set_self (List.getElem?_eq_some_iff.1 h1).1) hμ' f5 ⟨⟨b,hμ',rfl⟩,fQ,trivial⟩;refine (zHZ b ⟨s.toArray⟩ v v' w w1 w2 bX ju au f5 ?_).mono ?_
  ·obtain⟨dK,_⟩:=fQ;generalize bcs (l++s)=cs at dK;cases dK with
   | slE a c=>exact⟨_,_,_,rfl⟩
   | sl=>exact⟨_,_,_,rfl⟩
  ·rintro e w' ⟨rfl,rfl⟩;have aU:w2.setCell ⟨b,1,none⟩ v'=w2.setRow b #[.pointer (some ⟨b,0,none⟩),v']:=by rw[setCell_eq_setRow w2 b 1 _ _ _ _ f5];rfl
   rw[aU];refine⟨_,_,_,G2,rfl,(fw.trans eN).trans jQ,?_,?_,hK⟩
   ·rw[List.set_comm _ _ aB,List.set_set]at gG;exact gG
   ·exact⟨#[.int .i64 s.length,.nilIface],rfl,rfl,rfl,trivial⟩
end Go.Proofs.YtdmamdnkcefmmaaGreatDoor
namespace Go.Proofs.YtdmamdnkcefmmaaGreatDoor
open Go Go.RowKit
theorem zDL:tP.cellsOf 5=1:=by kernel_rfl
set_option maxHeartbeats 2000000 in
set_option maxRecDepth 100000 in
theorem zHo {fr:Nat × Nat} (b g cap n:Nat) (p:Value) (cur:Array Value) (l:List UInt8) (w:World) (h0:l≠[]) (i8:w.heap[b]?=some (.cells #[p,.slice (some ⟨g,0,none⟩) l.length cap] 112 (0,0)))
  (hg:w.heap[g]?=some (.cells cur 5 fr)) (bH:l.length≤cap) (cX:cap≤maxLen) (aK:cur.size=cap)
  (aG:∀ j x,l[j]?=some x→w.cell? ((⟨g,0,none⟩:Addr).add j)=some (.int .u8 x.toNat)) :
  Calls tP zhq #[.pointer (some ⟨b,0,none⟩)] w λe w'=>e=.returned (.string ⟨l.toArray⟩)∧w'=w.drew.freeze ⟨g,0,none⟩ l.length:=by
 have dQ:l.length≠0:=by simpa using h0
 have c1:w.drew.cell? ⟨b,1,none⟩=some (.slice (some ⟨g,0,none⟩) l.length cap):=by have:w.drew.heap[b]?=some (.cells #[p,.slice (some ⟨g,0,none⟩) l.length cap] 112 (0,0)):=i8;rw[Lib.cell_of_heap this];rfl
 have hSD:(Builtin.unsafeSliceData_ #[110] 174 #[.slice (some ⟨g,0,none⟩) l.length cap]).run tP w.drew=.ok (.pointer (some ⟨g,0,none⟩)) w.drew:=
  Lib.run_unsafeSliceData_row _ _ _ _ _ _ (by omega)
 have hUS:(Builtin.unsafeString_ #[174,3] 9 #[.pointer (some ⟨g,0,none⟩),.int .i64 l.length]).run tP w.drew=.ok (.string ⟨l.toArray⟩) (w.drew.freeze ⟨g,0,none⟩ l.length):=by refine Lib.run_unsafeString_row w.drew 174 3 9 5 Tryz.underlying174 zDL g cur.size (by have eH:w.drew.heap[g]?=some (.cells cur 5 fr):=hg;simp[World.shape?,eH]) l h0 (by omega) (by unfold maxLen at cX;omega) ?_;intro j x hx;exact aG j x hx
 go_enter Tryz.func76,Tryz.ntmps76
 go_wp2
 go_region
 all_goals (go_wp2;go_ret;exact⟨rfl,rfl⟩)
end Go.Proofs.YtdmamdnkcefmmaaGreatDoor
namespace Go.Proofs.YtdmamdnkcefmmaaGreatDoor
open Go Go.RowKit Go.Abs
theorem zuZ {w:World} {L:Nat→Nat}:∀ {l:List UInt8} {xs:List Value},All2 (DRel w L) xs (bcs l).flatten→xs=l.map λb=>Value.int .u8 b.toNat
 | [],[],_=>rfl
 | [],_::_,h=>h.elim
 | _::_,[],h=>h.elim
 | c::l,x::xs,⟨bI,bh⟩=>by cases bI;rw[List.map_cons,zuZ (l:=l) bh]
end Go.Proofs.YtdmamdnkcefmmaaGreatDoor
namespace Go.Proofs.YtdmamdnkcefmmaaGreatDoor
open Go Go.Abs
set_option maxRecDepth 100000
section
variable (t0:AV) (H:zaa) (K:Kt)
def zPx (_:Nat):List Bool:=[]
noncomputable def zPy:Code:=Tryz.f240.body.getD .skip
def zsO:Prop:=zac .lss false t0 (.int .i64 10) λt4=>zag t4 (zac .add false t0 (.int .i64 1) λt7=>zaR 0 0 (.str [48,49,50,51,52,53,54,55,56,57,97,98,99,100,101,102,103,104,105,106,107,108,109,110,111,112,113,114,115,116,117,118,119,120,121,122]) (some t0) (some t7) λt8=>K t8 H) (zac .mul false t0 (.int .i64 2) λt10=>zac .mul false t0 (.int .i64 2) λt12=>zac .add false t12 (.int .i64 2) λt13=>zaR 0 0 (.str [48,48,48,49,48,50,48,51,48,52,48,53,48,54,48,55,48,56,48,57,49,48,49,49,49,50,49,51,49,52,49,53,49,54,49,55,49,56,49,57,50,48,50,49,50,50,50,51,50,52,50,53,50,54,50,55,50,56,50,57,51,48,51,49,51,50,51,51,51,52,51,53,51,54,51,55,51,56,51,57,52,48,52,49,52,50,52,51,52,52,52,53,52,54,52,55,52,56,52,57,53,48,53,49,53,50,53,51,53,52,53,53,53,54,53,55,53,56,53,57,54,48,54,49,54,50,54,51,54,52,54,53,54,54,54,55,54,56,54,57,55,48,55,49,55,50,55,51,55,52,55,53,55,54,55,55,55,56,55,57,56,48,56,49,56,50,56,51,56,52,56,53,56,54,56,55,56,56,56,57,57,48,57,49,57,50,57,51,57,52,57,53,57,54,57,55,57,56,57,57]) (some t10) (some t13) λt14=>K t14 H)
def zJA (_:Nat):List Bool:=[]
noncomputable def zJB:Code:=Tryz.f127.body.getD .skip
def zJz:Prop:=ACalls tP zwh [t0] H λt4 H=>K t4 H
def zMT (_:Nat):List Bool:=[]
noncomputable def zMU:Code:=Tryz.f170.body.getD .skip
def zMS:Prop:=ACalls tP zpc [t0,(.int .i64 10)] H λt4 H=>K t4 H
variable {t0} {H} {K}
theorem zPz (h:HSc H→zsO t0 H K):ACalls tP zph [t0] H K:=
 acb zPx Tryz.func240 zPy (by kernel_rfl) (by kernel_rfl) h
theorem zJC (h:HSc H→zJz t0 H K):ACalls tP zoM [t0] H K:=
 acb zJA Tryz.func127 zJB (by kernel_rfl) (by kernel_rfl) h
theorem zMV (h:HSc H→zMS t0 H K):ACalls tP zwh [t0] H K:=
 acb zMT Tryz.func170 zMU (by kernel_rfl) (by kernel_rfl) h
end
end Go.Proofs.YtdmamdnkcefmmaaGreatDoor
namespace Go.Proofs.YtdmamdnkcefmmaaGreatDoor
open Go Go.RowKit Go.Abs
def small (n:Nat):List UInt8:=if n<10 then [48+UInt8.ofNat n] else [48+UInt8.ofNat (n / 10),48+UInt8.ofNat (n % 10)]
def digs:List UInt8:=[48,49,50,51,52,53,54,55,56,57,97,98,99,100,101,102,103,104,105,106,107,108,109,110,111,112,113,114,115,116,117,118,119,120,121,122]
def pairs:List UInt8:=(List.range 100).flatMap λn=>[48+UInt8.ofNat (n / 10),48+UInt8.ofNat (n % 10)]
theorem zEd:∀ n,n<10→(digs.take (n+1)).drop n=small n:=by decide
theorem zFG:∀ n,n<100→10≤n→(pairs.take (2*n+2)).drop (2*n)=small n:=by decide
theorem zGH (n:Nat) (hn:n<100) (H:zaa) (K:Kt) (hK:K (.str (small n)) H):ACalls tP zph [.int .i64 n] H K:=by
 refine zPz λhs=>?_;by_cases eB:n<10
 ·have:(n:Int)<10:=by omega
  have e1:IntKind.i64.wrap ((n:Int)+1)=((n+1:Nat):Int):=by rw[zat (by omega) (by omega)];omega
  simp[zsO,this];rw[e1];refine⟨by omega,⟨by omega,by omega⟩,?_⟩;have cu:K (.str ((digs.take (n+1)).drop n)) H:=by rw[zEd n eB];exact hK
  rw[Int.toNat_natCast];exact cu
 ·have:¬ (n:Int)<10:=by omega
  have e1:IntKind.i64.wrap ((n:Int)*2)=((2*n:Nat):Int):=by rw[zat (by omega) (by omega)];omega
  have e2:IntKind.i64.wrap (((2*n:Nat):Int)+2)=((2*n+2:Nat):Int):=by rw[zat (by omega) (by omega)];omega
  simp[zsO,this];rw[e1,e2];refine⟨by omega,by omega,⟨by omega,by omega⟩,?_⟩;have cu:K (.str ((pairs.take (2*n+2)).drop (2*n))) H:=by rw[zFG n hn (by omega)];exact hK
  have hp:pairs=[48,48,48,49,48,50,48,51,48,52,48,53,48,54,48,55,48,56,48,57,49,48,49,49,49,50,49,51,49,52,49,53,49,54,49,55,49,56,49,57,50,48,50,49,50,50,50,51,50,52,50,53,50,54,50,55,50,56,50,57,51,48,51,49,51,50,51,51,51,52,51,53,51,54,51,55,51,56,51,57,52,48,52,49,52,50,52,51,52,52,52,53,52,54,52,55,52,56,52,57,53,48,53,49,53,50,53,51,53,52,53,53,53,54,53,55,53,56,53,57,54,48,54,49,54,50,54,51,54,52,54,53,54,54,54,55,54,56,54,57,55,48,55,49,55,50,55,51,55,52,55,53,55,54,55,55,55,56,55,57,56,48,56,49,56,50,56,51,56,52,56,53,56,54,56,55,56,56,56,57,57,48,57,49,57,50,57,51,57,52,57,53,57,54,57,55,57,56,57,57]:=by decide
  rw[hp]at cu;rw[Int.toNat_natCast,Int.toNat_natCast];exact cu
theorem zEI (n:Nat) (hn:n<100) (w:World) (R:World→Prop) (s:ByteArray)
  (hs:Calls tP zph #[.int .i64 n] w λe w'=>e=.returned (.string s)∧R w') :
  Calls tP zpc #[.int .i64 n,.int .i64 10] w λe w'=>e=.returned (.string s)∧R w':=by
 have a1:((0:Int)≤(n:Int)):=by omega
 have a2:((n:Int)<100):=by omega
 go_enter Tryz.func215,Tryz.ntmps215
 go_wp2_with (go_at_call 240;refine hs.mono ?_)
 rintro e w1 ⟨rfl,hR⟩
 go_wp2
 go_ret
 exact⟨rfl,hR⟩
theorem zEJ (n:Nat) (hn:n<100) (H:zaa) (K:Kt) (hK:K (.str (small n)) H):ACalls tP zpc [.int .i64 n,.int .i64 10] H K:=by
 intro B w G ⟨vs⟩ hH hv
 match vs,hv with
 | [v0,v1],⟨h0,h1,_⟩=>
  have h0:v0=.int .i64 n:=h0;have h1:v1=.int .i64 10:=h1;subst h0 h1;have hs:=zGH n hn H (λr H'=>r=.str (small n)∧H'=H) ⟨rfl,rfl⟩ B w G #[.int .i64 n] hH ⟨rfl,trivial⟩;refine (zEI n hn w (λw'=>∃ G',Ext B w G w' G'∧HRel B w' G' H) ⟨(small n).toArray⟩ (hs.mono ?_)).mono ?_
  ·rintro e w1 ⟨v,r,H',G',rfl,hE,aT,hT,rfl,rfl⟩;have hT:v=.string ⟨(small n).toArray⟩:=hT;exact⟨by rw[hT],G',hE,aT⟩
  ·rintro e w1 ⟨rfl,G',hE,aT⟩;exact⟨_,.str (small n),_,G',rfl,hE,aT,rfl,hK⟩
theorem zCW (n:Nat) (hn:n<100) (H:zaa) (K:Kt) (hK:K (.str (small n)) H):ACalls tP zoM [.int .i64 n] H K:=
 zJC λhs=>zMV λhs=>zEJ n hn _ _ hK
end Go.Proofs.YtdmamdnkcefmmaaGreatDoor
namespace Go.Proofs.YtdmamdnkcefmmaaGreatDoor
open Go Go.Abs
@[congr] theorem zVf {m:WM} {g:Bool} {H:zaa} {p:(AV→zaa→Prop)→Prop} {k:AV→zaa→Prop}:zdv m g H p k=zdv m g H p k:=rfl
def wb (H:zaa) (id id2:Nat) (l:List UInt8):zaa:=(H.set id2 (.perm 5 1 l.length)).set id (.bld 112 [.ptr id 0,.sl (bcs l) (.own id2)])
structure Wb (H:zaa) (id id2:Nat) (l:List UInt8):Prop where
 ne:id≠id2
 h1:∃ p,(p=.nilp∨p=.ptr id 0)∧H[id]?=some (.bld 112 [p,.sl (bcs l) (.own id2)])
 h2:H[id2]?=some (.perm 5 1 l.length)
section
variable {H J:zaa} {id id2:Nat} {l l' s:List UInt8}
theorem Wb.lt1 (h:Wb H id id2 l):id<H.length:=by obtain⟨p,_,h⟩:=h.h1;exact (List.getElem?_eq_some_iff.1 h).1
theorem Wb.lt2 (h:Wb H id id2 l):id2<H.length:=(List.getElem?_eq_some_iff.1 h.h2).1
@[simp] theorem zYB:(wb H id id2 l).length=H.length:=by simp[wb]
theorem zka (aB:id≠id2):wb (wb H id id2 l) id id2 l'=wb H id id2 l':=by unfold wb;rw[List.set_comm _ _ aB,List.set_set,List.set_set]
theorem Wb.app (h:Wb H id id2 l):Wb (H++J) id id2 l:=by obtain⟨p,hp,h1⟩:=h.h1;exact⟨h.ne,⟨p,hp,by rw[List.getElem?_append_left h.lt1];exact h1⟩,by rw[List.getElem?_append_left h.lt2];exact h.h2⟩
theorem Wb.wb_app (h:Wb H id id2 l):wb (H++J) id id2 l'=wb H id id2 l'++J:=by unfold wb;rw[List.set_append_left _ _ h.lt2,List.set_append_left _ _ (by simpa using h.lt1)]
theorem Wb.next (h:Wb H id id2 l):Wb (wb H id id2 l') id id2 l':=by
 refine⟨h.ne,⟨_,.inr rfl,?_⟩,?_⟩
 ·unfold wb;rw[List.getElem?_set_self (by simpa using h.lt1)]
 ·unfold wb;rw[List.getElem?_set_ne h.ne,List.getElem?_set_self h.lt2]
theorem Wb.hsc (h:Wb H id id2 l) (hs:HSc H):HSc (wb H id id2 l'):=by refine HSc.set (HSc.set hs rfl) ?_;have:=h.lt1;have:=h.lt2;simp[AB.sc,AV.scA,AV.scB];try omega
theorem Ws (h:Wb H id id2 l) (hn:l.length+s.length≤140737488355328) {K:AV→zaa→Prop} (hK:K (.tup [.int .i64 s.length,.nili]) (wb H id id2 (l++s))) :
  ACalls tP ziP [.ptr id 0,.str s] H K:=by
 obtain⟨p,hp,h1⟩:=h.h1;refine zC7 hp h1 h.h2 hn ?_;unfold wb at hK;rwa [List.length_append]at hK
end
end Go.Proofs.YtdmamdnkcefmmaaGreatDoor
