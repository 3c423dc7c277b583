import Derived.Calls
import Derived.Orders
import Derived.Below
import Derived.Laws.AppendOwn
import Derived.Laws.Alloc2
import Derived.Laws.AppendOwnNone
import Derived.Laws.Strings
import Derived.Laws.MakeOwn
import Derived.Laws.BytesString
import Derived.MapKept
set_option linter.unusedSimpArgs false
set_option linter.unusedVariables false
set_option maxRecDepth 8000
namespace Go.Proofs.YtdmamdnkcefmmaaGreatDoor
section
open Go.RowKit

inductive Tok where
 | none
 | full
 | own (id:Nat)

inductive AV where
 | unk
 | bool (b:Bool)
 | int (k:IntKind) (n:Int)
 | str (s:List UInt8)
 | nilp
 | ptr (id off:Nat)
 | view (cs:List AV)
 | snil
 | sl (es:List (List AV)) (tok:Tok)
 | ms (id off len cap:Nat)
 | ov (id n:Nat)
 | vp (id n off:Nat)
 | os (id n lo ag:Nat)
 | map (id:Nat)
 | fn (f:Nat) (caps:List AV)
 | nilfn
 | nili
 | ifc
 | agg (cs:List AV)
 | tup (vs:List AV)

inductive AB where
 | cells (cs:List AV)
 | perm (e size n:Nat)
 | map (kvs:List (List UInt8 × AV))
 | gap
 | bld (t:TypeId) (cs:List AV)
 | vec (e size n:Nat) (cs:List AV)
 | dead
 | fact (φ:World→Prop)
 | frz (e size n:Nat)

abbrev zaa:=List AB

inductive GI where
 | blk (b:Nat)
 | own (v:Value) (size n:Nat)
 | gap

structure Gh where
 L:Nat→Nat
 μ:List GI

def All2 {α β:Type} (R:α→β→Prop):List α→List β→Prop
 | [],[]=>True
 | a::asx,b::bs=>R a b∧All2 R asx bs
 | _,_=>False

section
variable {α β:Type} {R R':α→β→Prop}
theorem All2.length:∀ {asx:List α} {bs:List β},All2 R asx bs→asx.length=bs.length
 | [],[],_=>rfl
 | _::_,_::_,h=>by simp[All2.length h.2]
theorem All2.mono (hr:∀ a b,R a b→R' a b):∀ {asx:List α} {bs:List β},All2 R asx bs→All2 R' asx bs
 | [],[],_=>trivial
 | _::_,_::_,h=>⟨hr _ _ h.1,All2.mono hr h.2⟩
theorem All2.get:∀ {asx:List α} {bs:List β},All2 R asx bs→∀ {i:Nat} {b:β},bs[i]?=some b→∃ a,asx[i]?=some a∧R a b
 | [],[],_,i,b,h=>by simp at h
 | a::_,_::_,h,0,b,hb=>⟨a,by simp,by simp at hb;exact hb ▸ h.1⟩
 | _::_,_::_,h,i+1,b,hb=>by simpa using All2.get h.2 (by simpa using hb)
theorem All2.get':∀ {asx:List α} {bs:List β},All2 R asx bs→∀ {i:Nat} {a:α},asx[i]?=some a→∃ b,bs[i]?=some b∧R a b
 | [],[],_,i,b,h=>by simp at h
 | a::_,b::_,h,0,a',hb=>⟨b,by simp,by simp at hb;exact hb ▸ h.1⟩
 | _::_,_::_,h,i+1,b,hb=>by simpa using All2.get' h.2 (by simpa using hb)
theorem All2.of_get:∀ {asx:List α} {bs:List β},asx.length=bs.length→(∀ (i:Nat) a b,asx[i]?=some a→bs[i]?=some b→R a b)→All2 R asx bs
 | [],[],_,_=>trivial
 | a::asx,b::bs,hl,h=>⟨h 0 a b rfl rfl,All2.of_get (by simpa using hl) (λi x y hx hy=>h (i+1) x y (by simpa using hx) (by simpa using hy))⟩
theorem All2.append:∀ {asx:List α} {bs:List β} {cs:List α} {ds:List β},All2 R asx bs→All2 R cs ds→All2 R (asx++cs) (bs++ds)
 | [],[],_,_,_,h=>h
 | _::_,_::_,_,_,h,h'=>⟨h.1,All2.append h.2 h'⟩
theorem All2.take:∀ {asx:List α} {bs:List β} (n:Nat),All2 R asx bs→All2 R (asx.take n) (bs.take n)
 | [],[],n,_=>by simp[All2]
 | _::_,_::_,0,_=>by simp[All2]
 | _::_,_::_,n+1,h=>⟨h.1,All2.take n h.2⟩
theorem All2.drop:∀ {asx:List α} {bs:List β} (n:Nat),All2 R asx bs→All2 R (asx.drop n) (bs.drop n)
 | [],[],n,_=>by simp[All2]
 | _::_,_::_,0,h=>h
 | _::_,_::_,n+1,h=>by simpa using All2.drop n h.2
theorem All2.set:∀ {asx:List α} {bs:List β} (i:Nat) {a:α} {b:β},All2 R asx bs→R a b→All2 R (asx.set i a) (bs.set i b)
 | [],[],_,_,_,_,_=>trivial
 | _::_,_::_,0,_,_,h,h'=>⟨h',h.2⟩
 | _::_,_::_,i+1,_,_,h,h'=>⟨h.1,All2.set i h.2 h'⟩
theorem All2.replicate {a:α} {b:β} (h:R a b):∀ n,All2 R (List.replicate n a) (List.replicate n b)
 | 0=>trivial
 | n+1=>⟨h,All2.replicate h n⟩
end

inductive DRel (w:World) (L:Nat→Nat):Value→AV→Prop
 | bool (b:Bool):DRel w L (.bool b) (.bool b)
 | int (k:IntKind) (n:Int):DRel w L (.int k n) (.int k n)
 | str (s:List UInt8):DRel w L (.string ⟨s.toArray⟩) (.str s)
 | slE (a:Option Addr) (cap:Nat):DRel w L (.slice a 0 cap) (.sl [] .none)
 | sl (b off cap ag:Nat) (es:List (List AV)) (vs:Nat→Nat→Value) (aB:es≠[]) (aL:es.length≤cap) (hL:off+es.length*ag≤L b)
   (aD:∀ i (h:i<es.length),(es[i]).length=ag)
   (hc:∀ i j (hi:i<es.length) (_:j<(es[i]).length),w.cell? ⟨b,off+i*ag+j,none⟩=some (vs i j))
   (hd:∀ i j (hi:i<es.length) (hj:j<(es[i]).length),DRel w L (vs i j) (es[i])[j]) :
   DRel w L (.slice (some ⟨b,off,none⟩) es.length cap) (.sl es .none)

theorem DRel.mono {w w':World} {L L':Nat→Nat} (hL:∀ b,L b≤L' b) (hc:∀ b off,off<L b→w'.cell? ⟨b,off,none⟩=w.cell? ⟨b,off,none⟩) :
  ∀ {v:Value} {a:AV},DRel w L v a→DRel w' L' v a:=by
 intro v a h;induction h with
 | bool b=>exact .bool b
 | int k n=>exact .int k n
 | str s=>exact .str s
 | slE a cap=>exact .slE a cap
 | sl b off cap ag es vs aB aL gL aD aH hd ih=>
  refine .sl b off cap ag es vs aB aL (Nat.le_trans gL (hL b)) aD (λi j hi hj=>?_) ih;rw[hc b _ ?_]
  ·exact aH i j hi hj
  ·have h1:=aD i hi;have h2:(i+1)*ag≤es.length*ag:=Nat.mul_le_mul_right _ hi;rw[Nat.add_mul]at h2;omega

def CRel (w:World) (L:Nat→Nat) (b off:Nat) (cs:List AV):Prop:=
 off+cs.length≤L b∧∃ vs:List Value,All2 (DRel w L) vs cs∧∀ j v,vs[j]?=some v→w.cell? ⟨b,off+j,none⟩=some v

theorem CRel.mono {w w':World} {L L':Nat→Nat} {b off:Nat} {cs:List AV} (hL:∀ b,L b≤L' b) (hc:∀ b off,off<L b→w'.cell? ⟨b,off,none⟩=w.cell? ⟨b,off,none⟩)
  (h:CRel w L b off cs):CRel w' L' b off cs:=by
 obtain⟨h1,vs,h2,h3⟩:=h;refine⟨Nat.le_trans h1 (hL b),vs,h2.mono λ_ _=>DRel.mono hL hc,λj v hj=>?_⟩;rw[hc b _ ?_]
 ·exact h3 j v hj
 ·have:=h2.length;have:j<vs.length:=(List.getElem?_eq_some_iff.1 hj).1;omega

theorem CRel.drop {w:World} {L:Nat→Nat} {b off:Nat} {cs:List AV} (n:Nat) (hn:n≤cs.length) (h:CRel w L b off cs):CRel w L b (off+n) (cs.drop n):=by obtain⟨h1,vs,h2,h3⟩:=h;refine⟨by simp;omega,vs.drop n,h2.drop n,λj v hj=>?_⟩;have:=h3 (n+j) v (by simpa using hj);rwa [show off+n+j=off+(n+j) by omega]

theorem DRel.elem {w:World} {L:Nat→Nat} {v:Value} {es:List (List AV)} (h:DRel w L v (.sl es .none)) {i:Nat} (hi:i<es.length) :
  ∃ b off cap,v=.slice (some ⟨b,off,none⟩) es.length cap∧es.length≤cap∧(∃ ag,(∀ k (hk:k<es.length),(es[k]).length=ag)) ∧
   ∀ k (hk:k<es.length),CRel w L b (off+k*(es[i]).length) es[k]:=by
 cases h with
 | slE a cap=>simp at hi
 | sl b off cap ag _ vs aB aL gL aD aH hd=>
  refine⟨b,off,cap,rfl,aL,⟨ag,aD⟩,λk hk=>?_⟩;rw[aD i hi];have h2:(k+1)*ag≤es.length*ag:=Nat.mul_le_mul_right _ hk;rw[Nat.add_mul]at h2;refine⟨by rw[aD k hk];omega,(List.range (es[k]).length).map (vs k),?_,?_⟩
  ·refine All2.of_get (by simp) λj x y hx hy=>?_;have hj:j<(es[k]).length:=(List.getElem?_eq_some_iff.1 hy).1;simp[List.getElem?_map,List.getElem?_range hj]at hx;have:(es[k])[j]=y:=(List.getElem?_eq_some_iff.1 hy).2;rw[←hx,←this];exact hd k j hk hj
  ·intro j x hx;have hj:j<(es[k]).length:=by have:=(List.getElem?_eq_some_iff.1 hx).1;simpa using this
   simp[List.getElem?_map,List.getElem?_range hj]at hx;rw[←hx];exact aH k j hk hj

theorem DRel.slice_form {w:World} {L:Nat→Nat} {v:Value} {es:List (List AV)} (h:DRel w L v (.sl es .none)):∃ a cap,v=.slice a es.length cap∧(es≠[]→es.length≤cap):=by
 cases h with
 | slE a cap=>exact⟨a,cap,rfl,by simp⟩
 | sl b off cap ag _ vs aB aL gL aD aH hd=>exact⟨_,cap,rfl,λ_=>aL⟩

def SlF (v:Value) (n:Nat):Prop:=∃ a cap,v=.slice a n cap∧(0<n→∃ b,a=some ⟨b,0,none⟩)∧n≤cap
def zii (size lo:Nat):Value→Value
 | .slice (some a) n c=>.slice (some (if c=lo then a else a.add (lo*size))) (n-lo) (c-lo)
 | .slice none n c=>.slice none (n-lo) (c-lo)
 | v=>v
def BRel (w:World) (G:Gh) (v:Value):AV→Prop
 | .unk=>True
 | .nilp=>v=.pointer none
 | .ptr id off=>∃ b,G.μ[id]?=some (.blk b)∧v=.pointer (some ⟨b,off,none⟩)
 | .view cs=>∃ b off,v=.pointer (some ⟨b,off,none⟩)∧CRel w G.L b off cs
 | .snil=>v=.slice none 0 0
 | .sl es .none=>DRel w G.L v (.sl es .none)
 | .sl es .full=>DRel w G.L v (.sl es .none)∧∃ a,v=.slice a es.length es.length
 | .sl es (.own id)=>DRel w G.L v (.sl es .none)∧∃ v' size n,G.μ[id]?=some (.own v' size n)∧es.length≤n∧(es.length=n→v=v'∧∀ c∈es,c.length=size)
 | .ms id off len cap=>∃ b,G.μ[id]?=some (.blk b)∧v=.slice (some ⟨b,off,none⟩) len cap
 | .map id=>∃ b,G.μ[id]?=some (.blk b)∧v=.map (some b)
 | .ov id n=>SlF v n∧∃ v' size n',G.μ[id]?=some (.own v' size n')∧n≤n'∧(n=n'→v=v')
 | .vp id n off=>(∃ b o,v=.pointer (some ⟨b,o,none⟩))∧∃ v' size n',G.μ[id]?=some (.own v' size n')∧n≤n'∧(n=n'→∃ g,v'.ownBlock=some g∧v=.pointer (some ⟨g,off,none⟩))
 | .os id n lo ag=>(lo≤n∧∃ a c,v=.slice a (n-lo) c∧n-lo≤c)∧∃ v' size n',G.μ[id]?=some (.own v' size n')∧n≤n'∧(n=n'→v=zii ag lo v')
 | .nilfn=>v=.nilFunc
 | .nili=>v=.nilIface
 | .ifc=>∃ t x,v=.iface t x
 | .bool b=>v=.bool b
 | .int k n=>v=.int k n
 | .str s=>v=.string ⟨s.toArray⟩
 | _=>False

def ARel (w:World) (G:Gh) (v:Value):AV→Prop
 | .fn f caps=>∃ vs:Array Value,v=.func (.func f) #[] vs∧All2 (BRel w G) vs.toList caps
 | a=>BRel w G v a

def VRel (w:World) (G:Gh) (v:Value):AV→Prop
 | .agg cs=>∃ vs:Array Value,v=.agg vs∧All2 (ARel w G) vs.toList cs
 | a=>ARel w G v a

def TRel (w:World) (G:Gh) (v:Value):AV→Prop
 | .tup asx=>∃ vs:Array Value,v=.tuple vs∧All2 (VRel w G) vs.toList asx
 | a=>VRel w G v a

def GI.le:GI→GI→Prop
 | .blk b,.blk b'=>b=b'
 | .own v size n,.own v' size' n'=>size=size'∧((v=v'∧n=n')∨n<n')
 | .gap,_=>True
 | _,_=>False

theorem GI.le_refl:∀ g:GI,g.le g
 | .blk _=>rfl
 | .own _ _ _=>⟨rfl,.inl ⟨rfl,rfl⟩⟩
 | .gap=>trivial
theorem GI.le_trans:∀ {a b c:GI},a.le b→b.le c→a.le c
 | .blk _,.blk _,.blk _,h,h'=>Eq.trans h h'
 | .own _ _ _,.own _ _ _,.own _ _ _,h,h'=>⟨h.1.trans h'.1,by
   rcases h.2 with ⟨rfl,rfl⟩ | h1 <;> rcases h'.2 with ⟨rfl,rfl⟩ | h2
   ·exact .inl ⟨rfl,rfl⟩
   ·exact .inr h2
   ·exact .inr h1
   ·exact .inr (Nat.lt_trans h1 h2)⟩
 | .own _ _ _,.blk _,_,h,_=>h.elim
 | .blk _,.own _ _ _,_,h,_=>h.elim
 | .gap,_,_,_,_=>trivial
 | .blk _,.gap,_,h,_=>h.elim
 | .own _ _ _,.gap,_,h,_=>h.elim

structure Ext (B:Nat) (w:World) (G:Gh) (w':World) (G':Gh):Prop where
 dr:w.drawn≤w'.drawn
 below:Below B w w'
 lev:∀ b,G.L b≤G'.L b
 cell:∀ b off,off<G.L b→w'.cell? ⟨b,off,none⟩=w.cell? ⟨b,off,none⟩
 ids:∀ (id:Nat) gi,G.μ[id]?=some gi→∃ gi',G'.μ[id]?=some gi'∧gi.le gi'

theorem Ext.refl (B:Nat) (w:World) (G:Gh):Ext B w G w G:=⟨Nat.le_refl _,Below.refl _ _,λ_=>Nat.le_refl _,λ_ _ _=>rfl,λ_ gi h=>⟨gi,h,gi.le_refl⟩⟩
theorem Ext.trans {B:Nat} {w w' w'':World} {G G' G'':Gh} (h:Ext B w G w' G') (h':Ext B w' G' w'' G''):Ext B w G w'' G'':=
 ⟨Nat.le_trans h.dr h'.dr,h.below.trans h'.below,λb=>Nat.le_trans (h.lev b) (h'.lev b),λb off ho=>(h'.cell b off (Nat.lt_of_lt_of_le ho (h.lev b))).trans (h.cell b off ho),
  λid gi hg=>by
   obtain⟨g1,h1,l1⟩:=h.ids id gi hg;obtain⟨g2,h2,l2⟩:=h'.ids id g1 h1;exact⟨g2,h2,GI.le_trans l1 l2⟩⟩

section
variable {B:Nat} {w w':World} {G G':Gh} {v:Value}
theorem Ext.drel (h:Ext B w G w' G') {a:AV} (hr:DRel w G.L v a):DRel w' G'.L v a:=hr.mono h.lev h.cell
theorem Ext.blk (h:Ext B w G w' G') {id b:Nat} (hb:G.μ[id]?=some (.blk b)):G'.μ[id]?=some (.blk b):=by
 obtain⟨g,h1,h2⟩:=h.ids id _ hb;cases g with
 | blk b'=>cases h2;exact h1
 | own _ _ _=>exact h2.elim
 | gap=>exact h2.elim
theorem Ext.brel (h:Ext B w G w' G'):∀ {a:AV},BRel w G v a→BRel w' G' v a
 | .unk,_=>trivial
 | .nilp,hr=>hr
 | .ptr _ _,⟨b,h1,h2⟩=>⟨b,h.blk h1,h2⟩
 | .view _,⟨b,off,h1,h2⟩=>⟨b,off,h1,h2.mono h.lev h.cell⟩
 | .snil,hr=>hr
 | .sl _ .none,hr=>h.drel hr
 | .sl _ .full,hr=>⟨h.drel hr.1,hr.2⟩
 | .sl es (.own id),⟨hr,v',size,n,hμ,aS,heq⟩=>by
  refine⟨h.drel hr,?_⟩;obtain⟨g,h1,h2⟩:=h.ids id _ hμ;cases g with
  | blk b=>exact h2.elim
  | gap=>exact h2.elim
  | own v2 s2 n2=>
   obtain⟨rfl,⟨rfl,rfl⟩ | ak⟩:=h2
   ·exact⟨v',size,n,h1,aS,heq⟩
   ·exact⟨v2,size,n2,h1,by omega,λe=>by omega⟩
 | .ms _ _ _ _,⟨b,h1,h2⟩=>⟨b,h.blk h1,h2⟩
 | .ov id n,⟨hr,v',size,n',hμ,aS,heq⟩=>by
  refine⟨hr,?_⟩;obtain⟨g,h1,h2⟩:=h.ids id _ hμ;cases g with
  | blk b=>exact h2.elim
  | gap=>exact h2.elim
  | own v2 s2 n2=>
   obtain⟨rfl,⟨rfl,rfl⟩ | ak⟩:=h2
   ·exact⟨v',size,n',h1,aS,heq⟩
   ·exact⟨v2,size,n2,h1,by omega,λe=>by omega⟩
 | .vp id n off,⟨hr,v',size,n',hμ,aS,heq⟩=>by
  refine⟨hr,?_⟩;obtain⟨g,h1,h2⟩:=h.ids id _ hμ;cases g with
  | blk b=>exact h2.elim
  | gap=>exact h2.elim
  | own v2 s2 n2=>
   obtain⟨rfl,⟨rfl,rfl⟩ | ak⟩:=h2
   ·exact⟨v',size,n',h1,aS,heq⟩
   ·exact⟨v2,size,n2,h1,by omega,λe=>by omega⟩
 | .os id n lo ag,⟨hr,v',size,n',hμ,aS,heq⟩=>by
  refine⟨hr,?_⟩;obtain⟨g,h1,h2⟩:=h.ids id _ hμ;cases g with
  | blk b=>exact h2.elim
  | gap=>exact h2.elim
  | own v2 s2 n2=>
   obtain⟨rfl,⟨rfl,rfl⟩ | ak⟩:=h2
   ·exact⟨v',size,n',h1,aS,heq⟩
   ·exact⟨v2,size,n2,h1,by omega,λe=>by omega⟩
 | .map _,⟨b,h1,h2⟩=>⟨b,h.blk h1,h2⟩
 | .nilfn,hr=>hr
 | .nili,hr=>hr
 | .ifc,hr=>hr
 | .bool _,hr=>hr
 | .int _ _,hr=>hr
 | .str _,hr=>hr
 | .fn _ _,hr=>hr.elim
 | .agg _,hr=>hr.elim
 | .tup _,hr=>hr.elim
theorem ARel.of_b {a:AV} (h:BRel w G v a):ARel w G v a:=by cases a <;> first | exact h | exact h.elim
theorem VRel.of_a {a:AV} (h:ARel w G v a):VRel w G v a:=by cases a <;> first | exact h | exact h.elim
theorem TRel.of_v {a:AV} (h:VRel w G v a):TRel w G v a:=by cases a <;> first | exact h | exact h.elim
theorem Ext.arel (h:Ext B w G w' G') {a:AV} (hr:ARel w G v a):ARel w' G' v a:=by
 cases a with
 | fn f caps=>obtain⟨vs,h1,h2⟩:=hr;exact⟨vs,h1,h2.mono λ_ _=>h.brel⟩
 | _=>exact ARel.of_b (h.brel hr)
theorem Ext.vrel (h:Ext B w G w' G') {a:AV} (hr:VRel w G v a):VRel w' G' v a:=by
 cases a with
 | agg cs=>obtain⟨vs,h1,h2⟩:=hr;exact⟨vs,h1,h2.mono λ_ _=>h.arel⟩
 | _=>exact VRel.of_a (h.arel hr)
theorem Ext.trel (h:Ext B w G w' G') {a:AV} (hr:TRel w G v a):TRel w' G' v a:=by
 cases a with
 | tup cs=>obtain⟨vs,h1,h2⟩:=hr;exact⟨vs,h1,h2.mono λ_ _=>h.vrel⟩
 | _=>exact TRel.of_v (h.vrel hr)
end

def ERel (w:World) (G:Gh) (e:MapEntry) (p:List UInt8 × AV):Prop:=e.key=.string ⟨p.1.toArray⟩∧VRel w G e.val p.2
theorem Ext.erel {B:Nat} {w w':World} {G G':Gh} (h:Ext B w G w' G') {e:MapEntry} {p:List UInt8 × AV} (hr:ERel w G e p):ERel w' G' e p:=⟨hr.1,h.vrel hr.2⟩
def GI.block:GI→Option Nat
 | .blk b=>some b
 | .own v _ _=>v.ownBlock
 | .gap=>none

def BlkOK (B:Nat) (w:World) (G:Gh):AB→GI→Prop
 | .cells cs,.blk b=>B≤b∧G.L b=0∧∃ (vs:Array Value) (e:TypeId),w.heap[b]?=some (.cells vs e (0,0))∧All2 (ARel w G) vs.toList cs
 | .perm e s n,.own v size n'=>s=size∧n=n'∧(∃ xs,w.ownsRow B e size v n xs)∧∀ b,v.ownBlock=some b→G.L b=n*size
 | .map kvs,.blk b=>B≤b∧G.L b=0∧∃ (es:Array MapEntry) (clk:Nat),w.heap[b]?=some (.map es clk)∧All2 (ERel w G) es.toList kvs
 | .gap,.gap=>True
 | .fact φ,.gap=>∀ w',Below B w w'→φ w'
 | .vec e s n cs,.own v size n'=>s=size∧n=n'∧(∃ xs,w.ownsRow B e size v n xs∧All2 (ARel w G) xs cs)∧∀ b,v.ownBlock=some b→G.L b=0
 | .bld t cs,.blk b=>B≤b∧G.L b=0∧∃ vs:Array Value,w.heap[b]?=some (.cells vs t (0,0))∧All2 (ARel w G) vs.toList cs
 | .dead,.own v _ _=>∀ b,v.ownBlock=some b→∃ (vs:Array Value) (e:TypeId) (fr:Nat × Nat),w.heap[b]?=some (.cells vs e fr)∧G.L b≤vs.size
 | .frz e s n,.own v s' n'=>∃ (g cap:Nat) (vs:Array Value) (fr:Nat × Nat),s=s'∧n=n'∧v=.slice (some ⟨g,0,none⟩) n cap∧w.heap[g]?=some (.cells vs e fr)∧B≤g∧G.L g=n*s∧n≤cap∧cap≤maxLen∧vs.size=cap*s
 | .dead,.blk b=>∃ (vs:Array Value) (e:TypeId) (fr:Nat × Nat),w.heap[b]?=some (.cells vs e fr)∧G.L b≤vs.size
 | _,_=>False

structure HRel (B:Nat) (w:World) (G:Gh) (H:zaa):Prop where
 len:G.μ.length=H.length
 ok:∀ (id:Nat) ab gi,H[id]?=some ab→G.μ[id]?=some gi→BlkOK B w G ab gi
 dist:∀ (id id':Nat) gi gi' b,G.μ[id]?=some gi→G.μ[id']?=some gi'→gi.block=some b→gi'.block=some b→id=id'
 fresh:∀ b,w.heap.size≤b→G.L b=0
 lt:∀ (id:Nat) gi b,G.μ[id]?=some gi→gi.block=some b→b<w.heap.size
 base:B≤w.heap.size

def FRel (w:World) (G:Gh) (tm:Array Value) (F:List AV):Prop:=All2 (TRel w G) tm.toList F

end
section
open Go.RowKit

variable {B:Nat} {w w':World} {G G':Gh} {H:zaa}

theorem BlkOK.keep {ab:AB} {gi:GI} (h:BlkOK B w G ab gi) (he:Ext B w G w' G')
  (hb:∀ b,gi.block=some b→w'.heap[b]?=w.heap[b]?∧G'.L b=G.L b):BlkOK B w' G' ab gi:=by
 cases ab with
 | cells cs=>
  cases gi with
  | blk b=>obtain⟨h1,h2,vs,e,h3,h4⟩:=h;obtain⟨k1,k2⟩:=hb b rfl;exact⟨h1,by rw[k2];exact h2,vs,e,by rw[k1];exact h3,h4.mono λ_ _=>he.arel⟩
  | own v s n=>exact h.elim
  | gap=>exact h.elim
 | perm e s0 n=>
  cases gi with
  | blk b=>exact h.elim
  | gap=>exact h.elim
  | own v s n'=>
   obtain⟨rfl,rfl,⟨xs,hl,hx⟩,h2⟩:=h;refine⟨rfl,rfl,⟨xs,hl,?_⟩,λb fF=>by rw[(hb b fF).2];exact h2 b fF⟩;rcases hx with hx | ⟨g,cap,cur,rfl,h3,h4,h5⟩
   ·exact .inl hx
   ·exact .inr ⟨g,cap,cur,rfl,h3,by rw[(hb g rfl).1];exact h4,h5⟩
 | vec e s0 n cs=>
  cases gi with
  | blk b=>exact h.elim
  | gap=>exact h.elim
  | own v s n'=>
   obtain⟨rfl,rfl,⟨xs,⟨hl,hx⟩,hr⟩,h2⟩:=h;refine⟨rfl,rfl,⟨xs,⟨hl,?_⟩,hr.mono λ_ _=>he.arel⟩,λb fF=>by rw[(hb b fF).2];exact h2 b fF⟩;rcases hx with hx | ⟨g,cap,cur,rfl,h3,h4,h5⟩
   ·exact .inl hx
   ·exact .inr ⟨g,cap,cur,rfl,h3,by rw[(hb g rfl).1];exact h4,h5⟩
 | map kvs=>
  cases gi with
  | blk b=>obtain⟨h1,h2,es,clk,h3,h4⟩:=h;obtain⟨k1,k2⟩:=hb b rfl;exact⟨h1,by rw[k2];exact h2,es,clk,by rw[k1];exact h3,h4.mono λ_ _=>he.erel⟩
  | own v s n=>exact h.elim
  | gap=>exact h.elim
 | gap=>
  cases gi with
  | blk b=>exact h.elim
  | own v s n=>exact h.elim
  | gap=>exact h
 | bld t cs=>
  cases gi with
  | blk b=>obtain⟨h1,h2,vs,h3,h4⟩:=h;obtain⟨k1,k2⟩:=hb b rfl;exact⟨h1,by rw[k2];exact h2,vs,by rw[k1];exact h3,h4.mono λ_ _=>he.arel⟩
  | own v s n=>exact h.elim
  | gap=>exact h.elim
 | frz e s n=>
  cases gi with
  | blk b=>exact h.elim
  | own v s' n'=>obtain⟨g,cap,vs,fr,rfl,rfl,rfl,h1,h2,h3,h4⟩:=h;exact⟨g,cap,vs,fr,rfl,rfl,rfl,by rw[(hb g rfl).1];exact h1,h2,by rw[(hb g rfl).2];exact h3,h4⟩
  | gap=>exact h.elim
 | fact φ=>
  cases gi with
  | blk b=>exact h.elim
  | own v s n=>exact h.elim
  | gap=>exact λw'' h'=>h w'' (he.below.trans h')
 | dead=>
  cases gi with
  | blk b=>obtain⟨vs,e,fr,h1,h2⟩:=h;exact⟨vs,e,fr,by rw[(hb b rfl).1];exact h1,by rw[(hb b rfl).2];exact h2⟩
  | own v s n=>intro b fF;obtain⟨vs,e,fr,h1,h2⟩:=h b fF;exact⟨vs,e,fr,by rw[(hb b fF).1];exact h1,by rw[(hb b fF).2];exact h2⟩
  | gap=>exact h.elim

theorem HRel.keep (h:HRel B w G H) (he:Ext B w G w' G') (hμ:G'.μ=G.μ)
  (hb:∀ (id:Nat) gi b,G.μ[id]?=some gi→gi.block=some b→w'.heap[b]?=w.heap[b]?∧G'.L b=G.L b)
  (hf:∀ b,w'.heap.size≤b→G'.L b=0):HRel B w' G' H where
 len:=by rw[hμ];exact h.len
 ok:=λid ab gi h1 h2=>by rw[hμ]at h2;exact (h.ok id ab gi h1 h2).keep he (λb fF=>hb id gi b h2 fF)
 dist:=λid id' gi gi' b h1 h2=>by rw[hμ]at h1 h2;exact h.dist id id' gi gi' b h1 h2
 fresh:=hf
 lt:=λid gi b h1 h2=>by rw[hμ]at h1;exact Nat.lt_of_lt_of_le (h.lt id gi b h1 h2) he.below.size
 base:=Nat.le_trans h.base he.below.size

theorem Ext.drew (B:Nat) (w:World) (G:Gh) (n:Nat) (hn:w.drawn≤n):Ext B w G { w with drawn:=n } G:=
 ⟨hn,⟨rfl,rfl,rfl,Nat.le_refl _,λ_ _=>rfl⟩,λ_=>Nat.le_refl _,λ_ _ _=>rfl,λ_ gi h=>⟨gi,h,gi.le_refl⟩⟩
theorem HRel.drew (h:HRel B w G H) (n:Nat) (hn:w.drawn≤n):HRel B { w with drawn:=n } G H:=
 h.keep (Ext.drew B w G n hn) rfl (λ_ _ _ _ _=>⟨rfl,rfl⟩) h.fresh

theorem zcN {o:Obj} {b:Nat} (hb:b<w.heap.size):(w.alloc o).heap[b]?=w.heap[b]?:=Below.heap_alloc w o b hb
theorem zb7 (o:Obj):(w.alloc o).heap.size=w.heap.size+1:=by simp only[World.alloc,Array.size_push]
theorem zds (o:Obj):(w.alloc o).heap[w.heap.size]?=some o:=by simp only[World.alloc,Array.getElem?_push_size]

theorem zw5 {a:Addr} (h:a.block<w.heap.size) (o:Obj):(w.alloc o).cell? a=w.cell? a:=World.cell?_alloc_lt _ _ _ h

theorem zi1 (h:HRel B w G H) {b off:Nat} (ho:off<G.L b):b<w.heap.size:=by
 by_cases hb:b<w.heap.size
 ·exact hb
 ·have:=h.fresh b (by omega);omega

theorem Ext.alloc (h:HRel B w G H) (o:Obj) (L':Nat→Nat) (hL:∀ b,b≠w.heap.size→L' b=G.L b) (xs:List GI) :
  Ext B w G (w.alloc o) ⟨L',G.μ++xs⟩ where
 dr:=Nat.le_refl _
 below:=(Below.refl _ _).alloc h.base o
 lev:=λb=>by
  by_cases hb:b=w.heap.size
  ·subst hb;rw[h.fresh _ (Nat.le_refl _)];exact Nat.zero_le _
  ·show G.L b≤L' b;rw[hL b hb];exact Nat.le_refl _
 cell:=λb off ho=>zw5 (a:=⟨b,off,none⟩) (zi1 h ho) o
 ids:=λid gi hg=>⟨gi,by
  have:id<G.μ.length:=(List.getElem?_eq_some_iff.1 hg).1;simp only[];rw[List.getElem?_append_left this];exact hg,gi.le_refl⟩

theorem HRel.new (h:HRel B w G H) (vs:Array Value) (e:TypeId) (cs:List AV) (hc:All2 (ARel w G) vs.toList cs) :
  Ext B w G (w.alloc (.cells vs e)) ⟨G.L,G.μ++[.blk w.heap.size]⟩∧HRel B (w.alloc (.cells vs e)) ⟨G.L,G.μ++[.blk w.heap.size]⟩ (H++[.cells cs]):=by
 have he:=Ext.alloc h (.cells vs e) G.L (λ_ _=>rfl) [.blk w.heap.size];refine⟨he,?_⟩;have split:∀ (id:Nat) gi,(G.μ++[.blk w.heap.size])[id]?=some gi→G.μ[id]?=some gi∨(id=G.μ.length∧gi=.blk w.heap.size):=by
  intro id gi hg;by_cases ak:id<G.μ.length
  ·rw[List.getElem?_append_left ak]at hg;exact .inl hg
  ·have aY:=(List.getElem?_eq_some_iff.1 hg).1;simp at aY;have:id=G.μ.length:=by omega
   subst this;simp at hg;exact .inr ⟨rfl,hg.symm⟩
 refine⟨by simp[h.len],?_,?_,?_,?_,?_⟩
 ·intro id ab gi h1 h2;rcases split id gi h2 with h2 | ⟨rfl,rfl⟩
  ·have ak:id<H.length:=by rw[←h.len];exact (List.getElem?_eq_some_iff.1 h2).1
   rw[List.getElem?_append_left ak]at h1;exact (h.ok id ab gi h1 h2).keep he (λb hb=>⟨zcN (h.lt id gi b h2 hb),rfl⟩)
  ·rw[h.len]at h1;simp at h1;subst h1;exact⟨h.base,h.fresh _ (Nat.le_refl _),vs,e,zds _,hc.mono λ_ _=>he.arel⟩
 ·intro id id' gi gi' b h1 h2 h3 h4;rcases split id gi h1 with h1 | ⟨rfl,rfl⟩ <;> rcases split id' gi' h2 with h2 | ⟨rfl,rfl⟩
  ·exact h.dist id id' gi gi' b h1 h2 h3 h4
  ·have:=h.lt id gi b h1 h3;simp[GI.block]at h4;omega
  ·have:=h.lt id' gi' b h2 h4;simp[GI.block]at h3;omega
  ·rfl
 ·intro b hb;rw[zb7]at hb;exact h.fresh b (by omega)
 ·intro id gi b h1 h2;rw[zb7];rcases split id gi h1 with h1 | ⟨rfl,rfl⟩
  ·have:=h.lt id gi b h1 h2;omega
  ·simp[GI.block]at h2;omega
 ·rw[zb7];have:=h.base;omega

theorem HRel.frozen (h:HRel B w G H) (vs:Array Value) (e:TypeId) (n:Nat) :
  Ext B w G (w.alloc (.cells vs e)) ⟨λb=>if b=w.heap.size then n else G.L b,G.μ⟩ ∧
   HRel B (w.alloc (.cells vs e)) ⟨λb=>if b=w.heap.size then n else G.L b,G.μ⟩ H:=by
 have he:=Ext.alloc h (.cells vs e) (λb=>if b=w.heap.size then n else G.L b) (λb hb=>by simp[hb]) [];simp only[List.append_nil]at he;refine⟨he,h.keep he rfl (λid gi b h1 h2=>?_) (λb hb=>?_)⟩
 ·have:=h.lt id gi b h1 h2;exact⟨zcN this,by simp;intro;omega⟩
 ·rw[zb7]at hb;have:b≠w.heap.size:=by omega
  simp[this,h.fresh b (by omega)]

theorem zeo {g k:Nat} (cs:Array Value) (h:k≠g):(w.setRow g cs).heap[k]?=w.heap[k]?:=setRow_other w g k cs h

theorem zfn {w w':World} {b off:Nat} (h:w'.heap[b]?=w.heap[b]?):w'.cell? ⟨b,off,none⟩=w.cell? ⟨b,off,none⟩:=World.cell?_of_block (a:=⟨b,off,none⟩) h

theorem HRel.store (h:HRel B w G H) {id b:Nat} {cs cs':List AV} {vs vs':Array Value} {e:TypeId} (hH:H[id]?=some (.cells cs)) (hμ:G.μ[id]?=some (.blk b))
  (hw:w.heap[b]?=some (.cells vs e (0,0))) (hB:B≤b) (hc:All2 (ARel w G) vs'.toList cs') :
  Ext B w G (w.setRow b vs') G∧HRel B (w.setRow b vs') G (H.set id (.cells cs')):=by
 have hL:G.L b=0:=by have:=h.ok id _ _ hH hμ;exact this.2.1
 have aD:(w.setRow b vs').heap.size=w.heap.size:=by simp[World.setRow]
 have he:Ext B w G (w.setRow b vs') G:=by
  refine⟨Nat.le_refl _,⟨rfl,rfl,rfl,by rw[aD];exact Nat.le_refl _,λk hk=>zeo _ (by omega)⟩,λ_=>Nat.le_refl _,λx off ho=>?_,λ_ gi h=>⟨gi,h,gi.le_refl⟩⟩;have:x≠b:=by intro hx;subst hx;omega
  exact zfn (zeo _ this)
 refine⟨he,by simp[h.len],?_,h.dist,by rw[aD];exact h.fresh,by rw[aD];exact h.lt,by rw[aD];exact h.base⟩;intro id' ab gi h1 h2;by_cases ap:id'=id
 ·subst ap;rw[hμ]at h2;cases h2;have ak:id'<H.length:=(List.getElem?_eq_some_iff.1 hH).1;rw[List.getElem?_set_self ak]at h1;cases h1;exact⟨hB,hL,vs',e,setRow_heap w b vs vs' e _ hw,hc.mono λ_ _=>he.arel⟩
 ·rw[List.getElem?_set_ne (λh=>ap h.symm)]at h1;refine (h.ok id' ab gi h1 h2).keep he (λx hx=>⟨zeo _ ?_,rfl⟩);intro dx;subst dx;exact ap (h.dist id' id gi _ x h2 hμ hx rfl)

theorem HRel.storeV (h:HRel B w G H) {id e size n g cap:Nat} {cs cs':List AV} {cur cur':Array Value} {xs':List Value} (hH:H[id]?=some (.vec e size n cs)) (hμ:G.μ[id]?=some (.own (.slice (some ⟨g,0,none⟩) n cap) size n))
  (hw:w.heap[g]?=some (.cells cur e (0,0))) (hB:B≤g) (aL:n≤cap) (bO:cap≤maxLen) (aD:cur'.size=cap*size) (bp:cur'.toList.take (n*size)=xs') (bZ:xs'.length=n*size) (hc:All2 (ARel w G) xs' cs') :
  Ext B w G (w.setRow g cur') G∧HRel B (w.setRow g cur') G (H.set id (.vec e size n cs')):=by
 obtain⟨_,_,_,eO⟩:=h.ok id _ _ hH hμ;have hL:G.L g=0:=eO g rfl;have cd:(w.setRow g cur').heap.size=w.heap.size:=by simp[World.setRow]
 have he:Ext B w G (w.setRow g cur') G:=by
  refine⟨Nat.le_refl _,⟨rfl,rfl,rfl,by rw[cd];exact Nat.le_refl _,λk hk=>zeo _ (by omega)⟩,λ_=>Nat.le_refl _,λx off ho=>?_,λ_ gi h=>⟨gi,h,gi.le_refl⟩⟩;have:x≠g:=by intro hx;subst hx;omega
  exact zfn (zeo _ this)
 refine⟨he,by simp[h.len],?_,h.dist,by rw[cd];exact h.fresh,by rw[cd];exact h.lt,by rw[cd];exact h.base⟩;intro id' ab gi h1 h2;by_cases ap:id'=id
 ·subst ap;rw[hμ]at h2;cases h2;have ak:id'<H.length:=(List.getElem?_eq_some_iff.1 hH).1;rw[List.getElem?_set_self ak]at h1;cases h1;exact⟨rfl,rfl,⟨xs',⟨bZ,.inr ⟨g,cap,cur',rfl,hB,setRow_heap w g cur cur' e _ hw,aL,bO,aD,bp⟩⟩,hc.mono λ_ _=>he.arel⟩,eO⟩
 ·rw[List.getElem?_set_ne (λh=>ap h.symm)]at h1;refine (h.ok id' ab gi h1 h2).keep he (λx hx=>⟨zeo _ ?_,rfl⟩);intro dx;subst dx;exact ap (h.dist id' id gi _ x h2 hμ hx rfl)

theorem HRel.newMap (h:HRel B w G H) :
  Ext B w G (w.alloc (.map #[] 0)) ⟨G.L,G.μ++[.blk w.heap.size]⟩∧HRel B (w.alloc (.map #[] 0)) ⟨G.L,G.μ++[.blk w.heap.size]⟩ (H++[.map []]):=by
 have he:=Ext.alloc h (.map #[] 0) G.L (λ_ _=>rfl) [.blk w.heap.size];refine⟨he,?_⟩;have split:∀ (id:Nat) gi,(G.μ++[.blk w.heap.size])[id]?=some gi→G.μ[id]?=some gi∨(id=G.μ.length∧gi=.blk w.heap.size):=by
  intro id gi hg;by_cases ak:id<G.μ.length
  ·rw[List.getElem?_append_left ak]at hg;exact .inl hg
  ·have aY:=(List.getElem?_eq_some_iff.1 hg).1;simp at aY;have:id=G.μ.length:=by omega
   subst this;simp at hg;exact .inr ⟨rfl,hg.symm⟩
 refine⟨by simp[h.len],?_,?_,?_,?_,?_⟩
 ·intro id ab gi h1 h2;rcases split id gi h2 with h2 | ⟨rfl,rfl⟩
  ·have ak:id<H.length:=by rw[←h.len];exact (List.getElem?_eq_some_iff.1 h2).1
   rw[List.getElem?_append_left ak]at h1;exact (h.ok id ab gi h1 h2).keep he (λb hb=>⟨zcN (h.lt id gi b h2 hb),rfl⟩)
  ·rw[h.len]at h1;simp at h1;subst h1;exact⟨h.base,h.fresh _ (Nat.le_refl _),#[],0,zds _,trivial⟩
 ·intro id id' gi gi' b h1 h2 h3 h4;rcases split id gi h1 with h1 | ⟨rfl,rfl⟩ <;> rcases split id' gi' h2 with h2 | ⟨rfl,rfl⟩
  ·exact h.dist id id' gi gi' b h1 h2 h3 h4
  ·have:=h.lt id gi b h1 h3;simp[GI.block]at h4;omega
  ·have:=h.lt id' gi' b h2 h4;simp[GI.block]at h3;omega
  ·rfl
 ·intro b hb;rw[zb7]at hb;exact h.fresh b (by omega)
 ·intro id gi b h1 h2;rw[zb7];rcases split id gi h1 with h1 | ⟨rfl,rfl⟩
  ·have:=h.lt id gi b h1 h2;omega
  ·simp[GI.block]at h2;omega
 ·rw[zb7];have:=h.base;omega

theorem HRel.storeMap (h:HRel B w G H) {id b:Nat} {kvs kvs':List (List UInt8 × AV)} {es es':Array MapEntry} {clk clk':Nat} (hH:H[id]?=some (.map kvs)) (hμ:G.μ[id]?=some (.blk b))
  (hw:w.heap[b]?=some (.map es clk)) (hc:All2 (ERel w G) es'.toList kvs') :
  Ext B w G { w with heap:=w.heap.setIfInBounds b (.map es' clk') } G∧HRel B { w with heap:=w.heap.setIfInBounds b (.map es' clk') } G (H.set id (.map kvs')):=by
 obtain⟨hB,hL,_⟩:=h.ok id _ _ hH hμ;have ak:b<w.heap.size:=(Array.getElem?_eq_some_iff.1 hw).1;have oth:∀ k,k≠b→(w.heap.setIfInBounds b (.map es' clk'))[k]?=w.heap[k]?:=λk hk=>by simp[Ne.symm hk]
 have aD:(w.heap.setIfInBounds b (.map es' clk')).size=w.heap.size:=by simp
 have he:Ext B w G { w with heap:=w.heap.setIfInBounds b (.map es' clk') } G:=by
  refine⟨Nat.le_refl _,⟨rfl,rfl,rfl,by show w.heap.size≤(w.heap.setIfInBounds b (.map es' clk')).size;rw[aD];exact Nat.le_refl _,λk hk=>oth k (by omega)⟩,λ_=>Nat.le_refl _,λx off ho=>?_,λ_ gi h=>⟨gi,h,gi.le_refl⟩⟩;have:x≠b:=by intro hx;subst hx;omega
  exact zfn (oth x this)
 refine⟨he,by simp[h.len],?_,h.dist,λx hx=>h.fresh x (by simpa using hx),λi gi x h1 h2=>by have:=h.lt i gi x h1 h2;simpa using this,by have:=h.base;simpa using this⟩;intro id' ab gi h1 h2;by_cases ap:id'=id
 ·subst ap;rw[hμ]at h2;cases h2;have aG:id'<H.length:=(List.getElem?_eq_some_iff.1 hH).1;rw[List.getElem?_set_self aG]at h1;cases h1;exact⟨hB,hL,es',clk',by simp[ak],hc.mono λ_ _=>he.erel⟩
 ·rw[List.getElem?_set_ne (λh=>ap h.symm)]at h1;refine (h.ok id' ab gi h1 h2).keep he (λx hx=>⟨oth x ?_,rfl⟩);intro dx;subst dx;exact ap (h.dist id' id gi _ x h2 hμ hx rfl)

theorem HRel.keepGaps (h:HRel B w G H) (k:Nat):Ext B w G w ⟨G.L,G.μ++List.replicate k .gap⟩∧HRel B w ⟨G.L,G.μ++List.replicate k .gap⟩ (H++List.replicate k .gap):=by
 have he:Ext B w G w ⟨G.L,G.μ++List.replicate k .gap⟩:=⟨Nat.le_refl _,Below.refl _ _,λ_=>Nat.le_refl _,λ_ _ _=>rfl,λid gi hg=>⟨gi,by
  have:id<G.μ.length:=(List.getElem?_eq_some_iff.1 hg).1;simp only[];rw[List.getElem?_append_left this];exact hg,gi.le_refl⟩⟩
 have split:∀ (id:Nat) gi,(G.μ++List.replicate k GI.gap)[id]?=some gi→G.μ[id]?=some gi∨(G.μ.length≤id∧gi=.gap):=by
  intro id gi hg;by_cases ak:id<G.μ.length
  ·rw[List.getElem?_append_left ak]at hg;exact .inl hg
  ·rw[List.getElem?_append_right (by omega)]at hg;exact .inr ⟨by omega,List.eq_of_mem_replicate (List.mem_iff_getElem?.2 ⟨_,hg⟩)⟩
 refine⟨he,by simp[h.len],?_,?_,h.fresh,?_,h.base⟩
 ·intro id ab gi h1 h2;rcases split id gi h2 with h2 | ⟨aS,rfl⟩
  ·have ak:id<H.length:=by rw[←h.len];exact (List.getElem?_eq_some_iff.1 h2).1
   rw[List.getElem?_append_left ak]at h1;exact (h.ok id ab gi h1 h2).keep he (λb hb=>⟨rfl,rfl⟩)
  ·rw[List.getElem?_append_right (by rw[←h.len];omega)]at h1;rw[List.eq_of_mem_replicate (List.mem_iff_getElem?.2 ⟨_,h1⟩)];trivial
 ·intro id id' gi gi' b h1 h2 h3 h4;rcases split id gi h1 with k1 | ⟨_,rfl⟩ <;> rcases split id' gi' h2 with k2 | ⟨_,rfl⟩
  ·exact h.dist id id' gi gi' b k1 k2 h3 h4
  ·cases h4
  ·cases h3
  ·cases h3
 ·intro id gi b h1 h2;rcases split id gi h1 with k1 | ⟨_,rfl⟩
  ·exact h.lt id gi b k1 h2
  ·cases h2
theorem HRel.fill (h:HRel B w G H) {id:Nat} (ap:H[id]?=some .gap) (vs:Array Value) (e:TypeId) (cs:List AV) (hc:All2 (ARel w G) vs.toList cs) :
  Ext B w G (w.alloc (.cells vs e)) ⟨G.L,G.μ.set id (.blk w.heap.size)⟩∧HRel B (w.alloc (.cells vs e)) ⟨G.L,G.μ.set id (.blk w.heap.size)⟩ (H.set id (.cells cs)):=by
 have ak:id<H.length:=(List.getElem?_eq_some_iff.1 ap).1;have akμ:id<G.μ.length:=by rw[h.len];exact ak
 have iO:G.μ[id]?=some .gap:=by
  have az:=h.ok id _ _ ap (List.getElem?_eq_getElem akμ);rw[List.getElem?_eq_getElem akμ];cases hg:G.μ[id] with
  | blk b=>rw[hg]at az;exact az.elim
  | own v s n=>rw[hg]at az;exact az.elim
  | gap=>rfl
 have split:∀ (i:Nat) gi,(G.μ.set id (.blk w.heap.size))[i]?=some gi→(i≠id∧G.μ[i]?=some gi)∨(i=id∧gi=.blk w.heap.size):=by
  intro i gi hg;by_cases hi:i=id
  ·subst hi;rw[List.getElem?_set_self akμ]at hg;cases hg;exact .inr ⟨rfl,rfl⟩
  ·rw[List.getElem?_set_ne (λh=>hi h.symm)]at hg;exact .inl ⟨hi,hg⟩
 have he:Ext B w G (w.alloc (.cells vs e)) ⟨G.L,G.μ.set id (.blk w.heap.size)⟩:=by
  refine⟨Nat.le_refl _,(Below.refl _ _).alloc h.base _,λ_=>Nat.le_refl _,λb off ho=>zw5 (a:=⟨b,off,none⟩) (zi1 h ho) _,λi gi hg=>?_⟩;by_cases hi:i=id
  ·subst hi;rw[iO]at hg;cases hg;exact⟨.blk w.heap.size,List.getElem?_set_self akμ,trivial⟩
  ·exact⟨gi,by show (G.μ.set id _)[i]?=_;rw[List.getElem?_set_ne (λh=>hi h.symm)];exact hg,gi.le_refl⟩
 refine⟨he,by simp[h.len],?_,?_,?_,?_,?_⟩
 ·intro i ab gi h1 h2;rcases split i gi h2 with ⟨hi,h2⟩ | ⟨rfl,rfl⟩
  ·rw[List.getElem?_set_ne (λh=>hi h.symm)]at h1;exact (h.ok i ab gi h1 h2).keep he (λb hb=>⟨zcN (h.lt i gi b h2 hb),rfl⟩)
  ·rw[List.getElem?_set_self ak]at h1;cases h1;exact⟨h.base,h.fresh _ (Nat.le_refl _),vs,e,zds _,hc.mono λ_ _=>he.arel⟩
 ·intro i i' gi gi' b h1 h2 h3 h4;rcases split i gi h1 with ⟨_,k1⟩ | ⟨e1,e2⟩ <;> rcases split i' gi' h2 with ⟨_,k2⟩ | ⟨e3,e4⟩
  ·exact h.dist i i' gi gi' b k1 k2 h3 h4
  ·have:=h.lt i gi b k1 h3;rw[e4]at h4;simp[GI.block]at h4;omega
  ·have:=h.lt i' gi' b k2 h4;rw[e2]at h3;simp[GI.block]at h3;omega
  ·rw[e1,e3]
 ·intro b hb;rw[zb7]at hb;exact h.fresh b (by omega)
 ·intro i gi b h1 h2;rw[zb7];rcases split i gi h1 with ⟨_,k1⟩ | ⟨_,e2⟩
  ·have:=h.lt i gi b k1 h2;omega
  ·rw[e2]at h2;simp[GI.block]at h2;omega
 ·rw[zb7];have:=h.base;omega

end
section
open Go.RowKit

def zgh:Value→AV
 | .bool b=>.bool b
 | .int k n=>.int k n
 | .string s=>.str s.data.toList
 | .pointer none=>.nilp
 | .slice none 0 0=>.snil
 | .nilFunc=>.nilfn
 | .nilIface=>.nili
 | _=>.unk
def zem:Value→AV
 | .agg cs=>.agg (cs.toList.map zgh)
 | v=>zgh v
def zbw:Value→List AV
 | .agg cs=>cs.toList.map zgh
 | v=>[zgh v]

def ev (F:List AV):Operand→AV
 | .tmp t=>F.getD t .unk
 | .const v=>zem v
 | .global _=>.unk
 | .func f=>.fn f []

def AV.cs?:AV→Option (List AV)
 | .tup _=>none
 | .unk=>none
 | .agg cs=>some cs
 | a=>some [a]
def AV.pd:AV→Option AV
 | .bool b=>some (.bool b)
 | .int k n=>some (.int k n)
 | .str s=>some (.str s)
 | .snil=>some (.sl [] .none)
 | .sl es _=>some (.sl es .none)
 | _=>none
def plain:List AV→Option (List AV)
 | []=>some []
 | a::asx=>match a.pd,plain asx with
  | some d,some ds=>some (d::ds)
  | _,_=>none
def AV.known:AV→Bool
 | .unk=>false
 | _=>true
def AV.isB:AV→Bool
 | .fn _ _ | .agg _ | .tup _=>false
 | _=>true

def aIf (b:Bool) (p q:Prop):Prop:=if b=true then p else q
def zam (c a b:AV) (K:AV→Prop):Prop:=
 match c with
 | .bool t=>K (if t=true then a else b)
 | _=>False
def zay (cs:List AV) (H:zaa) (K:AV→zaa→Prop):Prop:=K (.ptr H.length 0) (H++[.cells cs])
def zat (x:AV) (H:zaa) (K:AV→zaa→Prop):Prop:=
 match x.cs? with
 | some cs=>K (.ptr H.length 0) (H++[.cells cs])
 | none=>False
def zbp (agg:Bool) (n off:Nat) (cs:List AV) (K:AV→Prop):Prop:=
 match agg with
 | true=>off+n≤cs.length∧K (.agg ((cs.drop off).take n))
 | false=>match cs[off]? with
  | some c=>K c
  | none=>False
def loadAt (a:AV) (H:zaa):Option (List AV × Nat):=
 match a with
 | .ptr id off=>(match H[id]? with
  | some (.cells cs)=>some (cs,off)
  | _=>none)
 | .view cs=>some (cs,0)
 | .vp id m off=>(match H[id]? with
  | some (.vec _ _ m' cs)=>(match m' == m with
   | true=>some (cs,off)
   | false=>none)
  | _=>none)
 | _=>none
def zae (agg:Bool) (n:Nat) (a:AV) (H:zaa) (K:AV→Prop):Prop:=
 match loadAt a H with
 | some p=>zbp agg n p.2 p.1 K
 | none=>False
theorem zg7 (agg:Bool) (n:Nat) (a:AV) (H:zaa) (K:AV→Prop):zae agg n a H K=(match a with
  | .ptr id off=>match H[id]? with
   | some (.cells cs)=>zbp agg n off cs K
   | _=>False
  | .view cs=>zbp agg n 0 cs K
  | .vp id m off=>match H[id]? with
   | some (.vec _ _ m' cs)=>m'=m∧zbp agg n off cs K
   | _=>False
  | _=>False):=by
 cases a with
 | ptr id off=>
  simp only[zae,loadAt];cases h:H[id]? with
  | none=>rfl
  | some b=>cases b <;> rfl
 | vp id m off=>
  simp only[zae,loadAt];cases h:H[id]? with
  | none=>rfl
  | some b=>
   cases b with
   | vec e s m' cs=>
    simp only[];by_cases hm:m'=m
    ·subst hm;simp
    ·have:(m' == m)=false:=by simpa using hm
     simp[this,hm]
   | _=>rfl
 | _=>rfl
def zaj (agg:Bool) (n:Nat) (a:AV) (H:zaa) (K:AV→Prop):Prop:=
 match a with
 | .vp _ _ _=>False
 | a=>zae agg n a H K
def zzx (n:Nat) (a x:AV) (H:zaa):Option zaa:=
 match x.cs? with
 | some xs=>(match xs.length == n && xs.all AV.known with
  | true=>(match a with
   | .ptr id off=>(match H[id]? with
    | some (.cells cs)=>(match decide (off+n≤cs.length) with
     | true=>some (H.set id (.cells (cs.take off++xs++cs.drop (off+n))))
     | false=>none)
    | _=>none)
   | .vp id m off=>(match H[id]? with
    | some (.vec e s m' cs)=>(match m' == m && decide (off+n≤cs.length) with
     | true=>some (H.set id (.vec e s m' (cs.take off++xs++cs.drop (off+n))))
     | false=>none)
    | _=>none)
   | _=>none)
  | false=>none)
 | none=>none
def zao (n:Nat) (a x:AV) (H:zaa) (K:zaa→Prop):Prop:=
 match zzx n a x H with
 | some H'=>K H'
 | none=>False
theorem zeK (n:Nat) (a x:AV) (H:zaa) (K:zaa→Prop):zao n a x H K=(match a,x.cs? with
  | .ptr id off,some xs=>match H[id]? with
   | some (.cells cs)=>(xs.length=n∧off+n≤cs.length∧xs.all AV.known=true)∧K (H.set id (.cells (cs.take off++xs++cs.drop (off+n))))
   | _=>False
  | .vp id m off,some xs=>match H[id]? with
   | some (.vec e s m' cs)=>(m'=m∧xs.length=n∧off+n≤cs.length∧xs.all AV.known=true)∧K (H.set id (.vec e s m' (cs.take off++xs++cs.drop (off+n))))
   | _=>False
  | _,_=>False):=by
 unfold zao zzx;cases hx:x.cs? with
 | none=>cases a <;> rfl
 | some xs=>
  simp only[];cases hk:(xs.length == n && xs.all AV.known) with
  | false=>
   have hn:¬ (xs.length=n∧xs.all AV.known=true):=by intro h;rw[h.2,h.1]at hk;simp at hk
   cases a with
   | ptr id off=>
    simp only[];cases h:H[id]? with
    | none=>rfl
    | some b=>
     cases b with
     | cells cs=>simp only[];exact propext ⟨λh=>h.elim,λh=>(hn ⟨h.1.1,h.1.2.2⟩).elim⟩
     | _=>rfl
   | vp id m off=>
    simp only[];cases h:H[id]? with
    | none=>rfl
    | some b=>
     cases b with
     | vec e s m' cs=>simp only[];exact propext ⟨λh=>h.elim,λh=>(hn ⟨h.1.2.1,h.1.2.2.2⟩).elim⟩
     | _=>rfl
   | _=>rfl
  | true=>
   have hn:xs.length=n∧xs.all AV.known=true:=by rw[Bool.and_eq_true,beq_iff_eq]at hk;exact hk
   cases a with
   | ptr id off=>
    simp only[];cases h:H[id]? with
    | none=>rfl
    | some b=>
     cases b with
     | cells cs=>
      simp only[];by_cases hf:off+n≤cs.length
      ·rw[decide_eq_true hf];exact propext ⟨λh=>⟨⟨hn.1,hf,hn.2⟩,h⟩,λh=>h.2⟩
      ·rw[decide_eq_false hf];exact propext ⟨λh=>h.elim,λh=>(hf h.1.2.1).elim⟩
     | _=>rfl
   | vp id m off=>
    simp only[];cases h:H[id]? with
    | none=>rfl
    | some b=>
     cases b with
     | vec e s m' cs=>
      simp only[];by_cases hm:m'=m
      ·subst hm;by_cases hf:off+n≤cs.length
       ·rw[decide_eq_true hf,beq_self_eq_true,Bool.and_true];exact propext ⟨λh=>⟨⟨rfl,hn.1,hf,hn.2⟩,h⟩,λh=>h.2⟩
       ·rw[decide_eq_false hf,Bool.and_false];exact propext ⟨λh=>h.elim,λh=>(hf h.1.2.2.1).elim⟩
      ·have:(m' == m)=false:=by simpa using hm
       rw[this,Bool.false_and];exact propext ⟨λh=>h.elim,λh=>(hm h.1.1).elim⟩
     | _=>rfl
   | _=>rfl
def zxy (off:Nat) (a:AV):Option AV:=
 match a with
 | .ptr id o=>some (.ptr id (o+off))
 | .view cs=>(match decide (off≤cs.length) with
  | true=>some (.view (cs.drop off))
  | false=>none)
 | .vp id n o=>some (.vp id n (o+off))
 | _=>none
def zaf (off:Nat) (a:AV) (K:AV→Prop):Prop:=
 match zxy off a with
 | some v=>K v
 | none=>False
theorem zwl (off:Nat) (a:AV) (K:AV→Prop):zaf off a K=(match a with
  | .ptr id o=>K (.ptr id (o+off))
  | .view cs=>off≤cs.length∧K (.view (cs.drop off))
  | .vp id n o=>K (.vp id n (o+off))
  | _=>False):=by
 cases a with
 | view cs=>
  simp only[zaf,zxy];by_cases h:off≤cs.length
  ·simp[h]
  ·simp[h]
 | _=>rfl
def zdY (agg:Bool) (n off:Nat) (a:AV) (K:AV→Prop):Prop:=
 match a with
 | .agg cs=>zbp agg n off cs K
 | _=>False
def zjk (ag:Nat) (x i:AV):Option AV:=
 match i with
 | .int _ n=>(match x with
  | .sl es _=>(match decide (0≤n) && decide (n<es.length) && (es.getD n.toNat []).length == ag with
   | true=>some (.view (es.getD n.toNat []))
   | false=>none)
  | .ms id off len _=>(match decide (0≤n) && decide (n<len) with
   | true=>some (.ptr id (off+n.toNat*ag))
   | false=>none)
  | .ov id m=>(match decide (0≤n) && decide (n<m) with
   | true=>some (.vp id m (n.toNat*ag))
   | false=>none)
  | _=>none)
 | _=>none
def zak (ag:Nat) (x i:AV) (K:AV→Prop):Prop:=
 match zjk ag x i with
 | some v=>K v
 | none=>False
theorem zi7 (ag:Nat) (x i:AV) (K:AV→Prop):zak ag x i K=(match x,i with
  | .sl es _,.int _ n=>(0≤n∧n<es.length)∧((es.getD n.toNat []).length=ag∧K (.view (es.getD n.toNat [])))
  | .ms id off len _,.int _ n=>(0≤n∧n<len)∧K (.ptr id (off+n.toNat*ag))
  | .ov id m,.int _ n=>(0≤n∧n<m)∧K (.vp id m (n.toNat*ag))
  | _,_=>False):=by
 cases i with
 | int k n=>
  cases x with
  | sl es tok=>
   simp only[zak,zjk];by_cases h1:0≤n
   ·by_cases h2:n<es.length
    ·by_cases h3:(es.getD n.toNat []).length=ag
     ·simp only[decide_eq_true h1,decide_eq_true h2,beq_iff_eq.2 h3,Bool.and_self];exact propext ⟨λh=>⟨⟨h1,h2⟩,h3,h⟩,λh=>h.2.2⟩
     ·simp only[beq_eq_false_iff_ne.2 h3,Bool.and_false];exact propext ⟨λh=>h.elim,λh=>(h3 h.2.1).elim⟩
    ·simp only[decide_eq_false h2,Bool.and_false,Bool.false_and];exact propext ⟨λh=>h.elim,λh=>(h2 h.1.2).elim⟩
   ·simp only[decide_eq_false h1,Bool.false_and];exact propext ⟨λh=>h.elim,λh=>(h1 h.1.1).elim⟩
  | ms id off len cap=>
   simp only[zak,zjk];by_cases h1:0≤n
   ·by_cases h2:n<len
    ·simp only[decide_eq_true h1,decide_eq_true h2,Bool.and_self];exact propext ⟨λh=>⟨⟨h1,h2⟩,h⟩,λh=>h.2⟩
    ·simp only[decide_eq_false h2,Bool.and_false];exact propext ⟨λh=>h.elim,λh=>(h2 h.1.2).elim⟩
   ·simp only[decide_eq_false h1,Bool.false_and];exact propext ⟨λh=>h.elim,λh=>(h1 h.1.1).elim⟩
  | ov id m=>
   simp only[zak,zjk];by_cases h1:0≤n
   ·by_cases h2:n<m
    ·simp only[decide_eq_true h1,decide_eq_true h2,Bool.and_self];exact propext ⟨λh=>⟨⟨h1,h2⟩,h⟩,λh=>h.2⟩
    ·simp only[decide_eq_false h2,Bool.and_false];exact propext ⟨λh=>h.elim,λh=>(h2 h.1.2).elim⟩
   ·simp only[decide_eq_false h1,Bool.false_and];exact propext ⟨λh=>h.elim,λh=>(h1 h.1.1).elim⟩
  | _=>rfl
 | _=>cases x <;> rfl
def zbI (x i:AV) (K:AV→Prop):Prop:=
 match x,i with
 | .str s,.int _ n=>(0≤n∧n<s.length)∧K (.int .u8 (s.getD n.toNat 0).toNat)
 | _,_=>False
def lenOf (u:Nat) (x:AV):Option Int:=
 match u with
 | 0=>(match x with
  | .str s=>some s.length
  | _=>none)
 | 1=>(match x with
  | .sl es _=>some es.length
  | .snil=>some 0
  | .ms _ _ len _=>some len
  | .ov _ n=>some n
  | _=>none)
 | _=>none
def zah (u:Nat) (x:AV) (K:AV→Prop):Prop:=
 match lenOf u x with
 | some n=>K (.int .i64 n)
 | none=>False
theorem zFG (u:Nat) (x:AV) (K:AV→Prop):zah u x K=(match u,x with
  | 0,.str s=>K (.int .i64 s.length)
  | 1,.sl es _=>K (.int .i64 es.length)
  | 1,.snil=>K (.int .i64 0)
  | 1,.ms _ _ len _=>K (.int .i64 len)
  | 1,.ov _ n=>K (.int .i64 n)
  | _,_=>False):=by
 unfold zah lenOf
 match u with
 | 0=>cases x <;> rfl
 | 1=>cases x <;> rfl
 | _+2=>cases x <;> rfl
def zbN (x:Option AV) (d:Nat) (K:Nat→Prop):Prop:=
 match x with
 | none=>K d
 | some (.int _ n)=>0≤n∧K n.toNat
 | _=>False
def zaN (u ag:Nat) (x:AV) (lo hi:Option AV) (K:AV→Prop):Prop:=
 match u,x with
 | 0,.str s=>zbN hi s.length λh=>zbN lo 0 λl=>(l≤h∧h≤s.length)∧K (.str ((s.take h).drop l))
 | 1,.sl es _=>zbN hi es.length λh=>zbN lo 0 λl=>(l≤h∧h≤es.length∧∀ c∈es,c.length=ag)∧K (.sl ((es.take h).drop l) .none)
 | 1,.snil=>zbN hi 0 λh=>zbN lo 0 λl=>(l≤h∧h≤0)∧K .snil
 | 1,.ov id n=>zbN hi n λh=>zbN lo 0 λl=>(l≤h∧h=n)∧K (.os id n l ag)
 | 1,.ms id off len cap=>zbN hi len λh=>zbN lo 0 λl=>(l≤h∧h≤cap)∧K (.ms id (if cap=l then off else off+l*ag) (h-l) (cap-l))
 | _,_=>False
def zja (op:BinOp) (b:Bool) (x y:AV):Option AV:=
 match x with
 | .int k m=>(match y with
  | .int k' n=>(match decide (k=k') with
   | true=>(match op with
    | .add=>some (.int k (k.wrap (m+n)))
    | .sub=>some (.int k (k.wrap (m-n)))
    | .mul=>some (.int k (k.wrap (m*n)))
    | .quo=>(match n == 0 with
     | true=>none
     | false=>some (.int k (k.wrap (m.tdiv n))))
    | .rem=>(match n == 0 with
     | true=>none
     | false=>some (.int k (m.tmod n)))
    | .eql=>some (.bool (m == n))
    | .neq=>some (.bool (m != n))
    | .lss=>some (.bool (decide (m<n)))
    | .leq=>some (.bool (decide (m≤n)))
    | .gtr=>some (.bool (decide (m>n)))
    | .geq=>some (.bool (decide (m≥n)))
    | _=>none)
   | false=>none)
  | _=>none)
 | .str s=>(match y with
  | .str t=>(match op with
   | .add=>(match decide (s.length+t.length≤9223372036854775807) with
    | true=>some (.str (s++t))
    | false=>none)
   | .eql=>some (.bool (s == t))
   | .neq=>some (.bool (!(s == t)))
   | .lss=>some (.bool (Op.bytesLess s t))
   | .leq=>some (.bool (Op.bytesLess s t || s == t))
   | .gtr=>some (.bool (!(Op.bytesLess s t || s == t)))
   | .geq=>some (.bool (!Op.bytesLess s t))
   | _=>none)
  | _=>none)
 | .bool m=>(match y with
  | .bool n=>(match b with
   | true=>(match op with
    | .eql=>some (.bool (m == n))
    | .neq=>some (.bool (!(m == n)))
    | _=>none)
   | false=>none)
  | _=>none)
 | _=>none
def zac (op:BinOp) (b:Bool) (x y:AV) (K:AV→Prop):Prop:=
 match zja op b x y with
 | some v=>K v
 | none=>False
theorem zcj (op:BinOp) (b:Bool) (x y:AV) (K:AV→Prop):zac op b x y K=(match x,y with
  | .int k m,.int k' n=>k=k'∧(match op with
   | .add=>K (.int k (k.wrap (m+n)))
   | .sub=>K (.int k (k.wrap (m-n)))
   | .mul=>K (.int k (k.wrap (m*n)))
   | .quo=>n≠0∧K (.int k (k.wrap (m.tdiv n)))
   | .rem=>n≠0∧K (.int k (m.tmod n))
   | .eql=>K (.bool (m == n))
   | .neq=>K (.bool (m != n))
   | .lss=>K (.bool (decide (m<n)))
   | .leq=>K (.bool (decide (m≤n)))
   | .gtr=>K (.bool (decide (m>n)))
   | .geq=>K (.bool (decide (m≥n)))
   | _=>False)
  | .str s,.str t=>(match op with
   | .add=>s.length+t.length≤9223372036854775807∧K (.str (s++t))
   | .eql=>K (.bool (s == t))
   | .neq=>K (.bool (!(s == t)))
   | .lss=>K (.bool (Op.bytesLess s t))
   | .leq=>K (.bool (Op.bytesLess s t || s == t))
   | .gtr=>K (.bool (!(Op.bytesLess s t || s == t)))
   | .geq=>K (.bool (!Op.bytesLess s t))
   | _=>False)
  | .bool m,.bool n=>b=true∧(match op with
   | .eql=>K (.bool (m == n))
   | .neq=>K (.bool (!(m == n)))
   | _=>False)
  | _,_=>False):=by
 cases x with
 | int k m=>
  cases y with
  | int k' n=>
   simp only[zac,zja];by_cases hk:k=k'
   ·subst hk;simp only[decide_true,true_and];cases op with
    | quo=>
     by_cases h0:n=0
     ·subst h0;simp
     ·have:(n == 0)=false:=by simpa using h0
      simp[this,h0]
    | rem=>
     by_cases h0:n=0
     ·subst h0;simp
     ·have:(n == 0)=false:=by simpa using h0
      simp[this,h0]
    | _=>rfl
   ·simp only[decide_eq_false hk];exact propext ⟨λh=>h.elim,λh=>(hk h.1).elim⟩
  | _=>rfl
 | str s=>
  cases y with
  | str t=>
   simp only[zac,zja];cases op with
   | add=>
    simp only[];by_cases h:s.length+t.length≤9223372036854775807
    ·simp only[decide_eq_true h];exact propext ⟨λh2=>⟨h,h2⟩,λh=>h.2⟩
    ·simp only[decide_eq_false h];exact propext ⟨λh=>h.elim,λh2=>(h h2.1).elim⟩
   | _=>rfl
  | _=>rfl
 | bool m=>
  cases y with
  | bool n=>
   simp only[zac,zja];cases b with
   | true=>cases op <;> exact propext ⟨λh=>⟨rfl,h⟩,λh=>h.2⟩
   | false=>exact propext ⟨λh=>h.elim,λh=>by cases h.1⟩
  | _=>rfl
 | _=>cases y <;> rfl
def zcX (ok:Bool) (op:BinOp) (x:AV) (K:AV→Prop):Prop:=
 ok=true∧(match x with
  | .nili=>(match op with
   | .eql=>K (.bool true)
   | .neq=>K (.bool false)
   | _=>False)
  | .ifc=>(match op with
   | .eql=>K (.bool false)
   | .neq=>K (.bool true)
   | _=>False)
  | _=>False)
def zpR:Operand→Bool
 | .const .nilIface=>true
 | _=>false
def aUn (op:UnOp) (x:AV) (K:AV→Prop):Prop:=
 match op,x with
 | .not,.bool b=>K (.bool (!b))
 | .neg,.int k n=>K (.int k (k.wrap (0-n)))
 | _,_=>False
def za0 (k:IntKind) (x:AV) (K:AV→Prop):Prop:=
 match x with
 | .int _ n=>K (.int k (k.wrap n))
 | _=>False
def zdX (x:AV) (K:AV→Prop):Prop:=
 match x with
 | .str s=>K (.str s)
 | _=>False
def zhg:List (List AV)→Option (List UInt8)
 | []=>some []
 | [.int .u8 n]::es=>(match zhg es with
  | some s=>some (UInt8.ofNat n.toNat::s)
  | none=>none)
 | _=>none
def zfd (x:AV) (K:AV→Prop):Prop:=
 match x with
 | .sl es _=>(match zhg es with
  | some s=>K (.str s)
  | none=>False)
 | .snil=>K (.str [])
 | _=>False
def zaC (x:AV) (i:Nat) (K:AV→Prop):Prop:=
 match x with
 | .tup vs=>(match vs[i]? with
  | some v=>K v
  | none=>False)
 | _=>False
def zcE (f:Nat) (caps:List AV) (K:AV→Prop):Prop:=caps.all AV.isB=true∧K (.fn f caps)
def zyq (x:AV):Option AV:=
 match x with
 | .ptr _ _ | .view _ | .fn _ _ | .vp _ _ _=>some x
 | _=>none
def za7 (x:AV) (K:AV→Prop):Prop:=
 match zyq x with
 | some v=>K v
 | none=>False
theorem zFH (x:AV) (K:AV→Prop):za7 x K=(match x with
  | .ptr _ _ | .view _ | .fn _ _ | .vp _ _ _=>K x
  | _=>False):=by
 unfold za7 zyq;cases x <;> rfl
def zaI (places:List (Nat × Nat)):List (Nat × AV)→List AV→Option (List AV)
 | [],cs=>some cs
 | (i,x)::rest,cs=>match places[i]?,x.cs? with
  | some (off,size),some xs=>match xs.length == size && decide (off+size≤cs.length) with
   | true=>zaI places rest (cs.take off++xs++cs.drop (off+size))
   | false=>none
  | _,_=>none
def zaq (zero:List AV) (places:List (Nat × Nat)) (af:List (Nat × AV)) (K:AV→Prop):Prop:=
 match zaI places af zero with
 | some cs=>K (.agg cs)
 | none=>False
def zaQ (ag:Nat):List (Nat × AV)→List (List AV)→Option (List (List AV))
 | [],es=>some es
 | (i,x)::rest,es=>match x.cs? with
  | some xs=>match plain xs with
   | some ds=>match ds.length == ag && decide (i<es.length) with
    | true=>zaQ ag rest (es.set i ds)
    | false=>none
   | none=>none
  | none=>none
def zau (ag:Nat) (zero:List AV) (len:Nat) (af:List (Nat × AV)) (K:AV→Prop):Prop:=
 match plain zero with
 | some z=>(match zaQ ag af (List.replicate len z) with
  | some es=>K (.sl es .full)
  | none=>False)
 | none=>False
def zbe (bytes:Nat) (zero:List AV) (len cap:AV) (H:zaa) (K:AV→zaa→Prop):Prop:=
 match len,cap with
 | .int .i64 l,.int .i64 c=>(0≤l∧l≤c∧c*bytes≤140737488355328∧c≤9223372036854775807) ∧
   K (.ms H.length 0 l.toNat c.toNat) (H++[.cells (List.replicate c.toNat zero).flatten])
 | _,_=>False
def zbO:List (List UInt8 × AV)→List UInt8→Option AV
 | [],_=>none
 | p::l,s=>match p.1 == s with
  | true=>some p.2
  | false=>zbO l s
def zcH:List (List UInt8 × AV)→List UInt8→AV→List (List UInt8 × AV)
 | [],s,x=>[(s,x)]
 | p::l,s,x=>match p.1 == s with
  | true=>(s,x)::l
  | false=>p::zcH l s x
def zdZ (H:zaa) (K:AV→zaa→Prop):Prop:=K (.map H.length) (H++[.map []])
def zdK (zero:AV) (ok:Bool) (m k:AV) (H:zaa) (K:AV→Prop):Prop:=
 match m,k with
 | .map id,.str s=>match H[id]? with
  | some (.map kvs)=>K (match ok with
   | true=>.tup [(zbO kvs s).getD zero,.bool (zbO kvs s).isSome]
   | false=>(zbO kvs s).getD zero)
  | _=>False
 | _,_=>False
def zcW (m k x:AV) (H:zaa) (K:zaa→Prop):Prop:=
 match m,k with
 | .map id,.str s=>match H[id]? with
  | some (.map kvs)=>(match x with
   | .tup _=>False
   | x=>K (H.set id (.map (zcH kvs s x))))
  | _=>False
 | _,_=>False
def zaM (y:AV) (K:List (List AV)→Prop):Prop:=
 match y with
 | .sl ys _=>K ys
 | .snil=>K []
 | _=>False
def zaJ (e size bytes:Nat) (x:AV) (ys:List (List AV)) (H:zaa) (K:AV→zaa→Prop):Prop:=
 match x with
 | .snil=>(ys.length*bytes≤140737488355328∧ys.length≤9223372036854775807)∧K (.sl ys (.own H.length)) (H++[.perm e size ys.length])
 | .sl es (.own id)=>H[id]?=some (.perm e size es.length)∧((es.length+ys.length)*bytes≤140737488355328∧es.length+ys.length≤9223372036854775807) ∧
   K (.sl (es++ys) (.own id)) (H.set id (.perm e size (es.length+ys.length)))
 | .ov id n=>(match H[id]? with
  | some (.vec e' s' n' cs)=>((e'=e∧s'=size∧n'=n)∧(n+ys.length)*bytes≤140737488355328∧n+ys.length≤9223372036854775807)∧K (.ov id (n+ys.length)) (H.set id (.vec e size (n+ys.length) (cs++ys.flatten)))
  | _=>False)
 | .sl es .full=>(match ys with
  | []=>K (.sl es .full) H
  | y::ys=>(0<(y::ys).length∧(∀ c∈es,c.length=size)∧(es.length+(y::ys).length)*bytes≤140737488355328∧es.length+(y::ys).length≤9223372036854775807)∧K (.sl (es++y::ys) (.own H.length)) (H++[.perm e size (es.length+(y::ys).length)]))
 | _=>False
def zdW (e size bytes:Nat) (x:AV) (m:Nat) (ds:List AV) (H:zaa) (K:AV→zaa→Prop):Prop:=
 match x with
 | .ov id n=>(match H[id]? with
  | some (.vec e' s' n' cs)=>((e'=e∧s'=size∧n'=n)∧ds.all AV.known=true∧ds.length=m*size∧(n+m)*bytes≤140737488355328∧n+m≤9223372036854775807)∧K (.ov id (n+m)) (H.set id (.vec e size (n+m) (cs++ds)))
  | _=>False)
 | .sl [] .full=>(match m with
  | 0=>K (.sl [] .none) H
  | m'+1=>(ds.all AV.known=true∧ds.length=(m'+1)*size∧(m'+1)*bytes≤140737488355328∧m'+1≤9223372036854775807)∧K (.ov H.length (m'+1)) (H++[.vec e size (m'+1) ds]))
 | _=>False
def zav (e size bytes:Nat) (x y:AV) (H:zaa) (K:AV→zaa→Prop):Prop:=
 match y with
 | .ms id off len _=>(match H[id]? with
  | some (.cells cs)=>off+len*size≤cs.length∧zdW e size bytes x len ((cs.drop off).take (len*size)) H K
  | _=>False)
 | .ov id n=>(match H[id]? with
  | some (.vec _ s' n' cs)=>(s'=size∧n'=n)∧zdW e size bytes x n cs H K
  | _=>False)
 | y=>zaM y λys=>(∀ c∈ys,c.length=size)∧zaJ e size bytes x ys H K

def ACalls (P:Program) (f:FuncId) (args:List AV) (H:zaa) (K:AV→zaa→Prop):Prop:=
 ∀ (B:Nat) (w:World) (G:Gh) (vs:Array Value),HRel B w G H→All2 (TRel w G) vs.toList args →
  Calls P f vs w λe w'=>∃ v r H' G',e=.returned v∧Ext B w G w' G'∧HRel B w' G' H'∧TRel w' G' v r∧K r H'

def zaX (P:Program) (t:TypeId):Option Nat:=(P.info? t).map (·.size)
def zc7 (P:Program) (t:TypeId):Option Nat:=(P.info? t).map (·.bytes)
def zbz (P:Program) (t:TypeId):Option Value:=(P.info? t).bind (·.zero)
def zd6 (P:Program) (t:TypeId):Option Bool:=(P.underlying t).map λ| .struct _ | .array _ _=>true | _=>false
def zdF (P:Program) (t:TypeId):Option Nat:=(P.underlying t).bind λ| .string=>some 0 | .slice _=>some 1 | _=>none
def za6 (P:Program) (t:TypeId):Option TypeId:=(P.underlying t).bind λ| .slice e=>some e | _=>none
def zrH (P:Program) (t:TypeId):Bool:=match P.underlying t with | some (.interface _)=>true | _=>false
def zJO (P:Program) (t:TypeId):Bool:=match P.underlying t with
 | some (.struct fs)=>(match fs.toList with
  | [f0,_]=>(match P.underlying f0.type with
   | some (.pointer e)=>e == t
   | _=>false)
  | _=>false)
 | _=>false
def tU8 (P:Program) (t:TypeId):Bool:=match P.underlying t with | some (.int .u8)=>true | _=>false
inductive CvK where
 | ints (k:IntKind)
 | strs
 | bytes
def cvK (P:Program) (s t:TypeId):Option CvK:=
 match P.underlying s with
 | some (.int _)=>(match P.underlying t with
  | some (.int k)=>some (.ints k)
  | _=>none)
 | some .string=>(match P.underlying t with
  | some .string=>some .strs
  | _=>none)
 | some (.slice e)=>(match P.underlying t with
  | some .string=>(match tU8 P e with
   | true=>some .bytes
   | false=>none)
  | _=>none)
 | _=>none
def zrG (P:Program) (t:TypeId):Bool:=match P.underlying t with | some .bool=>true | _=>false
def zgM (P:Program) (t:TypeId) (i:Nat):Option Field:=(P.underlying t).bind λ| .struct fs=>fs[i]? | _=>none
def zrI (P:Program) (t:TypeId):Option (List (Nat × Nat)):=(P.underlying t).bind fun
 | .struct fs=>fs.toList.mapM λf=>(zaX P f.type).map λs=>(f.offset,s)
 | _=>none
def zeB (P:Program) (t:TypeId):Option TypeId:=(P.underlying t).bind fun
 | .map k e=>(match P.underlying k with
  | some .string=>some e
  | _=>none)
 | _=>none
def zel (P:Program) (f:FuncId):Bool:=
 match P.funcs[f]? with
 | some fn => !(fn.name == "runtime.NumGoroutine") && fn.body.isSome
 | none=>false

def aCallV (P:Program) (g:AV) (args:List AV) (H:zaa) (K:AV→zaa→Prop):Prop:=
 match g with
 | .fn f caps=>(match zel P f with
  | true=>ACalls P f (args++caps) H K
  | false=>False)
 | _=>False

def zff (x y:AV) (K:AV→Prop):Prop:=
 match x,y with
 | .int k m,.int _ n=>K (.int k (if n>m then n else m))
 | _,_=>False
def zde (cs:List AV) (off:Nat) (ds:List AV):List AV:=cs.take off++ds++cs.drop (off+ds.length)
def zfe (size:Nat) (x y:AV) (H:zaa) (K:AV→zaa→Prop):Prop:=
 match x,y with
 | .os id n lo z,.os id' n' lo' z'=>(match H[id]? with
  | some (.vec e s m cs)=>(((id'=id∧n'=n∧m=n)∧z=size∧z'=size∧s=size)∧cs.all AV.known=true) ∧
    K (.int .i64 ((min (n-lo') (n-lo):Nat):Int)) (H.set id (.vec e s m (zde cs (lo*size) ((cs.drop (lo'*size)).take (min (n-lo') (n-lo)*size)))))
  | _=>False)
 | _,_=>False
def zeI (P:Program) (b:Builtin) (c:Call) (F:List AV) (H:zaa) (K:AV→zaa→Prop):Prop:=
 match b with
 | .len=>(match c.args.toList,c.argTypes.toList with
  | [x],[t]=>(match zdF P t with
   | some u=>zah u (ev F x) (K · H)
   | none=>False)
  | _,_=>False)
 | .append=>(match c.args.toList,c.argTypes.toList with
  | [x,y],[t,t']=>(match za6 P t,(za6 P t).bind (zaX P),(za6 P t).bind (zc7 P),(za6 P t).bind (zbz P),t == t' with
   | some e,some size,some bytes,some z,true=>(match decide (0<size) && (zbw z).length == size with
    | true=>zav e size bytes (ev F x) (ev F y) H K
    | false=>False)
   | _,_,_,_,_=>False)
  | _,_=>False)
 | .max=>(match c.args.toList with
  | [x,y]=>zff (ev F x) (ev F y) (K · H)
  | _=>False)
 | .copy=>(match c.args.toList,c.argTypes.toList with
  | [x,y],[t,_]=>(match (za6 P t).bind (zaX P) with
   | some size=>zfe size (ev F x) (ev F y) H K
   | none=>False)
  | _,_=>False)
 | _=>False

def zeL (P:Program) (op:Op) (F:List AV) (H:zaa) (K:AV→zaa→Prop):Prop:=
 match op with
 | .makeMap t r=>(match r,zeB P t with
  | none,some _=>zdZ H K
  | _,_=>False)
 | .lookup t x i ok=>(match (zeB P t).bind (zbz P) with
  | some z=>zdK (zem z) ok (ev F x) (ev F i) H (K · H)
  | none=>False)
 | .mapUpdate t m k x=>(match zeB P t with
  | some _=>zcW (ev F m) (ev F k) (ev F x) H (K (.tup []))
  | none=>False)
 | .insert t m k x=>(match zeB P t with
  | some _=>zcW (ev F m) (ev F k) (ev F x) H (K (.tup []))
  | none=>False)
 | _=>False

def zdt (P:Program) (o:Oper) (F:List AV) (H:zaa) (K:AV→zaa→Prop):Prop:=
 match o.op with
 | .move x | .assign x=>K (ev F x) H
 | .pick c a b=>zam (ev F c) (ev F a) (ev F b) (K · H)
 | .alloc t=>(match zbz P t with
  | some z=>zay (zbw z) H K
  | none=>False)
 | .box _ x=>zat (ev F x) H K
 | .build t af=>(match zbz P t,zrI P t with
  | some z,some ps=>zaq (zbw z) ps (af.toList.map λp=>(p.1,ev F p.2)) (K · H)
  | _,_=>False)
 | .buildSlice t len af=>(match (za6 P t).bind (zaX P),(za6 P t).bind (zbz P) with
  | some size,some z=>(match decide (0<size) && decide (len*size≤16777216) && (zbw z).length == size with
   | true=>zau size (zbw z) len (af.toList.map λp=>(p.1,ev F p.2)) (K · H)
   | false=>False)
  | _,_=>False)
 | .load t a=>(match zd6 P t,zaX P t with
  | some g,some n=>zae g n (ev F a) H (K · H)
  | _,_=>False)
 | .store t a x=>(match zaX P t with
  | some n=>zao n (ev F a) (ev F x) H (K (.tup []))
  | none=>False)
 | .nilCheck x=>za7 (ev F x) (K · H)
 | .binOp op t x y _=>(match zpR y with
  | true=>zcX (zrH P t) op (ev F x) (K · H)
  | false=>zac op (zrG P t) (ev F x) (ev F y) (K · H))
 | .unOp op _ x=>aUn op (ev F x) (K · H)
 | .convert s t x=>(match cvK P s t with
  | some (.ints k)=>za0 k (ev F x) (K · H)
  | some .strs=>zdX (ev F x) (K · H)
  | some .bytes=>zfd (ev F x) (K · H)
  | none=>False)
 | .makeFunc (.func f) first caps=>(match first.toList with
  | []=>zcE f (caps.toList.map (ev F)) (K · H)
  | _=>False)
 | .makeSlice t l c=>(match (za6 P t).bind (zaX P),(za6 P t).bind (zc7 P),(za6 P t).bind (zbz P) with
  | some size,some bytes,some z=>(match decide (0<size) && (zbw z).length == size with
   | true=>zbe bytes (zbw z) (ev F l) (ev F c) H K
   | false=>False)
  | _,_,_=>False)
 | .slice t x lo hi none=>(match zdF P t with
  | some 0=>zaN 0 0 (ev F x) (lo.map (ev F)) (hi.map (ev F)) (K · H)
  | some 1=>(match (za6 P t).bind (zaX P) with
   | some size=>zaN 1 size (ev F x) (lo.map (ev F)) (hi.map (ev F)) (K · H)
   | none=>False)
  | _=>False)
 | .fieldAddr s x i=>(match zgM P s i with
  | some f=>(match zaX P f.type with
   | some (_+1)=>zaf f.offset (ev F x) (K · H)
   | _=>False)
  | none=>False)
 | .field s x i=>(match zgM P s i with
  | some f=>(match zd6 P f.type,zaX P f.type with
   | some g,some n=>zdY g n f.offset (ev F x) (K · H)
   | _,_=>False)
  | none=>False)
 | .indexAddr t x i=>(match (za6 P t).bind (zaX P) with
  | some size=>zak size (ev F x) (ev F i) (K · H)
  | none=>False)
 | .index t x i=>(match zdF P t with
  | some 0=>zbI (ev F x) (ev F i) (K · H)
  | _=>False)
 | .extract x i=>zaC (ev F x) i (K · H)
 | .call c=>(match c.callee with
  | .value f=>aCallV P (ev F f) (c.args.toList.map (ev F)) H K
  | .builtin b=>zeI P b c F H K
  | .invoke _ _=>False)
 | _=>False
def isM:Op→Bool
 | .makeMap _ _ | .lookup _ _ _ _ | .mapUpdate _ _ _ _ | .insert _ _ _ _=>true
 | _=>false
def aop (P:Program) (o:Oper) (F:List AV) (H:zaa) (K:AV→zaa→Prop):Prop:=
 match isM o.op with
 | true=>zeL P o.op F H K
 | false=>zdt P o F H K

def zo3 (fl:Bool) (agg:Bool) (n:Nat) (a:AV) (H:zaa) (K:AV→Prop):Prop:=
 match fl with
 | false=>zaj agg n a H K
 | true=>zae agg n a H K
def zbn (fl:Bool) (P:Program) (o:Oper) (F:List AV) (H:zaa) (K:AV→zaa→Prop):Prop:=
 match o.op with
 | .load t a=>(match zd6 P t,zaX P t with
  | some g,some n=>zo3 fl g n (ev F a) H (K · H)
  | _,_=>False)
 | _=>aop P o F H K
def zdq (g:AV) (want:Bool) (p q:Prop):Prop:=
 match g with
 | .bool b=>aIf (b == want) p q
 | .tup []=>q
 | _=>False
def zad (g:AV) (want:Bool) (H:zaa) (p:(AV→zaa→Prop)→Prop) (J:AV→zaa→Prop):Prop:=zdq g want (p J) (J (.tup []) H)
def zab (H:zaa) (p:(AV→zaa→Prop)→Prop) (K:AV→Prop):Prop:=∃ r,(p λv H'=>v=r∧H'=H)∧K r
def zaA (H:zaa) (p:zaa→(AV→zaa→Prop)→Prop) (K:AV→Prop):Prop:=∃ r,(∀ J:zaa,p (H++J) λv H'=>v=r∧H'=H++J)∧K r
def zag (c:AV) (p q:Prop):Prop:=
 match c with
 | .bool t=>aIf t p q
 | _=>False

def zbP (F:List AV) (d:Option Tmp) (v:AV):List AV:=
 match d with
 | some d=>F.set d v
 | none=>F

def zo4 (t:TypeId) (cs:List AV) (H:zaa) (K:AV→zaa→Prop):Prop:=K (.ptr H.length 0) (H++[.bld t cs])
def zhd (P:Program) (o:Oper) (F:List AV) (H:zaa) (K:AV→zaa→Prop):Prop:=
 match o.op with
 | .alloc t=>(match zJO P t with
  | true=>(match zbz P t with
   | some z=>zo4 t (zbw z) H K
   | none=>False)
  | false=>aop P o F H K)
 | _=>aop P o F H K
def AV.oneK:AV→Bool
 | .unk | .agg _ | .tup _=>false
 | _=>true
def zo0 (e:TypeId) (size len:Nat) (af:List (Nat × AV)) (H:zaa) (K:AV→zaa→Prop):Prop:=
 match size,len,af with
 | 1,1,[(0,x)]=>x.oneK=true∧K (.ov H.length 1) (H++[.vec e 1 1 [x]])
 | 2,1,[(0,.agg [x,y])]=>(x.oneK=true∧y.oneK=true)∧K (.ov H.length 1) (H++[.vec e 2 1 [x,y]])
 | _,_,_=>False
def zgk (x:AV) (K:Bool→Prop):Prop:=
 match x with
 | .snil=>K true
 | .ms _ _ _ _=>K false
 | .ov _ (_+1)=>K false
 | .sl (_::_) .none=>K false
 | .sl [] .none=>K true∧K false
 | _=>False
def zg8 (ok:Bool) (op:BinOp) (x:AV) (K:AV→Prop):Prop:=
 ok=true∧(match op with
 | .eql=>zgk x λb=>K (.bool b)
 | .neq=>zgk x λb=>K (.bool (!b))
 | _=>False)
def zpS:Operand→Bool
 | .const (.slice none 0 0)=>true
 | _=>false
def zrJ (P:Program) (t:TypeId):Bool:=match P.underlying t with | some (.slice _)=>true | _=>false
def zxO:Operand→Bool
 | .const (.int .i64 (.ofNat 0))=>true
 | _=>false
def zeJ (e size bytes:Nat) (cap:AV) (H:zaa) (K:AV→zaa→Prop):Prop:=
 match cap with
 | .int .i64 c=>(0≤c∧c*bytes≤140737488355328∧c≤9223372036854775807)∧K (.ov H.length 0) (H++[.vec e size 0 []])
 | _=>False
def zo6 (size:Nat) (x hi:AV) (H:zaa) (K:AV→zaa→Prop):Prop:=
 match x with
 | .ov id n=>(match H[id]?,hi with
  | some (.vec e s n' cs),.int _ k=>((s=size∧n'=n)∧0≤k∧k≤n)∧K (.ov H.length k.toNat) (H.set id .dead++[.vec e s k.toNat (cs.take (k.toNat*s))])
  | _,_=>False)
 | x=>zaN 1 size x none (some hi) (K · H)
def zpe (P:Program) (o:Oper) (F:List AV) (H:zaa) (K:AV→zaa→Prop):Prop:=
 match o.op with
 | .buildSlice t len af=>(match za6 P t with
  | some e=>(match zaX P e,zbz P e with
   | some size,some z=>(match (zbw z).length == size with
    | true=>zo0 e size len (af.toList.map λp=>(p.1,ev F p.2)) H K
    | false=>False)
   | _,_=>False)
  | none=>False)
 | .binOp op t x y _=>(match zpS y with
  | true=>zg8 (zrJ P t) op (ev F x) (K · H)
  | false=>aop P o F H K)
 | .makeSlice t l c=>(match zxO l with
  | true=>(match za6 P t with
   | some e=>(match zaX P e,zc7 P e,zbz P e with
    | some size,some bytes,some z=>(match decide (0<size) && (zbw z).length == size with
     | true=>zeJ e size bytes (ev F c) H K
     | false=>False)
    | _,_,_=>False)
   | none=>False)
  | false=>aop P o F H K)
 | .slice t x none (some hi) none=>(match zdF P t with
  | some 1=>(match (za6 P t).bind (zaX P) with
   | some size=>zo6 size (ev F x) (ev F hi) H K
   | none=>False)
  | _=>False)
 | _=>aop P o F H K
def zig (P:Program):List Oper→(List AV→zaa→Prop)→List AV→zaa→Prop
 | [],K,F,H=>K F H
 | o::os,K,F,H=>match o.guard with
  | none=>zpe P o F H λv H'=>zig P os K (zbP F o.dst v) H'
  | some _=>False
def ze1 (P:Program) (aj:Array Oper):List Oper→(List AV→zaa→Prop)→List AV→zaa→Prop
 | [],K,F,H=>K F H
 | o::os,K,F,H=>match o.guard with
  | none=>zhd P o F H λv H'=>ze1 P aj os K (zbP F o.dst v) H'
  | some (j,want)=>(match (aj[j]?).bind (·.dst) with
   | some d=>zad (F.getD d .unk) want H (zhd P o F H) λv H'=>ze1 P aj os K (zbP F o.dst v) H'
   | none=>False)

inductive WM where
 | n
 | w
 | g
 | c
def WM.on (wc:WM) (f:Operand):Bool:=
 match wc with
 | .n=>false
 | .c=>(match f with
  | .func _=>true
  | _=>false)
 | _=>true
def WM.gr:WM→Bool
 | .g=>true
 | _=>false
def GrowA (H H':zaa):Prop:=H'=H∨(∃ e s n,H'=H++[.perm e s n])∨(∃ (id e s n n':Nat),H[id]?=some (.perm e s n)∧H'=H.set id (.perm e s n')) ∨
 (∃ (id e s n n':Nat) (cs cs':List AV),H[id]?=some (.vec e s n cs)∧H'=H.set id (.vec e s n' cs'))∨∃ (e s n:Nat) (cs:List AV),H'=H++[.vec e s n cs]
def opW (wc:WM):Op→Bool
 | .store _ _ _ | .alloc _ | .box _ _ | .makeSlice _ _ _ | .makeMap _ _ | .mapUpdate _ _ _ _ | .insert _ _ _ _=>true
 | .call c=>(match c.callee with
  | .builtin .append=>true
  | .builtin .copy=>true
  | .value f=>wc.on f
  | _=>false)
 | _=>false
def opF:Op→Bool
 | .move _ | .assign _ | .pick _ _ _ | .build _ _ | .buildSlice _ _ _ | .nilCheck _ | .binOp _ _ _ _ _ | .unOp _ _ _ | .convert _ _ _ | .makeFunc _ _ _ | .slice _ _ _ _ _ | .fieldAddr _ _ _ | .field _ _ _
 | .indexAddr _ _ _ | .index _ _ _ | .extract _ _=>true
 | .call c=>(match c.callee with
  | .builtin .len=>true
  | _=>false)
 | _=>false
def opL:Op→Bool
 | .load _ _=>true
 | _=>false
def opA (wc:WM):Op→Bool
 | .call c=>(match c.callee with
  | .builtin .append=>true
  | .value _=>wc.gr
  | _=>false)
 | _=>false
def opG (wc:WM):Op→Bool
 | .call c=>(match c.callee with
  | .value _=>wc.gr
  | _=>false)
 | _=>false
def opN:Op→Bool
 | .alloc _ | .box _ _ | .makeSlice _ _ _ | .makeMap _ _=>true
 | _=>false
def opV:Op→Bool
 | .alloc _=>true
 | _=>false
def opC (wc:WM):Op→Bool
 | .call c=>(match c.callee with
  | .value f=>!wc.on f
  | _=>false)
 | _=>false
def okU (wc:WM) (q p:Op):Bool:=(opL q && (opA wc p || opN p)) || (opA wc q && opL p) || (opC wc q && opV p) || (opV q && opV p)
def zdJ (wc:WM) (gr:Bool) (H:zaa) (p:(AV→zaa→Prop)→Prop) (K:AV→zaa→Prop):Prop:=
 match wc with
 | .n=>p K
 | _=>∃ r H',p (λv H2=>v=r∧H2=H')∧(gr=true→GrowA H H')∧K r H'
def zcS (fl:Bool) (wc:WM) (P:Program) (aj:Array Oper):List Oper→(List AV→zaa→Prop)→List AV→zaa→Prop
 | [],K,F,H=>K F H
 | o::os,K,F,H=>match o.guard with
  | none=>(match opW wc o.op with
   | false=>(match opC wc o.op with
    | false=>zab H (zbn fl P o F H) λr=>zcS fl wc P aj os K (zbP F o.dst r) H
    | true=>zaA H (λH=>zbn fl P o F H) λr=>zcS fl wc P aj os K (zbP F o.dst r) H)
   | true=>zdJ wc (opG wc o.op) H (zbn fl P o F H) λv H'=>zcS fl wc P aj os K (zbP F o.dst v) H')
  | some (j,want)=>(match (aj[j]?).bind (·.dst) with
   | some d=>(match opW wc o.op with
    | false=>(match opC wc o.op with
     | false=>zad (F.getD d .unk) want H (λJ=>zab H (zbn fl P o F H) (J · H)) λv H'=>zcS fl wc P aj os K (zbP F o.dst v) H'
     | true=>zad (F.getD d .unk) want H (λJ=>zaA H (λH=>zbn fl P o F H) (J · H)) λv H'=>zcS fl wc P aj os K (zbP F o.dst v) H')
    | true=>zad (F.getD d .unk) want H (λJ=>zdJ wc (opG wc o.op) H (zbn fl P o F H) J) λv H'=>zcS fl wc P aj os K (zbP F o.dst v) H')
   | none=>False)

def zpd {α:Type}:List α→(α→Prop)→Prop
 | [],_=>True
 | [i],p=>p i
 | i::j::l,p=>p i∧zpd (j::l) p
def zgF (P:Program) (aj:Array Oper) (K:List AV→zaa→Prop):Nat→Array Bool→List AV→zaa→Prop
 | 0,ae,F,H=>(match Region.ready .any aj ae with
  | []=>K F H
  | _=>False)
 | n+1,ae,F,H=>(match Region.ready .any aj ae with
  | []=>K F H
  | i::is=>zpd (i::is) λi=>(match aj[i]? with
   | some o=>(match o.guard with
    | none=>aop P o F H λv H'=>zgF P aj K n (ae.setIfInBounds i true) (zbP F o.dst v) H'
    | some _=>False)
   | none=>False))
inductive AExit where
 | normal
 | exit (id:Nat)
 | ret
def AExit.toExit:AExit→Exit
 | .normal=>.normal
 | .exit id=>.exit id
 | .ret=>.ret

def Post (B:Nat) (w:World) (G:Gh) (Q:AExit→List AV→zaa→Prop) (e:Exit) (a':Act) (w':World):Prop:=
 ∃ F' H' G' e',e=AExit.toExit e'∧Ext B w G w' G'∧HRel B w' G' H'∧FRel w' G' a'.tmps F'∧a'.defers=[]∧Q e' F' H'

def AWp (P:Program) (c:Code) (Q:AExit→List AV→zaa→Prop) (F:List AV) (H:zaa):Prop:=
 ∀ (B:Nat) (w:World) (G:Gh) (a:Act),HRel B w G H→FRel w G a.tmps F→a.defers=[]→c.wp P (Post B w G Q) a w

def ALoop (P:Program) (c:Code) (Q:AExit→List AV→zaa→Prop) (F:List AV) (H:zaa):Prop:=AWp P (.loop c) Q F H

def zfu:List Bool→List AV→List AV
 | true::bs,a::asx=>a::zfu bs asx
 | false::bs,_::asx=>.unk::zfu bs asx
 | [],asx=>asx
 | _,[]=>[]
def zhq:Code→Nat
 | .region id _ _=>id
 | .seq a _=>zhq a
 | .block _ c=>zhq c
 | .loop c=>zhq c
 | .scope c=>zhq c
 | _=>0

def zet (aj:Array Oper) (o:Oper):List Nat:=
 (o.op.operands.toList.filterMap λ| .tmp t=>some t | _=>none) ++
  (match o.guard with
  | some (g,_)=>((aj[g]?).bind (·.dst)).toList
  | none=>[])
def zd2 (o:Oper) (j:Nat):Bool:=o.after.any λe=>Region.binds .any e && e.on == j
def zq7 (aj:Array Oper) (i j:Nat) (oi oj:Oper):Bool:=
 (i == j) || (match oj.dst with
  | some d=>(oi.dst != some d) && (!(zet aj oi).contains d || (if j<i then zd2 oi j else zd2 oj i))
  | none=>true)
def zeu (aj:Array Oper):Bool:=
 (aj.toList.zipIdx.all λp=>(p.1.after.all λe=>!Region.binds .any e || decide (e.on<p.2)) && aj.toList.zipIdx.all λq=>zq7 aj p.2 q.2 p.1 q.1)
def zhc (ms:List Nat):List Edge→Nat→Nat
 | [],m=>m
 | e::es,m=>zhc ms es (match Region.binds .any e with
  | true=>m ||| (1 <<< e.on) ||| ms.getD e.on 0
  | false=>m)
def zgd:List Oper→List Nat→List Nat
 | [],ms=>ms
 | o::os,ms=>zgd os (ms++[zhc ms o.after.toList 0])
def zdR (wc:WM) (aj:Array Oper):Bool:=
 match aj.toList.any (λo=>opW wc o.op) with
 | false=>true
 | true=>(λms=>aj.toList.zipIdx.all λp=>aj.toList.zipIdx.all λq=>
   !(decide (q.2<p.2)) || !(opW wc p.1.op || opW wc q.1.op) || opF p.1.op || opF q.1.op || okU wc q.1.op p.1.op || Nat.testBit (ms.getD p.2 0) q.2) (zgd aj.toList [])
def zrK (aj:Array Oper) (m:Nat):Bool:=(λms=>(aj.toList.drop m).all (λo=>(List.range m).all λi=>zd2 o i || (List.range m).any λk=>zd2 o k && Nat.testBit (ms.getD k 0) i)) (zgd (aj.toList.take m) []) && aj.toList.all λo=>o.guard.isNone
def zdS (aj:Array Oper) (m:Nat):Array Oper:=(aj.toList.take m).toArray
def zgN (m t:Nat):Array Bool:=(List.replicate m true++List.replicate t false).toArray
def noG (aj:Array Oper):Bool:=aj.toList.all λo=>!opA .n o.op && !opN o.op
def zev (aj:Array Oper):Bool:=
 match aj.toList.any (λo=>opV o.op) with
 | false=>true
 | true=>(λa k=>aj.toList.zipIdx.all λp=>(opV p.1.op == (decide (a≤p.2) && decide (p.2<a+k))) && (!opV p.1.op || p.1.guard.isNone)) (aj.toList.findIdx λo=>opV o.op) (aj.toList.countP λo=>opV o.op)
def zzj (next:List AV→zaa→Prop) (Q:AExit→List AV→zaa→Prop):AExit→List AV→zaa→Prop
 | .normal,F,H=>next F H
 | .exit id,F,H=>Q (.exit id) F H
 | .ret,F,H=>Q .ret F H
def zpj (id:Nat) (Q:AExit→List AV→zaa→Prop):AExit→List AV→zaa→Prop
 | .normal,F,H=>Q .normal F H
 | .exit id',F,H=>(match id' == id with
  | true=>Q .normal F H
  | false=>Q (.exit id') F H)
 | .ret,F,H=>Q .ret F H

def zeN:Code→Nat
 | .region id _ _=>id
 | .seq a _=>zeN a
 | .block _ c=>zeN c
 | .loop c=>zeN c
 | .scope c=>zeN c
 | .cond _ a b=>50000+zeN a*1000+zeN b
 | _=>0
def nxt (m:List Bool) (P:Program) (b:Code) (Q:AExit→List AV→zaa→Prop) (now:List AV→zaa→Prop):List AV→zaa→Prop:=
 match m with
 | []=>now
 | m=>λF H=>AWp P b Q (zfu m F) H
def awp (P:Program) (M:Nat→List Bool):Code→(AExit→List AV→zaa→Prop)→List AV→zaa→Prop
 | .skip,Q,F,H=>Q .normal F H
 | .label _,Q,F,H=>Q .normal F H
 | .region id aj draw,Q,F,H=>(match draw with
  | false=>(match M (300000+id) with
   | []=>ze1 P aj aj.toList (Q .normal) F H
   | _::_=>zig P aj.toList (Q .normal) F H)
  | true=>(match M (400000+id) with
   | _::_=>(match zeu aj && zdR .n aj && zev aj && P.follows .mixedOrders && noG aj with
    | true=>zcS true .n P aj aj.toList (Q .normal) F H
    | false=>False)
   | []=>(match M (200000+id) with
   | []=>(match zeu aj && zdR .n aj && zev aj && P.follows .mixedOrders with
    | true=>zcS false .n P aj aj.toList (Q .normal) F H
    | false=>False)
   | [_]=>(match zeu aj && zdR .w aj && zev aj && P.follows .mixedOrders with
    | true=>zcS false .w P aj aj.toList (Q .normal) F H
    | false=>False)
   | [_,_]=>(match zeu aj && zdR .g aj && zev aj && P.follows .mixedOrders with
    | true=>zcS false .g P aj aj.toList (Q .normal) F H
    | false=>False)
   | [_,_,_]=>(match zeu aj && zdR .c aj && zev aj && P.follows .mixedOrders with
    | true=>zcS false .c P aj aj.toList (Q .normal) F H
    | false=>False)
   | _::_::_::_::l=>(match zeu (zdS aj (aj.size-l.length)) && zdR .n (zdS aj (aj.size-l.length)) && zev (zdS aj (aj.size-l.length)) && P.follows .mixedOrders && zrK aj (aj.size-l.length) && decide (l.length≤aj.size) with
    | true=>zcS false .n P (zdS aj (aj.size-l.length)) (zdS aj (aj.size-l.length)).toList (zgF P aj (Q .normal) l.length (zgN (aj.size-l.length) l.length)) F H
    | false=>False))))
 | .seq a b,Q,F,H=>awp P M a (zzj (nxt (M (100000+zeN b)) P b Q (awp P M b Q)) Q) F H
 | .cond c a b,Q,F,H=>zag (ev F c) (awp P M a Q F H) (awp P M b Q F H)
 | .block id c,Q,F,H=>awp P M c (zpj id Q) F H
 | .scope c,Q,F,H=>awp P M c Q F H
 | .loop c,Q,F,H=>ALoop P c Q (zfu (M (zhq c)) F) H
 | .ret,Q,F,H=>Q .ret F H
 | .exit id,Q,F,H=>Q (.exit id) F H
 | _,_,_,_=>False

def zar:List Nat→Code→Code
 | [],c=>c
 | 0::p,.seq a _=>zar p a
 | _::p,.seq _ b=>zar p b
 | 0::p,.cond _ a _=>zar p a
 | _::p,.cond _ _ b=>zar p b
 | _::p,.block _ c=>zar p c
 | _::p,.scope c=>zar p c
 | _::p,.loop c=>zar p c
 | _,c=>c
def zas (P:Program) (M:Nat→List Bool):List Nat→Code→(AExit→List AV→zaa→Prop)→AExit→List AV→zaa→Prop
 | [],_,Q=>Q
 | 0::p,.seq a b,Q=>zas P M p a (zzj (nxt (M (100000+zeN b)) P b Q (awp P M b Q)) Q)
 | _::p,.seq _ b,Q=>zas P M p b Q
 | 0::p,.cond _ a _,Q=>zas P M p a Q
 | _::p,.cond _ _ b,Q=>zas P M p b Q
 | _::p,.block id c,Q=>zas P M p c (zpj id Q)
 | _::p,.scope c,Q=>zas P M p c Q
 | _,_,Q=>Q
def zbL (m:List Bool) (Kb:List AV→zaa→Prop) (Q:AExit→List AV→zaa→Prop):AExit→List AV→zaa→Prop
 | .normal,F,H=>Kb (zfu m F) H
 | .exit id,F,H=>Q (.exit id) F H
 | .ret,F,H=>Q .ret F H

end
section
open Go.RowKit

variable {P:Program} {B:Nat} {w:World} {G:Gh} {H:zaa}

def zFm (B:Nat) (w:World) (G:Gh) (K:AV→zaa→Prop) (e:Ending) (w':World):Prop:=
 ∃ v r H' G',e=.returned v∧Ext B w G w' G'∧HRel B w' G' H'∧TRel w' G' v r∧K r H'

def OpOK (P:Program) (B:Nat) (w:World) (G:Gh) (K:AV→zaa→Prop):Result Next→Prop
 | .ok (.value v) w'=>∃ av G' H',Ext B w G w' G'∧HRel B w' G' H'∧TRel w' G' v av∧K av H'
 | .ok .skip w'=>∃ G' H',Ext B w G w' G'∧HRel B w' G' H'∧K (.tup []) H'
 | .ok (.enter f vs) w'=>w'=w∧Calls P f vs w (zFm B w G K)
 | _=>False

theorem OpOK.same {K:AV→zaa→Prop} {v:Value} {av:AV} (hH:HRel B w G H) (hv:TRel w G v av) (hK:K av H):OpOK P B w G K (.ok (.value v) w):=
 ⟨av,G,H,Ext.refl _ _ _,hH,hv,hK⟩

theorem zgD (v:Value):BRel w G v (zgh v):=by unfold zgh;split <;> first | rfl | trivial
theorem zy0 (v:Value):TRel w G v (zem v):=by
 unfold zem;split
 ·rename_i cs;refine⟨cs,rfl,?_⟩;refine All2.of_get (by simp) λi x y hx hy=>?_;rw[List.getElem?_map,hx]at hy;simp at hy;rw[←hy];exact ARel.of_b (zgD x)
 ·exact TRel.of_v (VRel.of_a (ARel.of_b (zgD v)))
theorem zdU (v:Value):All2 (ARel w G) v.cells.toList (zbw v):=by
 unfold zbw;split
 ·rename_i cs;simp only[Value.cells];refine All2.of_get (by simp) λi x y hx hy=>?_;rw[List.getElem?_map,hx]at hy;simp at hy;rw[←hy];exact ARel.of_b (zgD x)
 ·rename_i h;have:v.cells=#[v]:=by cases v <;> first | rfl | exact absurd rfl (h _)
  rw[this];exact⟨ARel.of_b (zgD v),trivial⟩

theorem zaO {a:Act} {F:List AV} (hF:FRel w G a.tmps F) (x:Operand):TRel w G (a.eval x) (ev F x):=by
 cases x with
 | tmp t=>
  unfold Act.eval ev;simp only[];cases h:F[t]? with
  | none=>simp only[List.getD_eq_getElem?_getD,h];trivial
  | some b=>
   obtain⟨v,h1,h2⟩:=All2.get hF h;have:a.tmps[t]?=some v:=by simpa using h1
   simp only[List.getD_eq_getElem?_getD,h,Option.getD_some,Array.getD_eq_getD_getElem?,this];exact h2
 | const v=>exact zy0 v
 | global g=>trivial
 | func f=>exact⟨#[],rfl,trivial⟩

theorem zxq {a:Act} {F:List AV} (hF:FRel w G a.tmps F) (xs:List Operand):All2 (TRel w G) (xs.map a.eval) (xs.map (ev F)):=by
 induction xs with
 | nil=>trivial
 | cons x xs ih=>exact⟨zaO hF x,ih⟩

theorem zzb {t:TypeId} {i:TypeInfo} (h:P.info? t=some i):(typeInfo t).run P w=.ok i w:=by simp[typeInfo,h]
theorem zbV {t:TypeId} {n:Nat} (h:zaX P t=some n):(sizeOf t).run P w=.ok n w:=by
 unfold zaX at h;cases hi:P.info? t with
 | none=>simp[hi]at h
 | some i=>simp[hi]at h;simp[sizeOf,zzb hi,h]
theorem ze2 {t:TypeId} {z:Value} (h:zbz P t=some z):(zeroValue t).run P w=.ok z w:=by
 unfold zbz at h;cases hi:P.info? t with
 | none=>simp[hi]at h
 | some i=>simp[hi]at h;simp[zeroValue,zzb hi,h]
theorem zaZ {t:TypeId} {d:TypeDesc} (h:P.underlying t=some d):(underlying t).run P w=.ok d w:=by simp[underlying,h]
theorem zgG {t:TypeId} {g:Bool} (h:zd6 P t=some g):(isAgg t).run P w=.ok g w:=by
 unfold zd6 at h;cases hu:P.underlying t with
 | none=>simp[hu]at h
 | some d=>simp only[hu,Option.map_some,Option.some.injEq]at h;cases d <;> simp_all [isAgg,zaZ hu]
theorem zb6 {t e:TypeId} (h:za6 P t=some e):P.underlying t=some (.slice e):=by
 unfold za6 at h;cases hu:P.underlying t with
 | none=>simp[hu]at h
 | some d=>simp only[hu,Option.bind_some]at h;cases d <;> simp_all
theorem zrS {t:TypeId} (h:zdF P t=some 0):P.underlying t=some .string:=by
 unfold zdF at h;cases hu:P.underlying t with
 | none=>simp[hu]at h
 | some d=>simp only[hu,Option.bind_some]at h;cases d <;> simp_all
theorem zkO {t:TypeId} (h:zdF P t=some 1):∃ e,P.underlying t=some (.slice e):=by
 unfold zdF at h;cases hu:P.underlying t with
 | none=>simp[hu]at h
 | some d=>simp only[hu,Option.bind_some]at h;cases d <;> simp_all
theorem zAg {t:TypeId} {i:Nat} {f:Field} (h:zgM P t i=some f):∃ fs,P.underlying t=some (.struct fs)∧fs[i]?=some f:=by
 unfold zgM at h;cases hu:P.underlying t with
 | none=>simp[hu]at h
 | some d=>simp only[hu,Option.bind_some]at h;cases d <;> simp_all

theorem add_lit (b o n:Nat):Addr.add ⟨b,o,none⟩ n=⟨b,o+n,none⟩:=Addr.add_lit b o n

theorem ARel.oneCell {v:Value}:∀ {a:AV},a≠.unk→ARel w G v a→v.oneCell'=true:=by
 intro a aB h;cases a with
 | unk=>exact absurd rfl aB
 | fn f caps=>obtain⟨vs,rfl,_⟩:=h;rfl
 | agg cs=>exact h.elim
 | tup cs=>exact h.elim
 | sl es tok=>
  cases tok with
  | none=>obtain⟨a,cap,rfl,_⟩:=DRel.slice_form h;rfl
  | full=>obtain⟨a,cap,rfl,_⟩:=DRel.slice_form h.1;rfl
  | own id=>obtain⟨a,cap,rfl,_⟩:=DRel.slice_form h.1;rfl
 | bool b=>cases h;rfl
 | int k n=>cases h;rfl
 | str s=>cases h;rfl
 | nilp=>cases h;rfl
 | snil=>cases h;rfl
 | nilfn=>cases h;rfl
 | nili=>cases h;rfl
 | ifc=>obtain⟨t,x,rfl⟩:=h;rfl
 | ptr id off=>obtain⟨b,_,rfl⟩:=h;rfl
 | view cs=>obtain⟨b,off,rfl,_⟩:=h;rfl
 | ms id off len cap=>obtain⟨b,_,rfl⟩:=h;rfl
 | ov id n=>obtain⟨⟨a,cap,rfl,_⟩,_⟩:=h;rfl
 | vp id n off=>obtain⟨⟨b,o,rfl⟩,_⟩:=h;rfl
 | os id n lo ag=>obtain⟨⟨_,a,c,rfl,_⟩,_⟩:=h;rfl
 | map id=>obtain⟨b,_,rfl⟩:=h;rfl

theorem zhj {v:Value} {x:AV} {xs:List AV} (h:TRel w G v x) (hx:x.cs?=some xs):All2 (ARel w G) v.cells.toList xs:=by
 have atom:∀ {y:AV},y≠.unk→y.cs?=some [y]→ARel w G v y→All2 (ARel w G) v.cells.toList [y]:=by
  intro y aB _ hr;have h1:=ARel.oneCell aB hr;have:v.cells=#[v]:=by cases v <;> first | rfl | simp[Value.oneCell']at h1
  rw[this];exact⟨hr,trivial⟩
 cases x with
 | unk=>simp[AV.cs?]at hx
 | tup vs=>simp[AV.cs?]at hx
 | agg cs=>simp[AV.cs?]at hx;subst hx;obtain⟨vs,rfl,h2⟩:=h;exact h2
 | _=>simp[AV.cs?]at hx;subst hx;exact atom (by simp) rfl h

theorem zkp {v:Value} {e:TypeId} {size n:Nat} {xs:List Value} (h:w.ownsRow B e size v n xs):∃ a cap,v=.slice a n cap∧n≤cap:=by
 rcases h.2 with ⟨rfl,rfl⟩ | ⟨g,cap,cur,rfl,h1,h2,h3,h4⟩
 ·exact⟨none,0,rfl,Nat.le_refl _⟩
 ·exact⟨_,cap,rfl,h3⟩

theorem zdA {e:TypeId} {size n cap g:Nat} {xs:List Value} (h:w.ownsRow B e size (.slice (some ⟨g,0,none⟩) n cap) n xs) :
  xs.length=n*size∧B≤g∧g<w.heap.size∧∀ (j:Nat),j<n*size→w.cell? ⟨g,j,none⟩=xs[j]?:=by
 obtain⟨h0,h1⟩:=h;rcases h1 with ⟨h1,_⟩ | ⟨g',cap',cur,h1,h2,h3,h4,h5,h6,h7⟩
 ·simp at h1
 ·simp at h1;obtain⟨rfl,rfl⟩:=h1;refine⟨h0,h2,(Array.getElem?_eq_some_iff.1 h3).1,λj hj=>?_⟩;rw[←h7];simp only[World.cell?,h3];rw[List.getElem?_take_of_lt hj];simp


theorem zzc {t:TypeId} {g:Bool} {n:Nat} {b off:Nat} {ws:List Value} {cs:List AV} {K:AV→Prop} (hg:zd6 P t=some g) (hn:zaX P t=some n)
  (hr:All2 (ARel w G) ws cs) (hc:∀ (j:Nat) v,ws[j]?=some v→w.cell? ⟨b,j,none⟩=some v) (hk:zbp g n off cs K) :
  ∃ v av,(loadVar t ⟨b,off,none⟩).run P w=.ok v w∧TRel w G v av∧K av:=by
 cases g with
 | true=>
  obtain⟨h1,h2⟩:=hk;have hl:=hr.length;have am:((ws.drop off).take n).length=n:=by simp;omega
  have dL:=run_loadCells_list (P:=P) w ⟨b,off,none⟩ ((ws.drop off).take n) (λj v hj=>by
   rw[add_lit];apply hc;have:j<n:=by have:=(List.getElem?_eq_some_iff.1 hj).1;omega
   rw[List.getElem?_take]at hj;simp[this]at hj;exact hj)
  rw[am]at dL;refine⟨.agg ((ws.drop off).take n).toArray,.agg ((cs.drop off).take n),?_,⟨_,rfl,?_⟩,h2⟩
  ·simp[loadVar,zgG hg,zbV hn,dL]
  ·simpa using (hr.drop off).take n
 | false=>
  unfold zbp at hk;simp only[]at hk;cases c6:cs[off]? with
  | none=>rw[c6]at hk;exact hk.elim
  | some c=>rw[c6]at hk;obtain⟨v,h1,h2⟩:=hr.get c6;refine⟨v,c,?_,TRel.of_v (VRel.of_a h2),hk⟩;simp[loadVar,zgG hg,hc off v h1]

theorem DRel.toB {v:Value} {a:AV} (h:DRel w G.L v a):BRel w G v a:=by
 cases h with
 | bool b=>rfl
 | int k n=>rfl
 | str s=>rfl
 | slE a cap=>exact .slE a cap
 | sl b off cap ag es vs aB aL hL aD hc hd=>exact .sl b off cap ag es vs aB aL hL aD hc hd

theorem zzt {t:TypeId} {g:Bool} {n:Nat} {v:Value} {x:AV} {K:AV→zaa→Prop} (hH:HRel B w G H) (hx:TRel w G v x) (hg:zd6 P t=some g) (hn:zaX P t=some n)
  (h:zae g n x H (K · H)):∃ u,(Instr.loadAt t v).run P w=.ok u w∧∃ av,TRel w G u av∧K av H:=by
 rw[zg7]at h;split at h
 ·rename_i id off;obtain⟨b,hμ,rfl⟩:=hx;split at h
  ·rename_i cs aN;have:=hH.ok id _ _ aN hμ;obtain⟨_,_,vs,e,hw,hr⟩:=this;obtain⟨u,av,h1,h2,h3⟩:=zzc (P:=P) (b:=b) (off:=off) (K:=(K · H)) hg hn hr (λj v hj=>by simp[World.cell?,hw];simpa using hj) h;exact⟨u,by simp[Instr.loadAt,Instr.sureAddr,h1],av,h2,h3⟩
  ·exact h.elim
 ·rename_i cs;obtain⟨b,off,rfl,hL,vs,hr,hc⟩:=hx;have ix:All2 (ARel w G) vs cs:=hr.mono λ_ _ hd=>ARel.of_b hd.toB
  -- the cells from 'off' on, read asx a row of their own
  cases g with
  | true=>
   obtain⟨h1,h2⟩:=h;have hl:=hr.length;have am:(vs.take n).length=n:=by simp;omega
   have dL:=run_loadCells_list (P:=P) w ⟨b,off,none⟩ (vs.take n) (λj v hj=>by
    rw[add_lit];apply hc;rw[List.getElem?_take]at hj;split at hj
    ·exact hj
    ·simp at hj)
   rw[am]at dL;refine⟨.agg (vs.take n).toArray,?_,.agg (cs.take n),⟨_,rfl,?_⟩,?_⟩
   ·simp[Instr.loadAt,Instr.sureAddr,loadVar,zgG hg,zbV hn,dL]
   ·simpa using ix.take n
   ·simpa using h2
  | false=>
   unfold zbp at h;simp only[]at h;cases c6:cs[0]? with
   | none=>rw[c6]at h;exact h.elim
   | some c=>rw[c6]at h;obtain⟨v,h1,h2⟩:=ix.get c6;refine⟨v,?_,c,TRel.of_v (VRel.of_a h2),h⟩;have:=hc 0 v h1;simp at this;simp[Instr.loadAt,Instr.sureAddr,loadVar,zgG hg,this]
 ·rename_i id m off;obtain⟨_,v',size,m',hμ,_,heq⟩:=hx;split at h
  ·rename_i e s m2 cs aN;obtain⟨rfl,h⟩:=h;obtain⟨rfl,rfl,⟨xs,ar,hr⟩,_⟩:=hH.ok id _ _ aN hμ;obtain⟨g,dM,rfl⟩:=heq rfl;obtain⟨a,cap,rfl,_⟩:=zkp ar;have ha:a=some ⟨g,0,none⟩:=by
    rcases ar.2 with ⟨h1,_⟩ | ⟨g',cap',cur,h1,_⟩
    ·rw[h1]at dM;cases dM
    ·rw[h1]at dM;simp[Value.ownBlock]at dM;subst dM;simp at h1;exact h1.1
   subst ha;obtain⟨bZ,_,_,aH⟩:=zdA ar;obtain⟨u,av,h1,h2,h3⟩:=zzc (P:=P) (b:=g) (off:=off) (K:=(K · H)) hg hn hr (λj v hj=>by
    rw[aH j (by rw[←bZ];exact (List.getElem?_eq_some_iff.1 hj).1)];exact hj) h
   exact⟨u,by simp[Instr.loadAt,Instr.sureAddr,h1],av,h2,h3⟩
  ·exact h.elim
 ·exact h.elim

theorem zrf {xs:List Value} {cs:List AV} (h:All2 (ARel w G) xs cs) (hu:∀ c∈cs,c≠.unk):∀ v∈xs,v.oneCell'=true:=by intro v hv;obtain⟨i,hi⟩:=List.mem_iff_getElem?.1 hv;obtain⟨c,h1,h2⟩:=h.get' hi;exact ARel.oneCell (hu c (List.mem_iff_getElem?.2 ⟨i,h1⟩)) h2


theorem zJv {t:TypeId} {n:Nat} {v u:Value} {a x:AV} {K:zaa→Prop} (hH:HRel B w G H) (ha:TRel w G v a) (hx:TRel w G u x) (hn:zaX P t=some n)
  (h:zao n a x H K):∃ w' H',(Instr.storeAt t v u).run P w=.ok () w'∧Ext B w G w' G∧HRel B w' G H'∧K H':=by
 have ones:∀ {xs:List AV},All2 (ARel w G) u.cells.toList xs→xs.all AV.known=true→∀ v∈u.cells.toList,v.oneCell'=true:=λdN h3=>zrf dN (λc hc=>by
  have:=List.all_eq_true.1 h3 c hc;intro lH;subst lH;simp[AV.known]at this)
 rw[zeK]at h;split at h
 ·rename_i id off xs fO;obtain⟨b,hμ,rfl⟩:=ha;split at h
  ·rename_i cs aN;obtain⟨⟨h1,h2,h3⟩,hk⟩:=h;obtain⟨hB,_,vs,e,hw,hr⟩:=hH.ok id _ _ aN hμ;have dN:=zhj hx fO;have hl:=hr.length;have fG:=dN.length;have aR:=run_storeCells_at P b off e u.cells.toList 0 vs w hw (by simp at hl fG ⊢;omega) (ones dN h3);simp only[Nat.add_zero]at aR;have fP:All2 (ARel w G) (vs.toList.take off++u.cells.toList++vs.toList.drop (off+u.cells.toList.length)).toArray.toList (cs.take off++xs++cs.drop (off+n)):=by
    have:u.cells.toList.length=n:=by rw[fG];exact h1
    rw[this];simpa using ((hr.take off).append dN).append (hr.drop (off+n))
   obtain⟨he,aV⟩:=hH.store aN hμ hw hB fP;refine⟨_,_,?_,he,aV,hk⟩;have aD:u.cells.size=n:=by simp at fG;omega
   simp[Instr.storeAt,Instr.sureAddr,storeVar,zbV hn,aD,aR]
  ·exact h.elim
 ·rename_i id m off xs fO;obtain⟨_,v',size,m',hμ,_,heq⟩:=ha;split at h
  ·rename_i e s m2 cs aN;obtain⟨⟨rfl,h1,h2,h3⟩,hk⟩:=h;obtain⟨rfl,rfl,⟨ys,ar,hr⟩,_⟩:=hH.ok id _ _ aN hμ;obtain⟨g,dM,rfl⟩:=heq rfl;obtain⟨hyl,bi⟩:=ar;rcases bi with ⟨h5,_⟩ | ⟨g',cap,cur,h5,fc,hw,bG,c7,d7,eP⟩
   ·rw[h5]at dM;cases dM
   rw[h5]at dM hμ;simp[Value.ownBlock]at dM;subst dM;have dN:=zhj hx fO;have hl:=hr.length;have fG:=dN.length;have kP:u.cells.toList.length=n:=by rw[fG];exact h1
   have hms:m2*s≤cur.size:=by rw[d7];exact Nat.mul_le_mul_right _ bG
   have aR:=run_storeCells_at P g' off e u.cells.toList 0 cur w hw (by omega) (ones dN h3);simp only[Nat.add_zero]at aR;rw[kP]at aR;have bc:off+n≤m2*s:=by omega
   have bk:(cur.toList.take off++u.cells.toList++cur.toList.drop (off+n)).toArray.toList.take (m2*s)=ys.take off++u.cells.toList++ys.drop (off+n):=by
    rw[←eP];simp only[List.take_append,List.length_take,Array.length_toList,List.length_append,kP];rw[List.take_take,List.take_take,List.drop_take,List.take_of_length_le (l:=u.cells.toList) (by omega)];congr 2
    ·congr 1;omega
    ·congr 1;omega
   obtain⟨he,aV⟩:=hH.storeV (cs':=cs.take off++xs++cs.drop (off+n)) aN hμ hw fc bG c7 (by simp[List.length_append,kP];omega) bk (by simp[kP];omega) (by
    have:=((hr.take off).append dN).append (hr.drop (off+n));simpa using this)
   refine⟨_,_,?_,he,aV,hk⟩;have aD:u.cells.size=n:=by simp at fG;omega
   simp[Instr.storeAt,Instr.sureAddr,storeVar,zbV hn,aD,aR]
  ·exact h.elim
 ·exact h.elim

theorem zI6 {t:TypeId} {v:Value} {x:AV} {K:AV→zaa→Prop} (hH:HRel B w G H) (hx:TRel w G v x) (h:zat x H K) :
  OpOK P B w G K (((do pure (.value (←Instr.box t v))):Sem Next).run P w):=by
 unfold zat at h;split at h
 ·rename_i cs aN;obtain⟨he,aV⟩:=hH.new v.cells t cs (zhj hx aN);have aw:((do pure (.value (←Instr.box t v))):Sem Next).run P w=.ok (.value (.pointer (some ⟨w.heap.size,0,none⟩))) (w.alloc (.cells v.cells t)):=by simp[Instr.box,newVar,newRow,World.alloc_eq]
  rw[aw];refine⟨.ptr H.length 0,_,_,he,aV,⟨w.heap.size,?_,rfl⟩,h⟩;rw[←hH.len];simp
 ·exact h.elim
theorem zI3 {t:TypeId} {z:Value} {K:AV→zaa→Prop} (hH:HRel B w G H) (hz:zbz P t=some z) (h:K (.ptr H.length 0) (H++[.cells (zbw z)])) :
  OpOK P B w G K (((do pure (.value (←Instr.alloc t true (.tuple #[])))):Sem Next).run P w):=by
 obtain⟨he,aV⟩:=hH.new z.cells t (zbw z) (zdU z);have aw:((do pure (.value (←Instr.alloc t true (.tuple #[])))):Sem Next).run P w=.ok (.value (.pointer (some ⟨w.heap.size,0,none⟩))) (w.alloc (.cells z.cells t)):=by simp[Instr.alloc,ze2 hz,newVar,newRow,World.alloc_eq]
 rw[aw];refine⟨.ptr H.length 0,_,_,he,aV,⟨w.heap.size,?_,rfl⟩,h⟩;rw[←hH.len];simp

theorem zJi {s:TypeId} {i:Nat} {f:Field} {n:Nat} {v:Value} {x:AV} {K:AV→Prop} (hx:TRel w G v x) (hf:zgM P s i=some f) (hn:zaX P f.type=some (n+1))
  (h:zaf f.offset x K):∃ u,(Instr.fieldAt s v i).run P w=.ok u w∧∃ av,TRel w G u av∧K av:=by
 obtain⟨fs,hu,fQ⟩:=zAg hf;rw[zwl]at h;split at h
 ·rename_i id off;obtain⟨b,hμ,rfl⟩:=hx;refine⟨.pointer (some ⟨b,off+f.offset,none⟩),?_,.ptr id (off+f.offset),⟨b,hμ,rfl⟩,h⟩;simp[Instr.fieldAt,zaZ hu,fQ,Instr.sureAddr,fieldPlace,zbV hn,add_lit]
 ·rename_i cs;obtain⟨b,off,rfl,hc⟩:=hx;refine⟨.pointer (some ⟨b,off+f.offset,none⟩),?_,.view (cs.drop f.offset),⟨b,_,rfl,hc.drop _ h.1⟩,h.2⟩;simp[Instr.fieldAt,zaZ hu,fQ,Instr.sureAddr,fieldPlace,zbV hn,add_lit]
 ·rename_i id m off;obtain⟨⟨b,o,rfl⟩,v',size,m',hμ,aS,heq⟩:=hx;refine⟨.pointer (some ⟨b,o+f.offset,none⟩),?_,.vp id m (off+f.offset),⟨⟨b,_,rfl⟩,v',size,m',hμ,aS,λe=>?_⟩,h⟩
  ·simp[Instr.fieldAt,zaZ hu,fQ,Instr.sureAddr,fieldPlace,zbV hn,add_lit]
  ·obtain⟨g,h1,h2⟩:=heq e;simp at h2;exact⟨g,h1,by rw[h2.1,h2.2]⟩
 ·exact h.elim
theorem zJt {t:TypeId} {g:Bool} {n off:Nat} {vs:Array Value} {cs:List AV} {K:AV→Prop} (hr:All2 (ARel w G) vs.toList cs) (hg:zd6 P t=some g) (hn:zaX P t=some n)
  (h:zbp g n off cs K):∃ u,(part t vs off).run P w=.ok u w∧∃ av,TRel w G u av∧K av:=by
 cases g with
 | true=>
  obtain⟨h1,h2⟩:=h;refine⟨.agg (vs.extract off (off+n)),by simp[part,zgG hg,zbV hn],.agg ((cs.drop off).take n),⟨_,rfl,?_⟩,h2⟩;have:(vs.extract off (off+n)).toList=(vs.toList.drop off).take n:=by rw[Array.toList_extract,List.extract_eq_take_drop];congr 1;omega
  rw[this];exact (hr.drop off).take n
 | false=>
  unfold zbp at h;simp only[]at h;cases c6:cs[off]? with
  | none=>rw[c6]at h;exact h.elim
  | some c=>
   rw[c6]at h;obtain⟨v,h1,h2⟩:=hr.get c6;refine⟨v,?_,c,TRel.of_v (VRel.of_a h2),h⟩;have:vs[off]?=some v:=by simpa using h1
   simp[part,zgG hg,this]
theorem zJj {s:TypeId} {i:Nat} {f:Field} {g:Bool} {n:Nat} {v:Value} {x:AV} {K:AV→Prop} (hx:TRel w G v x) (hf:zgM P s i=some f) (hg:zd6 P f.type=some g)
  (hn:zaX P f.type=some n) (h:zdY g n f.offset x K):∃ u,(Instr.field s v i).run P w=.ok u w∧∃ av,TRel w G u av∧K av:=by
 obtain⟨fs,hu,fQ⟩:=zAg hf;unfold zdY at h;split at h
 ·rename_i cs;obtain⟨vs,rfl,hr⟩:=hx;obtain⟨u,h1,h2⟩:=zJt (P:=P) hr hg hn h;exact⟨u,by simp[Instr.field,zaZ hu,fQ,asAgg,h1],h2⟩
 ·exact h.elim

theorem zij {v:Value} {es:List (List AV)} {tok:Tok} (h:TRel w G v (.sl es tok)):DRel w G.L v (.sl es .none):=by
 cases tok with
 | none=>exact h
 | full=>exact h.1
 | own id=>exact h.1

theorem zJk {t e:TypeId} {size:Nat} {v u:Value} {x i:AV} {K:AV→Prop} (hx:TRel w G v x) (hi:TRel w G u i) (he:za6 P t=some e) (hn:zaX P e=some size)
  (h:zak size x i K):∃ r,(Instr.indexAt t v u).run P w=.ok r w∧∃ av,TRel w G r av∧K av:=by
 have hu:=zb6 he;rw[zi7]at h;split at h
 ·rename_i es tok k n;obtain⟨⟨h0,ak⟩,aD,hk⟩:=h;cases hi;have hd:=zij hx;have aG:n.toNat<es.length:=by omega
  obtain⟨b,off,cap,rfl,aL,⟨ag,aO⟩,dy⟩:=hd.elem aG;have hc:=dy n.toNat aG;have aZ:es.getD n.toNat []=es[n.toNat]:=by simp[List.getD_eq_getElem?_getD,aG]
  rw[aZ]at aD hk;rw[aD]at hc;refine⟨.pointer (some ⟨b,off+n.toNat*size,none⟩),?_,.view es[n.toNat],⟨b,_,rfl,hc⟩,hk⟩;simp[Instr.indexAt,asIntOf,zaZ hu,h0,ak,zbV hn,add_lit]
 ·rename_i id off len cap k n;obtain⟨⟨h0,ak⟩,hk⟩:=h;cases hi;obtain⟨b,hμ,rfl⟩:=hx;refine⟨.pointer (some ⟨b,off+n.toNat*size,none⟩),?_,.ptr id (off+n.toNat*size),⟨b,hμ,rfl⟩,hk⟩;simp[Instr.indexAt,asIntOf,zaZ hu,h0,ak,zbV hn,add_lit]
 ·rename_i id m k n;obtain⟨⟨h0,ak⟩,hk⟩:=h;cases hi;obtain⟨⟨a,cap,rfl,ha,_⟩,v',sz,m',hμ,aS,heq⟩:=hx;obtain⟨b,rfl⟩:=ha (by omega);refine⟨.pointer (some ⟨b,0+n.toNat*size,none⟩),?_,.vp id m (n.toNat*size),⟨⟨b,_,rfl⟩,v',sz,m',hμ,aS,λe=>?_⟩,hk⟩
  ·simp[Instr.indexAt,asIntOf,zaZ hu,h0,ak,zbV hn,add_lit]
  ·rw[←heq e];exact⟨b,rfl,by simp⟩
 ·exact h.elim

theorem zik (s:List UInt8):(ByteArray.mk s.toArray).size=s.length:=by simp[ByteArray.size]
theorem zJE (s:List UInt8) (i:Nat) (h:i<s.length):(ByteArray.mk s.toArray)[i]?=some s[i]:=by rw[getElem?_pos _ _ (by rw[zik];exact h)];rfl
theorem zgH (s:List UInt8):(ByteArray.mk s.toArray).toList=s:=Go.ByteArray.toList_mk s

theorem zJl {t:TypeId} {v u:Value} {x i:AV} {K:AV→Prop} (hx:TRel w G v x) (hi:TRel w G u i) (ht:zdF P t=some 0)
  (h:zbI x i K):∃ r,(Instr.index t v u).run P w=.ok r w∧∃ av,TRel w G r av∧K av:=by
 have hu:=zrS ht;unfold zbI at h;split at h
 ·rename_i s k n;obtain⟨⟨h0,ak⟩,hk⟩:=h;cases hi;cases hx;have aG:n.toNat<s.length:=by omega
  have aZ:s.getD n.toNat 0=s[n.toNat]:=by simp[List.getD_eq_getElem?_getD,aG]
  rw[aZ]at hk;refine⟨.int .u8 s[n.toNat].toNat,?_,.int .u8 s[n.toNat].toNat,rfl,hk⟩;simp[Instr.index,asIntOf,zaZ hu,h0,zJE s _ aG]
 ·exact h.elim

theorem zJm {t:TypeId} {k:Nat} {v:Value} {x:AV} {ty:TypeId} {K:AV→Prop} (hx:TRel w G v x) (ht:zdF P t=some k)
  (h:zah k x K):∃ r,(Builtin.len_ #[t] ty #[v]).run P w=.ok r w∧∃ av,TRel w G r av∧K av:=by
 rw[zFG]at h;split at h
 ·rename_i s;cases hx;exact⟨.int .i64 s.length,by simp[Builtin.len_,zaZ (zrS ht),goInt,zik],.int .i64 s.length,rfl,h⟩
 ·rename_i es tok;obtain⟨e,hu⟩:=zkO ht;obtain⟨a,cap,rfl,_⟩:=(zij hx).slice_form;exact⟨.int .i64 es.length,by simp[Builtin.len_,zaZ hu,goInt],.int .i64 es.length,rfl,h⟩
 ·obtain⟨e,hu⟩:=zkO ht;cases hx;exact⟨.int .i64 0,by simp[Builtin.len_,zaZ hu,goInt],.int .i64 0,rfl,h⟩
 ·rename_i len _;obtain⟨e,hu⟩:=zkO ht;obtain⟨b,hμ,rfl⟩:=hx;exact⟨.int .i64 len,by simp[Builtin.len_,zaZ hu,goInt],.int .i64 len,rfl,h⟩
 ·rename_i _ n;obtain⟨e,hu⟩:=zkO ht;obtain⟨⟨a,cap,rfl,_⟩,_⟩:=hx;exact⟨.int .i64 n,by simp[Builtin.len_,zaZ hu,goInt],.int .i64 n,rfl,h⟩
 ·exact h.elim

end
section
open Go.RowKit

variable {P:Program} {B:Nat} {w:World} {G:Gh} {H:zaa}

theorem zd5 {x:Option Value} {ax:Option AV} {d:Nat} {K:Nat→Prop} (hx:All2 (TRel w G) x.toList ax.toList) (h:zbN ax d K) :
  ∃ l,((x=none∧l=d)∨∃ k n,x=some (.int k n)∧0≤n∧l=n.toNat)∧K l:=by
 cases ax with
 | none=>
  cases x with
  | none=>exact⟨d,.inl ⟨rfl,rfl⟩,h⟩
  | some v=>simp[All2]at hx
 | some a=>
  cases x with
  | none=>simp[All2]at hx
  | some v=>
   have hv:TRel w G v a:=hx.1;unfold zbN at h;cases a <;> first | exact h.elim | skip
   rename_i k n;cases hv;exact⟨n.toNat,.inr ⟨k,n,rfl,h.1,rfl⟩,h.2⟩

theorem DRel.sub {v:Value} {es:List (List AV)} {l h:Nat} (hd:DRel w G.L v (.sl es .none)) (hl:l≤h) (hh:h≤es.length) {a:Option Addr} {cap:Nat} (size:Nat)
  (hv:v=.slice a es.length cap) (aD:∀ c∈es,c.length=size) :
  DRel w G.L (.slice (if cap=l then a else a.map (·.add (l*size))) (h-l) (cap-l)) (.sl ((es.take h).drop l) .none):=by
 by_cases hlh:l=h
 ·subst hlh;have:(es.take l).drop l=[]:=by apply List.drop_eq_nil_of_le;simp;omega
  rw[this,Nat.sub_self];exact .slE _ _
 ·cases hd with
  | slE a' cap'=>simp at hh;omega
  | sl b off cap' ag _ vs aB aL hL cd hc c9=>
   cases hv;have bP:cap≠l:=by omega
   have h0:0<es.length:=by omega
   have iP:ag=size:=by rw[←cd 0 h0];exact aD _ (List.getElem_mem h0)
   subst iP;have am:((es.take h).drop l).length=h-l:=by simp;omega
   simp only[bP,if_false,Option.map_some,add_lit];have aA:∀ i (hi:i<((es.take h).drop l).length),((es.take h).drop l)[i]=es[l+i]'(by rw[am]at hi;omega):=by intro i hi;simp
   have key:DRel w G.L (.slice (some ⟨b,off+l*ag,none⟩) ((es.take h).drop l).length (cap-l)) (.sl ((es.take h).drop l) .none):=by
    refine .sl b (off+l*ag) (cap-l) ag _ (λi j=>vs (l+i) j) ?_ (by rw[am];omega) ?_ ?_ ?_ ?_
    ·intro hnil;rw[hnil]at am;simp at am;omega
    ·rw[am];have h1:l*ag+(h-l)*ag=h*ag:=by rw[←Nat.add_mul];congr 1;omega
     have h2:h*ag≤es.length*ag:=Nat.mul_le_mul_right _ hh;omega
    ·intro i hi;rw[aA i hi];exact cd _ _
    ·intro i j hi hj;rw[am]at hi;have:=hc (l+i) j (by omega) (by rw[aA i (by rw[am];exact hi)]at hj;exact hj);rw[show off+l*ag+i*ag+j=off+(l+i)*ag+j by rw[Nat.add_mul];omega];exact this
    ·intro i j hi hj;have da:=hi;rw[am]at da;have:=c9 (l+i) j (by omega) (by rw[aA i hi]at hj;exact hj);simpa[aA i hi]using this
   rw[am]at key;exact key

theorem zfG {isS:Bool} {len cap:Nat} {lo hi:Option Value} {l h:Nat} (d8:(hi=none∧h=len)∨∃ k n,hi=some (.int k n)∧0≤n∧h=n.toNat)
  (d9:(lo=none∧l=0)∨∃ k n,lo=some (.int k n)∧0≤n∧l=n.toNat) (hl:l≤h) (hh:h≤cap) :
  (Instr.sliceBounds isS len cap lo hi none).run P w=.ok (l,h,cap) w:=by
 rcases d8 with ⟨rfl,rfl⟩ | ⟨k,n,rfl,hn,rfl⟩ <;> rcases d9 with ⟨rfl,rfl⟩ | ⟨k',m,rfl,hm,rfl⟩
 ·simp[Instr.sliceBounds]
 ·have:m≤(h:Int):=by omega
  simp[Instr.sliceBounds,Instr.sliceBound,asIntOf,hm,this]
 ·have:n≤(cap:Int):=by omega
  simp[Instr.sliceBounds,Instr.sliceBound,asIntOf,hn,this]
 ·have h1:n≤(cap:Int):=by omega
  have h2:m≤((n.toNat:Nat):Int):=by omega
  simp[Instr.sliceBounds,Instr.sliceBound,asIntOf,hn,h1,hm];try omega

theorem zJD (s:List UInt8) (l h:Nat):(ByteArray.mk s.toArray).extract l h=⟨((s.take h).drop l).toArray⟩:=by apply ByteArray.ext;simp[ByteArray.data_extract,List.drop_take]

theorem zrA {t:TypeId} {u size:Nat} {v:Value} {x:AV} {lo hi:Option Value} {alo ahi:Option AV} {K:AV→Prop} (hx:TRel w G v x) (d9:All2 (TRel w G) lo.toList alo.toList)
  (d8:All2 (TRel w G) hi.toList ahi.toList) (ht:zdF P t=some u) (hs:u=1→(za6 P t).bind (zaX P)=some size)
  (h:zaN u size x alo ahi K):∃ r,(Instr.sliceAt t v lo hi none).run P w=.ok r w∧∃ av,TRel w G r av∧K av:=by
 unfold zaN at h;split at h
 ·rename_i s;have hu:=zrS ht;cases hx;obtain⟨hh,gM,h⟩:=zd5 d8 h;obtain⟨ll,gN,⟨h1,h2⟩,hk⟩:=zd5 d9 h;refine⟨.string ⟨((s.take hh).drop ll).toArray⟩,?_,.str ((s.take hh).drop ll),rfl,hk⟩;have hb:=zfG (P:=P) (w:=w) (isS:=false) (len:=s.length) (cap:=s.length) gM gN h1 h2;simp only[Instr.sliceAt,Instr.slice,Sem.run_bind,zaZ hu,Result.andThen_ok,zik,hb,Option.isSome_none,Bool.false_eq_true,if_false,Sem.run_pure,zJD]
 ·rename_i es tok;obtain⟨hh,gM,h⟩:=zd5 d8 h;obtain⟨ll,gN,⟨h1,h2,h3⟩,hk⟩:=zd5 d9 h;have hs:=hs rfl;cases he:za6 P t with
  | none=>simp[he]at hs
  | some e=>
   simp only[he,Option.bind_some]at hs;have hd:=zij hx;obtain⟨a,cap,rfl,aL⟩:=hd.slice_form;have hcap':hh≤cap:=by
    by_cases aB:es=[]
    ·subst aB;simp at h2;omega
    ·have:=aL aB;omega
   have hb:=zfG (P:=P) (w:=w) (isS:=true) (len:=es.length) (cap:=cap) gM gN h1 hcap';have db:=hd.sub h1 h2 size rfl h3;refine⟨_,?_,.sl ((es.take hh).drop ll) .none,db,hk⟩;simp only[Instr.sliceAt,Instr.slice,Sem.run_bind,zaZ (zb6 he),Result.andThen_ok,hb,Sem.run_pure,zbV hs]
 ·obtain⟨hh,gM,h⟩:=zd5 d8 h;obtain⟨ll,gN,⟨h1,h2⟩,hk⟩:=zd5 d9 h;have hs:=hs rfl;cases he:za6 P t with
  | none=>simp[he]at hs
  | some e=>
   simp only[he,Option.bind_some]at hs;cases hx;have hb:=zfG (P:=P) (w:=w) (isS:=true) (len:=0) (cap:=0) gM gN h1 h2;refine⟨.slice none 0 0,?_,.snil,rfl,hk⟩;have:ll=0:=by omega
   subst this;have:hh=0:=by omega
   subst this;simp[Instr.sliceAt,Instr.slice,Sem.run_bind,zaZ (zb6 he),hb,zbV hs]
 ·rename_i id n;obtain⟨hh,gM,h⟩:=zd5 d8 h;obtain⟨ll,gN,⟨h1,rfl⟩,hk⟩:=zd5 d9 h;have hs:=hs rfl;cases he:za6 P t with
  | none=>simp[he]at hs
  | some e=>
   simp only[he,Option.bind_some]at hs;obtain⟨⟨a,cap,rfl,ha,iQ⟩,v',sz,n',hμ,aS,heq⟩:=hx;have hb:=zfG (P:=P) (w:=w) (isS:=true) (len:=hh) (cap:=cap) gM gN h1 iQ;refine⟨zii size ll (.slice a hh cap),?_,.os id hh ll size,⟨⟨h1,?_⟩,v',sz,n',hμ,aS,λe=>by rw[←heq e]⟩,hk⟩
   ·simp only[Instr.sliceAt,Instr.slice,Sem.run_bind,zaZ (zb6 he),Result.andThen_ok,hb,Sem.run_pure,zbV hs];cases a with
    | none=>simp[zii]
    | some a=>by_cases hc:cap=ll <;> simp[zii,hc]
   ·cases a with
    | none=>exact⟨none,cap-ll,rfl,by omega⟩
    | some a=>exact⟨_,cap-ll,rfl,by omega⟩
 ·rename_i id off len cap;obtain⟨hh,gM,h⟩:=zd5 d8 h;obtain⟨ll,gN,⟨h1,h2⟩,hk⟩:=zd5 d9 h;have hs:=hs rfl;cases he:za6 P t with
  | none=>simp[he]at hs
  | some e=>simp only[he,Option.bind_some]at hs;obtain⟨b,hμ,rfl⟩:=hx;have hb:=zfG (P:=P) (w:=w) (isS:=true) (len:=len) (cap:=cap) gM gN h1 h2;refine⟨.slice (some ⟨b,if cap=ll then off else off+ll*size,none⟩) (hh-ll) (cap-ll),?_,.ms id (if cap=ll then off else off+ll*size) (hh-ll) (cap-ll),⟨b,hμ,rfl⟩,hk⟩;simp only[Instr.sliceAt,Instr.slice,Sem.run_bind,zaZ (zb6 he),Result.andThen_ok,hb,Sem.run_pure,zbV hs];by_cases hc:cap=ll <;> simp[hc,add_lit]
 ·exact h.elim

theorem zIw {op:BinOp} {t:TypeId} {x y:Operand} {k:IntKind} {m:Int} {b:Value}:(eqGuard op t x y (.int k m) b).run P w=.ok () w:=by cases op <;> rfl
theorem zIx {op:BinOp} {t:TypeId} {x y:Operand} {s:ByteArray} {b:Value}:(eqGuard op t x y (.string s) b).run P w=.ok () w:=by cases op <;> rfl
theorem zIv {op:BinOp} {t:TypeId} {x y:Operand} {m:Bool} {b:Value}:(eqGuard op t x y (.bool m) b).run P w=.ok () w:=by cases op <;> rfl

def BinR (P:Program) (w:World) (G:Gh) (op:BinOp) (t:TypeId) (u v:Value) (K:AV→Prop):Prop:=∃ r,(binOp op t u v).run P w=.ok r w∧∃ av,TRel w G r av∧K av
theorem BinR.mk {op:BinOp} {t:TypeId} {u v r:Value} {K:AV→Prop} (av:AV) (h:(binOp op t u v).run P w=.ok r w) (hr:TRel w G r av) (hk:K av):BinR P w G op t u v K:=⟨r,h,av,hr,hk⟩
theorem zF7 {op:BinOp} {t:TypeId} {k:IntKind} {m n:Int} {b:Bool} {K:AV→Prop} (h:zac op b (.int k m) (.int k n) K):BinR P w G op t (.int k m) (.int k n) K:=by
 rw[zcj]at h;have h:=h.2;cases op <;> simp only[]at h <;> first | exact h.elim | skip
 case add=>exact BinR.mk (.int k (k.wrap (m+n))) (by simp[binOp,Op.intArith]) rfl h
 case sub=>exact BinR.mk (.int k (k.wrap (m-n))) (by simp[binOp,Op.intArith]) rfl h
 case mul=>exact BinR.mk (.int k (k.wrap (m*n))) (by simp[binOp,Op.intArith]) rfl h
 case quo=>exact BinR.mk (.int k (k.wrap (m.tdiv n))) (by simp[binOp,Op.intDiv,h.1]) rfl h.2
 case rem=>exact BinR.mk (.int k (m.tmod n)) (by simp[binOp,Op.intDiv,h.1]) rfl h.2
 case eql=>exact BinR.mk (.bool (m == n)) (by simp[binOp,Op.intCmp]) rfl h
 case neq=>exact BinR.mk (.bool (m != n)) (by simp[binOp,Op.intCmp]) rfl h
 case lss=>exact BinR.mk (.bool (decide (m<n))) (by simp[binOp,Op.intCmp]) rfl h
 case leq=>exact BinR.mk (.bool (decide (m≤n))) (by simp[binOp,Op.intCmp]) rfl h
 case gtr=>exact BinR.mk (.bool (decide (m>n))) (by simp[binOp,Op.intCmp]) rfl h
 case geq=>exact BinR.mk (.bool (decide (m≥n))) (by simp[binOp,Op.intCmp]) rfl h
theorem zF8 {op:BinOp} {t:TypeId} {s s':List UInt8} {b:Bool} {K:AV→Prop} (h:zac op b (.str s) (.str s') K):BinR P w G op t (.string ⟨s.toArray⟩) (.string ⟨s'.toArray⟩) K:=by
 rw[zcj]at h;cases op <;> simp only[]at h <;> first | exact h.elim | skip
 case add=>
  obtain⟨h1,h2⟩:=h;refine BinR.mk (r:=.string ⟨(s++s').toArray⟩) (.str (s++s')) ?_ rfl h2;have ak:¬ ((((ByteArray.mk s.toArray).size+(ByteArray.mk s'.toArray).size:Nat):Int)>IntKind.i64.max):=by
   have:IntKind.i64.max=9223372036854775807:=by decide
   rw[zik,zik];omega
  have happ:(ByteArray.mk s.toArray)++(ByteArray.mk s'.toArray)=⟨(s++s').toArray⟩:=by apply ByteArray.ext;simp
  simp only[binOp,Op.stringOp];rw[if_neg ak,happ];rfl
 case eql=>exact BinR.mk (r:=.bool (s == s')) (.bool (s == s')) (by simp only[binOp,Op.stringOp,zgH];rfl) rfl h
 case neq=>exact BinR.mk (r:=.bool (!(s == s'))) (.bool (!(s == s'))) (by simp only[binOp,Op.stringOp,zgH];rfl) rfl h
 case lss=>exact BinR.mk (r:=.bool (Op.bytesLess s s')) (.bool (Op.bytesLess s s')) (by simp only[binOp,Op.stringOp,zgH];rfl) rfl h
 case leq=>exact BinR.mk (r:=.bool (Op.bytesLess s s' || s == s')) (.bool (Op.bytesLess s s' || s == s')) (by simp only[binOp,Op.stringOp,zgH];rfl) rfl h
 case gtr=>exact BinR.mk (r:=.bool (!(Op.bytesLess s s' || s == s'))) (.bool (!(Op.bytesLess s s' || s == s'))) (by simp only[binOp,Op.stringOp,zgH];rfl) rfl h
 case geq=>exact BinR.mk (r:=.bool (!Op.bytesLess s s')) (.bool (!Op.bytesLess s s')) (by simp only[binOp,Op.stringOp,zgH];rfl) rfl h
theorem zF6 {op:BinOp} {t:TypeId} {m n b:Bool} {K:AV→Prop} (hu:b=true→P.underlying t=some .bool) (h:zac op b (.bool m) (.bool n) K):BinR P w G op t (.bool m) (.bool n) K:=by
 rw[zcj]at h;have hu:=hu h.1;have h:=h.2;have he:∀ x y:Bool,(Op.equal t (.bool x) (.bool y)).run P w=.ok (x == y) w:=λx y=>by have hm:Op.equal t (.bool x) (.bool y)=Op.equalIn (9999+1) t (.bool x) (.bool y):=rfl;rw[hm];unfold Op.equalIn;simp only[Sem.run_bind,zaZ hu,Result.andThen_ok,Sem.run_pure]
 cases op <;> simp only[]at h <;> first | exact h.elim | skip
 case eql=>exact BinR.mk (.bool (m == n)) (by simp only[binOp,Sem.run_bind,he,Result.andThen_ok,Sem.run_pure]) rfl h
 case neq=>exact BinR.mk (.bool (!(m == n))) (by simp only[binOp,Sem.run_bind,he,Result.andThen_ok,Sem.run_pure]) rfl h

theorem zI5 {op:BinOp} {t:TypeId} {xo yo:Operand} {u v:Value} {x y:AV} {K:AV→Prop} (hx:TRel w G u x) (hy:TRel w G v y) (h:zac op (zrG P t) x y K) :
  ∃ r,((do eqGuard op t xo yo u v;binOp op t u v):Sem Value).run P w=.ok r w∧∃ av,TRel w G r av∧K av:=by
 have h0:=h;rw[zcj]at h;split at h
 ·cases hx;cases hy;have hk:=h.1;subst hk;obtain⟨r,h1,h2⟩:=zF7 (P:=P) (w:=w) (G:=G) (t:=t) h0;exact⟨r,by rw[Sem.run_bind,zIw];exact h1,h2⟩
 ·cases hx;cases hy;obtain⟨r,h1,h2⟩:=zF8 (P:=P) (w:=w) (G:=G) (t:=t) h0;exact⟨r,by rw[Sem.run_bind,zIx];exact h1,h2⟩
 ·cases hx;cases hy;obtain⟨r,h1,h2⟩:=zF6 (P:=P) (w:=w) (G:=G) (t:=t) (λhb=>by
   unfold zrG at hb;split at hb
   ·assumption
   ·cases hb) h0
  exact⟨r,by rw[Sem.run_bind,zIv];exact h1,h2⟩
 ·exact h.elim

theorem zJr {op:BinOp} {t:TypeId} {xo yo:Operand} {u:Value} {x:AV} {a:Act} {K:AV→Prop} (hx:TRel w G u x) (hy:zpR yo=true) (h:zcX (zrH P t) op x K) :
  ∃ r,((do eqGuard op t xo yo u (a.eval yo);binOp op t u (a.eval yo)):Sem Value).run P w=.ok r w∧∃ av,TRel w G r av∧K av:=by
 obtain⟨ht,h⟩:=h;obtain⟨ms,hu⟩:∃ ms,P.underlying t=some (.interface ms):=by
  unfold zrH at ht;split at ht
  ·exact⟨_,by assumption⟩
  ·cases ht
 obtain rfl:yo=.const .nilIface:=by
  unfold zpR at hy;split at hy
  ·rfl
  ·cases hy
 have he:a.eval (.const .nilIface)=.nilIface:=rfl;rw[he];split at h
 ·cases hx;have hq:∀ d:Nat,(Op.equalIn (d+1) t .nilIface .nilIface).run P w=.ok true w:=λd=>by simp[Op.equalIn,zaZ hu]
  have hg:∀ op,eqGuard op t xo (.const .nilIface) .nilIface .nilIface=pure ():=λop=>eqGuard_nil_constR _ _ _ _;split at h
  ·exact⟨.bool true,by rw[hg];simp only[binOp];simp[Op.equal,Op.maxDepth,hq 9999],.bool true,rfl,h⟩
  ·exact⟨.bool false,by rw[hg];simp only[binOp];simp[Op.equal,Op.maxDepth,hq 9999],.bool false,rfl,h⟩
  ·exact h.elim
 ·obtain⟨ti,xi,rfl⟩:=hx;have hq:∀ d:Nat,(Op.equalIn (d+1) t (.iface ti xi) .nilIface).run P w=.ok false w:=λd=>by simp[Op.equalIn,zaZ hu]
  have hg:∀ op,eqGuard op t xo (.const .nilIface) (.iface ti xi) .nilIface=pure ():=λop=>eqGuard_at_iface _ _ _ _ _ _ _;split at h
  ·exact⟨.bool false,by rw[hg];simp only[binOp];simp[Op.equal,Op.maxDepth,hq 9999],.bool false,rfl,h⟩
  ·exact⟨.bool true,by rw[hg];simp only[binOp];simp[Op.equal,Op.maxDepth,hq 9999],.bool true,rfl,h⟩
  ·exact h.elim
 ·exact h.elim

theorem zJw {op:UnOp} {v:Value} {x:AV} {K:AV→Prop} (hx:TRel w G v x) (h:aUn op x K):∃ r,(Op.unary op v).run P w=.ok r w∧∃ av,TRel w G r av∧K av:=by
 unfold aUn at h;split at h
 ·cases hx;exact⟨_,by simp[Op.unary],.bool _,rfl,h⟩
 ·cases hx;exact⟨_,by simp[Op.unary,Op.intArith],.int _ _,rfl,h⟩
 ·exact h.elim
theorem zJc {s t:TypeId} {j k:IntKind} {v:Value} {x:AV} {K:AV→Prop} (hx:TRel w G v x) (hs:P.underlying s=some (.int j)) (ht:P.underlying t=some (.int k)) (h:za0 k x K) :
  ∃ r,(convert s t v).run P w=.ok r w∧∃ av,TRel w G r av∧K av:=by
 unfold za0 at h;split at h
 ·cases hx;exact⟨_,by simp[convert,zaZ hs,zaZ ht,Conv.intToInt],.int _ _,rfl,h⟩
 ·exact h.elim
theorem zJe {s t:TypeId} {v:Value} {x:AV} {K:AV→Prop} (hx:TRel w G v x) (hs:P.underlying s=some .string) (ht:P.underlying t=some .string) (h:zdX x K) :
  ∃ r,(convert s t v).run P w=.ok r w∧∃ av,TRel w G r av∧K av:=by
 unfold zdX at h;split at h
 ·cases hx;exact⟨_,by simp[convert,zaZ hs,zaZ ht],.str _,rfl,h⟩
 ·exact h.elim
theorem zJg {v:Value} {x:AV} {i:Nat} {K:AV→Prop} (hx:TRel w G v x) (h:zaC x i K):∃ r,(Instr.extract v i).run P w=.ok r w∧∃ av,TRel w G r av∧K av:=by
 unfold zaC at h;split at h
 ·obtain⟨vs,rfl,hr⟩:=hx;split at h
  ·rename_i a ha;obtain⟨u,h1,h2⟩:=hr.get ha;have:vs[i]?=some u:=by simpa using h1
   exact⟨u,by simp[Instr.extract,this],a,TRel.of_v h2,h⟩
  ·exact h.elim
 ·exact h.elim

end
section
open Go.RowKit

variable {P:Program} {B:Nat} {w:World} {G:Gh} {H:zaa}

theorem zJx (l:List Value) (k:Nat) (v:Value) (rest:List Value) (hk:k+(rest.length+1)≤l.length) :
  (l.set k v).take (k+1)++rest++(l.set k v).drop (k+1+rest.length)=l.take k++(v::rest)++l.drop (k+(rest.length+1)):=list_seg_step l k v rest hk

theorem zxz (off:Nat):∀ (vs:List Value) (k:Nat) (cs:Array Value),off+k+vs.length≤cs.size →
  ((vs.zipIdx k).foldl (λ(cs:Array Value) (p:Value × Nat)=>cs.setIfInBounds (off+p.2) p.1) cs).toList=cs.toList.take (off+k)++vs++cs.toList.drop (off+k+vs.length)
 | [],k,cs,h=>by simp
 | v::vs,k,cs,h=>by simp only[List.zipIdx_cons,List.foldl_cons];rw[zxz off vs (k+1) (cs.setIfInBounds (off+k) v) (by simp at h ⊢;omega)];have:=zJx cs.toList (off+k) v vs (by simp at h ⊢;omega);simpa[Array.toList_setIfInBounds,Nat.add_assoc]using this

theorem zwK (off:Nat) (vs cs:Array Value) (h:off+vs.size≤cs.size) :
  (vs.zipIdx.foldl (λcs (c,j)=>cs.setIfInBounds (off+j) c) cs).toList=cs.toList.take off++vs.toList++cs.toList.drop (off+vs.size):=by
 have:=zxz off vs.toList 0 cs (by simpa using h);simp only[Nat.add_zero,Array.length_toList]at this;rw[←this,←Array.foldl_toList,Array.toList_zipIdx]

theorem zxu {places:List (Nat × Nat)}:∀ (af:List (Nat × Value)) (ai:List (Nat × AV)) (cells:Array Value) (cs cs':List AV),
  All2 (λ(p:Nat × Value) (q:Nat × AV)=>p.1=q.1∧TRel w G p.2 q.2) af ai→All2 (ARel w G) cells.toList cs→zaI places ai cs=some cs' →
  ∃ cells',Instr.fill (places.toArray[·]?) cells af=some cells'∧All2 (ARel w G) cells'.toList cs'
 | [],[],cells,cs,cs',_,hc,hf=>by simp[zaI]at hf;subst hf;exact⟨cells,rfl,hc⟩
 | (i,v)::af,(i',x)::ai,cells,cs,cs',hp,hc,hf=>by
  obtain⟨⟨h1,h2⟩,h3⟩:=hp;simp only[]at h1 h2;subst h1;unfold zaI at hf;split at hf
  ·rename_i off size xs bH fO;split at hf
   ·rename_i hb;simp only[Bool.and_eq_true,beq_iff_eq,decide_eq_true_eq]at hb;have dN:=zhj h2 fO;have fG:=dN.length;have lI:=hc.length;simp at fG lI;have bc:off+v.cells.size≤cells.size:=by omega
    have lJ:=zwK off v.cells cells bc;have fP:All2 (ARel w G) (v.cells.zipIdx.foldl (λcs (c,j)=>cs.setIfInBounds (off+j) c) cells).toList (cs.take off++xs++cs.drop (off+size)):=by rw[lJ,fG,hb.1];exact ((hc.take off).append dN).append (hc.drop (off+size))
    obtain⟨cells',bG,c7⟩:=zxu af ai _ _ cs' h3 fP hf;refine⟨cells',?_,c7⟩;unfold Instr.fill;have hpl':places.toArray[i]?=some (off,size):=by simpa using bH
    simp only[hpl'];rw[if_neg (by simp;omega)];exact bG
   ·cases hf
  ·cases hf

theorem zH9 (fs:List Field):(fs.mapM λf=>(zaX P f.type).map λs=>(f.offset,s))=fs.mapM (λf=>(P.info? f.type).map λi=>(f.offset,i.size)):=by congr 1;funext f;simp[zaX,Function.comp_def]

theorem zI7 {t:TypeId} {z:Value} {ps:List (Nat × Nat)} {af:Array (Nat × Value)} {ai:List (Nat × AV)} {K:AV→Prop} (hz:zbz P t=some z) (hp:zrI P t=some ps)
  (hr:All2 (λ(p:Nat × Value) (q:Nat × AV)=>p.1=q.1∧TRel w G p.2 q.2) af.toList ai) (h:zaq (zbw z) ps ai K) :
  ∃ r,(Instr.build t af).run P w=.ok r w∧∃ av,TRel w G r av∧K av:=by
 unfold zaq at h;split at h
 ·rename_i cs' hf;obtain⟨cells',h1,h2⟩:=zxu af.toList ai z.cells (zbw z) cs' hr (zdU z) hf;refine⟨.agg cells',run_build w t af cells' ?_,.agg cs',⟨cells',rfl,h2⟩,h⟩;unfold Program.built;unfold zbz at hz;cases hi:P.info? t with
  | none=>simp[hi]at hz
  | some it=>
   simp[hi]at hz;unfold zrI at hp;cases hu:P.underlying t with
   | none=>simp[hu]at hp
   | some d=>
    cases d <;> simp only[hu,Option.bind_some]at hp <;> try (cases hp;done)
    rw[zH9]at hp;simp only[hz,hp];exact h1
 ·exact h.elim

theorem zH8 {v:Value} {a d:AV} (h:ARel w G v a) (hd:a.pd=some d):DRel w G.L v d:=by
 cases a with
 | bool b=>cases hd;cases h;exact .bool b
 | int k n=>cases hd;cases h;exact .int k n
 | str s=>cases hd;cases h;exact .str s
 | snil=>cases hd;cases h;exact .slE _ _
 | sl es tok=>
  cases hd;cases tok with
  | none=>exact h
  | full=>exact h.1
  | own id=>exact h.1
 | _=>cases hd
theorem zdB:∀ {vs:List Value} {asx ds:List AV},All2 (ARel w G) vs asx→plain asx=some ds→All2 (DRel w G.L) vs ds
 | [],[],ds,_,h=>by cases h;trivial
 | v::vs,a::asx,ds,hr,h=>by
  unfold plain at h;split at h
  ·rename_i d ds' h1 h2;cases h;exact⟨zH8 hr.1 h1,zdB hr.2 h2⟩
  ·cases h
theorem zyP:∀ {asx ds:List AV},plain asx=some ds→ds.length=asx.length
 | [],ds,h=>by cases h;rfl
 | a::asx,ds,h=>by
  unfold plain at h;split at h
  ·rename_i d ds' h1 h2;cases h;simp[zyP h2]
  ·cases h

theorem zhs {size:Nat}:∀ {es:List (List AV)},(∀ c∈es,c.length=size)→es.flatten.length=es.length*size
 | [],_=>by simp
 | e::es,h=>by rw[List.flatten_cons,List.length_append,zhs (λc hc=>h c (by simp[hc])),h e (by simp),List.length_cons,Nat.add_mul];omega
theorem zhr {size:Nat}:∀ {es:List (List AV)},(∀ c∈es,c.length=size)→∀ (i j:Nat) (hi:i<es.length) (hj:j<(es[i]).length),es.flatten[i*size+j]?=some (es[i])[j]
 | [],_,i,_,hi,_=>by simp at hi
 | e::es,h,0,j,hi,hj=>by simp only[List.getElem_cons_zero]at hj ⊢;rw[List.flatten_cons,List.getElem?_append_left (by omega)];simp[hj]
 | e::es,h,i+1,j,hi,hj=>by simp only[List.getElem_cons_succ]at hj ⊢;have he:=h e (by simp);have:=zhr (es:=es) (λc hc=>h c (by simp[hc])) i j (by simpa using hi) hj;rw[List.flatten_cons,List.getElem?_append_right (by rw[he,Nat.add_mul];omega),he];rw[show (i+1)*size+j-size=i*size+j by rw[Nat.add_mul];omega];exact this

theorem DRel.of_flat {L:Nat→Nat} {g size cap:Nat} {es:List (List AV)} {zs:List Value} (aD:∀ c∈es,c.length=size) (aB:es≠[]) (aL:es.length≤cap) (hL:es.length*size≤L g)
  (hr:All2 (DRel w L) zs es.flatten) (hc:∀ j v,zs[j]?=some v→w.cell? ⟨g,j,none⟩=some v):DRel w L (.slice (some ⟨g,0,none⟩) es.length cap) (.sl es .none):=by
 have aA:∀ i j (hi:i<es.length) (hj:j<(es[i]).length),∃ v,zs[i*size+j]?=some v∧DRel w L v (es[i])[j]:=λi j hi hj=>hr.get (zhr aD i j hi hj);refine .sl g 0 cap size es (λi j=>zs.getD (i*size+j) undef) aB aL (by omega) (λi hi=>aD _ (List.getElem_mem hi)) (λi j hi hj=>?_) (λi j hi hj=>?_)
 ·obtain⟨v,h1,h2⟩:=aA i j hi hj;simp only[Nat.zero_add,List.getD_eq_getElem?_getD,h1,Option.getD_some];exact hc _ _ h1
 ·obtain⟨v,h1,h2⟩:=aA i j hi hj;simp only[List.getD_eq_getElem?_getD,h1,Option.getD_some];exact h2
theorem DRel.flat {L:Nat→Nat} {v:Value} {es:List (List AV)} {size:Nat} (h:DRel w L v (.sl es .none)) (aB:es≠[]) (aD:∀ c∈es,c.length=size) :
  ∃ b off cap zs,v=.slice (some ⟨b,off,none⟩) es.length cap∧zs.length=es.length*size∧All2 (DRel w L) zs es.flatten∧(∀ j u,zs[j]?=some u→w.cell? ⟨b,off+j,none⟩=some u)∧off+es.length*size≤L b:=by
 cases h with
 | slE a cap=>exact absurd rfl aB
 | sl b off cap ag _ vs aB aL hL cd hc hd=>
  have h0:0<es.length:=by cases es <;> simp_all
  have iP:ag=size:=by rw[←cd 0 h0];exact aD _ (List.getElem_mem h0)
  subst iP;have bn:=zhs aD
  -- position k of the row lies in element k / ag
  have bU:∀ k,k<es.length*ag→∃ i j,∃ (hi:i<es.length) (_:j<(es[i]).length),k=i*ag+j:=by
   intro k hk;have hz:0<ag:=by cases ag <;> simp_all
   refine⟨k / ag,k % ag,?_,?_,?_⟩
   ·exact (Nat.div_lt_iff_lt_mul hz).2 hk
   ·rw[cd _ _];exact Nat.mod_lt _ hz
   ·rw[Nat.mul_comm];exact (Nat.div_add_mod k ag).symm
  refine⟨b,off,cap,(List.range (es.length*ag)).map (λk=>vs (k / ag) (k % ag)),rfl,by simp,?_,?_,hL⟩
  ·refine All2.of_get (by simp[bn]) λk x y hx hy=>?_;have hk:k<es.length*ag:=by have:=(List.getElem?_eq_some_iff.1 hx).1;simpa using this
   obtain⟨i,j,hi,hj,rfl⟩:=bU k hk;have gC:j<ag:=by rw[←cd i hi];exact hj
   rw[zhr aD i j hi hj]at hy;cases hy;simp only[List.getElem?_map,List.getElem?_range hk,Option.map_some,Option.some.injEq]at hx;have hz:0<ag:=by omega
   rw[show (i*ag+j) / ag=i by rw[Nat.mul_comm,Nat.mul_add_div hz,Nat.div_eq_of_lt gC];omega,show (i*ag+j) % ag=j by rw[Nat.mul_comm,Nat.mul_add_mod,Nat.mod_eq_of_lt gC]]at hx;rw[←hx];exact hd i j hi hj
  ·intro k u hx;have hk:k<es.length*ag:=by have:=(List.getElem?_eq_some_iff.1 hx).1;simpa using this
   obtain⟨i,j,hi,hj,rfl⟩:=bU k hk;have gC:j<ag:=by rw[←cd i hi];exact hj
   simp only[List.getElem?_map,List.getElem?_range hk,Option.map_some,Option.some.injEq]at hx;have hz:0<ag:=by omega
   rw[show (i*ag+j) / ag=i by rw[Nat.mul_comm,Nat.mul_add_div hz,Nat.div_eq_of_lt gC];omega,show (i*ag+j) % ag=j by rw[Nat.mul_comm,Nat.mul_add_mod,Nat.mod_eq_of_lt gC]]at hx;rw[←hx,←Nat.add_assoc];exact hc i j hi hj

end
section
open Go.RowKit

variable {P:Program} {B:Nat} {w:World} {G:Gh} {H:zaa}

theorem zpY {R:Value→AV→Prop} {z:Array Value} {zc:List AV} (h:All2 R z.toList zc) (hz:0<z.size):∀ n,All2 R ((Array.range (n*z.size)).map (z[· % z.size]!)).toList (List.replicate n zc).flatten:=by
 intro n;have hl:=h.length;simp at hl;have aO:∀ c∈List.replicate n zc,c.length=z.size:=λc hc=>by rw[List.eq_of_mem_replicate hc,hl]
 have bn:=zhs aO;refine All2.of_get (by simp[hl]) λk x y hx hy=>?_;have hk:k<n*z.size:=by have:=(List.getElem?_eq_some_iff.1 hx).1;simpa using this
 have hi:k / z.size<(List.replicate n zc).length:=by simpa using (Nat.div_lt_iff_lt_mul hz).2 hk
 have hj:k % z.size<((List.replicate n zc)[k / z.size]).length:=by simp[←hl];exact Nat.mod_lt _ hz
 have:=zhr aO (k / z.size) (k % z.size) hi hj;rw[show k / z.size*z.size+k % z.size=k by rw[Nat.mul_comm];exact Nat.div_add_mod k z.size,hy]at this;simp only[List.getElem_replicate,Option.some.injEq]at this;have fH:z[k % z.size]! = x:=by simpa[hk]using hx
 have hm:k % z.size<z.size:=Nat.mod_lt _ hz;have hzx:z.toList[k % z.size]?=some x:=by rw[←fH];simp[hm]
 obtain⟨b,h1,h2⟩:=h.get' hzx;have:zc[k % z.size]?=some y:=by rw[this];simp
 rw[this]at h1;cases h1;exact h2

theorem zxw {size:Nat}:∀ {es:List (List AV)},(∀ c∈es,c.length=size)→∀ (i:Nat) (ds:List AV),i<es.length→(es.set i ds).flatten=es.flatten.take (i*size)++ds++es.flatten.drop (i*size+size)
 | [],_,i,_,hi=>by simp at hi
 | e::es,h,0,ds,hi=>by have he:=h e (by simp);simp[←he]
 | e::es,h,i+1,ds,hi=>by
  have he:=h e (by simp);have:=zxw (es:=es) (λc hc=>h c (by simp[hc])) i ds (by simpa using hi);rw[List.set_cons_succ,List.flatten_cons,this,List.flatten_cons];have h1:(i+1)*size=e.length+i*size:=by rw[Nat.add_mul,he];omega
  rw[h1,Nat.add_assoc];simp[List.take_append,List.drop_append,List.take_of_length_le,List.drop_eq_nil_of_le]

theorem zxt {size:Nat}:∀ (af:List (Nat × Value)) (ai:List (Nat × AV)) (cells:Array Value) (es es':List (List AV)),(∀ c∈es,c.length=size) →
  All2 (λ(p:Nat × Value) (q:Nat × AV)=>p.1=q.1∧TRel w G p.2 q.2) af ai→All2 (DRel w G.L) cells.toList es.flatten→zaQ size ai es=some es' →
  ∃ cells',Instr.fill (λi=>some (i*size,size)) cells af=some cells'∧All2 (DRel w G.L) cells'.toList es'.flatten∧(∀ c∈es',c.length=size)∧es'.length=es.length
 | [],[],cells,es,es',hs,_,hc,hf=>by simp[zaQ]at hf;subst hf;exact⟨cells,rfl,hc,hs,rfl⟩
 | (i,v)::af,(i',x)::ai,cells,es,es',hs,hp,hc,hf=>by
  obtain⟨⟨h1,h2⟩,h3⟩:=hp;simp only[]at h1 h2;subst h1;unfold zaQ at hf;split at hf
  ·rename_i xs fO;split at hf
   ·rename_i ds eQ;split at hf
    ·rename_i hb;simp only[Bool.and_eq_true,beq_iff_eq,decide_eq_true_eq]at hb;have dN:=zdB (zhj h2 fO) eQ;have fG:=dN.length;have lI:=hc.length;have bn:=zhs hs;simp at fG;simp only[Array.length_toList]at lI;have fd:(i+1)*size≤es.length*size:=Nat.mul_le_mul_right _ hb.2;rw[Nat.add_mul]at fd;have bc:i*size+v.cells.size≤cells.size:=by omega
     have lJ:=zwK (i*size) v.cells cells bc;have fP:All2 (DRel w G.L) (v.cells.zipIdx.foldl (λcs (c,j)=>cs.setIfInBounds (i*size+j) c) cells).toList (es.set i ds).flatten:=by rw[lJ,zxw hs i ds hb.2,fG,hb.1];exact ((hc.take _).append dN).append (hc.drop _)
     have eh:∀ c∈es.set i ds,c.length=size:=λc bO=>by
      rcases List.mem_or_eq_of_mem_set bO with h | h
      ·exact hs c h
      ·rw[h];exact hb.1
     obtain⟨cells',bG,c7,d7,eP⟩:=zxt af ai _ _ es' eh h3 fP hf;refine⟨cells',?_,c7,d7,by rw[eP];simp⟩;unfold Instr.fill;simp only[];rw[if_neg (by simp;omega)];exact bG
    ·cases hf
   ·cases hf
  ·cases hf

theorem zI8 {t e:TypeId} {size len:Nat} {z:Value} {af:Array (Nat × Value)} {ai:List (Nat × AV)} {K:AV→zaa→Prop} (hH:HRel B w G H) (he:za6 P t=some e) (hn:zaX P e=some size)
  (hz:zbz P e=some z) (h0:0<size) (am:len*size≤16777216) (gD:(zbw z).length=size)
  (hr:All2 (λ(p:Nat × Value) (q:Nat × AV)=>p.1=q.1∧TRel w G p.2 q.2) af.toList ai) (h:zau size (zbw z) len ai (K · H)) :
  OpOK P B w G K (((do pure (.value (←Instr.buildSlice t len af))):Sem Next).run P w):=by
 unfold zau at h;split at h
 ·rename_i zc jC;split at h
  ·rename_i es aZ;have dz:=zdU (w:=w) (G:=G) z;have dA:z.cells.size=size:=by have:=dz.length;simp at this;omega
   have lK:=zdB dz jC;have hm:=zpY lK (by omega) len;rw[dA]at hm;have hzcl:zc.length=size:=by rw[zyP jC];exact gD
   have aO:∀ c∈List.replicate len zc,c.length=size:=λc hc=>by rw[List.eq_of_mem_replicate hc,hzcl]
   obtain⟨cells',h1,h2,h3,h4⟩:=zxt af.toList ai _ _ es aO hr hm aZ;simp at h4;have cd:cells'.size=len*size:=by have:=h2.length;rw[zhs h3,h4]at this;simpa using this
   obtain⟨hx,aV⟩:=hH.frozen cells' e (len*size);have aw:((do pure (.value (←Instr.buildSlice t len af))):Sem Next).run P w=.ok (.value (.slice (some ⟨w.heap.size,0,none⟩) len len)) (w.alloc (.cells cells' e)):=by
    have ce:¬ (2 ^ 24<len*size):=by omega
    by_cases dc:len*size=0
    ·have hl:len=0:=by rcases Nat.mul_eq_zero.1 dc with h | h <;> omega
     subst hl;simp only[Nat.zero_mul,Array.range_zero',Array.map_empty]at h1;simp[Instr.buildSlice,zaZ (zb6 he),zbV hn,h1,newRow,World.alloc_eq,Array.range_zero']
    ·simp[Instr.buildSlice,zaZ (zb6 he),zbV hn,ze2 hz,ce,dc,dA,h1,newRow,World.alloc_eq]
   rw[aw];refine⟨.sl es .full,_,H,hx,aV,⟨?_,some ⟨w.heap.size,0,none⟩,by rw[h4]⟩,h⟩;by_cases aB:es=[]
   ·subst aB;simp at h4;subst h4;exact .slE _ _
   ·have:=DRel.of_flat (w:=w.alloc (.cells cells' e)) (L:=λb=>if b=w.heap.size then len*size else G.L b) (g:=w.heap.size) (cap:=len) (zs:=cells'.toList) h3 aB (by omega) (by simp[h4]) (h2.mono λ_ _=>hx.drel)
     (λj v hj=>by rw[World.cell?_alloc_new];simpa using hj)
    rw[h4]at this;exact this
  ·exact h.elim
 ·exact h.elim

theorem zJo {t e:TypeId} {size bytes:Nat} {z:Value} {vl vc:Value} {l c:AV} {K:AV→zaa→Prop} (hH:HRel B w G H) (he:za6 P t=some e) (hn:zaX P e=some size) (bt:zc7 P e=some bytes)
  (hz:zbz P e=some z) (h0:0<size) (gD:(zbw z).length=size) (hl:TRel w G vl l) (hc:TRel w G vc c) (h:zbe bytes (zbw z) l c H K) :
  OpOK P B w G K (((do pure (.value (←Instr.makeSlice t vl vc))):Sem Next).run P w):=by
 unfold zbe at h;split at h
 ·rename_i l c;cases hl;cases hc;obtain⟨⟨h1,h2,h3,h4⟩,hk⟩:=h;have dz:=zdU (w:=w) (G:=G) z;have dA:z.cells.size=size:=by have:=dz.length;simp at this;omega
  unfold zaX at hn;unfold zbz at hz;unfold zc7 at bt;cases hi:P.info? e with
  | none=>simp[hi]at hn
  | some i=>
   simp[hi]at hn hz bt;have hr:=run_make (P:=P) w t e i z (zb6 he) hi hz .i64 .i64 l c h1 h2 (by rw[bt,Int.mul_comm];omega) h4;have hm:=zpY dz (by omega) c.toNat;rw[dA]at hm;rw[hn]at hr;obtain⟨hx,aV⟩:=hH.new (madeCells z.cells (c.toNat*size)) e _ (by simpa[madeCells,dA]using hm);have aw:((do pure (.value (←Instr.makeSlice t (.int .i64 l) (.int .i64 c)))):Sem Next).run P w=.ok (.value (.slice (some ⟨w.heap.size,0,none⟩) l.toNat c.toNat)) (w.alloc (.cells (madeCells z.cells (c.toNat*size)) e)):=by rw[Sem.run_bind,hr];rfl
   rw[aw];refine⟨.ms H.length 0 l.toNat c.toNat,_,_,hx,aV,⟨w.heap.size,?_,rfl⟩,hk⟩;rw[←hH.len];simp
 ·exact h.elim

theorem zw1:∀ {es:List (List AV)} {s:List UInt8},zhg es=some s→∃ ns:List Int,es=ns.map (λn=>[.int .u8 n])∧s=ns.map (λn=>UInt8.ofNat n.toNat)
 | [],s,h=>by simp[zhg]at h;exact⟨[],rfl,h.symm ▸ rfl⟩
 | c::es,s,h=>by
  unfold zhg at h;split at h
  ·rename_i heq;cases heq
  ·rename_i n es' heq;cases heq;split at h
   ·rename_i s' eh;obtain⟨ns,rfl,rfl⟩:=zw1 eh;cases h;exact⟨n::ns,rfl,rfl⟩
   ·cases h
  ·cases h
theorem zyV:∀ (ns:List Int) (ah:List UInt8),ns.foldl (λr n=>r.push (UInt8.ofNat n.toNat)) (ByteArray.mk ah.toArray)=⟨(ah++ns.map λn=>UInt8.ofNat n.toNat).toArray⟩
 | [],ah=>by simp
 | n::ns,ah=>by
  have h:(ByteArray.mk ah.toArray).push (UInt8.ofNat n.toNat)=⟨(ah++[UInt8.ofNat n.toNat]).toArray⟩:=by simp[ByteArray.push]
  rw[List.foldl_cons,h,zyV ns];simp
theorem zxL {L:Nat→Nat}:∀ {zs:List Value} {ns:List Int},All2 (DRel w L) zs (ns.map (AV.int .u8))→zs=ns.map (Value.int .u8)
 | [],[],_=>rfl
 | z::zs,n::ns,h=>by obtain⟨h1,h2⟩:=h;cases h1;rw[zxL h2];rfl
theorem zAf:∀ ns:List Int,(ns.map λn=>[AV.int .u8 n]).flatten=ns.map (AV.int .u8)
 | []=>rfl
 | n::ns=>by rw[List.map_cons,List.flatten_cons,zAf ns];rfl
theorem zJd {s t e:TypeId} {v:Value} {x:AV} {K:AV→Prop} (hx:TRel w G v x) (hs:P.underlying s=some (.slice e)) (ht:P.underlying t=some .string) (he:tU8 P e=true) (h:zfd x K) :
  ∃ r,(convert s t v).run P w=.ok r w∧∃ av,TRel w G r av∧K av:=by
 have lL:P.underlying e=some (.int .u8):=by
  unfold tU8 at he;split at he
  ·assumption
  ·cases he
 unfold zfd at h;split at h
 ·rename_i es tok;have hd:=zij hx;split at h
  ·rename_i bs hb;obtain⟨ns,rfl,rfl⟩:=zw1 hb;refine⟨.string ⟨(ns.map λn=>UInt8.ofNat n.toNat).toArray⟩,?_,.str _,rfl,h⟩;by_cases aB:ns=[]
   ·subst aB;obtain⟨a,cap,rfl,_⟩:=hd.slice_form;rw[run_convert_bytes_string w s t e _ _ _ hs lL ht];cases a with
    | none=>rfl
    | some a=>
     have hl:(loadCells a 0).run P w=.ok #[] w:=by simpa using run_loadCells_list (P:=P) w a [] (by simp)
     exact run_bytesToString w a 0 cap [] hl
   ·obtain⟨b,off,cap,zs,rfl,gD,dz,jC,_⟩:=hd.flat (size:=1) (by simpa using aB) (by simp);rw[zAf]at dz;obtain rfl:=zxL dz;rw[run_convert_bytes_string w s t e _ _ _ hs lL ht];have dL:=run_loadCells_list (P:=P) w ⟨b,off,none⟩ (ns.map (Value.int .u8)) (λj v hj=>by rw[add_lit];exact jC j v hj);rw[List.length_map]at dL;rw[List.length_map,run_bytesToString w _ _ cap ns dL];have:=zyV ns [];simp only[List.nil_append]at this;rw[←this];rfl
  ·exact h.elim
 ·cases hx;refine⟨.string ⟨#[]⟩,?_,.str [],rfl,h⟩;rw[run_convert_bytes_string w s t e _ _ _ hs lL ht];rfl
 ·exact h.elim

end
section
open Go.RowKit

variable {P:Program} {B:Nat} {w:World} {G:Gh} {H:zaa}

theorem zIj (v:Value):VRel w G v (zem v):=by
 unfold zem;split
 ·rename_i cs;refine⟨cs,rfl,?_⟩;refine All2.of_get (by simp) λi x y hx hy=>?_;rw[List.getElem?_map,hx]at hy;simp at hy;rw[←hy];exact ARel.of_b (zgD x)
 ·exact VRel.of_a (ARel.of_b (zgD v))
theorem zAh {t e:TypeId} (h:zeB P t=some e):∃ k,P.underlying t=some (.map k e)∧P.underlying k=some .string:=by
 unfold zeB at h;cases hu:P.underlying t with
 | none=>simp[hu]at h
 | some d=>
  simp only[hu,Option.bind_some]at h;cases d <;> simp only[]at h <;> try (cases h;done)
  rename_i k e';split at h
  ·rename_i hk;cases h;exact⟨k,rfl,hk⟩
  ·cases h

theorem zpD {s:List UInt8} {x:AV}:∀ {es:List MapEntry} {kvs:List (List UInt8 × AV)} (i:Nat),All2 (ERel w G) es kvs →
  (zbO kvs s=none∧Instr.findNow .string (.string ⟨s.toArray⟩) es i=some none∧zcH kvs s x=kvs++[(s,x)]) ∨
  (∃ j e v,zbO kvs s=some v∧Instr.findNow .string (.string ⟨s.toArray⟩) es i=some (some (i+j,e.val))∧es[j]?=some e∧VRel w G e.val v∧e.key=.string ⟨s.toArray⟩∧zcH kvs s x=kvs.set j (s,x))
 | [],[],i,_=>.inl ⟨rfl,rfl,rfl⟩
 | e::es,p::kvs,i,h=>by
  obtain⟨⟨hk,hv⟩,ht⟩:=h;have hbeq:((⟨s.toArray⟩:ByteArray) == ⟨p.1.toArray⟩)=(p.1 == s):=by
   have e1:((⟨s.toArray⟩:ByteArray) == ⟨p.1.toArray⟩)=(s.toArray == p.1.toArray):=rfl;rw[e1,Bool.eq_iff_iff,beq_iff_eq,beq_iff_eq];constructor
   ·intro h;have:=congrArg Array.toList h;simpa using this.symm
   ·intro h;rw[h]
  have a6:Instr.sameNow .string (.string ⟨s.toArray⟩) e.key=some (p.1 == s):=by rw[hk];simp only[Instr.sameNow,hbeq]
  cases hb:(p.1 == s) with
  | true=>
   right;rw[hb]at a6;have dB:p.1=s:=by simpa using hb
   exact⟨0,e,p.2,by simp only[zbO,hb],by simp only[Instr.findNow,a6,Nat.add_zero],rfl,hv,by rw[hk,dB],by simp only[zcH,hb,List.set_cons_zero]⟩
  | false=>
   rw[hb]at a6;rcases zpD (s:=s) (x:=x) (i+1) ht with ⟨h1,h2,h3⟩ | ⟨j,e',v,h1,h2,h3,h4,h5,h6⟩
   ·exact .inl ⟨by simp only[zbO,hb,h1],by simp only[Instr.findNow,a6,h2],by simp only[zcH,hb,h3,List.cons_append]⟩
   ·refine .inr ⟨j+1,e',v,by simp only[zbO,hb,h1],?_,by simpa using h3,h4,h5,by simp only[zcH,hb,h6,List.set_cons_succ]⟩;simp only[Instr.findNow,a6,h2];congr 3;omega
 | [],_::_,_,h=>h.elim
 | _::_,[],_,h=>h.elim

theorem zJq {t:TypeId} {K:AV→zaa→Prop} (hH:HRel B w G H) (h:zdZ H K):OpOK P B w G K (((do pure (.value (←Instr.makeMap t none))):Sem Next).run P w):=by
 obtain⟨he,aV⟩:=hH.newMap;have aw:((do pure (.value (←Instr.makeMap t none))):Sem Next).run P w=.ok (.value (.map (some w.heap.size))) (w.alloc (.map #[] 0)):=by simp[Instr.makeMap,newObj,Sem.run,World.alloc_eq]
 rw[aw];refine⟨.map H.length,_,_,he,aV,⟨w.heap.size,?_,rfl⟩,h⟩;rw[←hH.len];simp

theorem zJn {t e:TypeId} {z vm vk:Value} {m k:AV} {ok:Bool} {K:AV→Prop} (hH:HRel B w G H) (ht:zeB P t=some e) (hz:zbz P e=some z) (hm:TRel w G vm m) (hk:TRel w G vk k)
  (h:zdK (zem z) ok m k H K):∃ u,(Instr.lookup t vm vk ok).run P w=.ok u w∧∃ av,TRel w G u av∧K av:=by
 obtain⟨kt,hu,fe⟩:=zAh ht;unfold zdK at h;split at h
 ·rename_i id s;split at h
  ·rename_i kvs fR;obtain⟨b,hμ,rfl⟩:=hm;cases hk;obtain⟨_,_,es,clk,hw,aZ⟩:=hH.ok id _ _ fR hμ;have dS:MapKept.IsKey .string (.string ⟨s.toArray⟩):=trivial;rcases zpD (s:=s) (x:=.unk) 0 aZ with ⟨h1,h2,_⟩ | ⟨j,e',v,h1,h2,h3,h4,h5,_⟩
   ·rw[h1]at h;have hzv:VRel w G z (zem z):=zIj z;cases ok with
    | false=>refine⟨z,?_,_,zy0 z,h⟩;simp[Instr.lookup,zaZ hu,MapKept.run_getObj_map hw,MapKept.run_checkKey fe dS,MapKept.run_findKey fe h2,ze2 hz]
    | true=>refine⟨.tuple #[z,.bool false],?_,.tup [zem z,.bool false],⟨_,rfl,hzv,rfl,trivial⟩,h⟩;simp[Instr.lookup,zaZ hu,MapKept.run_getObj_map hw,MapKept.run_checkKey fe dS,MapKept.run_findKey fe h2,ze2 hz]
   ·rw[h1]at h;cases ok with
    | false=>refine⟨e'.val,?_,_,TRel.of_v h4,h⟩;simp[Instr.lookup,zaZ hu,MapKept.run_getObj_map hw,MapKept.run_checkKey fe dS,MapKept.run_findKey fe h2]
    | true=>refine⟨.tuple #[e'.val,.bool true],?_,.tup [v,.bool true],⟨_,rfl,h4,rfl,trivial⟩,h⟩;simp[Instr.lookup,zaZ hu,MapKept.run_getObj_map hw,MapKept.run_checkKey fe dS,MapKept.run_findKey fe h2]
  ·exact h.elim
 ·exact h.elim

theorem zzu {t e:TypeId} {vm vk vx:Value} {m k x:AV} {K:zaa→Prop} (hH:HRel B w G H) (ht:zeB P t=some e) (hm:TRel w G vm m) (hk:TRel w G vk k) (hx:TRel w G vx x)
  (h:zcW m k x H K):∃ w' H',(Instr.mapUpdate t vm vk vx).run P w=.ok () w'∧Ext B w G w' G∧HRel B w' G H'∧K H':=by
 obtain⟨kt,hu,fe⟩:=zAh ht;unfold zcW at h;split at h
 ·rename_i id s;split at h
  ·rename_i kvs fR;obtain⟨b,hμ,rfl⟩:=hm;cases hk;obtain⟨_,_,es,clk,hw,aZ⟩:=hH.ok id _ _ fR hμ;have dS:MapKept.IsKey .string (.string ⟨s.toArray⟩):=trivial;split at h
   ·exact h.elim
   ·rename_i hnt;have hv:VRel w G vx x:=by cases x <;> first | exact hx | exact (hnt _ rfl).elim
    rcases zpD (s:=s) (x:=x) 0 aZ with ⟨h1,h2,h6⟩ | ⟨j,e',v,h1,h2,h3,h4,h5,h6⟩
    ·rw[h6]at h;obtain⟨he,aV⟩:=hH.storeMap (es':=es.push ⟨.string ⟨s.toArray⟩,vx,clk⟩) (clk':=clk+1) fR hμ hw (kvs':=kvs++[(s,x)]) (by
      rw[Array.toList_push];exact aZ.append ⟨⟨rfl,hv⟩,trivial⟩)
     refine⟨_,_,?_,he,aV,h⟩;simp[Instr.mapUpdate,zaZ hu,MapKept.run_getObj_map hw,MapKept.run_checkKey fe dS,MapKept.run_findKey fe h2,MapKept.run_setObj_map _ hw]
    ·rw[h6]at h;have hj:es[j]?=some e':=by simpa using h3
     have aQ:j<es.size:=(Array.getElem?_eq_some_iff.1 hj).1;obtain⟨he,aV⟩:=hH.storeMap (es':=es.modify j λe=>{ e with key:=.string ⟨s.toArray⟩,val:=vx }) (clk':=clk) fR hμ hw (kvs':=kvs.set j (s,x)) (by
      have e1:(es.modify j λe=>{ e with key:=.string ⟨s.toArray⟩,val:=vx }).toList=es.toList.set j { e' with key:=.string ⟨s.toArray⟩,val:=vx }:=by rw[Array.toList_modify,List.modify_eq_set];simp[hj]
      rw[e1];exact aZ.set j ⟨rfl,hv⟩)
     refine⟨_,_,?_,he,aV,h⟩;have cg:(Instr.keyThatStays (((es[j]?).map (·.key)).getD (.string ⟨s.toArray⟩)) (.string ⟨s.toArray⟩)).run P w=.ok (.string ⟨s.toArray⟩) w:=by rw[hj];simp only[Option.map_some,Option.getD_some,h5];exact MapKept.run_keyThatStays dS
     simp only[Nat.zero_add]at h2;simp[Instr.mapUpdate,zaZ hu,MapKept.run_getObj_map hw,MapKept.run_checkKey fe dS,MapKept.run_findKey fe h2,cg,MapKept.run_setObj_map _ hw]
  ·exact h.elim
 ·exact h.elim
end
section
open Go.RowKit

variable {P:Program} {B:Nat} {w:World} {G:Gh} {H:zaa}

structure GrB (w w':World) (g:Option Nat):Prop where
 dr:w.drawn≤w'.drawn
 os:w'.os=w.os
 tape:w'.tape=w.tape
 output:w'.output=w.output
 size:w.heap.size≤w'.heap.size
 block:∀ k,k<w.heap.size→some k≠g→w'.heap[k]?=w.heap[k]?
theorem zpA (w:World) (o:Obj):w.drawn≤(w.drew.alloc o).drawn:=Nat.le_succ _

theorem zih {t t' ty e:TypeId} {a c:Option Addr} {n cap cap':Nat} (he:za6 P t=some e) (jQ:za6 P t'=some e) (hs:∃ s,zaX P e=some s) (hk:n≤cap) :
  (Builtin.append_ #[t,t'] ty #[.slice a n cap,.slice c 0 cap']).run P w=.ok (.slice a n cap) w:=by
 obtain⟨s,hs⟩:=hs;have hl:∀ x,(loadCells x 0).run P w=.ok #[] w:=λx=>by simpa using run_loadCells_list (P:=P) w x [] (by simp)
 have aR:∀ x,(storeCells x [] 0).run P w=.ok () w:=λx=>rfl;cases a <;> cases c <;> simp[Builtin.append_,zaZ (zb6 he),zaZ (zb6 jQ),zbV hs,Builtin.lenOf,hk,Builtin.firstCells,hl,aR]

theorem zkn {t ty e:TypeId} {i:TypeInfo} {z:Value} (ht:P.underlying t=some (.slice e)) (hi:P.info? e=some i) (hz:i.zero=some z) (dA:z.cells.size=i.size) {v:Value} {n:Nat} {xs:List Value}
  (ar:w.ownsRow B e i.size v n xs) (a:Addr) (m c:Nat) (news:List Value) (hl:news.length=m*i.size) (dp:∀ j u,news[j]?=some u→w.cell? (a.add j)=some u) (h1:∀ u∈news,u.oneCell'=true)
  (hm:0<m) (iR:n+m≤maxLen) (ch:(n+m)*i.bytes≤140737488355328) (dT:B≤w.heap.size) :
  ∃ v' w',(Builtin.append_ #[t,t] ty #[v,.slice (some a) m c]).run P w=.ok v' w'∧w'.ownsRow B e i.size v' (n+m) (xs++news) ∧
   ((∃ g,v.ownBlock=some g∧v'.ownBlock=some g∧GrB w w' (some g))∨(v'.ownBlock=some w.heap.size∧GrB w w' none)):=by
 have hsmall:n+m≤9223372036854775807:=by simp only[maxLen]at iR;omega
 have am:(xs++news).length=(n+m)*i.size:=by rw[List.length_append,ar.1,hl,Nat.add_mul]
 have grown:∀ (old:Nat),old<n+m →
   (w.drew.alloc (.cells (xs.toArray++news.toArray++Builtin.zeroCells z.cells (grownCap w (n+m) old e-(n+m))) e)).ownsRow B e i.size
    (.slice (some ⟨w.heap.size,0,none⟩) (n+m) (grownCap w (n+m) old e)) (n+m) (xs++news) ∧
   GrB w (w.drew.alloc (.cells (xs.toArray++news.toArray++Builtin.zeroCells z.cells (grownCap w (n+m) old e-(n+m))) e)) none:=by
  intro old ho;have cF:=grownCap_ge w (n+m) old e;have bO:grownCap w (n+m) old e≤maxLen:=grownCap_le_maxLen w (n+m) old e iR;refine⟨⟨am,.inr ⟨w.heap.size,_,_,rfl,dT,zds (w:=w.drew) _,cF,bO,?_,?_⟩⟩,⟨zpA w _,rfl,rfl,rfl,by simp,λk hk _=>zcN (w:=w.drew) hk⟩⟩
  ·simp only[Array.size_append,List.size_toArray,size_zeroCells,dA,ar.1,hl,←Nat.add_mul];congr 1;omega
  ·simp only[Array.toList_append,List.append_assoc];rw[←List.append_assoc,←am];exact List.take_left
 rcases ar.2 with ⟨rfl,rfl⟩ | ⟨g,cap,cur,rfl,cW,hg,iQ,bO,aN,bp⟩
 ·have hx:xs=[]:=List.eq_nil_of_length_eq_zero (by simpa using ar.1);subst hx;have hr:=run_append_nil (P:=P) w t ty e i z ht hi hz a m c news hl dp hm (by omega) (by have hb:=ch;simp only[Nat.zero_add]at hb;omega);have bu:=grown 0 (by omega);simp only[Nat.zero_add,List.nil_append,Array.empty_append]at bu ⊢;exact⟨_,_,hr,bu.1,.inr ⟨rfl,bu.2⟩⟩
 ·by_cases dq:n+m≤cap
  ·have bc:n*i.size+news.length≤cur.size:=by rw[hl,aN,←Nat.add_mul];exact Nat.mul_le_mul_right _ dq
   have hr:=run_append_room (P:=P) w t ty e i ht hi g n cap cur hg a m c news hl dp h1 dq bc;refine⟨_,_,hr,⟨am,.inr ⟨g,cap,_,rfl,cW,setRow_heap w g cur _ e _ hg,dq,bO,?_,?_⟩⟩,.inl ⟨g,rfl,rfl,⟨Nat.le_refl _,rfl,rfl,rfl,by simp,λk _ hk=>setRow_other w g k _ (λe=>hk (by simp[e]))⟩⟩⟩
   ·simp only[List.size_toArray,List.length_append,List.length_take,List.length_drop,Array.length_toList];omega
   ·rw[bp,←am];exact List.take_left
  ·have holds:∀ j u,xs[j]?=some u→w.cell? ((⟨g,0,none⟩:Addr).add j)=some u:=ar.cells (g:=g) rfl;have hr:=run_append_grow (P:=P) w t ty e i z ht hi hz ⟨g,0,none⟩ n cap xs ar.1 holds a m c news hl dp (by omega) (by omega) (growslice_fits (by omega) ch);have bu:=grown cap (by omega);exact⟨_,_,hr,bu.1,.inr ⟨rfl,bu.2⟩⟩

theorem zxB {t ty e:TypeId} {i:TypeInfo} {z:Value} (ht:P.underlying t=some (.slice e)) (hi:P.info? e=some i) (hz:i.zero=some z) (dA:z.cells.size=i.size) {ad:Option Addr} {n:Nat} {xs:List Value}
  (bZ:xs.length=n*i.size) (hx:∀ b,ad=some b→∀ j u,xs[j]?=some u→w.cell? (b.add j)=some u) (hn:ad=none→n=0) (a:Addr) (m c:Nat) (news:List Value) (hl:news.length=m*i.size) (dp:∀ j u,news[j]?=some u→w.cell? (a.add j)=some u)
  (hm:0<m) (iR:n+m≤maxLen) (ch:(n+m)*i.bytes≤140737488355328) (dT:B≤w.heap.size) :
  ∃ v' w',(Builtin.append_ #[t,t] ty #[.slice ad n n,.slice (some a) m c]).run P w=.ok v' w'∧w'.ownsRow B e i.size v' (n+m) (xs++news)∧v'.ownBlock=some w.heap.size∧GrB w w' none:=by
 have hsmall:n+m≤9223372036854775807:=by simp only[maxLen]at iR;omega
 have am:(xs++news).length=(n+m)*i.size:=by rw[List.length_append,bZ,hl,Nat.add_mul]
 have grown:∀ (old:Nat),old<n+m →
   (w.drew.alloc (.cells (xs.toArray++news.toArray++Builtin.zeroCells z.cells (grownCap w (n+m) old e-(n+m))) e)).ownsRow B e i.size
    (.slice (some ⟨w.heap.size,0,none⟩) (n+m) (grownCap w (n+m) old e)) (n+m) (xs++news) ∧
   GrB w (w.drew.alloc (.cells (xs.toArray++news.toArray++Builtin.zeroCells z.cells (grownCap w (n+m) old e-(n+m))) e)) none:=by
  intro old ho;have cF:=grownCap_ge w (n+m) old e;have bO:grownCap w (n+m) old e≤maxLen:=grownCap_le_maxLen w (n+m) old e iR;refine⟨⟨am,.inr ⟨w.heap.size,_,_,rfl,dT,zds (w:=w.drew) _,cF,bO,?_,?_⟩⟩,⟨zpA w _,rfl,rfl,rfl,by simp,λk hk _=>zcN (w:=w.drew) hk⟩⟩
  ·simp only[Array.size_append,List.size_toArray,size_zeroCells,dA,bZ,hl,←Nat.add_mul];congr 1;omega
  ·simp only[Array.toList_append,List.append_assoc];rw[←List.append_assoc,←am];exact List.take_left
 cases ad with
 | none=>obtain rfl:=hn rfl;have ec:xs=[]:=List.eq_nil_of_length_eq_zero (by simpa using bZ);subst ec;have hr:=run_append_nil (P:=P) w t ty e i z ht hi hz a m c news hl dp hm (by omega) (by have hb:=ch;simp only[Nat.zero_add]at hb;omega);have bu:=grown 0 (by omega);simp only[Nat.zero_add,List.nil_append,Array.empty_append]at bu ⊢;exact⟨_,_,hr,bu.1,rfl,bu.2⟩
 | some b=>have hr:=run_append_grow (P:=P) w t ty e i z ht hi hz b n n xs bZ (hx b rfl) a m c news hl dp (by omega) (by omega) (growslice_fits (by omega) ch);have bu:=grown n (by omega);exact⟨_,_,hr,bu.1,rfl,bu.2⟩
theorem zko {e:TypeId} {size n m id:Nat} {v v':Value} {w':World} {xs news:List Value} {es ys:List (List AV)} (hH:HRel B w G H)
  (cG:H[id]?=some (.perm e size n)) (hμ:G.μ[id]?=some (.own v size n)) (ar:w.ownsRow B e size v n xs) (aT:w'.ownsRow B e size v' (n+m) (xs++news))
  (aF:(∃ g,v.ownBlock=some g∧v'.ownBlock=some g∧GrB w w' (some g))∨(v'.ownBlock=some w.heap.size∧GrB w w' none))
  (hm:ys.length=m) (cX:0<m) (aZ:es.length=n) (hse:∀ c∈es,c.length=size) (iy:∀ c∈ys,c.length=size)
  (hx:All2 (DRel w G.L) xs es.flatten) (hn:All2 (DRel w G.L) news ys.flatten) :
  ∃ G',Ext B w G w' G'∧HRel B w' G' (H.set id (.perm e size (n+m)))∧TRel w' G' v' (.sl (es++ys) (.own id)):=by
 obtain⟨_,_,⟨_,_⟩,eR⟩:=hH.ok id _ _ cG hμ;obtain⟨cC,bi⟩:=aT;rcases bi with ⟨hv,hz⟩ | ⟨g,cap,cur,hv,fc,ff,bG,c7,d7,eP⟩
 ·omega
 subst hv;have aT:w'.ownsRow B e size (.slice (some ⟨g,0,none⟩) (n+m) cap) (n+m) (xs++news):=⟨cC,.inr ⟨g,cap,cur,rfl,fc,ff,bG,c7,d7,eP⟩⟩;obtain⟨_,_,hglt,ei⟩:=zdA aT;have aF:(v.ownBlock=some g∧GrB w w' (some g))∨(g=w.heap.size∧GrB w w' none):=by
  rcases aF with ⟨g0,h1,h2,h3⟩ | ⟨h1,h2⟩
  ·simp[Value.ownBlock]at h2;subst h2;exact .inl ⟨h1,h3⟩
  ·simp[Value.ownBlock]at h1;exact .inr ⟨h1,h2⟩
 have hB:∀ b,v.ownBlock=some b→B≤b:=λb hb=>by
  rcases ar.2 with ⟨rfl,_⟩ | ⟨g0,cap0,cur0,rfl,jD,_⟩
  ·simp[Value.ownBlock]at hb
  ·simp[Value.ownBlock]at hb;omega
 have fg:G.L g≤(n+m)*size:=by
  rcases aF with ⟨h,_⟩ | ⟨h,_⟩
  ·rw[eR g h];exact Nat.mul_le_mul_right _ (by omega)
  ·rw[hH.fresh g (by omega)];exact Nat.zero_le _
 -- all other blocks are asx they were
 have a6:∀ b,b<w.heap.size→b≠g→w'.heap[b]?=w.heap[b]?:=by
  intro b hb aB;rcases aF with ⟨_,h⟩ | ⟨_,h⟩
  ·exact h.block b hb (by simp[aB])
  ·exact h.block b hb (by simp)
 have bV:w.heap.size≤w'.heap.size:=by rcases aF with ⟨_,h⟩ | ⟨_,h⟩ <;> exact h.size
 have de:∀ (id':Nat) gi b,id'≠id→G.μ[id']?=some gi→gi.block=some b→b≠g:=by
  intro id' gi b aB h1 h2 cW;subst cW;rcases aF with ⟨h,_⟩ | ⟨h,_⟩
  ·exact aB (hH.dist id' id gi _ b h1 hμ h2 (by simpa[GI.block]using h))
  ·have:=hH.lt id' gi b h1 h2;omega
 have bW:id<G.μ.length:=(List.getElem?_eq_some_iff.1 hμ).1;have he:Ext B w G w' ⟨λb=>if b=g then (n+m)*size else G.L b,G.μ.set id (.own (.slice (some ⟨g,0,none⟩) (n+m) cap) size (n+m))⟩:=by
  refine⟨by rcases aF with ⟨_,h⟩ | ⟨_,h⟩ <;> exact h.dr,?_,?_,?_,?_⟩
  ·have hb:∀ k,k<B→w'.heap[k]?=w.heap[k]?:=λk hk=>a6 k (Nat.lt_of_lt_of_le hk hH.base) (by
    intro lM;subst lM;rcases aF with ⟨h,_⟩ | ⟨h,_⟩
    ·have:=hB k h;omega
    ·have:=hH.base;omega)
   rcases aF with ⟨_,h⟩ | ⟨_,h⟩ <;> exact⟨h.os,h.tape,h.output,h.size,hb⟩
  ·intro b;by_cases hb:b=g
   ·subst hb;simpa using fg
   ·simp[hb]
  ·intro b off dC;by_cases cW:b=g
   ·subst cW;rcases aF with ⟨h,_⟩ | ⟨h,_⟩
    ·rcases ar.2 with ⟨rfl,_⟩ | ⟨g0,cap0,cur0,rfl,jD,hw0,_⟩
     ·simp[Value.ownBlock]at h
     ·simp[Value.ownBlock]at h;subst h;rw[eR _ rfl]at dC;obtain⟨bZ,_,_,cH⟩:=zdA ar;rw[cH off dC,ei off (Nat.lt_of_lt_of_le dC (Nat.mul_le_mul_right _ (by omega))),List.getElem?_append_left (by omega)]
    ·rw[hH.fresh b (by omega)]at dC;omega
   ·exact zfn (a6 b (zi1 hH dC) cW)
  ·intro id' gi h1;by_cases ap:id'=id
   ·subst ap;rw[hμ]at h1;cases h1;exact⟨_,List.getElem?_set_self bW,rfl,.inr (by omega)⟩
   ·exact⟨gi,by simp only[];rw[List.getElem?_set_ne (λh=>ap h.symm)];exact h1,gi.le_refl⟩
 have a8:∀ (id':Nat) gi,(G.μ.set id (.own (.slice (some ⟨g,0,none⟩) (n+m) cap) size (n+m)))[id']?=some gi →
   (id'=id∧gi=.own (.slice (some ⟨g,0,none⟩) (n+m) cap) size (n+m))∨(id'≠id∧G.μ[id']?=some gi):=by
  intro id' gi h;by_cases ap:id'=id
  ·subst ap;rw[List.getElem?_set_self bW]at h;cases h;exact .inl ⟨rfl,rfl⟩
  ·rw[List.getElem?_set_ne (λh=>ap h.symm)]at h;exact .inr ⟨ap,h⟩
 refine⟨_,he,⟨by simp[hH.len],?_,?_,?_,?_,Nat.le_trans hH.base bV⟩,⟨?_,_,size,n+m,List.getElem?_set_self bW,by simp;omega,λ_=>⟨rfl,λc hc=>?_⟩⟩⟩
 ·intro id' ab gi h1 h2;rcases a8 id' gi h2 with ⟨rfl,rfl⟩ | ⟨ap,h2⟩
  ·have ak:id'<H.length:=by rw[←hH.len];exact bW
   rw[List.getElem?_set_self ak]at h1;cases h1;refine⟨rfl,rfl,⟨_,aT⟩,λb hb=>?_⟩;simp[Value.ownBlock]at hb;subst hb;simp
  ·rw[List.getElem?_set_ne (λh=>ap h.symm)]at h1;refine (hH.ok id' ab gi h1 h2).keep he (λb hb=>?_);have aB:=de id' gi b ap h2 hb;exact⟨a6 b (hH.lt id' gi b h2 hb) aB,by simp[aB]⟩
 ·intro i1 i2 gi1 gi2 b h1 h2 h3 h4;rcases a8 i1 gi1 h1 with ⟨e1,e2⟩ | ⟨ek,k1⟩ <;> rcases a8 i2 gi2 h2 with ⟨e3,e4⟩ | ⟨gE,k2⟩
  ·rw[e1,e3]
  ·rw[e2]at h3;simp[GI.block,Value.ownBlock]at h3;exact absurd h3.symm (de i2 gi2 b gE k2 h4)
  ·rw[e4]at h4;simp[GI.block,Value.ownBlock]at h4;exact absurd h4.symm (de i1 gi1 b ek k1 h3)
  ·exact hH.dist i1 i2 gi1 gi2 b k1 k2 h3 h4
 ·intro b hb;have aB:b≠g:=by intro h;subst h;omega
  simp[aB,hH.fresh b (by omega)]
 ·intro i1 gi b h1 h2;rcases a8 i1 gi h1 with ⟨rfl,rfl⟩ | ⟨ek,h1⟩
  ·simp[GI.block,Value.ownBlock]at h2;omega
  ·have:=hH.lt i1 gi b h1 h2;omega
 ·have aB:es++ys≠[]:=by intro h;have:=congrArg List.length h;rw[List.length_append,List.length_nil]at this;omega
  have aO:∀ c∈es++ys,c.length=size:=λc hc=>(List.mem_append.1 hc).elim (hse c) (iy c);have am:(es++ys).length=n+m:=by simp;omega
  have bn:=DRel.of_flat (w:=w') (L:=λb=>if b=g then (n+m)*size else G.L b) (g:=g) (cap:=cap) (zs:=xs++news) aO aB (by omega) (by simp[aZ,hm])
   (by rw[List.flatten_append];exact (hx.append hn).mono λ_ _=>he.drel)
   (λj u hj=>by
    have gC:j<(n+m)*size:=by rw[←cC];exact (List.getElem?_eq_some_iff.1 hj).1
    rw[ei j gC];exact hj)
  rw[am]at bn;exact bn
 ·rcases List.mem_append.1 hc with h | h
  ·exact hse c h
  ·exact iy c h

theorem zit {e:TypeId} {size n m id:Nat} {v v':Value} {w':World} {xs news:List Value} {cs ds:List AV} (hH:HRel B w G H)
  (cG:H[id]?=some (.vec e size n cs)) (hμ:G.μ[id]?=some (.own v size n)) (ar:w.ownsRow B e size v n xs) (aT:w'.ownsRow B e size v' (n+m) (xs++news))
  (aF:(∃ g,v.ownBlock=some g∧v'.ownBlock=some g∧GrB w w' (some g))∨(v'.ownBlock=some w.heap.size∧GrB w w' none))
  (cX:0<m) (hx:All2 (ARel w G) xs cs) (hn:All2 (ARel w G) news ds) :
  ∃ G',Ext B w G w' G'∧HRel B w' G' (H.set id (.vec e size (n+m) (cs++ds)))∧TRel w' G' v' (.ov id (n+m)):=by
 obtain⟨_,_,⟨_,_,_⟩,eR⟩:=hH.ok id _ _ cG hμ;obtain⟨cC,bi⟩:=aT;rcases bi with ⟨hv,hz⟩ | ⟨g,cap,cur,hv,fc,ff,bG,c7,d7,eP⟩
 ·omega
 subst hv;have aT:w'.ownsRow B e size (.slice (some ⟨g,0,none⟩) (n+m) cap) (n+m) (xs++news):=⟨cC,.inr ⟨g,cap,cur,rfl,fc,ff,bG,c7,d7,eP⟩⟩;obtain⟨_,_,hglt,ei⟩:=zdA aT;have aF:(v.ownBlock=some g∧GrB w w' (some g))∨(g=w.heap.size∧GrB w w' none):=by
  rcases aF with ⟨g0,h1,h2,h3⟩ | ⟨h1,h2⟩
  ·simp[Value.ownBlock]at h2;subst h2;exact .inl ⟨h1,h3⟩
  ·simp[Value.ownBlock]at h1;exact .inr ⟨h1,h2⟩
 have hB:∀ b,v.ownBlock=some b→B≤b:=λb hb=>by
  rcases ar.2 with ⟨rfl,_⟩ | ⟨g0,cap0,cur0,rfl,jD,_⟩
  ·simp[Value.ownBlock]at hb
  ·simp[Value.ownBlock]at hb;omega
 have fg:G.L g=0:=by
  rcases aF with ⟨h,_⟩ | ⟨h,_⟩
  ·exact eR g h
  ·exact hH.fresh g (by omega)
 have a6:∀ b,b<w.heap.size→b≠g→w'.heap[b]?=w.heap[b]?:=by
  intro b hb aB;rcases aF with ⟨_,h⟩ | ⟨_,h⟩
  ·exact h.block b hb (by simp[aB])
  ·exact h.block b hb (by simp)
 have bV:w.heap.size≤w'.heap.size:=by rcases aF with ⟨_,h⟩ | ⟨_,h⟩ <;> exact h.size
 have de:∀ (id':Nat) gi b,id'≠id→G.μ[id']?=some gi→gi.block=some b→b≠g:=by
  intro id' gi b aB h1 h2 cW;subst cW;rcases aF with ⟨h,_⟩ | ⟨h,_⟩
  ·exact aB (hH.dist id' id gi _ b h1 hμ h2 (by simpa[GI.block]using h))
  ·have:=hH.lt id' gi b h1 h2;omega
 have bW:id<G.μ.length:=(List.getElem?_eq_some_iff.1 hμ).1;have he:Ext B w G w' ⟨G.L,G.μ.set id (.own (.slice (some ⟨g,0,none⟩) (n+m) cap) size (n+m))⟩:=by
  refine⟨by rcases aF with ⟨_,h⟩ | ⟨_,h⟩ <;> exact h.dr,?_,λ_=>Nat.le_refl _,?_,?_⟩
  ·have hb:∀ k,k<B→w'.heap[k]?=w.heap[k]?:=λk hk=>a6 k (Nat.lt_of_lt_of_le hk hH.base) (by
    intro lM;subst lM;rcases aF with ⟨h,_⟩ | ⟨h,_⟩
    ·have:=hB k h;omega
    ·have:=hH.base;omega)
   rcases aF with ⟨_,h⟩ | ⟨_,h⟩ <;> exact⟨h.os,h.tape,h.output,h.size,hb⟩
  ·intro b off dC;by_cases cW:b=g
   ·subst cW;omega
   ·exact zfn (a6 b (zi1 hH dC) cW)
  ·intro id' gi h1;by_cases ap:id'=id
   ·subst ap;rw[hμ]at h1;cases h1;exact⟨_,List.getElem?_set_self bW,rfl,.inr (by omega)⟩
   ·exact⟨gi,by simp only[];rw[List.getElem?_set_ne (λh=>ap h.symm)];exact h1,gi.le_refl⟩
 have a8:∀ (id':Nat) gi,(G.μ.set id (.own (.slice (some ⟨g,0,none⟩) (n+m) cap) size (n+m)))[id']?=some gi →
   (id'=id∧gi=.own (.slice (some ⟨g,0,none⟩) (n+m) cap) size (n+m))∨(id'≠id∧G.μ[id']?=some gi):=by
  intro id' gi h;by_cases ap:id'=id
  ·subst ap;rw[List.getElem?_set_self bW]at h;cases h;exact .inl ⟨rfl,rfl⟩
  ·rw[List.getElem?_set_ne (λh=>ap h.symm)]at h;exact .inr ⟨ap,h⟩
 refine⟨_,he,⟨by simp[hH.len],?_,?_,?_,?_,Nat.le_trans hH.base bV⟩,⟨⟨_,_,rfl,λ_=>⟨g,rfl⟩,bG⟩,_,size,n+m,List.getElem?_set_self bW,Nat.le_refl _,λ_=>rfl⟩⟩
 ·intro id' ab gi h1 h2;rcases a8 id' gi h2 with ⟨rfl,rfl⟩ | ⟨ap,h2⟩
  ·have ak:id'<H.length:=by rw[←hH.len];exact bW
   rw[List.getElem?_set_self ak]at h1;cases h1;refine⟨rfl,rfl,⟨_,aT,(hx.mono λ_ _=>he.arel).append (hn.mono λ_ _=>he.arel)⟩,λb hb=>?_⟩;simp[Value.ownBlock]at hb;subst hb;exact fg
  ·rw[List.getElem?_set_ne (λh=>ap h.symm)]at h1;refine (hH.ok id' ab gi h1 h2).keep he (λb hb=>?_);have aB:=de id' gi b ap h2 hb;exact⟨a6 b (hH.lt id' gi b h2 hb) aB,rfl⟩
 ·intro i1 i2 gi1 gi2 b h1 h2 h3 h4;rcases a8 i1 gi1 h1 with ⟨e1,e2⟩ | ⟨ek,k1⟩ <;> rcases a8 i2 gi2 h2 with ⟨e3,e4⟩ | ⟨gE,k2⟩
  ·rw[e1,e3]
  ·rw[e2]at h3;simp[GI.block,Value.ownBlock]at h3;exact absurd h3.symm (de i2 gi2 b gE k2 h4)
  ·rw[e4]at h4;simp[GI.block,Value.ownBlock]at h4;exact absurd h4.symm (de i1 gi1 b ek k1 h3)
  ·exact hH.dist i1 i2 gi1 gi2 b k1 k2 h3 h4
 ·intro b hb;exact hH.fresh b (by omega)
 ·intro i1 gi b h1 h2;rcases a8 i1 gi h1 with ⟨rfl,rfl⟩ | ⟨ek,h1⟩
  ·simp[GI.block,Value.ownBlock]at h2;omega
  ·have:=hH.lt i1 gi b h1 h2;omega

end
end Go.Proofs.YtdmamdnkcefmmaaGreatDoor
