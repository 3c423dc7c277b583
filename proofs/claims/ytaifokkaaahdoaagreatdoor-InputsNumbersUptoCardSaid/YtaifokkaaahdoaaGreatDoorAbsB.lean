import Derived.Calls
import Derived.Orders
import Derived.Below
import Derived.Laws.AppendOwn
import Derived.Laws.Alloc2
set_option linter.unusedSimpArgs false
set_option linter.unusedVariables false
set_option linter.unusedSectionVars false
set_option maxRecDepth 8000
set_option linter.defProp false
namespace Go.Proofs.YtaifokkaaahdoaaGreatDoor
def aa:=@Nat.le_refl
def ac:=@Bool.and_eq_true
def ae:=@List.getElem_mem
def af:=@List.drop_eq_getElem_cons
def ag:=@Nat.add_assoc
def ah:=@List.append_assoc
def ai:=@List.set_append_right
def aj:=@List.take_succ_eq_append_getElem
def ak:=@List.take_of_length_le
def am:=@List.all_eq_true
def ao:=@List.length_append
def ap:=@if_neg
def aq:=@Nat.mul_le_mul_right
def au:=@List.drop_length
def aw:=@List.take_length
def az:=@List.eq_nil_of_length_eq_zero
def aA:=@List.map_cons
def aB:=@if_pos
def aC:=@Nat.le_trans
def aD:=@Bool.false_eq_true
def aE:=@List.append_nil
def aF:=@Nat.zero_add
def aG:=@Iff.rfl
def aH:=@decide_eq_true_eq
def aI:=@List.ext_getElem?
def aJ:=@List.mem_iff_getElem?
def aK:=@List.drop_eq_nil_of_le
def aL:=@Bool.false_and
def aM:=@List.length_take
def aN:=@List.take_append_drop
def aO:=@List.mem_iff_getElem
def aP:=@List.mem_append
def aQ:=@List.mem_of_getElem?
def aR:=@Bool.true_and
def aS:=@List.length_map
def aT:=@if_false
def aU:=@List.drop_zero
def aV:=@List.mem_map
def aW:=@List.mem_of_mem_take
def aX:=@List.prefix_rfl
def aY:=@beq_iff_eq
def aZ:=@List.mem_cons
def a6:=@List.set_append_left
def a7:=@Nat.lt_of_lt_of_le
def a8:=@Nat.pow_le_pow_right
def ba:=@Nat.min_eq_left
def bb:=@Nat.add_mul
def bc:=@List.map_congr_left
def be:=@List.mem_range
def bf:=@decide_eq_true
def bg:=@List.flatMap_cons
def bh:=@Bool.false_or
def bi:=@decide_eq_false
def bj:=@List.map_append
def bk:=@List.cons.injEq
def bn:=@Bool.and_false
def bo:=@Nat.add_sub_cancel
def bq:=@Nat.mul_comm
def br:=@List.mem_filterMap
def bt:=@List.flatMap_append
def bu:=@Nat.mul_le_mul_left
def bv:=@decide_eq_false_iff_not
def bw:=@Bool.or_eq_false_iff
def bx:=@Nat.zero_mul
def bz:=@Nat.zero_le
def bA:=@List.mem_or_eq_of_mem_set
def bB:=@Bool.or_eq_true
def bC:=@List.eq_of_mem_replicate
def bD:=@List.mem_flatMap
def bE:=@List.mem_cons_of_mem
def bF:=@Nat.le_mul_of_pos_right
def bG:=@List.mem_zipIdx_iff_getElem?
def bH:=@Nat.le_of_lt
def bI:=@Nat.mul_le_mul
def bJ:=@Option.some.injEq
def bK:=@Nat.mul_one
def bL:=@Array.getD_eq_getD_getElem?
def bM:=@Option.some.inj
def bN:=@Bool.eq_iff_iff
def bO:=@Nat.add_eq_zero_iff
def bP:=@Nat.le_mul_of_pos_left
def bQ:=@List.drop_of_length_le
def bR:=@Array.toList_setIfInBounds
def bT:=@List.ext_getElem
def bU:=@Nat.sub_self
def bV:=@List.set_eq_take_append_cons_drop
def bW:=@Bool.and_true
def bX:=@List.map_take
def bY:=@Bool.not_eq_true'
def bZ:=@List.all_append
def cb:=@List.range_succ
def cc:=@List.length_set
def cd:=@Nat.min_eq_right
def ce:=@Nat.div_eq_of_lt
def cg:=@Nat.succ_ne_self
def ch:=@List.drop_append
def ci:=@Nat.mod_eq_of_lt
def cj:=@List.dropWhile_sublist
def ck:=@Nat.lt_of_le_of_lt
def cm:=@List.map_nil
def cp:=@Nat.succ_mul
def cq:=@Nat.pow_add
def cr:=@Bool.or_false
def ct:=@of_decide_eq_true
def cu:=@List.pairwise_iff_getElem
def cv:=@List.map_toArray
def cw:=@Nat.lt_of_not_le
def cx:=@Nat.le_of_not_lt
def cy:=@List.set_set
def cz:=@List.length_filterMap_le
def cC:=@List.take_append_getElem
def cD:=@Nat.add_sub_cancel_left
def cE:=@Nat.div_lt_self
def cF:=@Int.sign_eq_one_of_pos
def cG:=@Nat.eq_zero_of_not_pos
def cH:=@Nat.le_succ
def cI:=@Nat.mod_lt
def cJ:=@List.take_take
def cK:=@List.map_map
def cM:=@Nat.le_add_right
def cN:=@Nat.mul_lt_mul''
def cO:=@if_true
def cP:=@List.take_append
def cQ:=@List.takeWhile_cons
def cR:=@List.flatten_append
def cS:=@List.sum_append
def cT:=@List.all_takeWhile
def cU:=@true_and
def cW:=@Array.empty_append
def cX:=@List.count_pos_iff
def cY:=@List.contains_cons
def cZ:=@List.drop_drop
def c0:=@List.drop_take
def c5:=@Classical.byContradiction
def c6:=@List.take_left
def c7:=@List.size_toArray
def c9:=@Nat.lt_trichotomy
def da:=@List.nodup_append
def db:=@Nat.not_lt
def dc:=@decide_true
def dd:=@Prod.mk.injEq
def de:=@Nat.le_zero
def df:=@Nat.mul_add
def dg:=@List.countP_cons
def dh:=@beq_self_eq_true
def di:=@List.getElem_map
def dj:=@List.takeWhile_sublist
def dl:=@List.getElem_cons_drop
def dm:=@Nat.div_lt_iff_lt_mul
def dp:=@and_false
def dq:=@List.filterMap_append
def dt:=@Nat.mul_add_div
def du:=@List.takeWhile_prefix
def dv:=@List.take_left'
def dw:=@Nat.mul_add_mod
def dx:=@Nat.div_le_self
def dy:=@dif_neg
def dz:=@Bool.not_true
def dA:=@Bool.and_self
def dB:=@Bool.true_or
def dC:=@List.map_set
def dD:=@Nat.add_comm
def dE:=@dif_pos
section
open Go.RowKit

inductive Tok where
 |none
 |full
 |own (id:Nat)

inductive AV where
 |unk
 |bool (b:Bool)
 |int (k:IntKind) (n:Int)
 |str (s:List UInt8)
 |nilp
 |ptr (id off:Nat)
 |view (cs:List AV)
 |snil
 |sl (es:List (List AV)) (tok:Tok)
 |ms (id off len cap:Nat)
 |ov (id n:Nat)
 |vp (id n off:Nat)
 |os (id n lo esz:Nat)
 |map (id:Nat)
 |fn (f:Nat) (caps:List AV)
 |nilfn
 |nili
 |ifc
 |agg (cs:List AV)
 |tup (vs:List AV)

inductive AB where
 |cells (cs:List AV)
 |perm (e size n:Nat)
 |map (kvs:List (List UInt8×AV))
 |mapP (kvs:List ((Int×Int)×AV))
 |gap
 |bld (t:TypeId) (cs:List AV)
 |vec (e size n:Nat) (cs:List AV)
 |dead
 |fact (φ:World→Prop)
 |nodr
 |frz (e size n:Nat)

abbrev zaa:=List AB

inductive GI where
 |blk (b:Nat)
 |own (v:Value) (size n:Nat)
 |gap

structure Gh where
 L:Nat→Nat
 μ:List GI

def All2{α β:Type}(R:α→β→Prop):List α→List β→Prop
 |[],[]=>True
 |a::asx,b::bs=>R a b∧All2 R asx bs
 |_,_=>False

section
variable {α β:Type} {R R':α→β→Prop}
theorem All2.length:∀ {asx:List α} {bs:List β},All2 R asx bs→asx.length=bs.length
 |[],[],_=>rfl
 |_::_,_::_,h=>by simp[All2.length h.2]
theorem All2.mono(hr:∀ a b,R a b→R' a b):∀ {asx:List α} {bs:List β},All2 R asx bs→All2 R' asx bs
 |[],[],_=>trivial
 |_::_,_::_,h=>⟨hr _ _ h.1,All2.mono hr h.2⟩
theorem All2.get:∀ {asx:List α} {bs:List β},All2 R asx bs→∀ {i:Nat} {b:β},bs[i]?=some b→∃ a,asx[i]?=some a∧R a b
 |[],[],_,i,b,h=>by simp at h
 |a::_,_::_,h,0,b,hb=>⟨a,by simp,by simp at hb;exact hb ▸ h.1⟩
 |_::_,_::_,h,i+1,b,hb=>by simpa using All2.get h.2 (by simpa using hb)
theorem All2.get':∀ {asx:List α} {bs:List β},All2 R asx bs→∀ {i:Nat} {a:α},asx[i]?=some a→∃ b,bs[i]?=some b∧R a b
 |[],[],_,i,b,h=>by simp at h
 |a::_,b::_,h,0,a',hb=>⟨b,by simp,by simp at hb;exact hb ▸ h.1⟩
 |_::_,_::_,h,i+1,b,hb=>by simpa using All2.get' h.2 (by simpa using hb)
theorem All2.of_get:∀ {asx:List α} {bs:List β},asx.length=bs.length→(∀ (i:Nat) a b,asx[i]?=some a→bs[i]?=some b→R a b)→All2 R asx bs
 |[],[],_,_=>trivial
 |a::asx,b::bs,hl,h=>⟨h 0 a b rfl rfl,All2.of_get (by simpa using hl) (λi x y hx hy=>h (i+1) x y (by simpa using hx) (by simpa using hy))⟩
theorem All2.append:∀ {asx:List α} {bs:List β} {cs:List α} {ds:List β},All2 R asx bs→All2 R cs ds→All2 R (asx++cs) (bs++ds)
 |[],[],_,_,_,h=>h
 |_::_,_::_,_,_,h,h'=>⟨h.1,All2.append h.2 h'⟩
theorem All2.take:∀ {asx:List α} {bs:List β} (n:Nat),All2 R asx bs→All2 R (asx.take n) (bs.take n)
 |[],[],n,_=>by simp[All2]
 |_::_,_::_,0,_=>by simp[All2]
 |_::_,_::_,n+1,h=>⟨h.1,All2.take n h.2⟩
theorem All2.drop:∀ {asx:List α} {bs:List β} (n:Nat),All2 R asx bs→All2 R (asx.drop n) (bs.drop n)
 |[],[],n,_=>by simp[All2]
 |_::_,_::_,0,h=>h
 |_::_,_::_,n+1,h=>by simpa using All2.drop n h.2
theorem All2.set:∀ {asx:List α} {bs:List β} (i:Nat) {a:α} {b:β},All2 R asx bs→R a b→All2 R (asx.set i a) (bs.set i b)
 |[],[],_,_,_,_,_=>trivial
 |_::_,_::_,0,_,_,h,h'=>⟨h',h.2⟩
 |_::_,_::_,i+1,_,_,h,h'=>⟨h.1,All2.set i h.2 h'⟩
theorem All2.replicate{a:α}{b:β}(h:R a b):∀ n,All2 R (List.replicate n a) (List.replicate n b)
 |0=>trivial
 |n+1=>⟨h,All2.replicate h n⟩
end

inductive DRel (w:World) (L:Nat→Nat):Value→AV→Prop
 |bool (b:Bool):DRel w L (.bool b) (.bool b)
 |int (k:IntKind) (n:Int):DRel w L (.int k n) (.int k n)
 |str (s:List UInt8):DRel w L (.string ⟨s.toArray⟩) (.str s)
 |slE (a:Option Addr) (cap:Nat):DRel w L (.slice a 0 cap) (.sl [] .none)
 | sl (b off cap esz:Nat) (es:List (List AV)) (vs:Nat→Nat→Value) (hne:es≠[]) (hcap:es.length≤cap) (hL:off+es.length*esz≤L b)
   (hsz:∀i (h:i<es.length),(es[i]).length=esz)
   (hc:∀i j (hi:i<es.length) (_:j<(es[i]).length),w.cell? ⟨b,off+i*esz+j,none⟩=some (vs i j))
   (hd:∀i j (hi:i<es.length) (hj:j<(es[i]).length),DRel w L (vs i j) (es[i])[j]) :
   DRel w L (.slice (some ⟨b,off,none⟩) es.length cap) (.sl es .none)

theorem DRel.mono{w w':World}{L L':Nat→Nat}(hL:∀ b,L b≤L' b)(hc:∀ b off,off<L b→w'.cell? ⟨b,off,none⟩=w.cell? ⟨b,off,none⟩):
  ∀{v:Value} {a:AV},DRel w L v a→DRel w' L' v a:=by
 intro v a h;induction h with
 |bool b=>exact .bool b
 |int k n=>exact .int k n
 |str s=>exact .str s
 |slE a cap=>exact .slE a cap
 |sl b off cap esz es vs hne hcap hLb hsz hcell hd ih=>
  refine .sl b off cap esz es vs hne hcap (aC hLb (hL b)) hsz (λi j hi hj=>?_) ih;rw[hc b _ ?_]
  ·exact hcell i j hi hj
  ·have h1:=hsz i hi;have h2:(i+1)*esz≤es.length*esz:=aq _ hi;rw[bb]at h2;omega

def CRel(w:World)(L:Nat→Nat)(b off:Nat)(cs:List AV):Prop:=
 off+cs.length≤L b∧∃vs:List Value,All2 (DRel w L) vs cs∧∀j v,vs[j]?=some v→w.cell? ⟨b,off+j,none⟩=some v

theorem CRel.mono{w w':World}{L L':Nat→Nat}{b off:Nat}{cs:List AV}(hL:∀b,L b≤L' b)(hc:∀b off,off<L b→w'.cell? ⟨b,off,none⟩=w.cell? ⟨b,off,none⟩)(h:CRel w L b off cs):CRel w' L' b off cs:=by
 obtain⟨h1,vs,h2,h3⟩:=h;refine⟨aC h1 (hL b),vs,h2.mono λ_ _=>DRel.mono hL hc,λj v hj=>?_⟩;rw[hc b _ ?_]
 ·exact h3 j v hj
 ·have:=h2.length;have:j<vs.length:=(List.getElem?_eq_some_iff.1 hj).1;omega

theorem CRel.drop{w:World}{L:Nat→Nat}{b off:Nat}{cs:List AV}(n:Nat)(hn:n≤cs.length)(h:CRel w L b off cs):CRel w L b (off+n) (cs.drop n):=by obtain⟨h1,vs,h2,h3⟩:=h;refine⟨by simp;omega,vs.drop n,h2.drop n,λj v hj=>?_⟩;have:=h3 (n+j) v (by simpa using hj);rwa [show off+n+j=off+(n+j) by omega]

theorem DRel.elem{w:World}{L:Nat→Nat}{v:Value}{es:List (List AV)}(h:DRel w L v (.sl es .none)){i:Nat}(hi:i<es.length):
  ∃ b off cap,v=.slice (some ⟨b,off,none⟩) es.length cap∧es.length≤cap∧(∃ esz,(∀ k (hk:k<es.length),(es[k]).length=esz)) ∧
   ∀k (hk:k<es.length),CRel w L b (off+k*(es[i]).length) es[k]:=by
 cases h with
 |slE a cap=>simp at hi
 |sl b off cap esz _ vs hne hcap hLb hsz hcell hd=>
  refine⟨b,off,cap,rfl,hcap,⟨esz,hsz⟩,λk hk=>?_⟩;rw[hsz i hi];have h2:(k+1)*esz≤es.length*esz:=aq _ hk;rw[bb]at h2;refine⟨by rw[hsz k hk];omega,(List.range (es[k]).length).map (vs k),?_,?_⟩
  ·refine All2.of_get (by simp) λj x y hx hy=>?_;have hj:j<(es[k]).length:=(List.getElem?_eq_some_iff.1 hy).1;simp[List.getElem?_map,List.getElem?_range hj]at hx;have:(es[k])[j]=y:=(List.getElem?_eq_some_iff.1 hy).2;rw[←hx,←this];exact hd k j hk hj
  ·intro j x hx;have hj:j<(es[k]).length:=by have:=(List.getElem?_eq_some_iff.1 hx).1;simpa using this
   simp[List.getElem?_map,List.getElem?_range hj]at hx;rw[←hx];exact hcell k j hk hj

theorem DRel.slice_form{w:World}{L:Nat→Nat}{v:Value}{es:List (List AV)}(h:DRel w L v (.sl es .none)):∃a cap,v=.slice a es.length cap∧(es≠[]→es.length≤cap):=by
 cases h with
 |slE a cap=>exact⟨a,cap,rfl,by simp⟩
 |sl b off cap esz _ vs hne hcap hLb hsz hcell hd=>exact⟨_,cap,rfl,λ_=>hcap⟩

def SlF(v:Value)(n:Nat):Prop:=∃a cap,v=.slice a n cap∧(0<n→∃b,a=some ⟨b,0,none⟩)∧n≤cap
def ziP(size lo:Nat):Value→Value
 |.slice (some a) n c=>.slice (some (if c=lo then a else a.add (lo*size))) (n-lo) (c-lo)
 |.slice none n c=>.slice none (n-lo) (c-lo)
 |v=>v
def BRel(w:World)(G:Gh)(v:Value):AV→Prop
 |.unk=>True
 |.nilp=>v=.pointer none
 |.ptr id off=>∃b,G.μ[id]?=some (.blk b)∧v=.pointer (some ⟨b,off,none⟩)
 |.view cs=>∃b off,v=.pointer (some ⟨b,off,none⟩)∧CRel w G.L b off cs
 |.snil=>v=.slice none 0 0
 |.sl es .none=>DRel w G.L v (.sl es .none)
 |.sl es .full=>DRel w G.L v (.sl es .none)∧∃a,v=.slice a es.length es.length
 |.sl es (.own id)=>DRel w G.L v (.sl es .none)∧∃v' size n,G.μ[id]?=some (.own v' size n)∧es.length≤n∧(es.length=n→v=v'∧∀c∈es,c.length=size)
 |.ms id off len cap=>∃b,G.μ[id]?=some (.blk b)∧v=.slice (some ⟨b,off,none⟩) len cap
 |.map id=>∃b,G.μ[id]?=some (.blk b)∧v=.map (some b)
 |.ov id n=>SlF v n∧∃v' size n',G.μ[id]?=some (.own v' size n')∧n≤n'∧(n=n'→v=v')
 |.vp id n off=>(∃b o,v=.pointer (some ⟨b,o,none⟩))∧∃v' size n',G.μ[id]?=some (.own v' size n')∧n≤n'∧(n=n'→∃g,v'.ownBlock=some g∧v=.pointer (some ⟨g,off,none⟩))
 |.os id n lo esz=>(lo≤n∧∃a c,v=.slice a (n-lo) c∧n-lo≤c)∧∃v' size n',G.μ[id]?=some (.own v' size n')∧n≤n'∧(n=n'→v=ziP esz lo v')
 |.nilfn=>v=.nilFunc
 |.nili=>v=.nilIface
 |.ifc=>∃t x,v=.iface t x
 |.bool b=>v=.bool b
 |.int k n=>v=.int k n
 |.str s=>v=.string ⟨s.toArray⟩
 |_=>False

def ARel(w:World)(G:Gh)(v:Value):AV→Prop
 |.fn f caps=>∃vs:Array Value,v=.func (.func f) #[] vs∧All2 (BRel w G) vs.toList caps
 |a=>BRel w G v a

def VRel(w:World)(G:Gh)(v:Value):AV→Prop
 |.agg cs=>∃vs:Array Value,v=.agg vs∧All2 (ARel w G) vs.toList cs
 |a=>ARel w G v a

def TRel(w:World)(G:Gh)(v:Value):AV→Prop
 |.tup asx=>∃vs:Array Value,v=.tuple vs∧All2 (VRel w G) vs.toList asx
 |a=>VRel w G v a

def GI.le:GI→GI→Prop
 |.blk b,.blk b'=>b=b'
 |.own v size n,.own v' size' n'=>size=size'∧((v=v'∧n=n')∨n<n')
 |.gap,_=>True
 |_,_=>False

theorem GI.le_refl:∀ g:GI,g.le g
 |.blk _=>rfl
 |.own _ _ _=>⟨rfl,.inl ⟨rfl,rfl⟩⟩
 |.gap=>trivial
theorem GI.le_trans:∀ {a b c:GI},a.le b→b.le c→a.le c
 |.blk _,.blk _,.blk _,h,h'=>Eq.trans h h'
 |.own _ _ _,.own _ _ _,.own _ _ _,h,h'=>⟨h.1.trans h'.1,by
   rcases h.2 with ⟨rfl,rfl⟩|h1 <;> rcases h'.2 with ⟨rfl,rfl⟩|h2
   ·exact .inl ⟨rfl,rfl⟩
   ·exact .inr h2
   ·exact .inr h1
   ·exact .inr (Nat.lt_trans h1 h2)⟩
 |.own _ _ _,.blk _,_,h,_=>h.elim
 |.blk _,.own _ _ _,_,h,_=>h.elim
 |.gap,_,_,_,_=>trivial
 |.blk _,.gap,_,h,_=>h.elim
 |.own _ _ _,.gap,_,h,_=>h.elim

def ze4(G:Gh):Prop:=∃s n,G.μ[0]?=some (.own .nilFunc s n)
structure DR (w:World) (G:Gh) (w':World) (G':Gh):Prop where
 le:¬ze4 G→w.drawn≤w'.drawn
 nn:ze4 G'→ze4 G
theorem DR.same{w w':World}{G G':Gh}(h:w.drawn≤w'.drawn)(hμ:G'.μ=G.μ):DR w G w' G':=⟨λ_=>h,λhn=>by unfold ze4 at hn ⊢;rw[←hμ];exact hn⟩
theorem DR.app{w w':World}{G G':Gh}{xs:List GI}(h:w.drawn≤w'.drawn)(hμ:G'.μ=G.μ++xs)(hx:∀s n,xs[0]?≠some (.own .nilFunc s n)):DR w G w' G':=⟨λ_=>h,λhn=>by
 unfold ze4 at hn ⊢;obtain⟨s,n,hn⟩:=hn;rw[hμ]at hn;cases hg:G.μ with
 |nil=>rw[hg,List.nil_append]at hn;exact absurd hn (hx s n)
 |cons a l=>rw[hg]at hn;exact⟨s,n,by simpa using hn⟩⟩
theorem DR.set{w w':World}{G G':Gh}{id:Nat}{x:GI}(h:w.drawn≤w'.drawn)(hμ:G'.μ=G.μ.set id x)(hx:∀s n,x≠.own .nilFunc s n):DR w G w' G':=⟨λ_=>h,λhn=>by
 unfold ze4 at hn ⊢;obtain⟨s,n,hn⟩:=hn;rw[hμ,List.getElem?_set]at hn;split at hn
 ·split at hn
  ·cases hn;exact absurd rfl (hx s n)
  ·cases hn
 ·exact⟨s,n,hn⟩⟩
theorem DR.trans{w w' w'':World}{G G' G'':Gh}(h:DR w G w' G')(h':DR w' G' w'' G''):DR w G w'' G'':=⟨λhn=>aC (h.le hn) (h'.le λk=>hn (h.nn k)),λk=>h.nn (h'.nn k)⟩
structure Ext (B:Nat) (w:World) (G:Gh) (w':World) (G':Gh):Prop where
 dr:DR w G w' G'
 below:Below B w w'
 lev:∀b,G.L b≤G'.L b
 cell:∀b off,off<G.L b→w'.cell? ⟨b,off,none⟩=w.cell? ⟨b,off,none⟩
 ids:∀(id:Nat) gi,G.μ[id]?=some gi→∃gi',G'.μ[id]?=some gi'∧gi.le gi'

theorem Ext.refl(B:Nat)(w:World)(G:Gh):Ext B w G w G:=⟨DR.same (aa _) rfl,Below.refl _ _,λ_=>aa _,λ_ _ _=>rfl,λ_ gi h=>⟨gi,h,gi.le_refl⟩⟩
theorem Ext.trans{B:Nat}{w w' w'':World}{G G' G'':Gh}(h:Ext B w G w' G')(h':Ext B w' G' w'' G''):Ext B w G w'' G'':=
 ⟨h.dr.trans h'.dr,h.below.trans h'.below,λb=>aC (h.lev b) (h'.lev b),λb off ho=>(h'.cell b off (a7 ho (h.lev b))).trans (h.cell b off ho),
  λid gi hg=>by
   obtain⟨g1,h1,l1⟩:=h.ids id gi hg;obtain⟨g2,h2,l2⟩:=h'.ids id g1 h1;exact⟨g2,h2,GI.le_trans l1 l2⟩⟩

section
variable {B:Nat} {w w':World} {G G':Gh} {v:Value}
theorem Ext.drel(h:Ext B w G w' G'){a:AV}(hr:DRel w G.L v a):DRel w' G'.L v a:=hr.mono h.lev h.cell
theorem Ext.blk(h:Ext B w G w' G'){id b:Nat}(hb:G.μ[id]?=some (.blk b)):G'.μ[id]?=some (.blk b):=by
 obtain⟨g,h1,h2⟩:=h.ids id _ hb;cases g with
 |blk b'=>cases h2;exact h1
 |own _ _ _=>exact h2.elim
 |gap=>exact h2.elim
theorem Ext.brel(h:Ext B w G w' G'):∀ {a:AV},BRel w G v a→BRel w' G' v a
 |.unk,_=>trivial
 |.nilp,hr=>hr
 |.ptr _ _,⟨b,h1,h2⟩=>⟨b,h.blk h1,h2⟩
 |.view _,⟨b,off,h1,h2⟩=>⟨b,off,h1,h2.mono h.lev h.cell⟩
 |.snil,hr=>hr
 |.sl _ .none,hr=>h.drel hr
 |.sl _ .full,hr=>⟨h.drel hr.1,hr.2⟩
 |.sl es (.own id),⟨hr,v',size,n,hμ,hle,heq⟩=>by
  refine⟨h.drel hr,?_⟩;obtain⟨g,h1,h2⟩:=h.ids id _ hμ;cases g with
  |blk b=>exact h2.elim
  |gap=>exact h2.elim
  |own v2 s2 n2=>
   obtain⟨rfl,⟨rfl,rfl⟩|hlt⟩:=h2
   ·exact⟨v',size,n,h1,hle,heq⟩
   ·exact⟨v2,size,n2,h1,by omega,λe=>by omega⟩
 |.ms _ _ _ _,⟨b,h1,h2⟩=>⟨b,h.blk h1,h2⟩
 |.ov id n,⟨hr,v',size,n',hμ,hle,heq⟩=>by
  refine⟨hr,?_⟩;obtain⟨g,h1,h2⟩:=h.ids id _ hμ;cases g with
  |blk b=>exact h2.elim
  |gap=>exact h2.elim
  |own v2 s2 n2=>
   obtain⟨rfl,⟨rfl,rfl⟩|hlt⟩:=h2
   ·exact⟨v',size,n',h1,hle,heq⟩
   ·exact⟨v2,size,n2,h1,by omega,λe=>by omega⟩
 |.vp id n off,⟨hr,v',size,n',hμ,hle,heq⟩=>by
  refine⟨hr,?_⟩;obtain⟨g,h1,h2⟩:=h.ids id _ hμ;cases g with
  |blk b=>exact h2.elim
  |gap=>exact h2.elim
  |own v2 s2 n2=>
   obtain⟨rfl,⟨rfl,rfl⟩|hlt⟩:=h2
   ·exact⟨v',size,n',h1,hle,heq⟩
   ·exact⟨v2,size,n2,h1,by omega,λe=>by omega⟩
 |.os id n lo esz,⟨hr,v',size,n',hμ,hle,heq⟩=>by
  refine⟨hr,?_⟩;obtain⟨g,h1,h2⟩:=h.ids id _ hμ;cases g with
  |blk b=>exact h2.elim
  |gap=>exact h2.elim
  |own v2 s2 n2=>
   obtain⟨rfl,⟨rfl,rfl⟩|hlt⟩:=h2
   ·exact⟨v',size,n',h1,hle,heq⟩
   ·exact⟨v2,size,n2,h1,by omega,λe=>by omega⟩
 |.map _,⟨b,h1,h2⟩=>⟨b,h.blk h1,h2⟩
 |.nilfn,hr=>hr
 |.nili,hr=>hr
 |.ifc,hr=>hr
 |.bool _,hr=>hr
 |.int _ _,hr=>hr
 |.str _,hr=>hr
 |.fn _ _,hr=>hr.elim
 |.agg _,hr=>hr.elim
 |.tup _,hr=>hr.elim
theorem ARel.of_b{a:AV}(h:BRel w G v a):ARel w G v a:=by cases a <;> first|exact h|exact h.elim
theorem VRel.of_a{a:AV}(h:ARel w G v a):VRel w G v a:=by cases a <;> first|exact h|exact h.elim
theorem TRel.of_v{a:AV}(h:VRel w G v a):TRel w G v a:=by cases a <;> first|exact h|exact h.elim
theorem Ext.arel(h:Ext B w G w' G'){a:AV}(hr:ARel w G v a):ARel w' G' v a:=by
 cases a with
 |fn f caps=>obtain⟨vs,h1,h2⟩:=hr;exact⟨vs,h1,h2.mono λ_ _=>h.brel⟩
 |_=>exact ARel.of_b (h.brel hr)
theorem Ext.vrel(h:Ext B w G w' G'){a:AV}(hr:VRel w G v a):VRel w' G' v a:=by
 cases a with
 |agg cs=>obtain⟨vs,h1,h2⟩:=hr;exact⟨vs,h1,h2.mono λ_ _=>h.arel⟩
 |_=>exact VRel.of_a (h.arel hr)
theorem Ext.trel(h:Ext B w G w' G'){a:AV}(hr:TRel w G v a):TRel w' G' v a:=by
 cases a with
 |tup cs=>obtain⟨vs,h1,h2⟩:=hr;exact⟨vs,h1,h2.mono λ_ _=>h.vrel⟩
 |_=>exact TRel.of_v (h.vrel hr)
end

def ERel(w:World)(G:Gh)(e:MapEntry)(p:List UInt8×AV):Prop:=e.key=.string ⟨p.1.toArray⟩∧VRel w G e.val p.2
theorem Ext.erel{B:Nat}{w w':World}{G G':Gh}(h:Ext B w G w' G'){e:MapEntry}{p:List UInt8×AV}(hr:ERel w G e p):ERel w' G' e p:=⟨hr.1,h.vrel hr.2⟩
def zbW(p:Int×Int):Value:=.agg #[.int .i64 p.1,.int .i64 p.2]
def ERelP(w:World)(G:Gh)(e:MapEntry)(p:(Int×Int)×AV):Prop:=e.key=zbW p.1∧VRel w G e.val p.2
theorem Ext.erelP{B:Nat}{w w':World}{G G':Gh}(h:Ext B w G w' G'){e:MapEntry}{p:(Int×Int)×AV}(hr:ERelP w G e p):ERelP w' G' e p:=⟨hr.1,h.vrel hr.2⟩
def GI.block:GI→Option Nat
 |.blk b=>some b
 |.own v _ _=>v.ownBlock
 |.gap=>none

def BlkOK(B:Nat)(w:World)(G:Gh):AB→GI→Prop
 |.cells cs,.blk b=>B≤b∧G.L b=0∧∃(vs:Array Value) (e:TypeId),w.heap[b]?=some (.cells vs e (0,0))∧All2 (ARel w G) vs.toList cs
 |.perm e s n,.own v size n'=>s=size∧n=n'∧(∃xs,w.ownsRow B e size v n xs)∧∀b,v.ownBlock=some b→G.L b=n*size
 |.map kvs,.blk b=>B≤b∧G.L b=0∧∃(es:Array MapEntry) (clk:Nat),w.heap[b]?=some (.map es clk)∧All2 (ERel w G) es.toList kvs
 |.mapP kvs,.blk b=>B≤b∧G.L b=0∧∃(es:Array MapEntry) (clk:Nat),w.heap[b]?=some (.map es clk)∧All2 (ERelP w G) es.toList kvs
 |.gap,.gap=>True
 |.nodr,.own v _ _=>v=.nilFunc
 |.fact φ,.gap=>∀w',Below B w w'→φ w'
 |.vec e s n cs,.own v size n'=>s=size∧n=n'∧(∃xs,w.ownsRow B e size v n xs∧All2 (ARel w G) xs cs)∧∀b,v.ownBlock=some b→G.L b=0
 |.bld t cs,.blk b=>B≤b∧G.L b=0∧∃vs:Array Value,w.heap[b]?=some (.cells vs t (0,0))∧All2 (ARel w G) vs.toList cs
 |.dead,.own v _ _=>∀b,v.ownBlock=some b→∃(vs:Array Value) (e:TypeId) (fr:Nat×Nat),w.heap[b]?=some (.cells vs e fr)∧G.L b≤vs.size
 |.frz e s n,.own v s' n'=>∃(g cap:Nat) (vs:Array Value) (fr:Nat×Nat),s=s'∧n=n'∧v=.slice (some ⟨g,0,none⟩) n cap∧w.heap[g]?=some (.cells vs e fr)∧B≤g∧G.L g=n*s∧n≤cap∧cap≤maxLen∧vs.size=cap*s
 |.dead,.blk b=>∃(vs:Array Value) (e:TypeId) (fr:Nat×Nat),w.heap[b]?=some (.cells vs e fr)∧G.L b≤vs.size
 |_,_=>False

structure HRel (B:Nat) (w:World) (G:Gh) (H:zaa):Prop where
 len:G.μ.length=H.length
 ok:∀(id:Nat) ab gi,H[id]?=some ab→G.μ[id]?=some gi→BlkOK B w G ab gi
 dist:∀(id id':Nat) gi gi' b,G.μ[id]?=some gi→G.μ[id']?=some gi'→gi.block=some b→gi'.block=some b→id=id'
 fresh:∀b,w.heap.size≤b→G.L b=0
 lt:∀(id:Nat) gi b,G.μ[id]?=some gi→gi.block=some b→b<w.heap.size
 base:B≤w.heap.size

def FRel(w:World)(G:Gh)(tm:Array Value)(F:List AV):Prop:=All2 (TRel w G) tm.toList F

end
section
open Go.RowKit

variable {B:Nat} {w w':World} {G G':Gh} {H:zaa}

theorem BlkOK.keep{ab:AB}{gi:GI}(h:BlkOK B w G ab gi)(he:Ext B w G w' G')(hb:∀b,gi.block=some b→w'.heap[b]?=w.heap[b]?∧G'.L b=G.L b):BlkOK B w' G' ab gi:=by
 cases ab with
 |cells cs=>
  cases gi with
  |blk b=>obtain⟨h1,h2,vs,e,h3,h4⟩:=h;obtain⟨k1,k2⟩:=hb b rfl;exact⟨h1,by rw[k2];exact h2,vs,e,by rw[k1];exact h3,h4.mono λ_ _=>he.arel⟩
  |own v s n=>exact h.elim
  |gap=>exact h.elim
 |perm e s0 n=>
  cases gi with
  |blk b=>exact h.elim
  |gap=>exact h.elim
  |own v s n'=>
   obtain⟨rfl,rfl,⟨xs,hl,hx⟩,h2⟩:=h;refine⟨rfl,rfl,⟨xs,hl,?_⟩,λb hbb=>by rw[(hb b hbb).2];exact h2 b hbb⟩;rcases hx with hx|⟨g,cap,cur,rfl,h3,h4,h5⟩
   ·exact .inl hx
   ·exact .inr ⟨g,cap,cur,rfl,h3,by rw[(hb g rfl).1];exact h4,h5⟩
 |vec e s0 n cs=>
  cases gi with
  |blk b=>exact h.elim
  |gap=>exact h.elim
  |own v s n'=>
   obtain⟨rfl,rfl,⟨xs,⟨hl,hx⟩,hr⟩,h2⟩:=h;refine⟨rfl,rfl,⟨xs,⟨hl,?_⟩,hr.mono λ_ _=>he.arel⟩,λb hbb=>by rw[(hb b hbb).2];exact h2 b hbb⟩;rcases hx with hx|⟨g,cap,cur,rfl,h3,h4,h5⟩
   ·exact .inl hx
   ·exact .inr ⟨g,cap,cur,rfl,h3,by rw[(hb g rfl).1];exact h4,h5⟩
 |map kvs=>
  cases gi with
  |blk b=>obtain⟨h1,h2,es,clk,h3,h4⟩:=h;obtain⟨k1,k2⟩:=hb b rfl;exact⟨h1,by rw[k2];exact h2,es,clk,by rw[k1];exact h3,h4.mono λ_ _=>he.erel⟩
  |own v s n=>exact h.elim
  |gap=>exact h.elim
 |mapP kvs=>
  cases gi with
  |blk b=>obtain⟨h1,h2,es,clk,h3,h4⟩:=h;obtain⟨k1,k2⟩:=hb b rfl;exact⟨h1,by rw[k2];exact h2,es,clk,by rw[k1];exact h3,h4.mono λ_ _=>he.erelP⟩
  |own v s n=>exact h.elim
  |gap=>exact h.elim
 |gap=>
  cases gi with
  |blk b=>exact h.elim
  |own v s n=>exact h.elim
  |gap=>exact h
 |bld t cs=>
  cases gi with
  |blk b=>obtain⟨h1,h2,vs,h3,h4⟩:=h;obtain⟨k1,k2⟩:=hb b rfl;exact⟨h1,by rw[k2];exact h2,vs,by rw[k1];exact h3,h4.mono λ_ _=>he.arel⟩
  |own v s n=>exact h.elim
  |gap=>exact h.elim
 |frz e s n=>
  cases gi with
  |blk b=>exact h.elim
  |own v s' n'=>obtain⟨g,cap,vs,fr,rfl,rfl,rfl,h1,h2,h3,h4⟩:=h;exact⟨g,cap,vs,fr,rfl,rfl,rfl,by rw[(hb g rfl).1];exact h1,h2,by rw[(hb g rfl).2];exact h3,h4⟩
  |gap=>exact h.elim
 |nodr=>
  cases gi with
  |blk b=>exact h.elim
  |own v s n=>exact h
  |gap=>exact h.elim
 |fact φ=>
  cases gi with
  |blk b=>exact h.elim
  |own v s n=>exact h.elim
  |gap=>exactλw'' h'=>h w'' (he.below.trans h')
 |dead=>
  cases gi with
  |blk b=>obtain⟨vs,e,fr,h1,h2⟩:=h;exact⟨vs,e,fr,by rw[(hb b rfl).1];exact h1,by rw[(hb b rfl).2];exact h2⟩
  |own v s n=>intro b hbb;obtain⟨vs,e,fr,h1,h2⟩:=h b hbb;exact⟨vs,e,fr,by rw[(hb b hbb).1];exact h1,by rw[(hb b hbb).2];exact h2⟩
  |gap=>exact h.elim

theorem HRel.keep(h:HRel B w G H)(he:Ext B w G w' G')(hμ:G'.μ=G.μ)(hb:∀ (id:Nat) gi b,G.μ[id]?=some gi→gi.block=some b→w'.heap[b]?=w.heap[b]?∧G'.L b=G.L b)(hf:∀ b,w'.heap.size≤b→G'.L b=0):HRel B w' G' H where
 len:=by rw[hμ];exact h.len
 ok:=λid ab gi h1 h2=>by rw[hμ]at h2;exact(h.ok id ab gi h1 h2).keep he (λb hbb=>hb id gi b h2 hbb)
 dist:=λid id' gi gi' b h1 h2=>by rw[hμ]at h1 h2;exact h.dist id id' gi gi' b h1 h2
 fresh:=hf
 lt:=λid gi b h1 h2=>by rw[hμ]at h1;exact a7 (h.lt id gi b h1 h2) he.below.size
 base:=aC h.base he.below.size

theorem Ext.drew(B:Nat)(w:World)(G:Gh)(n:Nat)(hn:w.drawn≤n):Ext B w G { w with drawn:=n } G:=
 ⟨DR.same hn rfl,⟨rfl,rfl,rfl,aa _,λ_ _=>rfl⟩,λ_=>aa _,λ_ _ _=>rfl,λ_ gi h=>⟨gi,h,gi.le_refl⟩⟩
theorem HRel.drew(h:HRel B w G H)(n:Nat)(hn:w.drawn≤n):HRel B { w with drawn:=n } G H:=
 h.keep (Ext.drew B w G n hn) rfl (λ_ _ _ _ _=>⟨rfl,rfl⟩) h.fresh

theorem zdp{o:Obj}{b:Nat}(hb:b<w.heap.size):(w.alloc o).heap[b]?=w.heap[b]?:=Below.heap_alloc w o b hb
theorem zcj(o:Obj):(w.alloc o).heap.size=w.heap.size+1:=by simp only[World.alloc,Array.size_push]
theorem zeF(o:Obj):(w.alloc o).heap[w.heap.size]?=some o:=by simp only[World.alloc,Array.getElem?_push_size]

theorem zwz{a:Addr}(h:a.block<w.heap.size)(o:Obj):(w.alloc o).cell? a=w.cell? a:=World.cell?_alloc_lt _ _ _ h

theorem zhS(h:HRel B w G H){b off:Nat}(ho:off<G.L b):b<w.heap.size:=by
 by_cases hb:b<w.heap.size
 ·exact hb
 ·have:=h.fresh b (by omega);omega

theorem Ext.alloc(h:HRel B w G H)(o:Obj)(L':Nat→Nat)(hL:∀ b,b≠w.heap.size→L' b=G.L b)(xs:List GI)(hx:∀ s n,xs[0]?≠some (.own .nilFunc s n):=by simp):
  Ext B w G (w.alloc o) ⟨L',G.μ++xs⟩ where
 dr:=DR.app (aa _) rfl hx
 below:=(Below.refl _ _).alloc h.base o
 lev:=λb=>by
  by_cases hb:b=w.heap.size
  ·subst hb;rw[h.fresh _ (aa _)];exact bz _
  ·show G.L b≤L' b;rw[hL b hb];exact aa _
 cell:=λb off ho=>zwz (a:=⟨b,off,none⟩) (zhS h ho) o
 ids:=λid gi hg=>⟨gi,by
  have:id<G.μ.length:=(List.getElem?_eq_some_iff.1 hg).1;simp only[];rw[List.getElem?_append_left this];exact hg,gi.le_refl⟩

theorem HRel.new(h:HRel B w G H)(vs:Array Value)(e:TypeId)(cs:List AV)(hc:All2 (ARel w G) vs.toList cs):
  Ext B w G (w.alloc (.cells vs e)) ⟨G.L,G.μ++[.blk w.heap.size]⟩∧HRel B (w.alloc (.cells vs e)) ⟨G.L,G.μ++[.blk w.heap.size]⟩ (H++[.cells cs]):=by
 have he:=Ext.alloc h (.cells vs e) G.L (λ_ _=>rfl) [.blk w.heap.size];refine⟨he,?_⟩;have split:∀(id:Nat) gi,(G.μ++[.blk w.heap.size])[id]?=some gi→G.μ[id]?=some gi∨(id=G.μ.length∧gi=.blk w.heap.size):=by
  intro id gi hg;by_cases hlt:id<G.μ.length
  ·rw[List.getElem?_append_left hlt]at hg;exact .inl hg
  ·have hlt2:=(List.getElem?_eq_some_iff.1 hg).1;simp at hlt2;have:id=G.μ.length:=by omega
   subst this;simp at hg;exact .inr ⟨rfl,hg.symm⟩
 refine⟨by simp[h.len],?_,?_,?_,?_,?_⟩
 ·intro id ab gi h1 h2;rcases split id gi h2 with h2 | ⟨rfl,rfl⟩
  ·have hlt:id<H.length:=by rw[←h.len];exact (List.getElem?_eq_some_iff.1 h2).1
   rw[List.getElem?_append_left hlt]at h1;exact(h.ok id ab gi h1 h2).keep he (λb hb=>⟨zdp (h.lt id gi b h2 hb),rfl⟩)
  ·rw[h.len]at h1;simp at h1;subst h1;exact⟨h.base,h.fresh _ (aa _),vs,e,zeF _,hc.mono λ_ _=>he.arel⟩
 ·intro id id' gi gi' b h1 h2 h3 h4;rcases split id gi h1 with h1 | ⟨rfl,rfl⟩ <;> rcases split id' gi' h2 with h2 | ⟨rfl,rfl⟩
  ·exact h.dist id id' gi gi' b h1 h2 h3 h4
  ·have:=h.lt id gi b h1 h3;simp[GI.block]at h4;omega
  ·have:=h.lt id' gi' b h2 h4;simp[GI.block]at h3;omega
  ·rfl
 ·intro b hb;rw[zcj]at hb;exact h.fresh b (by omega)
 ·intro id gi b h1 h2;rw[zcj];rcases split id gi h1 with h1 | ⟨rfl,rfl⟩
  ·have:=h.lt id gi b h1 h2;omega
  ·simp[GI.block]at h2;omega
 ·rw[zcj];have:=h.base;omega

theorem HRel.frozen(h:HRel B w G H)(vs:Array Value)(e:TypeId)(n:Nat):
  Ext B w G (w.alloc (.cells vs e)) ⟨λb=>if b=w.heap.size then n else G.L b,G.μ⟩ ∧
   HRel B (w.alloc (.cells vs e)) ⟨λb=>if b=w.heap.size then n else G.L b,G.μ⟩ H:=by
 have he:=Ext.alloc h (.cells vs e) (λb=>if b=w.heap.size then n else G.L b) (λb hb=>by simp[hb]) [];simp only[aE]at he;refine⟨he,h.keep he rfl (λid gi b h1 h2=>?_) (λb hb=>?_)⟩
 ·have:=h.lt id gi b h1 h2;exact⟨zdp this,by simp;intro;omega⟩
 ·rw[zcj]at hb;have:b≠w.heap.size:=by omega
  simp[this,h.fresh b (by omega)]

theorem zg2{g k:Nat}(cs:Array Value)(h:k≠g):(w.setRow g cs).heap[k]?=w.heap[k]?:=setRow_other w g k cs h

theorem zgV{w w':World}{b off:Nat}(h:w'.heap[b]?=w.heap[b]?):w'.cell? ⟨b,off,none⟩=w.cell? ⟨b,off,none⟩:=World.cell?_of_block (a:=⟨b,off,none⟩) h

theorem HRel.store(h:HRel B w G H){id b:Nat}{cs cs':List AV}{vs vs':Array Value}{e:TypeId}(hH:H[id]?=some (.cells cs))(hμ:G.μ[id]?=some (.blk b))(hw:w.heap[b]?=some (.cells vs e (0,0)))(hB:B≤b)(hc:All2 (ARel w G) vs'.toList cs'):
  Ext B w G (w.setRow b vs') G∧HRel B (w.setRow b vs') G (H.set id (.cells cs')):=by
 have hL:G.L b=0:=by have:=h.ok id _ _ hH hμ;exact this.2.1
 have hsz:(w.setRow b vs').heap.size=w.heap.size:=by simp[World.setRow]
 have he:Ext B w G (w.setRow b vs') G:=by
  refine⟨DR.same (aa _) rfl,⟨rfl,rfl,rfl,by rw[hsz];exact aa _,λk hk=>zg2 _ (by omega)⟩,λ_=>aa _,λx off ho=>?_,λ_ gi h=>⟨gi,h,gi.le_refl⟩⟩;have:x≠b:=by intro hx;subst hx;omega
  exact zgV (zg2 _ this)
 refine⟨he,by simp[h.len],?_,h.dist,by rw[hsz];exact h.fresh,by rw[hsz];exact h.lt,by rw[hsz];exact h.base⟩;intro id' ab gi h1 h2;by_cases hid:id'=id
 ·subst hid;rw[hμ]at h2;cases h2;have hlt:id'<H.length:=(List.getElem?_eq_some_iff.1 hH).1;rw[List.getElem?_set_self hlt]at h1;cases h1;exact⟨hB,hL,vs',e,setRow_heap w b vs vs' e _ hw,hc.mono λ_ _=>he.arel⟩
 ·rw[List.getElem?_set_ne (λh=>hid h.symm)]at h1;refine(h.ok id' ab gi h1 h2).keep he (λx hx=>⟨zg2 _ ?_,rfl⟩);intro hxb;subst hxb;exact hid (h.dist id' id gi _ x h2 hμ hx rfl)

theorem HRel.storeV(h:HRel B w G H){id e size n g cap:Nat}{cs cs':List AV}{cur cur':Array Value}{xs':List Value}(hH:H[id]?=some (.vec e size n cs))(hμ:G.μ[id]?=some (.own (.slice (some ⟨g,0,none⟩) n cap) size n))(hw:w.heap[g]?=some (.cells cur e (0,0)))(hB:B≤g)(hcap:n≤cap)(hcm:cap≤maxLen)(hsz:cur'.size=cap*size)(htake:cur'.toList.take (n*size)=xs')(hxl:xs'.length=n*size)(hc:All2 (ARel w G) xs' cs'):
  Ext B w G (w.setRow g cur') G∧HRel B (w.setRow g cur') G (H.set id (.vec e size n cs')):=by
 obtain⟨_,_,_,hL0⟩:=h.ok id _ _ hH hμ;have hL:G.L g=0:=hL0 g rfl;have hsz':(w.setRow g cur').heap.size=w.heap.size:=by simp[World.setRow]
 have he:Ext B w G (w.setRow g cur') G:=by
  refine⟨DR.same (aa _) rfl,⟨rfl,rfl,rfl,by rw[hsz'];exact aa _,λk hk=>zg2 _ (by omega)⟩,λ_=>aa _,λx off ho=>?_,λ_ gi h=>⟨gi,h,gi.le_refl⟩⟩;have:x≠g:=by intro hx;subst hx;omega
  exact zgV (zg2 _ this)
 refine⟨he,by simp[h.len],?_,h.dist,by rw[hsz'];exact h.fresh,by rw[hsz'];exact h.lt,by rw[hsz'];exact h.base⟩;intro id' ab gi h1 h2;by_cases hid:id'=id
 ·subst hid;rw[hμ]at h2;cases h2;have hlt:id'<H.length:=(List.getElem?_eq_some_iff.1 hH).1;rw[List.getElem?_set_self hlt]at h1;cases h1;exact⟨rfl,rfl,⟨xs',⟨hxl,.inr ⟨g,cap,cur',rfl,hB,setRow_heap w g cur cur' e _ hw,hcap,hcm,hsz,htake⟩⟩,hc.mono λ_ _=>he.arel⟩,hL0⟩
 ·rw[List.getElem?_set_ne (λh=>hid h.symm)]at h1;refine(h.ok id' ab gi h1 h2).keep he (λx hx=>⟨zg2 _ ?_,rfl⟩);intro hxb;subst hxb;exact hid (h.dist id' id gi _ x h2 hμ hx rfl)

theorem HRel.newMap(h:HRel B w G H):
  Ext B w G (w.alloc (.map #[] 0)) ⟨G.L,G.μ++[.blk w.heap.size]⟩∧HRel B (w.alloc (.map #[] 0)) ⟨G.L,G.μ++[.blk w.heap.size]⟩ (H++[.map []]):=by
 have he:=Ext.alloc h (.map #[] 0) G.L (λ_ _=>rfl) [.blk w.heap.size];refine⟨he,?_⟩;have split:∀(id:Nat) gi,(G.μ++[.blk w.heap.size])[id]?=some gi→G.μ[id]?=some gi∨(id=G.μ.length∧gi=.blk w.heap.size):=by
  intro id gi hg;by_cases hlt:id<G.μ.length
  ·rw[List.getElem?_append_left hlt]at hg;exact .inl hg
  ·have hlt2:=(List.getElem?_eq_some_iff.1 hg).1;simp at hlt2;have:id=G.μ.length:=by omega
   subst this;simp at hg;exact .inr ⟨rfl,hg.symm⟩
 refine⟨by simp[h.len],?_,?_,?_,?_,?_⟩
 ·intro id ab gi h1 h2;rcases split id gi h2 with h2 | ⟨rfl,rfl⟩
  ·have hlt:id<H.length:=by rw[←h.len];exact (List.getElem?_eq_some_iff.1 h2).1
   rw[List.getElem?_append_left hlt]at h1;exact(h.ok id ab gi h1 h2).keep he (λb hb=>⟨zdp (h.lt id gi b h2 hb),rfl⟩)
  ·rw[h.len]at h1;simp at h1;subst h1;exact⟨h.base,h.fresh _ (aa _),#[],0,zeF _,trivial⟩
 ·intro id id' gi gi' b h1 h2 h3 h4;rcases split id gi h1 with h1 | ⟨rfl,rfl⟩ <;> rcases split id' gi' h2 with h2 | ⟨rfl,rfl⟩
  ·exact h.dist id id' gi gi' b h1 h2 h3 h4
  ·have:=h.lt id gi b h1 h3;simp[GI.block]at h4;omega
  ·have:=h.lt id' gi' b h2 h4;simp[GI.block]at h3;omega
  ·rfl
 ·intro b hb;rw[zcj]at hb;exact h.fresh b (by omega)
 ·intro id gi b h1 h2;rw[zcj];rcases split id gi h1 with h1 | ⟨rfl,rfl⟩
  ·have:=h.lt id gi b h1 h2;omega
  ·simp[GI.block]at h2;omega
 ·rw[zcj];have:=h.base;omega

theorem HRel.storeMap(h:HRel B w G H){id b:Nat}{kvs kvs':List (List UInt8 × AV)}{es es':Array MapEntry}{clk clk':Nat}(hH:H[id]?=some (.map kvs))(hμ:G.μ[id]?=some (.blk b))(hw:w.heap[b]?=some (.map es clk))(hc:All2 (ERel w G) es'.toList kvs'):
  Ext B w G { w with heap:=w.heap.setIfInBounds b (.map es' clk') } G∧HRel B { w with heap:=w.heap.setIfInBounds b (.map es' clk') } G (H.set id (.map kvs')):=by
 obtain⟨hB,hL,_⟩:=h.ok id _ _ hH hμ;have hlt:b<w.heap.size:=(Array.getElem?_eq_some_iff.1 hw).1;have oth:∀k,k≠b→(w.heap.setIfInBounds b (.map es' clk'))[k]?=w.heap[k]?:=λk hk=>by simp[Ne.symm hk]
 have hsz:(w.heap.setIfInBounds b (.map es' clk')).size=w.heap.size:=by simp
 have he:Ext B w G { w with heap:=w.heap.setIfInBounds b (.map es' clk') } G:=by
  refine⟨DR.same (aa _) rfl,⟨rfl,rfl,rfl,by show w.heap.size≤(w.heap.setIfInBounds b (.map es' clk')).size;rw[hsz];exact aa _,λk hk=>oth k (by omega)⟩,λ_=>aa _,λx off ho=>?_,λ_ gi h=>⟨gi,h,gi.le_refl⟩⟩;have:x≠b:=by intro hx;subst hx;omega
  exact zgV (oth x this)
 refine⟨he,by simp[h.len],?_,h.dist,λx hx=>h.fresh x (by simpa using hx),λi gi x h1 h2=>by have:=h.lt i gi x h1 h2;simpa using this,by have:=h.base;simpa using this⟩;intro id' ab gi h1 h2;by_cases hid:id'=id
 ·subst hid;rw[hμ]at h2;cases h2;have hlt':id'<H.length:=(List.getElem?_eq_some_iff.1 hH).1;rw[List.getElem?_set_self hlt']at h1;cases h1;exact⟨hB,hL,es',clk',by simp[hlt],hc.mono λ_ _=>he.erel⟩
 ·rw[List.getElem?_set_ne (λh=>hid h.symm)]at h1;refine(h.ok id' ab gi h1 h2).keep he (λx hx=>⟨oth x ?_,rfl⟩);intro hxb;subst hxb;exact hid (h.dist id' id gi _ x h2 hμ hx rfl)

theorem HRel.newMapP(h:HRel B w G H):
  Ext B w G (w.alloc (.map #[] 0)) ⟨G.L,G.μ++[.blk w.heap.size]⟩∧HRel B (w.alloc (.map #[] 0)) ⟨G.L,G.μ++[.blk w.heap.size]⟩ (H++[.mapP []]):=by
 have he:=Ext.alloc h (.map #[] 0) G.L (λ_ _=>rfl) [.blk w.heap.size];refine⟨he,?_⟩;have split:∀(id:Nat) gi,(G.μ++[.blk w.heap.size])[id]?=some gi→G.μ[id]?=some gi∨(id=G.μ.length∧gi=.blk w.heap.size):=by
  intro id gi hg;by_cases hlt:id<G.μ.length
  ·rw[List.getElem?_append_left hlt]at hg;exact .inl hg
  ·have hlt2:=(List.getElem?_eq_some_iff.1 hg).1;simp at hlt2;have:id=G.μ.length:=by omega
   subst this;simp at hg;exact .inr ⟨rfl,hg.symm⟩
 refine⟨by simp[h.len],?_,?_,?_,?_,?_⟩
 ·intro id ab gi h1 h2;rcases split id gi h2 with h2 | ⟨rfl,rfl⟩
  ·have hlt:id<H.length:=by rw[←h.len];exact (List.getElem?_eq_some_iff.1 h2).1
   rw[List.getElem?_append_left hlt]at h1;exact(h.ok id ab gi h1 h2).keep he (λb hb=>⟨zdp (h.lt id gi b h2 hb),rfl⟩)
  ·rw[h.len]at h1;simp at h1;subst h1;exact⟨h.base,h.fresh _ (aa _),#[],0,zeF _,trivial⟩
 ·intro id id' gi gi' b h1 h2 h3 h4;rcases split id gi h1 with h1 | ⟨rfl,rfl⟩ <;> rcases split id' gi' h2 with h2 | ⟨rfl,rfl⟩
  ·exact h.dist id id' gi gi' b h1 h2 h3 h4
  ·have:=h.lt id gi b h1 h3;simp[GI.block]at h4;omega
  ·have:=h.lt id' gi' b h2 h4;simp[GI.block]at h3;omega
  ·rfl
 ·intro b hb;rw[zcj]at hb;exact h.fresh b (by omega)
 ·intro id gi b h1 h2;rw[zcj];rcases split id gi h1 with h1 | ⟨rfl,rfl⟩
  ·have:=h.lt id gi b h1 h2;omega
  ·simp[GI.block]at h2;omega
 ·rw[zcj];have:=h.base;omega

theorem HRel.storeMapP(h:HRel B w G H){id b:Nat}{kvs kvs':List ((Int × Int) × AV)}{es es':Array MapEntry}{clk clk':Nat}(hH:H[id]?=some (.mapP kvs))(hμ:G.μ[id]?=some (.blk b))(hw:w.heap[b]?=some (.map es clk))(hc:All2 (ERelP w G) es'.toList kvs'):
  Ext B w G { w with heap:=w.heap.setIfInBounds b (.map es' clk') } G∧HRel B { w with heap:=w.heap.setIfInBounds b (.map es' clk') } G (H.set id (.mapP kvs')):=by
 obtain⟨hB,hL,_⟩:=h.ok id _ _ hH hμ;have hlt:b<w.heap.size:=(Array.getElem?_eq_some_iff.1 hw).1;have oth:∀k,k≠b→(w.heap.setIfInBounds b (.map es' clk'))[k]?=w.heap[k]?:=λk hk=>by simp[Ne.symm hk]
 have hsz:(w.heap.setIfInBounds b (.map es' clk')).size=w.heap.size:=by simp
 have he:Ext B w G { w with heap:=w.heap.setIfInBounds b (.map es' clk') } G:=by
  refine⟨DR.same (aa _) rfl,⟨rfl,rfl,rfl,by show w.heap.size≤(w.heap.setIfInBounds b (.map es' clk')).size;rw[hsz];exact aa _,λk hk=>oth k (by omega)⟩,λ_=>aa _,λx off ho=>?_,λ_ gi h=>⟨gi,h,gi.le_refl⟩⟩;have:x≠b:=by intro hx;subst hx;omega
  exact zgV (oth x this)
 refine⟨he,by simp[h.len],?_,h.dist,λx hx=>h.fresh x (by simpa using hx),λi gi x h1 h2=>by have:=h.lt i gi x h1 h2;simpa using this,by have:=h.base;simpa using this⟩;intro id' ab gi h1 h2;by_cases hid:id'=id
 ·subst hid;rw[hμ]at h2;cases h2;have hlt':id'<H.length:=(List.getElem?_eq_some_iff.1 hH).1;rw[List.getElem?_set_self hlt']at h1;cases h1;exact⟨hB,hL,es',clk',by simp[hlt],hc.mono λ_ _=>he.erelP⟩
 ·rw[List.getElem?_set_ne (λh=>hid h.symm)]at h1;refine(h.ok id' ab gi h1 h2).keep he (λx hx=>⟨oth x ?_,rfl⟩);intro hxb;subst hxb;exact hid (h.dist id' id gi _ x h2 hμ hx rfl)

theorem HRel.keepGaps(h:HRel B w G H)(k:Nat):Ext B w G w ⟨G.L,G.μ++List.replicate k .gap⟩∧HRel B w ⟨G.L,G.μ++List.replicate k .gap⟩ (H++List.replicate k .gap):=by
 have he:Ext B w G w ⟨G.L,G.μ++List.replicate k .gap⟩:=⟨DR.app (aa _) rfl (by intro s n;cases k <;> simp[List.replicate]),Below.refl _ _,λ_=>aa _,λ_ _ _=>rfl,λid gi hg=>⟨gi,by
  have:id<G.μ.length:=(List.getElem?_eq_some_iff.1 hg).1;simp only[];rw[List.getElem?_append_left this];exact hg,gi.le_refl⟩⟩
 have split:∀(id:Nat) gi,(G.μ++List.replicate k GI.gap)[id]?=some gi→G.μ[id]?=some gi∨(G.μ.length≤id∧gi=.gap):=by
  intro id gi hg;by_cases hlt:id<G.μ.length
  ·rw[List.getElem?_append_left hlt]at hg;exact .inl hg
  ·rw[List.getElem?_append_right (by omega)]at hg;exact .inr ⟨by omega,bC (aJ.2 ⟨_,hg⟩)⟩
 refine⟨he,by simp[h.len],?_,?_,h.fresh,?_,h.base⟩
 ·intro id ab gi h1 h2;rcases split id gi h2 with h2 | ⟨hle,rfl⟩
  ·have hlt:id<H.length:=by rw[←h.len];exact (List.getElem?_eq_some_iff.1 h2).1
   rw[List.getElem?_append_left hlt]at h1;exact(h.ok id ab gi h1 h2).keep he (λb hb=>⟨rfl,rfl⟩)
  ·rw[List.getElem?_append_right (by rw[←h.len];omega)]at h1;rw[bC (aJ.2 ⟨_,h1⟩)];trivial
 ·intro id id' gi gi' b h1 h2 h3 h4;rcases split id gi h1 with k1 | ⟨_,rfl⟩ <;> rcases split id' gi' h2 with k2 | ⟨_,rfl⟩
  ·exact h.dist id id' gi gi' b k1 k2 h3 h4
  ·cases h4
  ·cases h3
  ·cases h3
 ·intro id gi b h1 h2;rcases split id gi h1 with k1 | ⟨_,rfl⟩
  ·exact h.lt id gi b k1 h2
  ·cases h2
theorem HRel.fill(h:HRel B w G H){id:Nat}(hid:H[id]?=some .gap)(vs:Array Value)(e:TypeId)(cs:List AV)(hc:All2 (ARel w G) vs.toList cs):
  Ext B w G (w.alloc (.cells vs e)) ⟨G.L,G.μ.set id (.blk w.heap.size)⟩∧HRel B (w.alloc (.cells vs e)) ⟨G.L,G.μ.set id (.blk w.heap.size)⟩ (H.set id (.cells cs)):=by
 have hlt:id<H.length:=(List.getElem?_eq_some_iff.1 hid).1;have hltμ:id<G.μ.length:=by rw[h.len];exact hlt
 have hgap:G.μ[id]?=some .gap:=by
  have hok:=h.ok id _ _ hid (List.getElem?_eq_getElem hltμ);rw[List.getElem?_eq_getElem hltμ];cases hg:G.μ[id] with
  |blk b=>rw[hg]at hok;exact hok.elim
  |own v s n=>rw[hg]at hok;exact hok.elim
  |gap=>rfl
 have split:∀(i:Nat) gi,(G.μ.set id (.blk w.heap.size))[i]?=some gi→(i≠id∧G.μ[i]?=some gi)∨(i=id∧gi=.blk w.heap.size):=by
  intro i gi hg;by_cases hi:i=id
  ·subst hi;rw[List.getElem?_set_self hltμ]at hg;cases hg;exact .inr ⟨rfl,rfl⟩
  ·rw[List.getElem?_set_ne (λh=>hi h.symm)]at hg;exact .inl ⟨hi,hg⟩
 have he:Ext B w G (w.alloc (.cells vs e)) ⟨G.L,G.μ.set id (.blk w.heap.size)⟩:=by
  refine⟨DR.set (aa _) rfl (by simp),(Below.refl _ _).alloc h.base _,λ_=>aa _,λb off ho=>zwz (a:=⟨b,off,none⟩) (zhS h ho) _,λi gi hg=>?_⟩;by_cases hi:i=id
  ·subst hi;rw[hgap]at hg;cases hg;exact⟨.blk w.heap.size,List.getElem?_set_self hltμ,trivial⟩
  ·exact⟨gi,by show (G.μ.set id _)[i]?=_;rw[List.getElem?_set_ne (λh=>hi h.symm)];exact hg,gi.le_refl⟩
 refine⟨he,by simp[h.len],?_,?_,?_,?_,?_⟩
 ·intro i ab gi h1 h2;rcases split i gi h2 with ⟨hi,h2⟩ | ⟨rfl,rfl⟩
  ·rw[List.getElem?_set_ne (λh=>hi h.symm)]at h1;exact(h.ok i ab gi h1 h2).keep he (λb hb=>⟨zdp (h.lt i gi b h2 hb),rfl⟩)
  ·rw[List.getElem?_set_self hlt]at h1;cases h1;exact⟨h.base,h.fresh _ (aa _),vs,e,zeF _,hc.mono λ_ _=>he.arel⟩
 ·intro i i' gi gi' b h1 h2 h3 h4;rcases split i gi h1 with ⟨_,k1⟩ | ⟨e1,e2⟩ <;> rcases split i' gi' h2 with ⟨_,k2⟩ | ⟨e3,e4⟩
  ·exact h.dist i i' gi gi' b k1 k2 h3 h4
  ·have:=h.lt i gi b k1 h3;rw[e4]at h4;simp[GI.block]at h4;omega
  ·have:=h.lt i' gi' b k2 h4;rw[e2]at h3;simp[GI.block]at h3;omega
  ·rw[e1,e3]
 ·intro b hb;rw[zcj]at hb;exact h.fresh b (by omega)
 ·intro i gi b h1 h2;rw[zcj];rcases split i gi h1 with ⟨_,k1⟩ | ⟨_,e2⟩
  ·have:=h.lt i gi b k1 h2;omega
  ·rw[e2]at h2;simp[GI.block]at h2;omega
 ·rw[zcj];have:=h.base;omega

end
end Go.Proofs.YtaifokkaaahdoaaGreatDoor
