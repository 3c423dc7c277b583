import Derived.Calls
import Derived.Orders
import Derived.Below
import Derived.Laws.AppendOwn
import Derived.Laws.Alloc2
set_option linter.unusedSimpArgs false
set_option linter.unusedVariables false
set_option linter.unusedSectionVars false
set_option maxRecDepth 8000
set_option linter.defProp false
namespace Go.Proofs.YtdmamdnkcefmmaaGreatDoor
def aa:=@Nat.add_assoc
def ac:=@List.getElem?_eq_some_iff
def ae:=@List.getElem_mem
def af:=@Nat.le_refl
def ag:=@List.take_succ_eq_append_getElem
def ah:=@List.getElem?_append_left
def ai:=@List.drop_eq_getElem_cons
def aj:=@List.getElem?_set_ne
def ak:=@List.getElem?_set_self
def am:=@List.take_of_length_le
def ap:=@Bool.and_eq_true
def aq:=@List.getD_eq_getElem?_getD
def au:=@List.set_append_right
def aw:=@List.getElem?_eq_getElem
def az:=@List.take_length
def aA:=@List.all_eq_true
def aB:=@List.append_assoc
def aC:=@Nat.le_trans
def aD:=@Nat.mul_le_mul_right
def aF:=@List.mem_map
def aG:=@if_neg
def aH:=@List.length_append
def aI:=@Nat.lt_of_le_of_lt
def aJ:=@List.take_append_drop
def aK:=@Bool.false_eq_true
def aL:=@List.map_cons
def aM:=@List.getElem?_append_right
def aN:=@if_pos
def aO:=@List.eq_nil_of_length_eq_zero
def aP:=@List.append_nil
def aQ:=@Array.getElem?_eq_some_iff
def aR:=@List.getElem?_append
def aS:=@List.drop_of_length_le
def aT:=@List.mem_cons
def aU:=@List.ext_getElem?
def aV:=@List.drop_length
def aW:=@List.getElem?_eq_none
def aX:=@Nat.zero_add
def aY:=@List.set_append_left
def aZ:=@Nat.mul_le_mul
def a6:=@List.map_append
def a7:=@List.length_take
def a8:=@List.mem_iff_getElem?
def ba:=@if_false
def bc:=@decide_eq_true_eq
def be:=@List.mem_cons_of_mem
def bf:=@Nat.mul_le_mul_left
def bg:=@List.mem_append
def bh:=@Nat.mul_comm
def bi:=@Nat.pow_le_pow_right
def bj:=@List.flatMap_cons
def bk:=@Iff.rfl
def bl:=@List.all_append
def bm:=@Bool.false_and
def bn:=@List.getElem?_map
def bo:=@Nat.min_eq_left
def bp:=@Nat.add_mul
def bq:=@List.mem_of_mem_take
def br:=@if_true
def bt:=@beq_iff_eq
def bu:=@List.mem_cons_self
def bv:=@List.getElem_of_mem
def bx:=@List.set_eq_take_append_cons_drop
def bz:=@decide_eq_false
def bA:=@List.drop_zero
def bB:=@Nat.div_eq_of_lt
def bC:=@Nat.mod_eq_of_lt
def bD:=@Nat.succ_mul
def bE:=@Bool.true_and
def bF:=@List.flatMap_append
def bG:=@decide_eq_true
def bH:=@Nat.le_of_lt
def bI:=@List.map_nil
def bJ:=@Bool.false_or
def bK:=@Nat.lt_of_lt_of_le
def bL:=@List.eq_of_mem_replicate
def bM:=@Nat.zero_le
def bN:=@List.map_congr_left
def bO:=@Int.toNat_of_nonneg
def bP:=@List.mem_range
def bQ:=@List.getElem?_take
def bR:=@Bool.and_false
def bS:=@List.drop_left'
def bT:=@List.map_take
def bU:=@List.ext_getElem
def bV:=@List.length_pos_iff
def bW:=@List.getElem?_range
def bX:=@List.set_set
def bY:=@Nat.add_sub_cancel
def bZ:=@decide_eq_false_iff_not
def cc:=@List.take_left'
def cd:=@Bool.or_eq_false_iff
def ce:=@Rat.add_zero
def cg:=@Nat.eq_zero_of_not_pos
def ch:=@List.drop_eq_nil_of_le
def ci:=@Nat.mod_lt
def cj:=@List.mem_or_eq_of_mem_set
def ck:=@List.drop_drop
def cn:=@Nat.lt_of_mul_lt_mul_left
def cp:=@Array.getElem?_toList
def ct:=@List.length_set
def cw:=@Nat.div_lt_iff_lt_mul
def cx:=@List.mem_filter
def cy:=@Nat.div_le_self
def cC:=@List.length_map
def cD:=@List.getElem?_drop
def cE:=@Nat.lt_of_not_le
def cF:=@Nat.le_succ
def cG:=@List.mem_flatMap
def cH:=@List.mem_zipIdx_iff_getElem?
def cI:=@Rat.add_assoc
def cJ:=@Rat.zero_add
def cK:=@Option.some.injEq
def cL:=@List.size_toArray
def cM:=@List.getElem?_set
def cN:=@Array.getD_eq_getD_getElem?
def cO:=@Nat.mul_ne_zero
def cP:=@Nat.div_add_mod
def cQ:=@Array.toList_setIfInBounds
def cR:=@List.map_toArray
def cS:=@List.getElem_map
def cT:=@List.length_filter_le
def cU:=@List.getElem_range
def cV:=@Bool.and_true
def cW:=@Nat.add_mul_mod_self_left
def cX:=@List.pairwise_iff_getElem
def cY:=@Array.getElem?_setIfInBounds_ne
def cZ:=@Bool.or_eq_true
def c5:=@List.range_succ
def c6:=@of_decide_eq_true
def c7:=@Nat.gcd_pos_of_pos_left
def c9:=@Nat.one_mul
def da:=@List.flatten_append
def db:=@List.take_append_of_le_length
def dc:=@List.flatMap_nil
def de:=@Nat.pos_of_ne_zero
def df:=@List.filter_append
def dh:=@List.all_replicate
def di:=@Nat.gcd_comm
def dj:=@Bool.eq_iff_iff
def dl:=@List.nodup_cons
def dm:=@Bool.or_false
def dp:=@Array.size_append
def dq:=@Bool.not_eq_true'
def dt:=@List.mem_of_getElem?
def du:=@Nat.add_mul_div_left
def dv:=@Nat.div_lt_of_lt_mul
def dw:=@List.take_left
def dx:=@List.take_take
def dy:=@List.length_drop
def dz:=@List.filter_cons
def dA:=@Nat.le_of_not_lt
def dB:=@List.filter_sublist
def dC:=@Rat.mkRat_mul_right
def dD:=@List.take_set_of_le
def dE:=@beq_eq_false_iff_ne
def dF:=@List.getElem?_take_of_lt
def dG:=@Nat.sub_self
def dH:=@List.take_append_getElem
def dI:=@Option.isSome_iff_exists
def dJ:=@getElem!_pos
def dK:=@UInt8.toNat_ofNat_of_lt'
def dL:=@Rat.mkRat_one
def dM:=@List.cons.injEq
def dN:=@Nat.div_lt_self
def dO:=@List.flatten_eq_nil_iff
def dP:=@Array.empty_append
def dQ:=@Option.some.inj
def dR:=@List.pairwise_cons
def dS:=@Nat.pow_pos
def dT:=@decide_true
def dU:=@Nat.pow_add
def dV:=@List.pairwise_map
def dW:=@Nat.mul_add
def dX:=@Nat.mul_one
def dY:=@List.getElem_set_self
def dZ:=@Array.getElem?_modify
def d5:=@List.map_map
def d6:=@Nat.gcd_dvd_left
def d7:=@List.getElem_set
def d8:=@List.drop_append
def d9:=@List.any_eq_true
def ec:=@List.mem_of_mem_drop
def ed:=@List.mem_iff_getElem
def ee:=@Nat.mul_assoc
def ef:=@Rat.mkRat_mul_mkRat
def eh:=@Nat.mul_add_mod
def ei:=@Nat.mul_add_div
def ek:=@Nat.mul_lt_mul_of_pos_right
def en:=@Nat.pow_le_pow_left
def ep:=@Array.toList_append
def er:=@List.takeWhile_cons
def et:=@Nat.div_one
def eu:=@Nat.lt_trans
def ew:=@List.contains_cons
def ex:=@List.count_pos_iff
def ey:=@Nat.gcd_zero_right
def eA:=@List.drop_take
def eB:=@Classical.byContradiction
def eC:=@Array.getElem?_eq_getElem
def eD:=@List.getElem_append_left
def eE:=@Nat.not_lt
def eF:=@Nat.add_sub_cancel_left
def eG:=@Nat.le_of_dvd
def eH:=@Nat.le_zero
def eI:=@List.set_comm
def eJ:=@Bool.and_self
def eK:=@dif_neg
def eL:=@beq_self_eq_true
def eM:=@List.take_append
def eN:=@List.mem_flatten
def eO:=@Nat.mul_lt_mul''
def eP:=@List.takeWhile_sublist
def eQ:=@Array.getElem?_eq_none
def eR:=@List.getElem_replicate
def eS:=@List.getElem_cons_drop
def eU:=@Nat.zero_mul
def eV:=@Rat.add_comm
def eW:=@Rat.intCast_add
def eX:=@Int.mul_comm
def eY:=@List.map_id'
def eZ:=@Int.natAbs_mul
def fa:=@Nat.mul_pos
def fb:=@dif_pos
def fc:=@true_and
def fd:=@Bool.not_true
def fe:=@List.cons.inj
def ff:=@Nat.sub_le
def fg:=@List.map_set
def fh:=@Nat.add_comm
def fk:=@Bool.true_or
section
open Go.RowKit

inductive Tok where
 |none
 |full
 |own (id:Nat)

inductive AV where
 |unk
 |bool (b:Bool)
 |int (k:IntKind) (n:Int)
 |str (s:List UInt8)
 |nilp
 |ptr (id off:Nat)
 |view (cs:List AV)
 |ZG
 |sl (es:List (List AV)) (tok:Tok)
 |ms (id off len cap:Nat)
 |ov (id n:Nat)
 |vp (id n off:Nat)
 |os (id n lo ft:Nat)
 |pf (id n h:Nat)
 |map (id:Nat)
 |fn (f:Nat) (caps:List AV)
 |nilfn
 |nili
 |ifc
 |flt
 |agg (cs:List AV)
 |tup (vs:List AV)

inductive AB where
 |cells (cs:List AV)
 |perm (e size n:Nat)
 |map (kvs:List (List UInt8×AV))
 |gap
 |bld (t:TypeId) (cs:List AV)
 |vec (e size n:Nat) (cs:List AV)
 |dead
 |fact (φ:World→Prop)
 |nodr
 |frz (e size n:Nat)

abbrev or:=List AB

inductive GI where
 |blk (b:Nat)
 |own (v:Value) (size n:Nat)
 |gap

structure Gh where
 L:Nat→Nat
 μ:List GI

def All2{α β:Type}(R:α→β→Prop):List α→List β→Prop
 |[],[]=>True
 |a::asx,b::bs=>R a b∧All2 R asx bs
 |_,_=>False

section
variable {α β:Type} {R R':α→β→Prop}
theorem All2.length:∀ {asx:List α} {bs:List β},All2 R asx bs→asx.length=bs.length
 |[],[],_=>rfl
 |_::_,_::_,h=>by simp[All2.length h.2]
theorem All2.mono(hr:∀ a b,R a b→R' a b):∀ {asx:List α} {bs:List β},All2 R asx bs→All2 R' asx bs
 |[],[],_=>trivial
 |_::_,_::_,h=>⟨hr _ _ h.1,All2.mono hr h.2⟩
theorem All2.get:∀ {asx:List α} {bs:List β},All2 R asx bs→∀ {i:Nat} {b:β},bs[i]?=some b→∃ a,asx[i]?=some a∧R a b
 |[],[],_,i,b,h=>by simp at h
 |a::_,_::_,h,0,b,hb=>⟨a,by simp,by simp at hb;exact hb ▸ h.1⟩
 |_::_,_::_,h,i+1,b,hb=>by simpa using All2.get h.2 (by simpa using hb)
theorem All2.get':∀ {asx:List α} {bs:List β},All2 R asx bs→∀ {i:Nat} {a:α},asx[i]?=some a→∃ b,bs[i]?=some b∧R a b
 |[],[],_,i,b,h=>by simp at h
 |a::_,b::_,h,0,a',hb=>⟨b,by simp,by simp at hb;exact hb ▸ h.1⟩
 |_::_,_::_,h,i+1,b,hb=>by simpa using All2.get' h.2 (by simpa using hb)
theorem All2.of_get:∀ {asx:List α} {bs:List β},asx.length=bs.length→(∀ (i:Nat) a b,asx[i]?=some a→bs[i]?=some b→R a b)→All2 R asx bs
 |[],[],_,_=>trivial
 |a::asx,b::bs,hl,h=>⟨h 0 a b rfl rfl,All2.of_get (by simpa using hl) (λi x y hx hy=>h (i+1) x y (by simpa using hx) (by simpa using hy))⟩
theorem All2.append:∀ {asx:List α} {bs:List β} {cs:List α} {ds:List β},All2 R asx bs→All2 R cs ds→All2 R (asx++cs) (bs++ds)
 |[],[],_,_,_,h=>h
 |_::_,_::_,_,_,h,h'=>⟨h.1,All2.append h.2 h'⟩
theorem All2.take:∀ {asx:List α} {bs:List β} (n:Nat),All2 R asx bs→All2 R (asx.take n) (bs.take n)
 |[],[],n,_=>by simp[All2]
 |_::_,_::_,0,_=>by simp[All2]
 |_::_,_::_,n+1,h=>⟨h.1,All2.take n h.2⟩
theorem All2.drop:∀ {asx:List α} {bs:List β} (n:Nat),All2 R asx bs→All2 R (asx.drop n) (bs.drop n)
 |[],[],n,_=>by simp[All2]
 |_::_,_::_,0,h=>h
 |_::_,_::_,n+1,h=>by simpa using All2.drop n h.2
theorem All2.set:∀ {asx:List α} {bs:List β} (i:Nat) {a:α} {b:β},All2 R asx bs→R a b→All2 R (asx.set i a) (bs.set i b)
 |[],[],_,_,_,_,_=>trivial
 |_::_,_::_,0,_,_,h,h'=>⟨h',h.2⟩
 |_::_,_::_,i+1,_,_,h,h'=>⟨h.1,All2.set i h.2 h'⟩
theorem All2.replicate{a:α}{b:β}(h:R a b):∀ n,All2 R (List.replicate n a) (List.replicate n b)
 |0=>trivial
 |n+1=>⟨h,All2.replicate h n⟩
end

inductive DRel (w:World) (L:Nat→Nat):Value→AV→Prop
 |bool (b:Bool):DRel w L (.bool b) (.bool b)
 |int (k:IntKind) (n:Int):DRel w L (.int k n) (.int k n)
 |str (s:List UInt8):DRel w L (.string ⟨s.toArray⟩) (.str s)
 |slE (a:Option Addr) (cap:Nat):DRel w L (.slice a 0 cap) (.sl [] .none)
 | sl (b off cap ft:Nat) (es:List (List AV)) (vs:Nat→Nat→Value) (fI:es≠[]) (fZ:es.length≤cap) (hL:off+es.length*ft≤L b)
   (fP:∀i (h:i<es.length),(es[i]).length=ft)
   (hc:∀i j (hi:i<es.length) (_:j<(es[i]).length),w.cell? ⟨b,off+i*ft+j,none⟩=some (vs i j))
   (hd:∀i j (hi:i<es.length) (hj:j<(es[i]).length),DRel w L (vs i j) (es[i])[j]) :
   DRel w L (.slice (some ⟨b,off,none⟩) es.length cap) (.sl es .none)

def DRel.mono{w w':World}{L L':Nat→Nat}(hL:∀ b,L b≤L' b)(hc:∀ b off,off<L b→w'.cell? ⟨b,off,none⟩=w.cell? ⟨b,off,none⟩):
  ∀{v:Value} {a:AV},DRel w L v a→DRel w' L' v a:=by
 intro v a h;induction h with
 |bool b=>exact .bool b
 |int k n=>exact .int k n
 |str s=>exact .str s
 |slE a cap=>exact .slE a cap
 |sl b off cap ft es vs fI fZ o9 fP fR hd ih=>
  refine .sl b off cap ft es vs fI fZ (aC o9 (hL b)) fP (λi j hi hj=>?_) ih;rw[hc b _ ?_]
  ·exact fR i j hi hj
  ·have h1:=fP i hi;have h2:(i+1)*ft≤es.length*ft:=aD _ hi;rw[bp]at h2;omega

def CRel(w:World)(L:Nat→Nat)(b off:Nat)(cs:List AV):Prop:=
 off+cs.length≤L b∧∃vs:List Value,All2 (DRel w L) vs cs∧∀j v,vs[j]?=some v→w.cell? ⟨b,off+j,none⟩=some v

theorem CRel.mono{w w':World}{L L':Nat→Nat}{b off:Nat}{cs:List AV}(hL:∀b,L b≤L' b)(hc:∀b off,off<L b→w'.cell? ⟨b,off,none⟩=w.cell? ⟨b,off,none⟩)(h:CRel w L b off cs):CRel w' L' b off cs:=by
 obtain⟨h1,vs,h2,h3⟩:=h;refine⟨aC h1 (hL b),vs,h2.mono λ_ _=>DRel.mono hL hc,λj v hj=>?_⟩;rw[hc b _ ?_]
 ·exact h3 j v hj
 ·have:=h2.length;have:j<vs.length:=(ac.1 hj).1;omega

theorem CRel.drop{w:World}{L:Nat→Nat}{b off:Nat}{cs:List AV}(n:Nat)(hn:n≤cs.length)(h:CRel w L b off cs):CRel w L b (off+n) (cs.drop n):=by obtain⟨h1,vs,h2,h3⟩:=h;refine⟨by simp;omega,vs.drop n,h2.drop n,λj v hj=>?_⟩;have:=h3 (n+j) v (by simpa using hj);rwa [show off+n+j=off+(n+j) by omega]

def DRel.elem{w:World}{L:Nat→Nat}{v:Value}{es:List (List AV)}(h:DRel w L v (.sl es .none)){i:Nat}(hi:i<es.length):
  ∃ b off cap,v=.slice (some ⟨b,off,none⟩) es.length cap∧es.length≤cap∧(∃ ft,(∀ k (hk:k<es.length),(es[k]).length=ft)) ∧
   ∀k (hk:k<es.length),CRel w L b (off+k*(es[i]).length) es[k]:=by
 cases h with
 |slE a cap=>simp at hi
 |sl b off cap ft _ vs fI fZ o9 fP fR hd=>
  refine⟨b,off,cap,rfl,fZ,⟨ft,fP⟩,λk hk=>?_⟩;rw[fP i hi];have h2:(k+1)*ft≤es.length*ft:=aD _ hk;rw[bp]at h2;refine⟨by rw[fP k hk];omega,(List.range (es[k]).length).map (vs k),?_,?_⟩
  ·refine All2.of_get (by simp) λj x y hx hy=>?_;have hj:j<(es[k]).length:=(ac.1 hy).1;simp[bn,bW hj]at hx;have:(es[k])[j]=y:=(ac.1 hy).2;rw[←hx,←this];exact hd k j hk hj
  ·intro j x hx;have hj:j<(es[k]).length:=by have:=(ac.1 hx).1;simpa using this
   simp[bn,bW hj]at hx;rw[←hx];exact fR k j hk hj

def DRel.slice_form{w:World}{L:Nat→Nat}{v:Value}{es:List (List AV)}(h:DRel w L v (.sl es .none)):∃a cap,v=.slice a es.length cap∧(es≠[]→es.length≤cap):=by
 cases h with
 |slE a cap=>exact⟨a,cap,rfl,by simp⟩
 |sl b off cap ft _ vs fI fZ o9 fP fR hd=>exact⟨_,cap,rfl,λ_=>fZ⟩

def SlF(v:Value)(n:Nat):Prop:=∃a cap,v=.slice a n cap∧(0<n→∃b,a=some ⟨b,0,none⟩)∧n≤cap
def Cf(size lo:Nat):Value→Value
 |.slice (some a) n c=>.slice (some (if c=lo then a else a.add (lo*size))) (n-lo) (c-lo)
 |.slice none n c=>.slice none (n-lo) (c-lo)
 |v=>v
def BRel(w:World)(G:Gh)(v:Value):AV→Prop
 |.unk=>True
 |.nilp=>v=.pointer none
 |.ptr id off=>∃b,G.μ[id]?=some (.blk b)∧v=.pointer (some ⟨b,off,none⟩)
 |.view cs=>∃b off,v=.pointer (some ⟨b,off,none⟩)∧CRel w G.L b off cs
 |.ZG=>v=.slice none 0 0
 |.sl es .none=>DRel w G.L v (.sl es .none)
 |.sl es .full=>DRel w G.L v (.sl es .none)∧∃a,v=.slice a es.length es.length
 |.sl es (.own id)=>DRel w G.L v (.sl es .none)∧∃v' size n,G.μ[id]?=some (.own v' size n)∧es.length≤n∧(es.length=n→v=v'∧∀c∈es,c.length=size)
 |.ms id off len cap=>∃b,G.μ[id]?=some (.blk b)∧v=.slice (some ⟨b,off,none⟩) len cap
 |.map id=>∃b,G.μ[id]?=some (.blk b)∧v=.map (some b)
 |.ov id n=>SlF v n∧∃v' size n',G.μ[id]?=some (.own v' size n')∧n≤n'∧(n=n'→v=v')
 |.vp id n off=>(∃b o,v=.pointer (some ⟨b,o,none⟩))∧∃v' size n',G.μ[id]?=some (.own v' size n')∧n≤n'∧(n=n'→∃g,v'.ownBlock=some g∧v=.pointer (some ⟨g,off,none⟩))
 |.os id n lo ft=>(lo≤n∧∃a c,v=.slice a (n-lo) c∧n-lo≤c)∧∃v' size n',G.μ[id]?=some (.own v' size n')∧n≤n'∧(n=n'→v=Cf ft lo v')
 |.pf id n h=>(h≤n∧∃a c,v=.slice a h c∧h≤c)∧∃v' size n',G.μ[id]?=some (.own v' size n')∧n≤n'∧(n=n'→∃a c,v'=.slice a n c∧v=.slice a h c)
 |.nilfn=>v=.nilFunc
 |.nili=>v=.nilIface
 |.ifc=>∃t x,v=.iface t x
 |.flt=>∃b,v=.float .f64 b
 |.bool b=>v=.bool b
 |.int k n=>v=.int k n
 |.str s=>v=.string ⟨s.toArray⟩
 |_=>False

def ARel(w:World)(G:Gh)(v:Value):AV→Prop
 |.fn f caps=>∃vs:Array Value,v=.func (.func f) #[] vs∧All2 (BRel w G) vs.toList caps
 |a=>BRel w G v a

def VRel(w:World)(G:Gh)(v:Value):AV→Prop
 |.agg cs=>∃vs:Array Value,v=.agg vs∧All2 (ARel w G) vs.toList cs
 |a=>ARel w G v a

def TRel(w:World)(G:Gh)(v:Value):AV→Prop
 |.tup asx=>∃vs:Array Value,v=.tuple vs∧All2 (VRel w G) vs.toList asx
 |a=>VRel w G v a

def GI.le:GI→GI→Prop
 |.blk b,.blk b'=>b=b'
 |.own v size n,.own v' size' n'=>size=size'∧((v=v'∧n=n')∨n<n')
 |.gap,_=>True
 |_,_=>False

def GI.le_refl:∀ g:GI,g.le g
 |.blk _=>rfl
 |.own _ _ _=>⟨rfl,.inl ⟨rfl,rfl⟩⟩
 |.gap=>trivial
def GI.le_trans:∀ {a b c:GI},a.le b→b.le c→a.le c
 |.blk _,.blk _,.blk _,h,h'=>Eq.trans h h'
 |.own _ _ _,.own _ _ _,.own _ _ _,h,h'=>⟨h.1.trans h'.1,by
   rcases h.2 with ⟨rfl,rfl⟩|h1 <;> rcases h'.2 with ⟨rfl,rfl⟩|h2
   ·exact .inl ⟨rfl,rfl⟩
   ·exact .inr h2
   ·exact .inr h1
   ·exact .inr (eu h1 h2)⟩
 |.own _ _ _,.blk _,_,h,_=>h.elim
 |.blk _,.own _ _ _,_,h,_=>h.elim
 |.gap,_,_,_,_=>trivial
 |.blk _,.gap,_,h,_=>h.elim
 |.own _ _ _,.gap,_,h,_=>h.elim

def AZ(G:Gh):Prop:=∃s n,G.μ[0]?=some (.own .nilFunc s n)
structure DR (w:World) (G:Gh) (w':World) (G':Gh):Prop where
 le:¬AZ G→w.drawn≤w'.drawn
 nn:AZ G'→AZ G
def DR.same{w w':World}{G G':Gh}(h:w.drawn≤w'.drawn)(hμ:G'.μ=G.μ):DR w G w' G':=⟨λ_=>h,λhn=>by unfold AZ at hn ⊢;rw[←hμ];exact hn⟩
def DR.app{w w':World}{G G':Gh}{xs:List GI}(h:w.drawn≤w'.drawn)(hμ:G'.μ=G.μ++xs)(hx:∀s n,xs[0]?≠some (.own .nilFunc s n)):DR w G w' G':=⟨λ_=>h,λhn=>by
 unfold AZ at hn ⊢;obtain⟨s,n,hn⟩:=hn;rw[hμ]at hn;cases hg:G.μ with
 |nil=>rw[hg,List.nil_append]at hn;exact absurd hn (hx s n)
 |cons a l=>rw[hg]at hn;exact⟨s,n,by simpa using hn⟩⟩
theorem DR.set{w w':World}{G G':Gh}{id:Nat}{x:GI}(h:w.drawn≤w'.drawn)(hμ:G'.μ=G.μ.set id x)(hx:∀s n,x≠.own .nilFunc s n):DR w G w' G':=⟨λ_=>h,λhn=>by
 unfold AZ at hn ⊢;obtain⟨s,n,hn⟩:=hn;rw[hμ,cM]at hn;split at hn
 ·split at hn
  ·cases hn;exact absurd rfl (hx s n)
  ·cases hn
 ·exact⟨s,n,hn⟩⟩
def DR.trans{w w' w'':World}{G G' G'':Gh}(h:DR w G w' G')(h':DR w' G' w'' G''):DR w G w'' G'':=⟨λhn=>aC (h.le hn) (h'.le λk=>hn (h.nn k)),λk=>h.nn (h'.nn k)⟩
structure Ext (B:Nat) (w:World) (G:Gh) (w':World) (G':Gh):Prop where
 dr:DR w G w' G'
 below:Below B w w'
 lev:∀b,G.L b≤G'.L b
 cell:∀b off,off<G.L b→w'.cell? ⟨b,off,none⟩=w.cell? ⟨b,off,none⟩
 ids:∀(id:Nat) gi,G.μ[id]?=some gi→∃gi',G'.μ[id]?=some gi'∧gi.le gi'

theorem Ext.refl(B:Nat)(w:World)(G:Gh):Ext B w G w G:=⟨DR.same (af _) rfl,Below.refl _ _,λ_=>af _,λ_ _ _=>rfl,λ_ gi h=>⟨gi,h,gi.le_refl⟩⟩
theorem Ext.trans{B:Nat}{w w' w'':World}{G G' G'':Gh}(h:Ext B w G w' G')(h':Ext B w' G' w'' G''):Ext B w G w'' G'':=
 ⟨h.dr.trans h'.dr,h.below.trans h'.below,λb=>aC (h.lev b) (h'.lev b),λb off ho=>(h'.cell b off (bK ho (h.lev b))).trans (h.cell b off ho),
  λid gi hg=>by
   obtain⟨g1,h1,l1⟩:=h.ids id gi hg;obtain⟨g2,h2,l2⟩:=h'.ids id g1 h1;exact⟨g2,h2,GI.le_trans l1 l2⟩⟩

section
variable {B:Nat} {w w':World} {G G':Gh} {v:Value}
theorem Ext.drel(h:Ext B w G w' G'){a:AV}(hr:DRel w G.L v a):DRel w' G'.L v a:=hr.mono h.lev h.cell
theorem Ext.blk(h:Ext B w G w' G'){id b:Nat}(hb:G.μ[id]?=some (.blk b)):G'.μ[id]?=some (.blk b):=by
 obtain⟨g,h1,h2⟩:=h.ids id _ hb;cases g with
 |blk b'=>cases h2;exact h1
 |own _ _ _=>exact h2.elim
 |gap=>exact h2.elim
theorem Ext.brel(h:Ext B w G w' G'):∀ {a:AV},BRel w G v a→BRel w' G' v a
 |.unk,_=>trivial
 |.nilp,hr=>hr
 |.ptr _ _,⟨b,h1,h2⟩=>⟨b,h.blk h1,h2⟩
 |.view _,⟨b,off,h1,h2⟩=>⟨b,off,h1,h2.mono h.lev h.cell⟩
 |.ZG,hr=>hr
 |.sl _ .none,hr=>h.drel hr
 |.sl _ .full,hr=>⟨h.drel hr.1,hr.2⟩
 |.sl es (.own id),⟨hr,v',size,n,hμ,fS,heq⟩=>by
  refine⟨h.drel hr,?_⟩;obtain⟨g,h1,h2⟩:=h.ids id _ hμ;cases g with
  |blk b=>exact h2.elim
  |gap=>exact h2.elim
  |own v2 s2 n2=>
   obtain⟨rfl,⟨rfl,rfl⟩|fy⟩:=h2
   ·exact⟨v',size,n,h1,fS,heq⟩
   ·exact⟨v2,size,n2,h1,by omega,λe=>by omega⟩
 |.ms _ _ _ _,⟨b,h1,h2⟩=>⟨b,h.blk h1,h2⟩
 |.ov id n,⟨hr,v',size,n',hμ,fS,heq⟩=>by
  refine⟨hr,?_⟩;obtain⟨g,h1,h2⟩:=h.ids id _ hμ;cases g with
  |blk b=>exact h2.elim
  |gap=>exact h2.elim
  |own v2 s2 n2=>
   obtain⟨rfl,⟨rfl,rfl⟩|fy⟩:=h2
   ·exact⟨v',size,n',h1,fS,heq⟩
   ·exact⟨v2,size,n2,h1,by omega,λe=>by omega⟩
 |.vp id n off,⟨hr,v',size,n',hμ,fS,heq⟩=>by
  refine⟨hr,?_⟩;obtain⟨g,h1,h2⟩:=h.ids id _ hμ;cases g with
  |blk b=>exact h2.elim
  |gap=>exact h2.elim
  |own v2 s2 n2=>
   obtain⟨rfl,⟨rfl,rfl⟩|fy⟩:=h2
   ·exact⟨v',size,n',h1,fS,heq⟩
   ·exact⟨v2,size,n2,h1,by omega,λe=>by omega⟩
 |.os id n lo ft,⟨hr,v',size,n',hμ,fS,heq⟩=>by
  refine⟨hr,?_⟩;obtain⟨g,h1,h2⟩:=h.ids id _ hμ;cases g with
  |blk b=>exact h2.elim
  |gap=>exact h2.elim
  |own v2 s2 n2=>
   obtain⟨rfl,⟨rfl,rfl⟩|fy⟩:=h2
   ·exact⟨v',size,n',h1,fS,heq⟩
   ·exact⟨v2,size,n2,h1,by omega,λe=>by omega⟩
 |.pf id n lo,⟨hr,v',size,n',hμ,fS,heq⟩=>by
  refine⟨hr,?_⟩;obtain⟨g,h1,h2⟩:=h.ids id _ hμ;cases g with
  |blk b=>exact h2.elim
  |gap=>exact h2.elim
  |own v2 s2 n2=>
   obtain⟨rfl,⟨rfl,rfl⟩|fy⟩:=h2
   ·exact⟨v',size,n',h1,fS,heq⟩
   ·exact⟨v2,size,n2,h1,by omega,λe=>by omega⟩
 |.map _,⟨b,h1,h2⟩=>⟨b,h.blk h1,h2⟩
 |.nilfn,hr=>hr
 |.nili,hr=>hr
 |.ifc,hr=>hr
 |.flt,hr=>hr
 |.bool _,hr=>hr
 |.int _ _,hr=>hr
 |.str _,hr=>hr
 |.fn _ _,hr=>hr.elim
 |.agg _,hr=>hr.elim
 |.tup _,hr=>hr.elim
theorem ARel.of_b{a:AV}(h:BRel w G v a):ARel w G v a:=by cases a <;> first|exact h|exact h.elim
theorem VRel.of_a{a:AV}(h:ARel w G v a):VRel w G v a:=by cases a <;> first|exact h|exact h.elim
theorem TRel.of_v{a:AV}(h:VRel w G v a):TRel w G v a:=by cases a <;> first|exact h|exact h.elim
theorem Ext.arel(h:Ext B w G w' G'){a:AV}(hr:ARel w G v a):ARel w' G' v a:=by
 cases a with
 |fn f caps=>obtain⟨vs,h1,h2⟩:=hr;exact⟨vs,h1,h2.mono λ_ _=>h.brel⟩
 |_=>exact ARel.of_b (h.brel hr)
theorem Ext.vrel(h:Ext B w G w' G'){a:AV}(hr:VRel w G v a):VRel w' G' v a:=by
 cases a with
 |agg cs=>obtain⟨vs,h1,h2⟩:=hr;exact⟨vs,h1,h2.mono λ_ _=>h.arel⟩
 |_=>exact VRel.of_a (h.arel hr)
theorem Ext.trel(h:Ext B w G w' G'){a:AV}(hr:TRel w G v a):TRel w' G' v a:=by
 cases a with
 |tup cs=>obtain⟨vs,h1,h2⟩:=hr;exact⟨vs,h1,h2.mono λ_ _=>h.vrel⟩
 |_=>exact TRel.of_v (h.vrel hr)
end

def ERel(w:World)(G:Gh)(e:MapEntry)(p:List UInt8×AV):Prop:=e.key=.string ⟨p.1.toArray⟩∧VRel w G e.val p.2
def Ext.erel{B:Nat}{w w':World}{G G':Gh}(h:Ext B w G w' G'){e:MapEntry}{p:List UInt8×AV}(hr:ERel w G e p):ERel w' G' e p:=⟨hr.1,h.vrel hr.2⟩
def GI.block:GI→Option Nat
 |.blk b=>some b
 |.own v _ _=>v.ownBlock
 |.gap=>none

def BlkOK(B:Nat)(w:World)(G:Gh):AB→GI→Prop
 |.cells cs,.blk b=>B≤b∧G.L b=0∧∃(vs:Array Value) (e:TypeId),w.heap[b]?=some (.cells vs e (0,0))∧All2 (ARel w G) vs.toList cs
 |.perm e s n,.own v size n'=>s=size∧n=n'∧(∃xs,w.ownsRow B e size v n xs)∧∀b,v.ownBlock=some b→G.L b=n*size
 |.map kvs,.blk b=>B≤b∧G.L b=0∧∃(es:Array MapEntry) (clk:Nat),w.heap[b]?=some (.map es clk)∧All2 (ERel w G) es.toList kvs
 |.gap,.gap=>True
 |.nodr,.own v _ _=>v=.nilFunc
 |.fact φ,.gap=>∀w',Below B w w'→φ w'
 |.vec e s n cs,.own v size n'=>s=size∧n=n'∧(∃xs,w.ownsRow B e size v n xs∧All2 (ARel w G) xs cs)∧∀b,v.ownBlock=some b→G.L b=0
 |.bld t cs,.blk b=>B≤b∧G.L b=0∧∃vs:Array Value,w.heap[b]?=some (.cells vs t (0,0))∧All2 (ARel w G) vs.toList cs
 |.dead,.own v _ _=>∀b,v.ownBlock=some b→∃(vs:Array Value) (e:TypeId) (fr:Nat×Nat),w.heap[b]?=some (.cells vs e fr)∧G.L b≤vs.size
 |.frz e s n,.own v s' n'=>∃(g cap:Nat) (vs:Array Value) (fr:Nat×Nat),s=s'∧n=n'∧v=.slice (some ⟨g,0,none⟩) n cap∧w.heap[g]?=some (.cells vs e fr)∧B≤g∧G.L g=n*s∧n≤cap∧cap≤maxLen∧vs.size=cap*s
 |.dead,.blk b=>∃(vs:Array Value) (e:TypeId) (fr:Nat×Nat),w.heap[b]?=some (.cells vs e fr)∧G.L b≤vs.size
 |_,_=>False

structure tU (B:Nat) (w:World) (G:Gh) (H:or):Prop where
 len:G.μ.length=H.length
 ok:∀(id:Nat) ab gi,H[id]?=some ab→G.μ[id]?=some gi→BlkOK B w G ab gi
 dist:∀(id id':Nat) gi gi' b,G.μ[id]?=some gi→G.μ[id']?=some gi'→gi.block=some b→gi'.block=some b→id=id'
 fresh:∀b,w.heap.size≤b→G.L b=0
 lt:∀(id:Nat) gi b,G.μ[id]?=some gi→gi.block=some b→b<w.heap.size
 base:B≤w.heap.size

def FRel(w:World)(G:Gh)(tm:Array Value)(F:List AV):Prop:=All2 (TRel w G) tm.toList F

abbrev I6:=AV.int .i64
abbrev I0:=AV.int .i64 0
abbrev I1:=AV.int .i64 1
end
section
open Go.RowKit

variable {B:Nat} {w w':World} {G G':Gh} {H:or}

theorem BlkOK.keep{ab:AB}{gi:GI}(h:BlkOK B w G ab gi)(he:Ext B w G w' G')(hb:∀b,gi.block=some b→w'.heap[b]?=w.heap[b]?∧G'.L b=G.L b):BlkOK B w' G' ab gi:=by
 cases ab with
 |cells cs=>
  cases gi with
  |blk b=>obtain⟨h1,h2,vs,e,h3,h4⟩:=h;obtain⟨k1,k2⟩:=hb b rfl;exact⟨h1,by rw[k2];exact h2,vs,e,by rw[k1];exact h3,h4.mono λ_ _=>he.arel⟩
  |own v s n=>exact h.elim
  |gap=>exact h.elim
 |perm e s0 n=>
  cases gi with
  |blk b=>exact h.elim
  |gap=>exact h.elim
  |own v s n'=>
   obtain⟨rfl,rfl,⟨xs,hl,hx⟩,h2⟩:=h;refine⟨rfl,rfl,⟨xs,hl,?_⟩,λb kb=>by rw[(hb b kb).2];exact h2 b kb⟩;rcases hx with hx|⟨g,cap,cur,rfl,h3,h4,h5⟩
   ·exact .inl hx
   ·exact .inr ⟨g,cap,cur,rfl,h3,by rw[(hb g rfl).1];exact h4,h5⟩
 |vec e s0 n cs=>
  cases gi with
  |blk b=>exact h.elim
  |gap=>exact h.elim
  |own v s n'=>
   obtain⟨rfl,rfl,⟨xs,⟨hl,hx⟩,hr⟩,h2⟩:=h;refine⟨rfl,rfl,⟨xs,⟨hl,?_⟩,hr.mono λ_ _=>he.arel⟩,λb kb=>by rw[(hb b kb).2];exact h2 b kb⟩;rcases hx with hx|⟨g,cap,cur,rfl,h3,h4,h5⟩
   ·exact .inl hx
   ·exact .inr ⟨g,cap,cur,rfl,h3,by rw[(hb g rfl).1];exact h4,h5⟩
 |map kvs=>
  cases gi with
  |blk b=>obtain⟨h1,h2,es,clk,h3,h4⟩:=h;obtain⟨k1,k2⟩:=hb b rfl;exact⟨h1,by rw[k2];exact h2,es,clk,by rw[k1];exact h3,h4.mono λ_ _=>he.erel⟩
  |own v s n=>exact h.elim
  |gap=>exact h.elim
 |gap=>
  cases gi with
  |blk b=>exact h.elim
  |own v s n=>exact h.elim
  |gap=>exact h
 |bld t cs=>
  cases gi with
  |blk b=>obtain⟨h1,h2,vs,h3,h4⟩:=h;obtain⟨k1,k2⟩:=hb b rfl;exact⟨h1,by rw[k2];exact h2,vs,by rw[k1];exact h3,h4.mono λ_ _=>he.arel⟩
  |own v s n=>exact h.elim
  |gap=>exact h.elim
 |frz e s n=>
  cases gi with
  |blk b=>exact h.elim
  |own v s' n'=>obtain⟨g,cap,vs,fr,rfl,rfl,rfl,h1,h2,h3,h4⟩:=h;exact⟨g,cap,vs,fr,rfl,rfl,rfl,by rw[(hb g rfl).1];exact h1,h2,by rw[(hb g rfl).2];exact h3,h4⟩
  |gap=>exact h.elim
 |nodr=>
  cases gi with
  |blk b=>exact h.elim
  |own v s n=>exact h
  |gap=>exact h.elim
 |fact φ=>
  cases gi with
  |blk b=>exact h.elim
  |own v s n=>exact h.elim
  |gap=>exactλw'' h'=>h w'' (he.below.trans h')
 |dead=>
  cases gi with
  |blk b=>obtain⟨vs,e,fr,h1,h2⟩:=h;exact⟨vs,e,fr,by rw[(hb b rfl).1];exact h1,by rw[(hb b rfl).2];exact h2⟩
  |own v s n=>intro b kb;obtain⟨vs,e,fr,h1,h2⟩:=h b kb;exact⟨vs,e,fr,by rw[(hb b kb).1];exact h1,by rw[(hb b kb).2];exact h2⟩
  |gap=>exact h.elim

theorem tU.keep(h:tU B w G H)(he:Ext B w G w' G')(hμ:G'.μ=G.μ)(hb:∀ (id:Nat) gi b,G.μ[id]?=some gi→gi.block=some b→w'.heap[b]?=w.heap[b]?∧G'.L b=G.L b)(hf:∀ b,w'.heap.size≤b→G'.L b=0):tU B w' G' H where
 len:=by rw[hμ];exact h.len
 ok:=λid ab gi h1 h2=>by rw[hμ]at h2;exact(h.ok id ab gi h1 h2).keep he (λb kb=>hb id gi b h2 kb)
 dist:=λid id' gi gi' b h1 h2=>by rw[hμ]at h1 h2;exact h.dist id id' gi gi' b h1 h2
 fresh:=hf
 lt:=λid gi b h1 h2=>by rw[hμ]at h1;exact bK (h.lt id gi b h1 h2) he.below.size
 base:=aC h.base he.below.size

theorem Ext.drew(B:Nat)(w:World)(G:Gh)(n:Nat)(hn:w.drawn≤n):Ext B w G { w with drawn:=n } G:=
 ⟨DR.same hn rfl,⟨rfl,rfl,rfl,af _,λ_ _=>rfl⟩,λ_=>af _,λ_ _ _=>rfl,λ_ gi h=>⟨gi,h,gi.le_refl⟩⟩
theorem tU.drew(h:tU B w G H)(n:Nat)(hn:w.drawn≤n):tU B { w with drawn:=n } G H:=
 h.keep (Ext.drew B w G n hn) rfl (λ_ _ _ _ _=>⟨rfl,rfl⟩) h.fresh

theorem yk{o:Obj}{b:Nat}(hb:b<w.heap.size):(w.alloc o).heap[b]?=w.heap[b]?:=Below.heap_alloc w o b hb
theorem wR(o:Obj):(w.alloc o).heap.size=w.heap.size+1:=by simp only[World.alloc,Array.size_push]
theorem y6(o:Obj):(w.alloc o).heap[w.heap.size]?=some o:=by simp only[World.alloc,Array.getElem?_push_size]

theorem Uu{a:Addr}(h:a.block<w.heap.size)(o:Obj):(w.alloc o).cell? a=w.cell? a:=World.cell?_alloc_lt _ _ _ h

theorem F8(h:tU B w G H){b off:Nat}(ho:off<G.L b):b<w.heap.size:=by
 by_cases hb:b<w.heap.size
 ·exact hb
 ·have:=h.fresh b (by omega);omega

theorem Ext.alloc(h:tU B w G H)(o:Obj)(L':Nat→Nat)(hL:∀ b,b≠w.heap.size→L' b=G.L b)(xs:List GI)(hx:∀ s n,xs[0]?≠some (.own .nilFunc s n):=by simp):
  Ext B w G (w.alloc o) ⟨L',G.μ++xs⟩ where
 dr:=DR.app (af _) rfl hx
 below:=(Below.refl _ _).alloc h.base o
 lev:=λb=>by
  by_cases hb:b=w.heap.size
  ·subst hb;rw[h.fresh _ (af _)];exact bM _
  ·show G.L b≤L' b;rw[hL b hb];exact af _
 cell:=λb off ho=>Uu (a:=⟨b,off,none⟩) (F8 h ho) o
 ids:=λid gi hg=>⟨gi,by
  have:id<G.μ.length:=(ac.1 hg).1;simp only[];rw[ah this];exact hg,gi.le_refl⟩

theorem tU.new(h:tU B w G H)(vs:Array Value)(e:TypeId)(cs:List AV)(hc:All2 (ARel w G) vs.toList cs):
  Ext B w G (w.alloc (.cells vs e)) ⟨G.L,G.μ++[.blk w.heap.size]⟩∧tU B (w.alloc (.cells vs e)) ⟨G.L,G.μ++[.blk w.heap.size]⟩ (H++[.cells cs]):=by
 have he:=Ext.alloc h (.cells vs e) G.L (λ_ _=>rfl) [.blk w.heap.size];refine⟨he,?_⟩;have split:∀(id:Nat) gi,(G.μ++[.blk w.heap.size])[id]?=some gi→G.μ[id]?=some gi∨(id=G.μ.length∧gi=.blk w.heap.size):=by
  intro id gi hg;by_cases fy:id<G.μ.length
  ·rw[ah fy]at hg;exact .inl hg
  ·have fT:=(ac.1 hg).1;simp at fT;have:id=G.μ.length:=by omega
   subst this;simp at hg;exact .inr ⟨rfl,hg.symm⟩
 refine⟨by simp[h.len],?_,?_,?_,?_,?_⟩
 ·intro id ab gi h1 h2;rcases split id gi h2 with h2 | ⟨rfl,rfl⟩
  ·have fy:id<H.length:=by rw[←h.len];exact (ac.1 h2).1
   rw[ah fy]at h1;exact(h.ok id ab gi h1 h2).keep he (λb hb=>⟨yk (h.lt id gi b h2 hb),rfl⟩)
  ·rw[h.len]at h1;simp at h1;subst h1;exact⟨h.base,h.fresh _ (af _),vs,e,y6 _,hc.mono λ_ _=>he.arel⟩
 ·intro id id' gi gi' b h1 h2 h3 h4;rcases split id gi h1 with h1 | ⟨rfl,rfl⟩ <;> rcases split id' gi' h2 with h2 | ⟨rfl,rfl⟩
  ·exact h.dist id id' gi gi' b h1 h2 h3 h4
  ·have:=h.lt id gi b h1 h3;simp[GI.block]at h4;omega
  ·have:=h.lt id' gi' b h2 h4;simp[GI.block]at h3;omega
  ·rfl
 ·intro b hb;rw[wR]at hb;exact h.fresh b (by omega)
 ·intro id gi b h1 h2;rw[wR];rcases split id gi h1 with h1 | ⟨rfl,rfl⟩
  ·have:=h.lt id gi b h1 h2;omega
  ·simp[GI.block]at h2;omega
 ·rw[wR];have:=h.base;omega

theorem tU.frozen(h:tU B w G H)(vs:Array Value)(e:TypeId)(n:Nat):
  Ext B w G (w.alloc (.cells vs e)) ⟨λb=>if b=w.heap.size then n else G.L b,G.μ⟩ ∧
   tU B (w.alloc (.cells vs e)) ⟨λb=>if b=w.heap.size then n else G.L b,G.μ⟩ H:=by
 have he:=Ext.alloc h (.cells vs e) (λb=>if b=w.heap.size then n else G.L b) (λb hb=>by simp[hb]) [];simp only[aP]at he;refine⟨he,h.keep he rfl (λid gi b h1 h2=>?_) (λb hb=>?_)⟩
 ·have:=h.lt id gi b h1 h2;exact⟨yk this,by simp;intro;omega⟩
 ·rw[wR]at hb;have:b≠w.heap.size:=by omega
  simp[this,h.fresh b (by omega)]

theorem zD{g k:Nat}(cs:Array Value)(h:k≠g):(w.setRow g cs).heap[k]?=w.heap[k]?:=setRow_other w g k cs h

theorem A0{w w':World}{b off:Nat}(h:w'.heap[b]?=w.heap[b]?):w'.cell? ⟨b,off,none⟩=w.cell? ⟨b,off,none⟩:=World.cell?_of_block (a:=⟨b,off,none⟩) h

theorem tU.store(h:tU B w G H){id b:Nat}{cs cs':List AV}{vs vs':Array Value}{e:TypeId}(hH:H[id]?=some (.cells cs))(hμ:G.μ[id]?=some (.blk b))(hw:w.heap[b]?=some (.cells vs e (0,0)))(hB:B≤b)(hc:All2 (ARel w G) vs'.toList cs'):
  Ext B w G (w.setRow b vs') G∧tU B (w.setRow b vs') G (H.set id (.cells cs')):=by
 have hL:G.L b=0:=by have:=h.ok id _ _ hH hμ;exact this.2.1
 have fP:(w.setRow b vs').heap.size=w.heap.size:=by simp[World.setRow]
 have he:Ext B w G (w.setRow b vs') G:=by
  refine⟨DR.same (af _) rfl,⟨rfl,rfl,rfl,by rw[fP];exact af _,λk hk=>zD _ (by omega)⟩,λ_=>af _,λx off ho=>?_,λ_ gi h=>⟨gi,h,gi.le_refl⟩⟩;have:x≠b:=by intro hx;subst hx;omega
  exact A0 (zD _ this)
 refine⟨he,by simp[h.len],?_,h.dist,by rw[fP];exact h.fresh,by rw[fP];exact h.lt,by rw[fP];exact h.base⟩;intro id' ab gi h1 h2;by_cases fA:id'=id
 ·subst fA;rw[hμ]at h2;cases h2;have fy:id'<H.length:=(ac.1 hH).1;rw[ak fy]at h1;cases h1;exact⟨hB,hL,vs',e,setRow_heap w b vs vs' e _ hw,hc.mono λ_ _=>he.arel⟩
 ·rw[aj (λh=>fA h.symm)]at h1;refine(h.ok id' ab gi h1 h2).keep he (λx hx=>⟨zD _ ?_,rfl⟩);intro jP;subst jP;exact fA (h.dist id' id gi _ x h2 hμ hx rfl)

theorem tU.storeV(h:tU B w G H){id e size n g cap:Nat}{cs cs':List AV}{cur cur':Array Value}{xs':List Value}(hH:H[id]?=some (.vec e size n cs))(hμ:G.μ[id]?=some (.own (.slice (some ⟨g,0,none⟩) n cap) size n))(hw:w.heap[g]?=some (.cells cur e (0,0)))(hB:B≤g)(fZ:n≤cap)(iw:cap≤maxLen)(fP:cur'.size=cap*size)(gH:cur'.toList.take (n*size)=xs')(ix:xs'.length=n*size)(hc:All2 (ARel w G) xs' cs'):
  Ext B w G (w.setRow g cur') G∧tU B (w.setRow g cur') G (H.set id (.vec e size n cs')):=by
 obtain⟨_,_,_,pc⟩:=h.ok id _ _ hH hμ;have hL:G.L g=0:=pc g rfl;have iJ:(w.setRow g cur').heap.size=w.heap.size:=by simp[World.setRow]
 have he:Ext B w G (w.setRow g cur') G:=by
  refine⟨DR.same (af _) rfl,⟨rfl,rfl,rfl,by rw[iJ];exact af _,λk hk=>zD _ (by omega)⟩,λ_=>af _,λx off ho=>?_,λ_ gi h=>⟨gi,h,gi.le_refl⟩⟩;have:x≠g:=by intro hx;subst hx;omega
  exact A0 (zD _ this)
 refine⟨he,by simp[h.len],?_,h.dist,by rw[iJ];exact h.fresh,by rw[iJ];exact h.lt,by rw[iJ];exact h.base⟩;intro id' ab gi h1 h2;by_cases fA:id'=id
 ·subst fA;rw[hμ]at h2;cases h2;have fy:id'<H.length:=(ac.1 hH).1;rw[ak fy]at h1;cases h1;exact⟨rfl,rfl,⟨xs',⟨ix,.inr ⟨g,cap,cur',rfl,hB,setRow_heap w g cur cur' e _ hw,fZ,iw,fP,gH⟩⟩,hc.mono λ_ _=>he.arel⟩,pc⟩
 ·rw[aj (λh=>fA h.symm)]at h1;refine(h.ok id' ab gi h1 h2).keep he (λx hx=>⟨zD _ ?_,rfl⟩);intro jP;subst jP;exact fA (h.dist id' id gi _ x h2 hμ hx rfl)

theorem tU.newMap(h:tU B w G H):
  Ext B w G (w.alloc (.map #[] 0)) ⟨G.L,G.μ++[.blk w.heap.size]⟩∧tU B (w.alloc (.map #[] 0)) ⟨G.L,G.μ++[.blk w.heap.size]⟩ (H++[.map []]):=by
 have he:=Ext.alloc h (.map #[] 0) G.L (λ_ _=>rfl) [.blk w.heap.size];refine⟨he,?_⟩;have split:∀(id:Nat) gi,(G.μ++[.blk w.heap.size])[id]?=some gi→G.μ[id]?=some gi∨(id=G.μ.length∧gi=.blk w.heap.size):=by
  intro id gi hg;by_cases fy:id<G.μ.length
  ·rw[ah fy]at hg;exact .inl hg
  ·have fT:=(ac.1 hg).1;simp at fT;have:id=G.μ.length:=by omega
   subst this;simp at hg;exact .inr ⟨rfl,hg.symm⟩
 refine⟨by simp[h.len],?_,?_,?_,?_,?_⟩
 ·intro id ab gi h1 h2;rcases split id gi h2 with h2 | ⟨rfl,rfl⟩
  ·have fy:id<H.length:=by rw[←h.len];exact (ac.1 h2).1
   rw[ah fy]at h1;exact(h.ok id ab gi h1 h2).keep he (λb hb=>⟨yk (h.lt id gi b h2 hb),rfl⟩)
  ·rw[h.len]at h1;simp at h1;subst h1;exact⟨h.base,h.fresh _ (af _),#[],0,y6 _,trivial⟩
 ·intro id id' gi gi' b h1 h2 h3 h4;rcases split id gi h1 with h1 | ⟨rfl,rfl⟩ <;> rcases split id' gi' h2 with h2 | ⟨rfl,rfl⟩
  ·exact h.dist id id' gi gi' b h1 h2 h3 h4
  ·have:=h.lt id gi b h1 h3;simp[GI.block]at h4;omega
  ·have:=h.lt id' gi' b h2 h4;simp[GI.block]at h3;omega
  ·rfl
 ·intro b hb;rw[wR]at hb;exact h.fresh b (by omega)
 ·intro id gi b h1 h2;rw[wR];rcases split id gi h1 with h1 | ⟨rfl,rfl⟩
  ·have:=h.lt id gi b h1 h2;omega
  ·simp[GI.block]at h2;omega
 ·rw[wR];have:=h.base;omega

theorem tU.storeMap(h:tU B w G H){id b:Nat}{kvs kvs':List (List UInt8 × AV)}{es es':Array MapEntry}{clk clk':Nat}(hH:H[id]?=some (.map kvs))(hμ:G.μ[id]?=some (.blk b))(hw:w.heap[b]?=some (.map es clk))(hc:All2 (ERel w G) es'.toList kvs'):
  Ext B w G { w with heap:=w.heap.setIfInBounds b (.map es' clk') } G∧tU B { w with heap:=w.heap.setIfInBounds b (.map es' clk') } G (H.set id (.map kvs')):=by
 obtain⟨hB,hL,_⟩:=h.ok id _ _ hH hμ;have fy:b<w.heap.size:=(aQ.1 hw).1;have oth:∀k,k≠b→(w.heap.setIfInBounds b (.map es' clk'))[k]?=w.heap[k]?:=λk hk=>by simp[Ne.symm hk]
 have fP:(w.heap.setIfInBounds b (.map es' clk')).size=w.heap.size:=by simp
 have he:Ext B w G { w with heap:=w.heap.setIfInBounds b (.map es' clk') } G:=by
  refine⟨DR.same (af _) rfl,⟨rfl,rfl,rfl,by show w.heap.size≤(w.heap.setIfInBounds b (.map es' clk')).size;rw[fP];exact af _,λk hk=>oth k (by omega)⟩,λ_=>af _,λx off ho=>?_,λ_ gi h=>⟨gi,h,gi.le_refl⟩⟩;have:x≠b:=by intro hx;subst hx;omega
  exact A0 (oth x this)
 refine⟨he,by simp[h.len],?_,h.dist,λx hx=>h.fresh x (by simpa using hx),λi gi x h1 h2=>by have:=h.lt i gi x h1 h2;simpa using this,by have:=h.base;simpa using this⟩;intro id' ab gi h1 h2;by_cases fA:id'=id
 ·subst fA;rw[hμ]at h2;cases h2;have fK:id'<H.length:=(ac.1 hH).1;rw[ak fK]at h1;cases h1;exact⟨hB,hL,es',clk',by simp[fy],hc.mono λ_ _=>he.erel⟩
 ·rw[aj (λh=>fA h.symm)]at h1;refine(h.ok id' ab gi h1 h2).keep he (λx hx=>⟨oth x ?_,rfl⟩);intro jP;subst jP;exact fA (h.dist id' id gi _ x h2 hμ hx rfl)

theorem tU.keepGaps(h:tU B w G H)(k:Nat):Ext B w G w ⟨G.L,G.μ++List.replicate k .gap⟩∧tU B w ⟨G.L,G.μ++List.replicate k .gap⟩ (H++List.replicate k .gap):=by
 have he:Ext B w G w ⟨G.L,G.μ++List.replicate k .gap⟩:=⟨DR.app (af _) rfl (by intro s n;cases k <;> simp[List.replicate]),Below.refl _ _,λ_=>af _,λ_ _ _=>rfl,λid gi hg=>⟨gi,by
  have:id<G.μ.length:=(ac.1 hg).1;simp only[];rw[ah this];exact hg,gi.le_refl⟩⟩
 have split:∀(id:Nat) gi,(G.μ++List.replicate k GI.gap)[id]?=some gi→G.μ[id]?=some gi∨(G.μ.length≤id∧gi=.gap):=by
  intro id gi hg;by_cases fy:id<G.μ.length
  ·rw[ah fy]at hg;exact .inl hg
  ·rw[aM (by omega)]at hg;exact .inr ⟨by omega,bL (a8.2 ⟨_,hg⟩)⟩
 refine⟨he,by simp[h.len],?_,?_,h.fresh,?_,h.base⟩
 ·intro id ab gi h1 h2;rcases split id gi h2 with h2 | ⟨fS,rfl⟩
  ·have fy:id<H.length:=by rw[←h.len];exact (ac.1 h2).1
   rw[ah fy]at h1;exact(h.ok id ab gi h1 h2).keep he (λb hb=>⟨rfl,rfl⟩)
  ·rw[aM (by rw[←h.len];omega)]at h1;rw[bL (a8.2 ⟨_,h1⟩)];trivial
 ·intro id id' gi gi' b h1 h2 h3 h4;rcases split id gi h1 with k1 | ⟨_,rfl⟩ <;> rcases split id' gi' h2 with k2 | ⟨_,rfl⟩
  ·exact h.dist id id' gi gi' b k1 k2 h3 h4
  ·cases h4
  ·cases h3
  ·cases h3
 ·intro id gi b h1 h2;rcases split id gi h1 with k1 | ⟨_,rfl⟩
  ·exact h.lt id gi b k1 h2
  ·cases h2
theorem tU.fill(h:tU B w G H){id:Nat}(fA:H[id]?=some .gap)(vs:Array Value)(e:TypeId)(cs:List AV)(hc:All2 (ARel w G) vs.toList cs):
  Ext B w G (w.alloc (.cells vs e)) ⟨G.L,G.μ.set id (.blk w.heap.size)⟩∧tU B (w.alloc (.cells vs e)) ⟨G.L,G.μ.set id (.blk w.heap.size)⟩ (H.set id (.cells cs)):=by
 have fy:id<H.length:=(ac.1 fA).1;have fyμ:id<G.μ.length:=by rw[h.len];exact fy
 have pe:G.μ[id]?=some .gap:=by
  have fH:=h.ok id _ _ fA (aw fyμ);rw[aw fyμ];cases hg:G.μ[id] with
  |blk b=>rw[hg]at fH;exact fH.elim
  |own v s n=>rw[hg]at fH;exact fH.elim
  |gap=>rfl
 have split:∀(i:Nat) gi,(G.μ.set id (.blk w.heap.size))[i]?=some gi→(i≠id∧G.μ[i]?=some gi)∨(i=id∧gi=.blk w.heap.size):=by
  intro i gi hg;by_cases hi:i=id
  ·subst hi;rw[ak fyμ]at hg;cases hg;exact .inr ⟨rfl,rfl⟩
  ·rw[aj (λh=>hi h.symm)]at hg;exact .inl ⟨hi,hg⟩
 have he:Ext B w G (w.alloc (.cells vs e)) ⟨G.L,G.μ.set id (.blk w.heap.size)⟩:=by
  refine⟨DR.set (af _) rfl (by simp),(Below.refl _ _).alloc h.base _,λ_=>af _,λb off ho=>Uu (a:=⟨b,off,none⟩) (F8 h ho) _,λi gi hg=>?_⟩;by_cases hi:i=id
  ·subst hi;rw[pe]at hg;cases hg;exact⟨.blk w.heap.size,ak fyμ,trivial⟩
  ·exact⟨gi,by show (G.μ.set id _)[i]?=_;rw[aj (λh=>hi h.symm)];exact hg,gi.le_refl⟩
 refine⟨he,by simp[h.len],?_,?_,?_,?_,?_⟩
 ·intro i ab gi h1 h2;rcases split i gi h2 with ⟨hi,h2⟩ | ⟨rfl,rfl⟩
  ·rw[aj (λh=>hi h.symm)]at h1;exact(h.ok i ab gi h1 h2).keep he (λb hb=>⟨yk (h.lt i gi b h2 hb),rfl⟩)
  ·rw[ak fy]at h1;cases h1;exact⟨h.base,h.fresh _ (af _),vs,e,y6 _,hc.mono λ_ _=>he.arel⟩
 ·intro i i' gi gi' b h1 h2 h3 h4;rcases split i gi h1 with ⟨_,k1⟩ | ⟨e1,e2⟩ <;> rcases split i' gi' h2 with ⟨_,k2⟩ | ⟨e3,e4⟩
  ·exact h.dist i i' gi gi' b k1 k2 h3 h4
  ·have:=h.lt i gi b k1 h3;rw[e4]at h4;simp[GI.block]at h4;omega
  ·have:=h.lt i' gi' b k2 h4;rw[e2]at h3;simp[GI.block]at h3;omega
  ·rw[e1,e3]
 ·intro b hb;rw[wR]at hb;exact h.fresh b (by omega)
 ·intro i gi b h1 h2;rw[wR];rcases split i gi h1 with ⟨_,k1⟩ | ⟨_,e2⟩
  ·have:=h.lt i gi b k1 h2;omega
  ·rw[e2]at h2;simp[GI.block]at h2;omega
 ·rw[wR];have:=h.base;omega

end
section
open Go.RowKit

def Cg:Value→AV
 |.bool b=>.bool b
 |.int k n=>.int k n
 |.string s=>.str s.data.toList
 |.pointer none=>.nilp
 |.slice none 0 0=>.ZG
 |.nilFunc=>.nilfn
 |.nilIface=>.nili
 |.float .f64 _=>.flt
 |_=>.unk
def zF:Value→AV
 |.agg cs=>.agg (cs.toList.map Cg)
 |v=>Cg v
def v7:Value→List AV
 |.agg cs=>cs.toList.map Cg
 |v=>[Cg v]

def ev(F:List AV):Operand→AV
 |.tmp t=>F.getD t .unk
 |.const v=>zF v
 |.global _=>.unk
 |.func f=>.fn f []

def AV.cs?:AV→Option (List AV)
 |.tup _=>none
 |.unk=>none
 |.agg cs=>some cs
 |a=>some [a]
def AV.pd:AV→Option AV
 |.bool b=>some (.bool b)
 |.int k n=>some (.int k n)
 |.str s=>some (.str s)
 |.ZG=>some (.sl [] .none)
 |.sl es _=>some (.sl es .none)
 |_=>none
def plain:List AV→Option (List AV)
 |[]=>some []
 | a::asx=>match a.pd,plain asx with
  |some d,some ds=>some (d::ds)
  |_,_=>none
def AV.ZP:AV→Bool
 |.unk=>false
 |_=>true
def AV.isB:AV→Bool
 |.fn _ _|.agg _|.tup _=>false
 |_=>true

def aIf(b:Bool)(p q:Prop):Prop:=if b=true then p else q
def tZ(c a b:AV)(K:AV→Prop):Prop:=
 match c with
 |.bool t=>K (if t=true then a else b)
 |_=>False
def un(cs:List AV)(H:or)(K:AV→or→Prop):Prop:=K (.ptr H.length 0) (H++[.cells cs])
def ul(x:AV)(H:or)(K:AV→or→Prop):Prop:=
 match x.cs? with
 |some cs=>K (.ptr H.length 0) (H++[.cells cs])
 |none=>False
def vH(agg:Bool)(n off:Nat)(cs:List AV)(K:AV→Prop):Prop:=
 match agg with
 |true=>off+n≤cs.length∧K (.agg ((cs.drop off).take n))
 | false=>match cs[off]? with
  |some c=>K c
  |none=>False
def loadAt(a:AV)(H:or):Option (List AV×Nat):=
 match a with
 | .ptr id off=>(match H[id]? with
  |some (.cells cs)=>some (cs,off)
  |_=>none)
 |.view cs=>some (cs,0)
 | .vp id m off=>(match H[id]? with
  | some (.vec _ _ m' cs)=>(match m' == m with
   |true=>some (cs,off)
   |false=>none)
  |_=>none)
 |_=>none
def tL(agg:Bool)(n:Nat)(a:AV)(H:or)(K:AV→Prop):Prop:=
 match loadAt a H with
 |some p=>vH agg n p.2 p.1 K
 |none=>False
def Ch(agg:Bool)(n:Nat)(a:AV)(H:or)(K:AV→Prop):tL agg n a H K=(match a with
  | .ptr id off=>match H[id]? with
   |some (.cells cs)=>vH agg n off cs K
   |_=>False
  |.view cs=>vH agg n 0 cs K
  | .vp id m off=>match H[id]? with
   |some (.vec _ _ m' cs)=>m'=m∧vH agg n off cs K
   |_=>False
  |_=>False):=by
 cases a with
 |ptr id off=>
  simp only[tL,loadAt];cases h:H[id]? with
  |none=>rfl
  |some b=>cases b <;> rfl
 |vp id m off=>
  simp only[tL,loadAt];cases h:H[id]? with
  |none=>rfl
  |some b=>
   cases b with
   |vec e s m' cs=>
    simp only[];by_cases hm:m'=m
    ·subst hm;simp
    ·have:(m' == m)=false:=by simpa using hm
     simp[this,hm]
   |_=>rfl
 |_=>rfl
def tY(agg:Bool)(n:Nat)(a:AV)(H:or)(K:AV→Prop):Prop:=
 match a with
 |.vp _ _ _=>False
 |a=>tL agg n a H K
def Uv(n:Nat)(a x:AV)(H:or):Option or:=
 match x.cs? with
 | some xs=>(match xs.length == n && xs.all AV.ZP with
  | true=>(match a with
   | .ptr id off=>(match H[id]? with
    | some (.cells cs)=>(match decide (off+n≤cs.length) with
     |true=>some (H.set id (.cells (cs.take off++xs++cs.drop (off+n))))
     |false=>none)
    |_=>none)
   | .vp id m off=>(match H[id]? with
    | some (.vec e s m' cs)=>(match m' == m && decide (off+n≤cs.length) with
     |true=>some (H.set id (.vec e s m' (cs.take off++xs++cs.drop (off+n))))
     |false=>none)
    |_=>none)
   |_=>none)
  |false=>none)
 |none=>none
def ua(n:Nat)(a x:AV)(H:or)(K:or→Prop):Prop:=
 match Uv n a x H with
 |some H'=>K H'
 |none=>False
def Ai(n:Nat)(a x:AV)(H:or)(K:or→Prop):ua n a x H K=(match a,x.cs? with
  | .ptr id off,some xs=>match H[id]? with
   |some (.cells cs)=>(xs.length=n∧off+n≤cs.length∧xs.all AV.ZP=true)∧K (H.set id (.cells (cs.take off++xs++cs.drop (off+n))))
   |_=>False
  | .vp id m off,some xs=>match H[id]? with
   |some (.vec e s m' cs)=>(m'=m∧xs.length=n∧off+n≤cs.length∧xs.all AV.ZP=true)∧K (H.set id (.vec e s m' (cs.take off++xs++cs.drop (off+n))))
   |_=>False
  |_,_=>False):=by
 unfold ua Uv;cases hx:x.cs? with
 |none=>cases a <;> rfl
 |some xs=>
  simp only[];cases hk:(xs.length == n && xs.all AV.ZP) with
  |false=>
   have hn:¬(xs.length=n∧xs.all AV.ZP=true):=by intro h;rw[h.2,h.1]at hk;simp at hk
   cases a with
   |ptr id off=>
    simp only[];cases h:H[id]? with
    |none=>rfl
    |some b=>
     cases b with
     |cells cs=>simp only[];exact propext ⟨λh=>h.elim,λh=>(hn ⟨h.1.1,h.1.2.2⟩).elim⟩
     |_=>rfl
   |vp id m off=>
    simp only[];cases h:H[id]? with
    |none=>rfl
    |some b=>
     cases b with
     |vec e s m' cs=>simp only[];exact propext ⟨λh=>h.elim,λh=>(hn ⟨h.1.2.1,h.1.2.2.2⟩).elim⟩
     |_=>rfl
   |_=>rfl
  |true=>
   have hn:xs.length=n∧xs.all AV.ZP=true:=by rw[ap,bt]at hk;exact hk
   cases a with
   |ptr id off=>
    simp only[];cases h:H[id]? with
    |none=>rfl
    |some b=>
     cases b with
     |cells cs=>
      simp only[];by_cases hf:off+n≤cs.length
      ·rw[bG hf];exact propext ⟨λh=>⟨⟨hn.1,hf,hn.2⟩,h⟩,λh=>h.2⟩
      ·rw[bz hf];exact propext ⟨λh=>h.elim,λh=>(hf h.1.2.1).elim⟩
     |_=>rfl
   |vp id m off=>
    simp only[];cases h:H[id]? with
    |none=>rfl
    |some b=>
     cases b with
     |vec e s m' cs=>
      simp only[];by_cases hm:m'=m
      ·subst hm;by_cases hf:off+n≤cs.length
       ·rw[bG hf,eL,cV];exact propext ⟨λh=>⟨⟨rfl,hn.1,hf,hn.2⟩,h⟩,λh=>h.2⟩
       ·rw[bz hf,bR];exact propext ⟨λh=>h.elim,λh=>(hf h.1.2.2.1).elim⟩
      ·have:(m' == m)=false:=by simpa using hm
       rw[this,bm];exact propext ⟨λh=>h.elim,λh=>(hm h.1.1).elim⟩
     |_=>rfl
   |_=>rfl
def Uw(off:Nat)(a:AV):Option AV:=
 match a with
 |.ptr id o=>some (.ptr id (o+off))
 | .view cs=>(match decide (off≤cs.length) with
  |true=>some (.view (cs.drop off))
  |false=>none)
 |.vp id n o=>some (.vp id n (o+off))
 |_=>none
def tN(off:Nat)(a:AV)(K:AV→Prop):Prop:=
 match Uw off a with
 |some v=>K v
 |none=>False
def Ux(off:Nat)(a:AV)(K:AV→Prop):tN off a K=(match a with
  |.ptr id o=>K (.ptr id (o+off))
  |.view cs=>off≤cs.length∧K (.view (cs.drop off))
  |.vp id n o=>K (.vp id n (o+off))
  |_=>False):=by
 cases a with
 |view cs=>
  simp only[tN,Uw];by_cases h:off≤cs.length
  ·simp[h]
  ·simp[h]
 |_=>rfl
def Nv(agg:Bool)(n off:Nat)(a:AV)(K:AV→Prop):Prop:=
 match a with
 |.agg cs=>vH agg n off cs K
 |_=>False
def F9(ft:Nat)(x i:AV):Option AV:=
 match i with
 | .int _ n=>(match x with
  | .sl es _=>(match decide (0≤n) && decide (n<es.length) && (es.getD n.toNat []).length == ft with
   |true=>some (.view (es.getD n.toNat []))
   |false=>none)
  | .ms id off len _=>(match decide (0≤n) && decide (n<len) with
   |true=>some (.ptr id (off+n.toNat*ft))
   |false=>none)
  | .ov id m=>(match decide (0≤n) && decide (n<m) with
   |true=>some (.vp id m (n.toNat*ft))
   |false=>none)
  |_=>none)
 |_=>none
def tW(ft:Nat)(x i:AV)(K:AV→Prop):Prop:=
 match F9 ft x i with
 |some v=>K v
 |none=>False
def Ci(ft:Nat)(x i:AV)(K:AV→Prop):tW ft x i K=(match x,i with
  |.sl es _,.int _ n=>(0≤n∧n<es.length)∧((es.getD n.toNat []).length=ft∧K (.view (es.getD n.toNat [])))
  |.ms id off len _,.int _ n=>(0≤n∧n<len)∧K (.ptr id (off+n.toNat*ft))
  |.ov id m,.int _ n=>(0≤n∧n<m)∧K (.vp id m (n.toNat*ft))
  |_,_=>False):=by
 cases i with
 |int k n=>
  cases x with
  |sl es tok=>
   simp only[tW,F9];by_cases h1:0≤n
   ·by_cases h2:n<es.length
    ·by_cases h3:(es.getD n.toNat []).length=ft
     ·simp only[bG h1,bG h2,bt.2 h3,eJ];exact propext ⟨λh=>⟨⟨h1,h2⟩,h3,h⟩,λh=>h.2.2⟩
     ·simp only[dE.2 h3,bR];exact propext ⟨λh=>h.elim,λh=>(h3 h.2.1).elim⟩
    ·simp only[bz h2,bR,bm];exact propext ⟨λh=>h.elim,λh=>(h2 h.1.2).elim⟩
   ·simp only[bz h1,bm];exact propext ⟨λh=>h.elim,λh=>(h1 h.1.1).elim⟩
  |ms id off len cap=>
   simp only[tW,F9];by_cases h1:0≤n
   ·by_cases h2:n<len
    ·simp only[bG h1,bG h2,eJ];exact propext ⟨λh=>⟨⟨h1,h2⟩,h⟩,λh=>h.2⟩
    ·simp only[bz h2,bR];exact propext ⟨λh=>h.elim,λh=>(h2 h.1.2).elim⟩
   ·simp only[bz h1,bm];exact propext ⟨λh=>h.elim,λh=>(h1 h.1.1).elim⟩
  |ov id m=>
   simp only[tW,F9];by_cases h1:0≤n
   ·by_cases h2:n<m
    ·simp only[bG h1,bG h2,eJ];exact propext ⟨λh=>⟨⟨h1,h2⟩,h⟩,λh=>h.2⟩
    ·simp only[bz h2,bR];exact propext ⟨λh=>h.elim,λh=>(h2 h.1.2).elim⟩
   ·simp only[bz h1,bm];exact propext ⟨λh=>h.elim,λh=>(h1 h.1.1).elim⟩
  |_=>rfl
 |_=>cases x <;> rfl
def wl(x i:AV)(K:AV→Prop):Prop:=
 match x,i with
 |.str s,.int _ n=>(0≤n∧n<s.length)∧K (.int .u8 (s.getD n.toNat 0).toNat)
 |_,_=>False
def lenOf(u:Nat)(x:AV):Option Int:=
 match u with
 | 0=>(match x with
  |.str s=>some s.length
  |_=>none)
 | 1=>(match x with
  |.sl es _=>some es.length
  |.ZG=>some 0
  |.ms _ _ len _=>some len
  |.ov _ n=>some n
  |_=>none)
 |_=>none
def tV(u:Nat)(x:AV)(K:AV→Prop):Prop:=
 match lenOf u x with
 |some n=>K (.int .i64 n)
 |none=>False
def zKj(u:Nat)(x:AV)(K:AV→Prop):tV u x K=(match u,x with
  |0,.str s=>K (.int .i64 s.length)
  |1,.sl es _=>K (.int .i64 es.length)
  |1,.ZG=>K (.int .i64 0)
  |1,.ms _ _ len _=>K (.int .i64 len)
  |1,.ov _ n=>K (.int .i64 n)
  |_,_=>False):=by
 unfold tV lenOf
 match u with
 |0=>cases x <;> rfl
 |1=>cases x <;> rfl
 |_+2=>cases x <;> rfl
def wn(x:Option AV)(d:Nat)(K:Nat→Prop):Prop:=
 match x with
 |none=>K d
 |some (.int _ n)=>0≤n∧K n.toNat
 |_=>False
def Cj(ft id n:Nat)(lo hi:Option AV)(K:AV→Prop):Prop:=
 match lo,hi with
 |none,some (.int _ m)=>(0≤m∧m≤n)∧K (.pf id n m.toNat)
 |lo,hi=>wn hi n λh=>wn lo 0 λl=>(l≤h∧h=n)∧K (.os id n l ft)
def uF(u ft:Nat)(x:AV)(lo hi:Option AV)(K:AV→Prop):Prop:=
 match u,x with
 |0,.str s=>wn hi s.length λh=>wn lo 0 λl=>(l≤h∧h≤s.length)∧K (.str ((s.take h).drop l))
 |1,.sl es _=>wn hi es.length λh=>wn lo 0 λl=>(l≤h∧h≤es.length∧∀c∈es,c.length=ft)∧K (.sl ((es.take h).drop l) .none)
 |1,.ZG=>wn hi 0 λh=>wn lo 0 λl=>(l≤h∧h≤0)∧K .ZG
 |1,.ov id n=>Cj ft id n lo hi K
 |1,.ms id off len cap=>wn hi len λh=>wn lo 0 λl=>(l≤h∧h≤cap)∧K (.ms id (if cap=l then off else off+l*ft) (h-l) (cap-l))
 |_,_=>False
def Ga(op:BinOp)(b:Bool)(x y:AV):Option AV:=
 match x with
 | .int k m=>(match y with
  | .int k' n=>(match decide (k=k') with
   | true=>(match op with
    |.add=>some (.int k (k.wrap (m+n)))
    |.sub=>some (.int k (k.wrap (m-n)))
    |.mul=>some (.int k (k.wrap (m*n)))
    | .quo=>(match n == 0 with
     |true=>none
     |false=>some (.int k (k.wrap (m.tdiv n))))
    | .rem=>(match n == 0 with
     |true=>none
     |false=>some (.int k (m.tmod n)))
    |.eql=>some (.bool (m == n))
    |.neq=>some (.bool (m != n))
    |.lss=>some (.bool (decide (m<n)))
    |.leq=>some (.bool (decide (m≤n)))
    |.gtr=>some (.bool (decide (m>n)))
    |.geq=>some (.bool (decide (m≥n)))
    |_=>none)
   |false=>none)
  |_=>none)
 | .str s=>(match y with
  | .str t=>(match op with
   | .add=>(match decide (s.length+t.length≤9223372036854775807) with
    |true=>some (.str (s++t))
    |false=>none)
   |.eql=>some (.bool (s == t))
   |.neq=>some (.bool (!(s == t)))
   |.lss=>some (.bool (Op.bytesLess s t))
   |.leq=>some (.bool (Op.bytesLess s t || s == t))
   |.gtr=>some (.bool (!(Op.bytesLess s t || s == t)))
   |.geq=>some (.bool (!Op.bytesLess s t))
   |_=>none)
  |_=>none)
 | .bool m=>(match y with
  | .bool n=>(match b with
   | true=>(match op with
    |.eql=>some (.bool (m == n))
    |.neq=>some (.bool (!(m == n)))
    |_=>none)
   |false=>none)
  |_=>none)
 |_=>none
def gt(op:BinOp)(b:Bool)(x y:AV)(K:AV→Prop):Prop:=
 match Ga op b x y with
 |some v=>K v
 |none=>False
def xj(op:BinOp)(b:Bool)(x y:AV)(K:AV→Prop):gt op b x y K=(match x,y with
  | .int k m,.int k' n=>k=k'∧(match op with
   |.add=>K (.int k (k.wrap (m+n)))
   |.sub=>K (.int k (k.wrap (m-n)))
   |.mul=>K (.int k (k.wrap (m*n)))
   |.quo=>n≠0∧K (.int k (k.wrap (m.tdiv n)))
   |.rem=>n≠0∧K (.int k (m.tmod n))
   |.eql=>K (.bool (m == n))
   |.neq=>K (.bool (m != n))
   |.lss=>K (.bool (decide (m<n)))
   |.leq=>K (.bool (decide (m≤n)))
   |.gtr=>K (.bool (decide (m>n)))
   |.geq=>K (.bool (decide (m≥n)))
   |_=>False)
  | .str s,.str t=>(match op with
   |.add=>s.length+t.length≤9223372036854775807∧K (.str (s++t))
   |.eql=>K (.bool (s == t))
   |.neq=>K (.bool (!(s == t)))
   |.lss=>K (.bool (Op.bytesLess s t))
   |.leq=>K (.bool (Op.bytesLess s t || s == t))
   |.gtr=>K (.bool (!(Op.bytesLess s t || s == t)))
   |.geq=>K (.bool (!Op.bytesLess s t))
   |_=>False)
  | .bool m,.bool n=>b=true∧(match op with
   |.eql=>K (.bool (m == n))
   |.neq=>K (.bool (!(m == n)))
   |_=>False)
  |_,_=>False):=by
 cases x with
 |int k m=>
  cases y with
  |int k' n=>
   simp only[gt,Ga];by_cases hk:k=k'
   ·subst hk;simp only[dT,fc];cases op with
    |quo=>
     by_cases h0:n=0
     ·subst h0;simp
     ·have:(n == 0)=false:=by simpa using h0
      simp[this,h0]
    |rem=>
     by_cases h0:n=0
     ·subst h0;simp
     ·have:(n == 0)=false:=by simpa using h0
      simp[this,h0]
    |_=>rfl
   ·simp only[bz hk];exact propext ⟨λh=>h.elim,λh=>(hk h.1).elim⟩
  |_=>rfl
 |str s=>
  cases y with
  |str t=>
   simp only[gt,Ga];cases op with
   |add=>
    simp only[];by_cases h:s.length+t.length≤9223372036854775807
    ·simp only[bG h];exact propext ⟨λh2=>⟨h,h2⟩,λh=>h.2⟩
    ·simp only[bz h];exact propext ⟨λh=>h.elim,λh2=>(h h2.1).elim⟩
   |_=>rfl
  |_=>rfl
 |bool m=>
  cases y with
  |bool n=>
   simp only[gt,Ga];cases b with
   |true=>cases op <;> exact propext ⟨λh=>⟨rfl,h⟩,λh=>h.2⟩
   |false=>exact propext ⟨λh=>h.elim,λh=>by cases h.1⟩
  |_=>rfl
 |_=>cases y <;> rfl
def Uy(ok:Bool)(op:BinOp)(x:AV)(K:AV→Prop):Prop:=
 ok=true∧(match x with
  | .nili=>(match op with
   |.eql=>K (.bool true)
   |.neq=>K (.bool false)
   |_=>False)
  | .ifc=>(match op with
   |.eql=>K (.bool false)
   |.neq=>K (.bool true)
   |_=>False)
  |_=>False)
def Nw:Operand→Bool
 |.const .nilIface=>true
 |_=>false
def aUn(op:UnOp)(x:AV)(K:AV→Prop):Prop:=
 match op,x with
 |.not,.bool b=>K (.bool (!b))
 |.neg,.int k n=>K (.int k (k.wrap (0-n)))
 |_,_=>False
def uw(k:IntKind)(x:AV)(K:AV→Prop):Prop:=
 match x with
 |.int _ n=>K (.int k (k.wrap n))
 |_=>False
def Nx(x:AV)(K:AV→Prop):Prop:=
 match x with
 |.str s=>K (.str s)
 |_=>False
def DL:List (List AV)→Option (List UInt8)
 |[]=>some []
 | [.int .u8 n]::es=>(match DL es with
  |some s=>some (UInt8.ofNat n.toNat::s)
  |none=>none)
 |_=>none
def Ny(x:AV)(K:AV→Prop):Prop:=
 match x with
 | .sl es _=>(match DL es with
  |some s=>K (.str s)
  |none=>False)
 |.ZG=>K (.str [])
 |_=>False
def uo(x:AV)(i:Nat)(K:AV→Prop):Prop:=
 match x with
 | .tup vs=>(match vs[i]? with
  |some v=>K v
  |none=>False)
 |_=>False
def yl(f:Nat)(caps:List AV)(K:AV→Prop):Prop:=caps.all AV.isB=true∧K (.fn f caps)
def Uz(x:AV):Option AV:=
 match x with
 |.ptr _ _|.view _|.fn _ _|.vp _ _ _=>some x
 |_=>none
def vJ(x:AV)(K:AV→Prop):Prop:=
 match Uz x with
 |some v=>K v
 |none=>False
def zKl(x:AV)(K:AV→Prop):vJ x K=(match x with
  |.ptr _ _|.view _|.fn _ _|.vp _ _ _=>K x
  |_=>False):=by
 unfold vJ Uz;cases x <;> rfl
def uv(places:List (Nat × Nat)):List (Nat × AV)→List AV→Option (List AV)
 |[],cs=>some cs
 | (i,x)::rest,cs=>match places[i]?,x.cs? with
  | some (off,size),some xs=>match xs.length == size && decide (off+size≤cs.length) with
   |true=>uv places rest (cs.take off++xs++cs.drop (off+size))
   |false=>none
  |_,_=>none
def ug(zero:List AV)(places:List (Nat×Nat))(fq:List (Nat×AV))(K:AV→Prop):Prop:=
 match uv places fq zero with
 |some cs=>K (.agg cs)
 |none=>False
def uI(ft:Nat):List (Nat × AV)→List (List AV)→Option (List (List AV))
 |[],es=>some es
 | (i,x)::rest,es=>match x.cs? with
  | some xs=>match plain xs with
   | some ds=>match ds.length == ft && decide (i<es.length) with
    |true=>uI ft rest (es.set i ds)
    |false=>none
   |none=>none
  |none=>none
def uk(ft:Nat)(zero:List AV)(len:Nat)(fq:List (Nat×AV))(K:AV→Prop):Prop:=
 match plain zero with
 | some z=>(match uI ft fq (List.replicate len z) with
  |some es=>K (.sl es .full)
  |none=>False)
 |none=>False
def vo(bytes:Nat)(zero:List AV)(len cap:AV)(H:or)(K:AV→or→Prop):Prop:=
 match len,cap with
 | .int .i64 l,.int .i64 c=>(0≤l∧l≤c∧c*bytes≤140737488355328∧c≤9223372036854775807) ∧
   K (.ms H.length 0 l.toNat c.toNat) (H++[.cells (List.replicate c.toNat zero).flatten])
 |_,_=>False
def wo:List (List UInt8 × AV)→List UInt8→Option AV
 |[],_=>none
 | p::l,s=>match p.1 == s with
  |true=>some p.2
  |false=>wo l s
def xx:List (List UInt8 × AV)→List UInt8→AV→List (List UInt8 × AV)
 |[],s,x=>[(s,x)]
 | p::l,s,x=>match p.1 == s with
  |true=>(s,x)::l
  |false=>p::xx l s x
def Aj(H:or)(K:AV→or→Prop):Prop:=K (.map H.length) (H++[.map []])
def zG(zero:AV)(ok:Bool)(m k:AV)(H:or)(K:AV→Prop):Prop:=
 match m,k with
 | .map id,.str s=>match H[id]? with
  | some (.map kvs)=>K (match ok with
   |true=>.tup [(wo kvs s).getD zero,.bool (wo kvs s).isSome]
   |false=>(wo kvs s).getD zero)
  |_=>False
 |_,_=>False
def yC(m k x:AV)(H:or)(K:or→Prop):Prop:=
 match m,k with
 | .map id,.str s=>match H[id]? with
  | some (.map kvs)=>(match x with
   |.tup _=>False
   |x=>K (H.set id (.map (xx kvs s x))))
  |_=>False
 |_,_=>False
def uD(y:AV)(K:List (List AV)→Prop):Prop:=
 match y with
 |.sl ys _=>K ys
 |.ZG=>K []
 |_=>False
def uy(e size bytes:Nat)(x:AV)(ys:List (List AV))(H:or)(K:AV→or→Prop):Prop:=
 match x with
 |.ZG=>(ys.length*bytes≤140737488355328∧ys.length≤9223372036854775807)∧K (.sl ys (.own H.length)) (H++[.perm e size ys.length])
 | .sl es (.own id)=>H[id]?=some (.perm e size es.length)∧((es.length+ys.length)*bytes≤140737488355328∧es.length+ys.length≤9223372036854775807) ∧
   K (.sl (es++ys) (.own id)) (H.set id (.perm e size (es.length+ys.length)))
 | .ov id n=>(match H[id]? with
  |some (.vec e' s' n' cs)=>((e'=e∧s'=size∧n'=n)∧(n+ys.length)*bytes≤140737488355328∧n+ys.length≤9223372036854775807)∧K (.ov id (n+ys.length)) (H.set id (.vec e size (n+ys.length) (cs++ys.flatten)))
  |_=>False)
 | .sl es .full=>(match ys with
  |[]=>K (.sl es .full) H
  |y::ys=>(0<(y::ys).length∧(∀c∈es,c.length=size)∧(es.length+(y::ys).length)*bytes≤140737488355328∧es.length+(y::ys).length≤9223372036854775807)∧K (.sl (es++y::ys) (.own H.length)) (H++[.perm e size (es.length+(y::ys).length)]))
 |_=>False
def xY(e size bytes:Nat)(x:AV)(m:Nat)(ds:List AV)(H:or)(K:AV→or→Prop):Prop:=
 match x with
 | .ov id n=>(match H[id]? with
  |some (.vec e' s' n' cs)=>((e'=e∧s'=size∧n'=n)∧ds.all AV.ZP=true∧ds.length=m*size∧(n+m)*bytes≤140737488355328∧n+m≤9223372036854775807)∧K (.ov id (n+m)) (H.set id (.vec e size (n+m) (cs++ds)))
  |_=>False)
 | .sl [] .full=>(match m with
  |0=>K (.sl [] .none) H
  |m'+1=>(ds.all AV.ZP=true∧ds.length=(m'+1)*size∧(m'+1)*bytes≤140737488355328∧m'+1≤9223372036854775807)∧K (.ov H.length (m'+1)) (H++[.vec e size (m'+1) ds]))
 | .ZG=>(match m with
  |0=>K .ZG H
  |m'+1=>(ds.all AV.ZP=true∧ds.length=(m'+1)*size∧(m'+1)*bytes≤140737488355328∧m'+1≤9223372036854775807)∧K (.ov H.length (m'+1)) (H++[.vec e size (m'+1) ds]))
 |_=>False
def uj(e size bytes:Nat)(x y:AV)(H:or)(K:AV→or→Prop):Prop:=
 match y with
 | .ms id off len _=>(match H[id]? with
  |some (.cells cs)=>off+len*size≤cs.length∧xY e size bytes x len ((cs.drop off).take (len*size)) H K
  |_=>False)
 | .ov id n=>(match H[id]? with
  |some (.vec _ s' n' cs)=>(s'=size∧n'=n)∧xY e size bytes x n cs H K
  |_=>False)
 | .os id n lo z=>(match x with
  | .pf id' n' h=>(match H[id]? with
   |some (.vec e' s' m cs)=>((id'=id∧n'=n∧m=n)∧z=size∧s'=size∧e'=e)∧xY e size bytes (.ov H.length h) (n-lo) (cs.drop (lo*size)) (H.set id .dead++[.vec e size h (cs.take (h*size))]) K
   |_=>False)
  |_=>False)
 |y=>uD y λys=>(∀c∈ys,c.length=size)∧uy e size bytes x ys H K

def ge(P:Program)(f:FuncId)(args:List AV)(H:or)(K:AV→or→Prop):Prop:=
 ∀ (B:Nat) (w:World) (G:Gh) (vs:Array Value),tU B w G H→All2 (TRel w G) vs.toList args →
  Calls P f vs w λe w'=>∃v r H' G',e=.returned v∧Ext B w G w' G'∧tU B w' G' H'∧TRel w' G' v r∧K r H'

def uV(P:Program)(t:TypeId):Option Nat:=(P.info? t).map (·.size)
def xI(P:Program)(t:TypeId):Option Nat:=(P.info? t).map (·.bytes)
def vW(P:Program)(t:TypeId):Option Value:=(P.info? t).bind (·.zero)
def y7(P:Program)(t:TypeId):Option Bool:=(P.underlying t).map λ| .struct _|.array _ _=>true|_=>false
def y8(P:Program)(t:TypeId):Option Nat:=(P.underlying t).bind λ| .string=>some 0|.slice _=>some 1|_=>none
def vD(P:Program)(t:TypeId):Option TypeId:=(P.underlying t).bind λ| .slice e=>some e|_=>none
def Nz(P:Program)(t:TypeId):Bool:=match P.underlying t with|some (.interface _)=>true|_=>false
def zPw(P:Program)(t:TypeId):Bool:=match P.underlying t with
 | some (.struct fs)=>(match fs.toList with
  | [f0,_]=>(match P.underlying f0.type with
   |some (.pointer e)=>e == t
   |_=>false)
  |_=>false)
 |_=>false
def tU8(P:Program)(t:TypeId):Bool:=match P.underlying t with|some (.int .u8)=>true|_=>false
inductive CvK where
 |ints (k:IntKind)
 |strs
 |bytes
def cvK(P:Program)(s t:TypeId):Option CvK:=
 match P.underlying s with
 | some (.int _)=>(match P.underlying t with
  |some (.int k)=>some (.ints k)
  |_=>none)
 | some .string=>(match P.underlying t with
  |some .string=>some .strs
  |_=>none)
 | some (.slice e)=>(match P.underlying t with
  | some .string=>(match tU8 P e with
   |true=>some .bytes
   |false=>none)
  |_=>none)
 |_=>none
def NA(P:Program)(t:TypeId):Bool:=match P.underlying t with|some .bool=>true|_=>false
def Ck(P:Program)(t:TypeId)(i:Nat):Option Field:=(P.underlying t).bind λ| .struct fs=>fs[i]?|_=>none
def NB(P:Program)(t:TypeId):Option (List (Nat × Nat)):=(P.underlying t).bind fun
 |.struct fs=>fs.toList.mapM λf=>(uV P f.type).map λs=>(f.offset,s)
 |.array n e=>(uV P e).map λs=>(List.range n).map λi=>(i*s,s)
 |_=>none
def Gb(P:Program)(t:TypeId):Option (Nat×TypeId):=(P.underlying t).bind λ| .array n e=>some (n,e)|_=>none
def DM(n:Nat):AV→AV
 |.ptr id off=>.ms id off n n
 |_=>.unk
def zH(P:Program)(t:TypeId):Option TypeId:=(P.underlying t).bind fun
 | .map k e=>(match P.underlying k with
  |some .string=>some e
  |_=>none)
 |_=>none
def y9(P:Program)(f:FuncId):Bool:=
 match P.funcs[f]? with
 | some fn => !(fn.name == "runtime.NumGoroutine") && fn.body.isSome
 |none=>false

def aCallV(P:Program)(g:AV)(args:List AV)(H:or)(K:AV→or→Prop):Prop:=
 match g with
 | .fn f caps=>(match y9 P f with
  |true=>ge P f (args++caps) H K
  |false=>False)
 |_=>False

def DN(x y:AV)(K:AV→Prop):Prop:=
 match x,y with
 |.int k m,.int _ n=>K (.int k (if n>m then n else m))
 |_,_=>False
def Gc(x y:AV)(K:AV→Prop):Prop:=
 match x,y with
 |.int k m,.int _ n=>K (.int k (if n<m then n else m))
 |_,_=>False
def ym(cs:List AV)(off:Nat)(ds:List AV):List AV:=cs.take off++ds++cs.drop (off+ds.length)
def A5(size:Nat)(x y:AV)(H:or)(K:AV→or→Prop):Prop:=
 match x,y with
 | .os id n lo z,.os id' n' lo' z'=>(match H[id]? with
  | some (.vec e s m cs)=>(((id'=id∧n'=n∧m=n)∧z=size∧z'=size∧s=size)∧cs.all AV.ZP=true) ∧
    K (.int .i64 ((min (n-lo') (n-lo):Nat):Int)) (H.set id (.vec e s m (ym cs (lo*size) ((cs.drop (lo'*size)).take (min (n-lo') (n-lo)*size)))))
  |_=>False)
 |_,_=>False
def Ak(P:Program)(b:Builtin)(c:Call)(F:List AV)(H:or)(K:AV→or→Prop):Prop:=
 match b with
 | .len=>(match c.args.toList,c.argTypes.toList with
  | [x],[t]=>(match y8 P t with
   |some u=>tV u (ev F x) (K · H)
   |none=>False)
  |_,_=>False)
 | .append=>(match c.args.toList,c.argTypes.toList with
  | [x,y],[t,t']=>(match vD P t,(vD P t).bind (uV P),(vD P t).bind (xI P),(vD P t).bind (vW P),t == t' with
   | some e,some size,some bytes,some z,true=>(match decide (0<size) && (v7 z).length == size with
    |true=>uj e size bytes (ev F x) (ev F y) H K
    |false=>False)
   |_,_,_,_,_=>False)
  |_,_=>False)
 | .max=>(match c.args.toList with
  |[x,y]=>DN (ev F x) (ev F y) (K · H)
  |_=>False)
 | .min=>(match c.args.toList with
  |[x,y]=>Gc (ev F x) (ev F y) (K · H)
  |_=>False)
 | .copy=>(match c.args.toList,c.argTypes.toList with
  | [x,y],[t,_]=>(match (vD P t).bind (uV P) with
   |some size=>A5 size (ev F x) (ev F y) H K
   |none=>False)
  |_,_=>False)
 |_=>False

def Am(P:Program)(op:Op)(F:List AV)(H:or)(K:AV→or→Prop):Prop:=
 match op with
 | .makeMap t r=>(match r,zH P t with
  |none,some _=>Aj H K
  |_,_=>False)
 | .lookup t x i ok=>(match (zH P t).bind (vW P) with
  |some z=>zG (zF z) ok (ev F x) (ev F i) H (K · H)
  |none=>False)
 | .mapUpdate t m k x=>(match zH P t with
  |some _=>yC (ev F m) (ev F k) (ev F x) H (K (.tup []))
  |none=>False)
 | .insert t m k x=>(match zH P t with
  |some _=>yC (ev F m) (ev F k) (ev F x) H (K (.tup []))
  |none=>False)
 |_=>False

def yD(P:Program)(o:Oper)(F:List AV)(H:or)(K:AV→or→Prop):Prop:=
 match o.op with
 |.move x|.assign x=>K (ev F x) H
 |.pick c a b=>tZ (ev F c) (ev F a) (ev F b) (K · H)
 | .alloc t=>(match vW P t with
  |some z=>un (v7 z) H K
  |none=>False)
 |.box _ x=>ul (ev F x) H K
 | .build t fq=>(match vW P t,NB P t with
  |some z,some ps=>ug (v7 z) ps (fq.toList.map λp=>(p.1,ev F p.2)) (K · H)
  |_,_=>False)
 | .buildSlice t len fq=>(match (vD P t).bind (uV P),(vD P t).bind (vW P) with
  | some size,some z=>(match decide (0<size) && decide (len*size≤16777216) && (v7 z).length == size with
   |true=>uk size (v7 z) len (fq.toList.map λp=>(p.1,ev F p.2)) (K · H)
   |false=>False)
  |_,_=>False)
 | .load t a=>(match y7 P t,uV P t with
  |some g,some n=>tL g n (ev F a) H (K · H)
  |_,_=>False)
 | .store t a x=>(match uV P t with
  |some n=>ua n (ev F a) (ev F x) H (K (.tup []))
  |none=>False)
 |.nilCheck x=>vJ (ev F x) (K · H)
 | .binOp op t x y _=>(match Nw y with
  |true=>Uy (Nz P t) op (ev F x) (K · H)
  |false=>gt op (NA P t) (ev F x) (ev F y) (K · H))
 |.unOp op _ x=>aUn op (ev F x) (K · H)
 | .convert s t x=>(match cvK P s t with
  |some (.ints k)=>uw k (ev F x) (K · H)
  |some .strs=>Nx (ev F x) (K · H)
  |some .bytes=>Ny (ev F x) (K · H)
  |none=>False)
 | .makeFunc (.func f) first caps=>(match first.toList with
  |[]=>yl f (caps.toList.map (ev F)) (K · H)
  |_=>False)
 | .makeSlice t l c=>(match (vD P t).bind (uV P),(vD P t).bind (xI P),(vD P t).bind (vW P) with
  | some size,some bytes,some z=>(match decide (0<size) && (v7 z).length == size with
   |true=>vo bytes (v7 z) (ev F l) (ev F c) H K
   |false=>False)
  |_,_,_=>False)
 | .slice t x lo hi none=>(match y8 P t with
  |some 0=>uF 0 0 (ev F x) (lo.map (ev F)) (hi.map (ev F)) (K · H)
  | some 1=>(match (vD P t).bind (uV P) with
   |some size=>uF 1 size (ev F x) (lo.map (ev F)) (hi.map (ev F)) (K · H)
   |none=>False)
  |_=>False)
 | .fieldAddr s x i=>(match Ck P s i with
  | some f=>(match uV P f.type with
   |some (_+1)=>tN f.offset (ev F x) (K · H)
   |_=>False)
  |none=>False)
 | .field s x i=>(match Ck P s i with
  | some f=>(match y7 P f.type,uV P f.type with
   |some g,some n=>Nv g n f.offset (ev F x) (K · H)
   |_,_=>False)
  |none=>False)
 | .indexAddr t x i=>(match (vD P t).bind (uV P),Gb P t,(Gb P t).bind (λa=>uV P a.2) with
  |some size,_,_=>tW size (ev F x) (ev F i) (K · H)
  |none,some a,some size=>tW size (DM a.1 (ev F x)) (ev F i) (K · H)
  |_,_,_=>False)
 | .index t x i=>(match y8 P t with
  |some 0=>wl (ev F x) (ev F i) (K · H)
  |_=>False)
 |.extract x i=>uo (ev F x) i (K · H)
 | .call c=>(match c.callee with
  |.value f=>aCallV P (ev F f) (c.args.toList.map (ev F)) H K
  |.builtin b=>Ak P b c F H K
  |.invoke _ _=>False)
 |_=>False
def isM:Op→Bool
 |.makeMap _ _|.lookup _ _ _ _|.mapUpdate _ _ _ _|.insert _ _ _ _=>true
 |_=>false
def aop(P:Program)(o:Oper)(F:List AV)(H:or)(K:AV→or→Prop):Prop:=
 match isM o.op with
 |true=>Am P o.op F H K
 |false=>yD P o F H K

def Ge(fl:Bool)(agg:Bool)(n:Nat)(a:AV)(H:or)(K:AV→Prop):Prop:=
 match fl with
 |false=>tY agg n a H K
 |true=>tL agg n a H K
def vv(fl:Bool)(P:Program)(o:Oper)(F:List AV)(H:or)(K:AV→or→Prop):Prop:=
 match o.op with
 | .load t a=>(match y7 P t,uV P t with
  |some g,some n=>Ge fl g n (ev F a) H (K · H)
  |_,_=>False)
 |_=>aop P o F H K
def DO(g:AV)(want:Bool)(p q:Prop):Prop:=
 match g with
 |.bool b=>aIf (b == want) p q
 |.tup []=>q
 |_=>False
def ui(g:AV)(want:Bool)(H:or)(p:(AV→or→Prop)→Prop)(J:AV→or→Prop):Prop:=DO g want (p J) (J (.tup []) H)
def ub(H:or)(p:(AV→or→Prop)→Prop)(K:AV→Prop):Prop:=∃r,(p λv H'=>v=r∧H'=H)∧K r
def xZ(H:or)(p:or→(AV→or→Prop)→Prop)(K:AV→Prop):Prop:=∃r,(∀J:or,p (H++J) λv H'=>v=r∧H'=H++J)∧K r
def tO(c:AV)(p q:Prop):Prop:=
 match c with
 |.bool t=>aIf t p q
 |_=>False

def wm(F:List AV)(d:Option Tmp)(v:AV):List AV:=
 match d with
 |some d=>F.set d v
 |none=>F

def NC(t:TypeId)(cs:List AV)(H:or)(K:AV→or→Prop):Prop:=K (.ptr H.length 0) (H++[.bld t cs])
def DP(P:Program)(o:Oper)(F:List AV)(H:or)(K:AV→or→Prop):Prop:=
 match o.op with
 | .alloc t=>(match zPw P t with
  | true=>(match vW P t with
   |some z=>NC t (v7 z) H K
   |none=>False)
  |false=>aop P o F H K)
 |_=>aop P o F H K
def Cm(x:AV)(K:Bool→Prop):Prop:=
 match x with
 |.ZG=>K true
 |.ms _ _ _ _=>K false
 |.ov _ (_+1)=>K false
 |.sl (_::_) .none=>K false
 |.sl [] .none=>K true∧K false
 |_=>False
def DQ(ok:Bool)(op:BinOp)(x:AV)(K:AV→Prop):Prop:=
 ok=true∧(match op with
 |.eql=>Cm x λb=>K (.bool b)
 |.neq=>Cm x λb=>K (.bool (!b))
 |_=>False)
def ND:Operand→Bool
 |.const (.slice none 0 0)=>true
 |_=>false
def NE(P:Program)(t:TypeId):Bool:=match P.underlying t with|some (.slice _)=>true|_=>false
def UA:Operand→Bool
 |.const (.int .i64 (.ofNat 0))=>true
 |_=>false
def zI(e size bytes:Nat)(cap:AV)(H:or)(K:AV→or→Prop):Prop:=
 match cap with
 |.int .i64 c=>(0≤c∧c*bytes≤140737488355328∧c≤9223372036854775807)∧K (.ov H.length 0) (H++[.vec e size 0 []])
 |_=>False
def zPx(P:Program)(t:TypeId):Bool:=match P.underlying t with|some (.float .f64)=>true|_=>false
def A6(op:BinOp)(x y:AV)(K:AV→Prop):Prop:=
 match x,y with
 | .flt,.flt=>(match op with
  |.add|.sub|.mul|.quo=>K .flt
  |_=>False)
 |_,_=>False
def cvF(P:Program)(s t:TypeId):Option Bool:=
 match P.underlying s,P.underlying t with
 |some (.int _),some (.float .f64)=>some true
 |some (.float .f64),some (.int .u64)=>some false
 |_,_=>none
def A7(x:AV)(K:AV→Prop):Prop:=
 match x with
 |.int _ _=>K .flt
 |_=>False
def DS(x:AV)(K:AV→Prop):Prop:=
 match x with
 |.flt=>∀n:Nat,n<18446744073709551616→K (.int .u64 n)
 |_=>False
def NF(P:Program)(o:Oper)(F:List AV)(H:or)(K:AV→or→Prop):Prop:=
 match o.op with
 | .binOp op t x y _=>(match ND y with
  |true=>DQ (NE P t) op (ev F x) (K · H)
  | false=>(match zPx P t with
   |true=>A6 op (ev F x) (ev F y) (K · H)
   |false=>aop P o F H K))
 | .convert s t x=>(match cvF P s t with
  |some true=>A7 (ev F x) (K · H)
  |some false=>DS (ev F x) (K · H)
  |none=>aop P o F H K)
 | .makeSlice t l c=>(match UA l with
  | true=>(match vD P t with
   | some e=>(match uV P e,xI P e,vW P e with
    | some size,some bytes,some z=>(match decide (0<size) && (v7 z).length == size with
     |true=>zI e size bytes (ev F c) H K
     |false=>False)
    |_,_,_=>False)
   |none=>False)
  |false=>aop P o F H K)
 |_=>aop P o F H K
def DT(P:Program):List Oper→(List AV→or→Prop)→List AV→or→Prop
 |[],K,F,H=>K F H
 | o::os,K,F,H=>match o.guard with
  |none=>NF P o F H λv H'=>DT P os K (wm F o.dst v) H'
  |some _=>False
def An(P:Program)(fx:Array Oper):List Oper→(List AV→or→Prop)→List AV→or→Prop
 |[],K,F,H=>K F H
 | o::os,K,F,H=>match o.guard with
  |none=>DP P o F H λv H'=>An P fx os K (wm F o.dst v) H'
  | some (j,want)=>(match (fx[j]?).bind (·.dst) with
   |some d=>ui (F.getD d .unk) want H (DP P o F H) λv H'=>An P fx os K (wm F o.dst v) H'
   |none=>False)

inductive WM where
 |n
 |w
 |g
 |c
 |l
def WM.on(wc:WM)(f:Operand):Bool:=
 match wc with
 |.n=>false
 | .c=>(match f with
  |.func _=>true
  |_=>false)
 |_=>true
def WM.gr:WM→Bool
 |.g=>true
 |_=>false
def GrowA(H H':or):Prop:=H'=H∨(∃ e s n,H'=H++[.perm e s n])∨(∃ (id e s n n':Nat),H[id]?=some (.perm e s n)∧H'=H.set id (.perm e s n')) ∨
 (∃(id e s n n':Nat) (cs cs':List AV),H[id]?=some (.vec e s n cs)∧H'=H.set id (.vec e s n' cs'))∨(∃(e s n:Nat) (cs:List AV),H'=H++[.vec e s n cs])∨∃(id e s n e' s' n':Nat) (cs cs':List AV),H[id]?=some (.vec e s n cs)∧H'=H.set id .dead++[.vec e' s' n' cs']
def opW(wc:WM):Op→Bool
 |.store _ _ _|.alloc _|.box _ _|.makeSlice _ _ _|.makeMap _ _|.mapUpdate _ _ _ _|.insert _ _ _ _=>true
 | .call c=>(match c.callee with
  |.builtin .append=>true
  |.builtin .copy=>true
  |.value f=>wc.on f
  |_=>false)
 |_=>false
def opF:Op→Bool
 |.move _|.assign _|.pick _ _ _|.build _ _|.buildSlice _ _ _|.nilCheck _|.binOp _ _ _ _ _|.unOp _ _ _|.convert _ _ _|.makeFunc _ _ _|.slice _ _ _ _ _|.fieldAddr _ _ _|.field _ _ _
 |.indexAddr _ _ _|.index _ _ _|.extract _ _=>true
 | .call c=>(match c.callee with
  |.builtin .len=>true
  |_=>false)
 |_=>false
def opL:Op→Bool
 |.load _ _=>true
 |_=>false
def opA(wc:WM):Op→Bool
 | .call c=>(match c.callee with
  |.builtin .append=>true
  |.value _=>wc.gr
  |_=>false)
 |_=>false
def opG(wc:WM):Op→Bool
 | .call c=>(match c.callee with
  |.value _=>wc.gr
  |_=>false)
 |_=>false
def opN:Op→Bool
 |.alloc _|.box _ _|.makeSlice _ _ _|.makeMap _ _=>true
 |_=>false
def opV:Op→Bool
 |.alloc _=>true
 |_=>false
def opC(wc:WM):Op→Bool
 | .call c=>(match c.callee with
  |.value f=>!wc.on f
  |_=>false)
 |_=>false
def opK(wc:WM):Op→Bool
 | .call c=>(match c.callee with
  | .value _=>(match wc with
   |.l=>true
   |_=>false)
  |_=>false)
 |_=>false
def okU(wc:WM)(q p:Op):Bool:=(opL q && (opA wc p || opN p)) || (opA wc q && opL p) || (opC wc q && opV p) || (opV q && opV p) || (opL q && opK wc p)
def x4(fx:Array Oper)(o:Oper):List Nat:=
 (o.op.operands.toList.filterMap λ| .tmp t=>some t | _=>none) ++
  (match o.guard with
  |some (g,_)=>((fx[g]?).bind (·.dst)).toList
  |none=>[])
def DU(fx:Array Oper)(F:List AV):List AV:=fx.toList.filterMap λo=>match o.op with
 |.load _ a=>some (ev F a)
 |_=>none
def DV(asx:List AV)(H H':or):Prop:=∀a∈asx,∀(id off:Nat),a=.ptr id off→∀cs:List AV,H[id]?=some (.cells cs)→H'[id]?=some (.cells cs)
def UC(b:Bool)(asx:List AV)(H H':or)(K:Prop):Prop:=
 match b with
 |true=>DV asx H H'∧K
 |false=>K
def zJ(fx:Array Oper):Bool:=
 (fx.toList.zipIdx.all λp=>!opL p.1.op || fx.toList.zipIdx.all λq=>decide (q.2<p.2) || (match q.1.dst with
  |some d=>!((x4 fx p.1).contains d)
  |none=>true)) && fx.toList.all λo=>!opN o.op && o.guard.isNone
def zK(wc:WM)(gr:Bool)(H:or)(p:(AV→or→Prop)→Prop)(K:AV→or→Prop):Prop:=
 match wc with
 |.n=>p K
 |_=>∃r H',p (λv H2=>v=r∧H2=H')∧(gr=true→GrowA H H')∧K r H'
def xy(fl:Bool)(wc:WM)(P:Program)(fx:Array Oper):List Oper→(List AV→or→Prop)→List AV→or→Prop
 |[],K,F,H=>K F H
 | o::os,K,F,H=>match o.guard with
  | none=>(match opW wc o.op with
   | false=>(match opC wc o.op with
    |false=>ub H (vv fl P o F H) λr=>xy fl wc P fx os K (wm F o.dst r) H
    |true=>xZ H (λH=>vv fl P o F H) λr=>xy fl wc P fx os K (wm F o.dst r) H)
   |true=>zK wc (opG wc o.op) H (vv fl P o F H) λv H'=>UC (opK wc o.op) (DU fx F) H H' (xy fl wc P fx os K (wm F o.dst v) H'))
  | some (j,want)=>(match (fx[j]?).bind (·.dst) with
   | some d=>(match opW wc o.op with
    | false=>(match opC wc o.op with
     |false=>ui (F.getD d .unk) want H (λJ=>ub H (vv fl P o F H) (J · H)) λv H'=>xy fl wc P fx os K (wm F o.dst v) H'
     |true=>ui (F.getD d .unk) want H (λJ=>xZ H (λH=>vv fl P o F H) (J · H)) λv H'=>xy fl wc P fx os K (wm F o.dst v) H')
    |true=>ui (F.getD d .unk) want H (λJ=>zK wc (opG wc o.op) H (vv fl P o F H) J) λv H'=>xy fl wc P fx os K (wm F o.dst v) H')
   |none=>False)

def NG{α:Type}:List α→(α→Prop)→Prop
 |[],_=>True
 |[i],p=>p i
 |i::j::l,p=>p i∧NG (j::l) p
def Co(P:Program)(fx:Array Oper)(K:List AV→or→Prop):Nat→Array Bool→List AV→or→Prop
 | 0,fp,F,H=>(match Region.ready .any fx fp with
  |[]=>K F H
  |_=>False)
 | n+1,fp,F,H=>(match Region.ready .any fx fp with
  |[]=>K F H
  | i::is=>NG (i::is) λi=>(match fx[i]? with
   | some o=>(match o.guard with
    |none=>aop P o F H λv H'=>Co P fx K n (fp.setIfInBounds i true) (wm F o.dst v) H'
    |some _=>False)
   |none=>False))
inductive AExit where
 |normal
 |exit (id:Nat)
 |ret
def AExit.toExit:AExit→Exit
 |.normal=>.normal
 |.exit id=>.exit id
 |.ret=>.ret

def Post(B:Nat)(w:World)(G:Gh)(Q:AExit→List AV→or→Prop)(e:Exit)(a':Act)(w':World):Prop:=
 ∃F' H' G' e',e=AExit.toExit e'∧Ext B w G w' G'∧tU B w' G' H'∧FRel w' G' a'.tmps F'∧a'.defers=[]∧Q e' F' H'

def AWp(P:Program)(c:Code)(Q:AExit→List AV→or→Prop)(F:List AV)(H:or):Prop:=
 ∀(B:Nat) (w:World) (G:Gh) (a:Act),tU B w G H→FRel w G a.tmps F→a.defers=[]→c.wp P (Post B w G Q) a w

def tM(P:Program)(c:Code)(Q:AExit→List AV→or→Prop)(F:List AV)(H:or):Prop:=AWp P (.loop c) Q F H

def A8:List Bool→List AV→List AV
 |true::bs,a::asx=>a::A8 bs asx
 |false::bs,_::asx=>.unk::A8 bs asx
 |[],asx=>asx
 |_,[]=>[]
def DW:Code→Nat
 |.region id _ _=>id
 |.seq a _=>DW a
 |.block _ c=>DW c
 |.loop c=>DW c
 |.scope c=>DW c
 |_=>0

def za(o:Oper)(j:Nat):Bool:=o.after.any λe=>Region.binds .any e && e.on == j
def NH(fx:Array Oper)(i j:Nat)(oi oj:Oper):Bool:=
 (i == j) || (match oj.dst with
  |some d=>(oi.dst != some d) && (!(x4 fx oi).contains d || (if j<i then za oi j else za oj i))
  |none=>true)
def zb(fx:Array Oper):Bool:=
 (fx.toList.zipIdx.all λp=>(p.1.after.all λe=>!Region.binds .any e || decide (e.on<p.2)) && fx.toList.zipIdx.all λq=>NH fx p.2 q.2 p.1 q.1)
def DX(ms:List Nat):List Edge→Nat→Nat
 |[],m=>m
 | e::es,m=>DX ms es (match Region.binds .any e with
  |true=>m ||| (1 <<< e.on) ||| ms.getD e.on 0
  |false=>m)
def Cp:List Oper→List Nat→List Nat
 |[],ms=>ms
 |o::os,ms=>Cp os (ms++[DX ms o.after.toList 0])
def vN(wc:WM)(fx:Array Oper):Bool:=
 match fx.toList.any (λo=>opW wc o.op) with
 |false=>true
 |true=>(λms=>fx.toList.zipIdx.all λp=>fx.toList.zipIdx.all λq=>
   !(decide (q.2<p.2)) || !(opW wc p.1.op || opW wc q.1.op) || opF p.1.op || opF q.1.op || okU wc q.1.op p.1.op || Nat.testBit (ms.getD p.2 0) q.2) (Cp fx.toList [])
def NI(fx:Array Oper)(m:Nat):Bool:=(λms=>(fx.toList.drop m).all (λo=>(List.range m).all λi=>za o i || (List.range m).any λk=>za o k && Nat.testBit (ms.getD k 0) i)) (Cp (fx.toList.take m) []) && fx.toList.all λo=>o.guard.isNone
def yT(fx:Array Oper)(m:Nat):Array Oper:=(fx.toList.take m).toArray
def Cq(m t:Nat):Array Bool:=(List.replicate m true++List.replicate t false).toArray
def noG(fx:Array Oper):Bool:=fx.toList.all λo=>!opA .n o.op && !opN o.op
def zd(fx:Array Oper):Bool:=
 match fx.toList.any (λo=>opV o.op) with
 |false=>true
 |true=>(λa k=>fx.toList.zipIdx.all λp=>(opV p.1.op == (decide (a≤p.2) && decide (p.2<a+k))) && (!opV p.1.op || p.1.guard.isNone)) (fx.toList.findIdx λo=>opV o.op) (fx.toList.countP λo=>opV o.op)
def UD(next:List AV→or→Prop)(Q:AExit→List AV→or→Prop):AExit→List AV→or→Prop
 |.normal,F,H=>next F H
 |.exit id,F,H=>Q (.exit id) F H
 |.ret,F,H=>Q .ret F H
def NJ(id:Nat)(Q:AExit→List AV→or→Prop):AExit→List AV→or→Prop
 |.normal,F,H=>Q .normal F H
 | .exit id',F,H=>(match id' == id with
  |true=>Q .normal F H
  |false=>Q (.exit id') F H)
 |.ret,F,H=>Q .ret F H

def Ao:Code→Nat
 |.region id _ _=>id
 |.seq a _=>Ao a
 |.block _ c=>Ao c
 |.loop c=>Ao c
 |.scope c=>Ao c
 |.cond _ a b=>50000+Ao a*1000+Ao b
 |_=>0
def nxt(m:List Bool)(P:Program)(b:Code)(Q:AExit→List AV→or→Prop)(now:List AV→or→Prop):List AV→or→Prop:=
 match m with
 |[]=>now
 |m=>λF H=>AWp P b Q (A8 m F) H
def awp(P:Program)(M:Nat→List Bool):Code→(AExit→List AV→or→Prop)→List AV→or→Prop
 |.skip,Q,F,H=>Q .normal F H
 |.label _,Q,F,H=>Q .normal F H
 | .region id fx draw,Q,F,H=>(match draw with
  | false=>(match M (300000+id) with
   |[]=>An P fx fx.toList (Q .normal) F H
   |_::_=>DT P fx.toList (Q .normal) F H)
  | true=>(match M (400000+id) with
   | _::_=>(match zb fx && vN .n fx && zd fx && P.follows .mixedOrders && noG fx with
    |true=>xy true .n P fx fx.toList (Q .normal) F H
    |false=>False)
   |[]=>(match M (500000+id) with
   | _::_=>(match zb fx && vN .l fx && zd fx && P.follows .mixedOrders && zJ fx with
    |true=>xy false .l P fx fx.toList (Q .normal) F H
    |false=>False)
   |[]=>(match M (200000+id) with
   | []=>(match zb fx && vN .n fx && zd fx && P.follows .mixedOrders with
    |true=>xy false .n P fx fx.toList (Q .normal) F H
    |false=>False)
   | [_]=>(match zb fx && vN .w fx && zd fx && P.follows .mixedOrders with
    |true=>xy false .w P fx fx.toList (Q .normal) F H
    |false=>False)
   | [_,_]=>(match zb fx && vN .g fx && zd fx && P.follows .mixedOrders with
    |true=>xy false .g P fx fx.toList (Q .normal) F H
    |false=>False)
   | [_,_,_]=>(match zb fx && vN .c fx && zd fx && P.follows .mixedOrders with
    |true=>xy false .c P fx fx.toList (Q .normal) F H
    |false=>False)
   | _::_::_::_::l=>(match zb (yT fx (fx.size-l.length)) && vN .n (yT fx (fx.size-l.length)) && zd (yT fx (fx.size-l.length)) && P.follows .mixedOrders && NI fx (fx.size-l.length) && decide (l.length≤fx.size) with
    |true=>xy false .n P (yT fx (fx.size-l.length)) (yT fx (fx.size-l.length)).toList (Co P fx (Q .normal) l.length (Cq (fx.size-l.length) l.length)) F H
    |false=>False)))))
 |.seq a b,Q,F,H=>awp P M a (UD (nxt (M (100000+Ao b)) P b Q (awp P M b Q)) Q) F H
 |.cond c a b,Q,F,H=>tO (ev F c) (awp P M a Q F H) (awp P M b Q F H)
 |.block id c,Q,F,H=>awp P M c (NJ id Q) F H
 |.scope c,Q,F,H=>awp P M c Q F H
 |.loop c,Q,F,H=>tM P c Q (A8 (M (DW c)) F) H
 |.ret,Q,F,H=>Q .ret F H
 |.exit id,Q,F,H=>Q (.exit id) F H
 |_,_,_,_=>False

def uc:List Nat→Code→Code
 |[],c=>c
 |0::p,.seq a _=>uc p a
 |_::p,.seq _ b=>uc p b
 |0::p,.cond _ a _=>uc p a
 |_::p,.cond _ _ b=>uc p b
 |_::p,.block _ c=>uc p c
 |_::p,.scope c=>uc p c
 |_::p,.loop c=>uc p c
 |_,c=>c
def ud(P:Program)(M:Nat→List Bool):List Nat→Code→(AExit→List AV→or→Prop)→AExit→List AV→or→Prop
 |[],_,Q=>Q
 |0::p,.seq a b,Q=>ud P M p a (UD (nxt (M (100000+Ao b)) P b Q (awp P M b Q)) Q)
 |_::p,.seq _ b,Q=>ud P M p b Q
 |0::p,.cond _ a _,Q=>ud P M p a Q
 |_::p,.cond _ _ b,Q=>ud P M p b Q
 |_::p,.block id c,Q=>ud P M p c (NJ id Q)
 |_::p,.scope c,Q=>ud P M p c Q
 |_,_,Q=>Q
def vz(m:List Bool)(Kb:List AV→or→Prop)(Q:AExit→List AV→or→Prop):AExit→List AV→or→Prop
 |.normal,F,H=>Kb (A8 m F) H
 |.exit id,F,H=>Q (.exit id) F H
 |.ret,F,H=>Q .ret F H

end
end Go.Proofs.YtdmamdnkcefmmaaGreatDoor
