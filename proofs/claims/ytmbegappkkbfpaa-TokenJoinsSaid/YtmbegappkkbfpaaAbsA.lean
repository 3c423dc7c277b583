/- The abstract layer, part A: abstract values, the relations between them and the model's values, and how the relations are kept. Nothing of the program stands here. -/
import Derived.Calls
import Derived.Orders
import Derived.Below
import Derived.Laws.AppendOwn
import Derived.Laws.Alloc2
namespace Go.Abs
open Go Go.RowKit

inductive Tok where
  | none
  | full
  | own (id : Nat)

/-- Abstract values. 'sl': an immutable slice, its elements as lists of cells; 'ms': a slice over a mutable block; 'ptr': an address in a mutable block; 'view': an address in immutable memory. -/
inductive AV where
  | unk
  | bool (b : Bool)
  | int (k : IntKind) (n : Int)
  | str (s : List UInt8)
  | nilp
  | ptr (id off : Nat)
  | view (cs : List AV)
  | snil
  | sl (es : List (List AV)) (tok : Tok)
  | ms (id off len cap : Nat)
  | map (id : Nat)
  | fn (f : Nat) (caps : List AV)
  | nilfn
  | agg (cs : List AV)
  | tup (vs : List AV)

/-- Blocks of the abstract heap. 'perm e size n': the right to append to a row of elements of type e, of so many cells, that holds n. -/
inductive AB where
  | cells (cs : List AV)
  | perm (e size n : Nat)
  | map (kvs : List (AV × AV))

abbrev Heap := List AB

/-- What stands behind an id in the model's memory. -/
inductive GI where
  | blk (b : Nat)
  | own (v : Value) (size n : Nat)

structure Gh where
  L : Nat → Nat
  μ : List GI

def All2 {α β : Type} (R : α → β → Prop) : List α → List β → Prop
  | [], [] => True
  | a :: as, b :: bs => R a b ∧ All2 R as bs
  | _, _ => False

section
variable {α β : Type} {R R' : α → β → Prop}
theorem All2.length : ∀ {as : List α} {bs : List β}, All2 R as bs → as.length = bs.length
  | [], [], _ => rfl
  | _ :: _, _ :: _, h => by simp [All2.length h.2]
theorem All2.mono (hr : ∀ a b, R a b → R' a b) : ∀ {as : List α} {bs : List β}, All2 R as bs → All2 R' as bs
  | [], [], _ => trivial
  | _ :: _, _ :: _, h => ⟨hr _ _ h.1, All2.mono hr h.2⟩
theorem All2.get : ∀ {as : List α} {bs : List β}, All2 R as bs → ∀ {i : Nat} {b : β}, bs[i]? = some b → ∃ a, as[i]? = some a ∧ R a b
  | [], [], _, i, b, h => by simp at h
  | a :: _, _ :: _, h, 0, b, hb => ⟨a, by simp, by simp at hb; exact hb ▸ h.1⟩
  | _ :: _, _ :: _, h, i + 1, b, hb => by simpa using All2.get h.2 (by simpa using hb)
theorem All2.get' : ∀ {as : List α} {bs : List β}, All2 R as bs → ∀ {i : Nat} {a : α}, as[i]? = some a → ∃ b, bs[i]? = some b ∧ R a b
  | [], [], _, i, b, h => by simp at h
  | a :: _, b :: _, h, 0, a', hb => ⟨b, by simp, by simp at hb; exact hb ▸ h.1⟩
  | _ :: _, _ :: _, h, i + 1, b, hb => by simpa using All2.get' h.2 (by simpa using hb)
theorem All2.of_get : ∀ {as : List α} {bs : List β}, as.length = bs.length → (∀ (i : Nat) a b, as[i]? = some a → bs[i]? = some b → R a b) → All2 R as bs
  | [], [], _, _ => trivial
  | a :: as, b :: bs, hl, h => ⟨h 0 a b rfl rfl, All2.of_get (by simpa using hl) (fun i x y hx hy => h (i + 1) x y (by simpa using hx) (by simpa using hy))⟩
theorem All2.append : ∀ {as : List α} {bs : List β} {cs : List α} {ds : List β}, All2 R as bs → All2 R cs ds → All2 R (as ++ cs) (bs ++ ds)
  | [], [], _, _, _, h => h
  | _ :: _, _ :: _, _, _, h, h' => ⟨h.1, All2.append h.2 h'⟩
theorem All2.take : ∀ {as : List α} {bs : List β} (n : Nat), All2 R as bs → All2 R (as.take n) (bs.take n)
  | [], [], n, _ => by simp [All2]
  | _ :: _, _ :: _, 0, _ => by simp [All2]
  | _ :: _, _ :: _, n + 1, h => ⟨h.1, All2.take n h.2⟩
theorem All2.drop : ∀ {as : List α} {bs : List β} (n : Nat), All2 R as bs → All2 R (as.drop n) (bs.drop n)
  | [], [], n, _ => by simp [All2]
  | _ :: _, _ :: _, 0, h => h
  | _ :: _, _ :: _, n + 1, h => by simpa using All2.drop n h.2
theorem All2.set : ∀ {as : List α} {bs : List β} (i : Nat) {a : α} {b : β}, All2 R as bs → R a b → All2 R (as.set i a) (bs.set i b)
  | [], [], _, _, _, _, _ => trivial
  | _ :: _, _ :: _, 0, _, _, h, h' => ⟨h', h.2⟩
  | _ :: _, _ :: _, i + 1, _, _, h, h' => ⟨h.1, All2.set i h.2 h'⟩
theorem All2.replicate {a : α} {b : β} (h : R a b) : ∀ n, All2 R (List.replicate n a) (List.replicate n b)
  | 0 => trivial
  | n + 1 => ⟨h, All2.replicate h n⟩
end

/-! ### Data: what is read in immutable memory -/
inductive DRel (w : World) (L : Nat → Nat) : Value → AV → Prop
  | bool (b : Bool) : DRel w L (.bool b) (.bool b)
  | int (k : IntKind) (n : Int) : DRel w L (.int k n) (.int k n)
  | str (s : List UInt8) : DRel w L (.string ⟨s.toArray⟩) (.str s)
  | slE (a : Option Addr) (cap : Nat) : DRel w L (.slice a 0 cap) (.sl [] .none)
  | sl (b off cap esz : Nat) (es : List (List AV)) (vs : Nat → Nat → Value) (hne : es ≠ []) (hcap : es.length ≤ cap) (hL : off + es.length * esz ≤ L b)
      (hsz : ∀ i (h : i < es.length), (es[i]).length = esz)
      (hc : ∀ i j (hi : i < es.length) (_ : j < (es[i]).length), w.cell? ⟨b, off + i * esz + j, none⟩ = some (vs i j))
      (hd : ∀ i j (hi : i < es.length) (hj : j < (es[i]).length), DRel w L (vs i j) (es[i])[j]) :
      DRel w L (.slice (some ⟨b, off, none⟩) es.length cap) (.sl es .none)

theorem DRel.mono {w w' : World} {L L' : Nat → Nat} (hL : ∀ b, L b ≤ L' b) (hc : ∀ b off, off < L b → w'.cell? ⟨b, off, none⟩ = w.cell? ⟨b, off, none⟩) :
    ∀ {v : Value} {a : AV}, DRel w L v a → DRel w' L' v a := by
  intro v a h
  induction h with
  | bool b => exact .bool b
  | int k n => exact .int k n
  | str s => exact .str s
  | slE a cap => exact .slE a cap
  | sl b off cap esz es vs hne hcap hLb hsz hcell hd ih =>
    refine .sl b off cap esz es vs hne hcap (Nat.le_trans hLb (hL b)) hsz (fun i j hi hj => ?_) ih
    rw [hc b _ ?_]
    · exact hcell i j hi hj
    · have h1 := hsz i hi
      have h2 : (i + 1) * esz ≤ es.length * esz := Nat.mul_le_mul_right _ hi
      rw [Nat.add_mul] at h2
      omega

/-- Cells of immutable memory. -/
def CRel (w : World) (L : Nat → Nat) (b off : Nat) (cs : List AV) : Prop :=
  off + cs.length ≤ L b ∧ ∃ vs : List Value, All2 (DRel w L) vs cs ∧ ∀ j v, vs[j]? = some v → w.cell? ⟨b, off + j, none⟩ = some v

theorem CRel.mono {w w' : World} {L L' : Nat → Nat} {b off : Nat} {cs : List AV} (hL : ∀ b, L b ≤ L' b) (hc : ∀ b off, off < L b → w'.cell? ⟨b, off, none⟩ = w.cell? ⟨b, off, none⟩)
    (h : CRel w L b off cs) : CRel w' L' b off cs := by
  obtain ⟨h1, vs, h2, h3⟩ := h
  refine ⟨Nat.le_trans h1 (hL b), vs, h2.mono fun _ _ => DRel.mono hL hc, fun j v hj => ?_⟩
  rw [hc b _ ?_]
  · exact h3 j v hj
  · have := h2.length
    have : j < vs.length := (List.getElem?_eq_some_iff.1 hj).1
    omega

theorem CRel.drop {w : World} {L : Nat → Nat} {b off : Nat} {cs : List AV} (n : Nat) (hn : n ≤ cs.length) (h : CRel w L b off cs) : CRel w L b (off + n) (cs.drop n) := by
  obtain ⟨h1, vs, h2, h3⟩ := h
  refine ⟨by simp; omega, vs.drop n, h2.drop n, fun j v hj => ?_⟩
  have := h3 (n + j) v (by simpa using hj)
  rwa [show off + n + j = off + (n + j) by omega]

/-- The cells of one element of an immutable slice. -/
theorem DRel.elem {w : World} {L : Nat → Nat} {v : Value} {es : List (List AV)} (h : DRel w L v (.sl es .none)) {i : Nat} (hi : i < es.length) :
    ∃ b off cap, v = .slice (some ⟨b, off, none⟩) es.length cap ∧ es.length ≤ cap ∧ (∃ esz, (∀ k (hk : k < es.length), (es[k]).length = esz)) ∧
      ∀ k (hk : k < es.length), CRel w L b (off + k * (es[i]).length) es[k] := by
  cases h with
  | slE a cap => simp at hi
  | sl b off cap esz _ vs hne hcap hLb hsz hcell hd =>
    refine ⟨b, off, cap, rfl, hcap, ⟨esz, hsz⟩, fun k hk => ?_⟩
    rw [hsz i hi]
    have h2 : (k + 1) * esz ≤ es.length * esz := Nat.mul_le_mul_right _ hk
    rw [Nat.add_mul] at h2
    refine ⟨by rw [hsz k hk]; omega, (List.range (es[k]).length).map (vs k), ?_, ?_⟩
    · refine All2.of_get (by simp) fun j x y hx hy => ?_
      have hj : j < (es[k]).length := (List.getElem?_eq_some_iff.1 hy).1
      simp [List.getElem?_map, List.getElem?_range hj] at hx
      have : (es[k])[j] = y := (List.getElem?_eq_some_iff.1 hy).2
      rw [← hx, ← this]
      exact hd k j hk hj
    · intro j x hx
      have hj : j < (es[k]).length := by
        have := (List.getElem?_eq_some_iff.1 hx).1
        simpa using this
      simp [List.getElem?_map, List.getElem?_range hj] at hx
      rw [← hx]
      exact hcell k j hk hj

theorem DRel.slice_form {w : World} {L : Nat → Nat} {v : Value} {es : List (List AV)} (h : DRel w L v (.sl es .none)) : ∃ a cap, v = .slice a es.length cap ∧ (es ≠ [] → es.length ≤ cap) := by
  cases h with
  | slE a cap => exact ⟨a, cap, rfl, by simp⟩
  | sl b off cap esz _ vs hne hcap hLb hsz hcell hd => exact ⟨_, cap, rfl, fun _ => hcap⟩

/-! ### The relations on values -/
def BRel (w : World) (G : Gh) (v : Value) : AV → Prop
  | .unk => True
  | .nilp => v = .pointer none
  | .ptr id off => ∃ b, G.μ[id]? = some (.blk b) ∧ v = .pointer (some ⟨b, off, none⟩)
  | .view cs => ∃ b off, v = .pointer (some ⟨b, off, none⟩) ∧ CRel w G.L b off cs
  | .snil => v = .slice none 0 0
  | .sl es .none => DRel w G.L v (.sl es .none)
  | .sl es .full => DRel w G.L v (.sl es .none) ∧ ∃ a, v = .slice a es.length es.length
  | .sl es (.own id) => DRel w G.L v (.sl es .none) ∧ ∃ v' size n, G.μ[id]? = some (.own v' size n) ∧ es.length ≤ n ∧ (es.length = n → v = v' ∧ ∀ c ∈ es, c.length = size)
  | .ms id off len cap => ∃ b, G.μ[id]? = some (.blk b) ∧ v = .slice (some ⟨b, off, none⟩) len cap
  | .map id => ∃ b, G.μ[id]? = some (.blk b) ∧ v = .map (some b)
  | .nilfn => v = .nilFunc
  | .bool b => v = .bool b
  | .int k n => v = .int k n
  | .str s => v = .string ⟨s.toArray⟩
  | _ => False

def ARel (w : World) (G : Gh) (v : Value) : AV → Prop
  | .fn f caps => ∃ vs : Array Value, v = .func (.func f) #[] vs ∧ All2 (BRel w G) vs.toList caps
  | a => BRel w G v a

def VRel (w : World) (G : Gh) (v : Value) : AV → Prop
  | .agg cs => ∃ vs : Array Value, v = .agg vs ∧ All2 (ARel w G) vs.toList cs
  | a => ARel w G v a

def TRel (w : World) (G : Gh) (v : Value) : AV → Prop
  | .tup as => ∃ vs : Array Value, v = .tuple vs ∧ All2 (VRel w G) vs.toList as
  | a => VRel w G v a

def GI.le : GI → GI → Prop
  | .blk b, .blk b' => b = b'
  | .own v size n, .own v' size' n' => size = size' ∧ ((v = v' ∧ n = n') ∨ n < n')
  | _, _ => False

theorem GI.le_refl : ∀ g : GI, g.le g
  | .blk _ => rfl
  | .own _ _ _ => ⟨rfl, .inl ⟨rfl, rfl⟩⟩
theorem GI.le_trans : ∀ {a b c : GI}, a.le b → b.le c → a.le c
  | .blk _, .blk _, .blk _, h, h' => Eq.trans h h'
  | .own _ _ _, .own _ _ _, .own _ _ _, h, h' => ⟨h.1.trans h'.1, by
      rcases h.2 with ⟨rfl, rfl⟩ | h1 <;> rcases h'.2 with ⟨rfl, rfl⟩ | h2
      · exact .inl ⟨rfl, rfl⟩
      · exact .inr h2
      · exact .inr h1
      · exact .inr (Nat.lt_trans h1 h2)⟩
  | .own _ _ _, .blk _, _, h, _ => h.elim
  | .blk _, .own _ _ _, _, h, _ => h.elim

structure Ext (B : Nat) (w : World) (G : Gh) (w' : World) (G' : Gh) : Prop where
  below : Below B w w'
  lev : ∀ b, G.L b ≤ G'.L b
  cell : ∀ b off, off < G.L b → w'.cell? ⟨b, off, none⟩ = w.cell? ⟨b, off, none⟩
  ids : ∀ (id : Nat) gi, G.μ[id]? = some gi → ∃ gi', G'.μ[id]? = some gi' ∧ gi.le gi'

theorem Ext.refl (B : Nat) (w : World) (G : Gh) : Ext B w G w G := ⟨Below.refl _ _, fun _ => Nat.le_refl _, fun _ _ _ => rfl, fun _ gi h => ⟨gi, h, gi.le_refl⟩⟩
theorem Ext.trans {B : Nat} {w w' w'' : World} {G G' G'' : Gh} (h : Ext B w G w' G') (h' : Ext B w' G' w'' G'') : Ext B w G w'' G'' :=
  ⟨h.below.trans h'.below, fun b => Nat.le_trans (h.lev b) (h'.lev b), fun b off ho => (h'.cell b off (Nat.lt_of_lt_of_le ho (h.lev b))).trans (h.cell b off ho),
   fun id gi hg => by
    obtain ⟨g1, h1, l1⟩ := h.ids id gi hg
    obtain ⟨g2, h2, l2⟩ := h'.ids id g1 h1
    exact ⟨g2, h2, GI.le_trans l1 l2⟩⟩

section
variable {B : Nat} {w w' : World} {G G' : Gh} {v : Value}
theorem Ext.drel (h : Ext B w G w' G') {a : AV} (hr : DRel w G.L v a) : DRel w' G'.L v a := hr.mono h.lev h.cell
theorem Ext.blk (h : Ext B w G w' G') {id b : Nat} (hb : G.μ[id]? = some (.blk b)) : G'.μ[id]? = some (.blk b) := by
  obtain ⟨g, h1, h2⟩ := h.ids id _ hb
  cases g with
  | blk b' => cases h2; exact h1
  | own _ _ _ => exact h2.elim
theorem Ext.brel (h : Ext B w G w' G') : ∀ {a : AV}, BRel w G v a → BRel w' G' v a
  | .unk, _ => trivial
  | .nilp, hr => hr
  | .ptr _ _, ⟨b, h1, h2⟩ => ⟨b, h.blk h1, h2⟩
  | .view _, ⟨b, off, h1, h2⟩ => ⟨b, off, h1, h2.mono h.lev h.cell⟩
  | .snil, hr => hr
  | .sl _ .none, hr => h.drel hr
  | .sl _ .full, hr => ⟨h.drel hr.1, hr.2⟩
  | .sl es (.own id), ⟨hr, v', size, n, hμ, hle, heq⟩ => by
    refine ⟨h.drel hr, ?_⟩
    obtain ⟨g, h1, h2⟩ := h.ids id _ hμ
    cases g with
    | blk b => exact h2.elim
    | own v2 s2 n2 =>
      obtain ⟨rfl, ⟨rfl, rfl⟩ | hlt⟩ := h2
      · exact ⟨v', size, n, h1, hle, heq⟩
      · exact ⟨v2, size, n2, h1, by omega, fun e => by omega⟩
  | .ms _ _ _ _, ⟨b, h1, h2⟩ => ⟨b, h.blk h1, h2⟩
  | .map _, ⟨b, h1, h2⟩ => ⟨b, h.blk h1, h2⟩
  | .nilfn, hr => hr
  | .bool _, hr => hr
  | .int _ _, hr => hr
  | .str _, hr => hr
  | .fn _ _, hr => hr.elim
  | .agg _, hr => hr.elim
  | .tup _, hr => hr.elim
theorem ARel.of_b {a : AV} (h : BRel w G v a) : ARel w G v a := by cases a <;> first | exact h | exact h.elim
theorem VRel.of_a {a : AV} (h : ARel w G v a) : VRel w G v a := by cases a <;> first | exact h | exact h.elim
theorem TRel.of_v {a : AV} (h : VRel w G v a) : TRel w G v a := by cases a <;> first | exact h | exact h.elim
theorem Ext.arel (h : Ext B w G w' G') {a : AV} (hr : ARel w G v a) : ARel w' G' v a := by
  cases a with
  | fn f caps => obtain ⟨vs, h1, h2⟩ := hr; exact ⟨vs, h1, h2.mono fun _ _ => h.brel⟩
  | _ => exact ARel.of_b (h.brel hr)
theorem Ext.vrel (h : Ext B w G w' G') {a : AV} (hr : VRel w G v a) : VRel w' G' v a := by
  cases a with
  | agg cs => obtain ⟨vs, h1, h2⟩ := hr; exact ⟨vs, h1, h2.mono fun _ _ => h.arel⟩
  | _ => exact VRel.of_a (h.arel hr)
theorem Ext.trel (h : Ext B w G w' G') {a : AV} (hr : TRel w G v a) : TRel w' G' v a := by
  cases a with
  | tup cs => obtain ⟨vs, h1, h2⟩ := hr; exact ⟨vs, h1, h2.mono fun _ _ => h.vrel⟩
  | _ => exact TRel.of_v (h.vrel hr)
end

/-! ### The heap -/
def GI.block : GI → Option Nat
  | .blk b => some b
  | .own v _ _ => v.ownBlock

def BlkOK (B : Nat) (w : World) (G : Gh) : AB → GI → Prop
  | .cells cs, .blk b => B ≤ b ∧ G.L b = 0 ∧ ∃ (vs : Array Value) (e : TypeId), w.heap[b]? = some (.cells vs e (0, 0)) ∧ All2 (ARel w G) vs.toList cs
  | .perm e s n, .own v size n' => s = size ∧ n = n' ∧ (∃ xs, w.ownsRow B e size v n xs) ∧ ∀ b, v.ownBlock = some b → G.L b = n * size
  | .map _, _ => False
  | _, _ => False

structure HRel (B : Nat) (w : World) (G : Gh) (H : Heap) : Prop where
  len : G.μ.length = H.length
  ok : ∀ (id : Nat) ab gi, H[id]? = some ab → G.μ[id]? = some gi → BlkOK B w G ab gi
  dist : ∀ (id id' : Nat) gi gi' b, G.μ[id]? = some gi → G.μ[id']? = some gi' → gi.block = some b → gi'.block = some b → id = id'
  fresh : ∀ b, w.heap.size ≤ b → G.L b = 0
  lt : ∀ (id : Nat) gi b, G.μ[id]? = some gi → gi.block = some b → b < w.heap.size
  base : B ≤ w.heap.size

def FRel (w : World) (G : Gh) (tm : Array Value) (F : List AV) : Prop := All2 (TRel w G) tm.toList F

end Go.Abs
