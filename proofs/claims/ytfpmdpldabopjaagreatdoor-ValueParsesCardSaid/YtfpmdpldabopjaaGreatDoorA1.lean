import Derived.Calls
import Derived.Orders
import Derived.Below
import Derived.Laws.AppendOwn
import Derived.Laws.Alloc2
import Derived.Laws.AppendOwnNone
import Derived.Laws.Strings
import Derived.Laws.MakeOwn
import Derived.Laws.BytesString
import Derived.MapKept
namespace Go.Abs
open Go Go.RowKit

inductive Tok where
 | none
 | full
 | own (id : Nat)

inductive AV where
 | unk
 | bool (b : Bool)
 | int (k : IntKind) (n : Int)
 | str (s : List UInt8)
 | nilp
 | ptr (id off : Nat)
 | view (cs : List AV)
 | snil
 | sl (es : List (List AV)) (tok : Tok)
 | ms (id off len cap : Nat)
 | ov (id n : Nat)
 | vp (id n off : Nat)
 | map (id : Nat)
 | fn (f : Nat) (caps : List AV)
 | nilfn
 | nili
 | ifc
 | agg (cs : List AV)
 | tup (vs : List AV)

inductive AB where
 | cells (cs : List AV)
 | perm (e size n : Nat)
 | map (kvs : List (List UInt8 × AV))
 | gap
 | bld (t : TypeId) (cs : List AV)
 | vec (e size n : Nat) (cs : List AV)
 | dead
 | fact (φ : World → Prop)

abbrev Heap := List AB

inductive GI where
 | blk (b : Nat)
 | own (v : Value) (size n : Nat)
 | gap

structure Gh where
 L : Nat → Nat
 μ : List GI

def All2 {α β : Type} (R : α → β → Prop) : List α → List β → Prop
 | [], [] => True
 | a :: as, b :: bs => R a b ∧ All2 R as bs
 | _, _ => False

section
variable {α β : Type} {R R' : α → β → Prop}
theorem All2.length : ∀ {as : List α} {bs : List β}, All2 R as bs → as.length = bs.length
 | [], [], _ => rfl
 | _ :: _, _ :: _, h => by simp [All2.length h.2]
theorem All2.mono (hr : ∀ a b, R a b → R' a b) : ∀ {as : List α} {bs : List β}, All2 R as bs → All2 R' as bs
 | [], [], _ => trivial
 | _ :: _, _ :: _, h => ⟨hr _ _ h.1, All2.mono hr h.2⟩
theorem All2.get : ∀ {as : List α} {bs : List β}, All2 R as bs → ∀ {i : Nat} {b : β}, bs[i]? = some b → ∃ a, as[i]? = some a ∧ R a b
 | [], [], _, i, b, h => by simp at h
 | a :: _, _ :: _, h, 0, b, hb => ⟨a, by simp, by simp at hb; exact hb ▸ h.1⟩
 | _ :: _, _ :: _, h, i + 1, b, hb => by simpa using All2.get h.2 (by simpa using hb)
theorem All2.get' : ∀ {as : List α} {bs : List β}, All2 R as bs → ∀ {i : Nat} {a : α}, as[i]? = some a → ∃ b, bs[i]? = some b ∧ R a b
 | [], [], _, i, b, h => by simp at h
 | a :: _, b :: _, h, 0, a', hb => ⟨b, by simp, by simp at hb; exact hb ▸ h.1⟩
 | _ :: _, _ :: _, h, i + 1, b, hb => by simpa using All2.get' h.2 (by simpa using hb)
theorem All2.of_get : ∀ {as : List α} {bs : List β}, as.length = bs.length → (∀ (i : Nat) a b, as[i]? = some a → bs[i]? = some b → R a b) → All2 R as bs
 | [], [], _, _ => trivial
 | a :: as, b :: bs, hl, h => ⟨h 0 a b rfl rfl, All2.of_get (by simpa using hl) (fun i x y hx hy => h (i + 1) x y (by simpa using hx) (by simpa using hy))⟩
theorem All2.append : ∀ {as : List α} {bs : List β} {cs : List α} {ds : List β}, All2 R as bs → All2 R cs ds → All2 R (as ++ cs) (bs ++ ds)
 | [], [], _, _, _, h => h
 | _ :: _, _ :: _, _, _, h, h' => ⟨h.1, All2.append h.2 h'⟩
theorem All2.take : ∀ {as : List α} {bs : List β} (n : Nat), All2 R as bs → All2 R (as.take n) (bs.take n)
 | [], [], n, _ => by simp [All2]
 | _ :: _, _ :: _, 0, _ => by simp [All2]
 | _ :: _, _ :: _, n + 1, h => ⟨h.1, All2.take n h.2⟩
theorem All2.drop : ∀ {as : List α} {bs : List β} (n : Nat), All2 R as bs → All2 R (as.drop n) (bs.drop n)
 | [], [], n, _ => by simp [All2]
 | _ :: _, _ :: _, 0, h => h
 | _ :: _, _ :: _, n + 1, h => by simpa using All2.drop n h.2
theorem All2.set : ∀ {as : List α} {bs : List β} (i : Nat) {a : α} {b : β}, All2 R as bs → R a b → All2 R (as.set i a) (bs.set i b)
 | [], [], _, _, _, _, _ => trivial
 | _ :: _, _ :: _, 0, _, _, h, h' => ⟨h', h.2⟩
 | _ :: _, _ :: _, i + 1, _, _, h, h' => ⟨h.1, All2.set i h.2 h'⟩
theorem All2.replicate {a : α} {b : β} (h : R a b) : ∀ n, All2 R (List.replicate n a) (List.replicate n b)
 | 0 => trivial
 | n + 1 => ⟨h, All2.replicate h n⟩
end

inductive DRel (w : World) (L : Nat → Nat) : Value → AV → Prop
 | bool (b : Bool) : DRel w L (.bool b) (.bool b)
 | int (k : IntKind) (n : Int) : DRel w L (.int k n) (.int k n)
 | str (s : List UInt8) : DRel w L (.string ⟨s.toArray⟩) (.str s)
 | slE (a : Option Addr) (cap : Nat) : DRel w L (.slice a 0 cap) (.sl [] .none)
 | sl (b off cap esz : Nat) (es : List (List AV)) (vs : Nat → Nat → Value) (hne : es ≠ []) (hcap : es.length ≤ cap) (hL : off + es.length * esz ≤ L b)
   (hsz : ∀ i (h : i < es.length), (es[i]).length = esz)
   (hc : ∀ i j (hi : i < es.length) (_ : j < (es[i]).length), w.cell? ⟨b, off + i * esz + j, none⟩ = some (vs i j))
   (hd : ∀ i j (hi : i < es.length) (hj : j < (es[i]).length), DRel w L (vs i j) (es[i])[j]) :
   DRel w L (.slice (some ⟨b, off, none⟩) es.length cap) (.sl es .none)

theorem DRel.mono {w w' : World} {L L' : Nat → Nat} (hL : ∀ b, L b ≤ L' b) (hc : ∀ b off, off < L b → w'.cell? ⟨b, off, none⟩ = w.cell? ⟨b, off, none⟩) :
  ∀ {v : Value} {a : AV}, DRel w L v a → DRel w' L' v a := by
 intro v a h
 induction h with
 | bool b => exact .bool b
 | int k n => exact .int k n
 | str s => exact .str s
 | slE a cap => exact .slE a cap
 | sl b off cap esz es vs hne hcap hLb hsz hcell hd ih =>
  refine .sl b off cap esz es vs hne hcap (Nat.le_trans hLb (hL b)) hsz (fun i j hi hj => ?_) ih
  rw [hc b _ ?_]
  ·exact hcell i j hi hj
  ·have h1 := hsz i hi
   have h2 : (i + 1) * esz ≤ es.length * esz := Nat.mul_le_mul_right _ hi
   rw [Nat.add_mul] at h2
   omega

def CRel (w : World) (L : Nat → Nat) (b off : Nat) (cs : List AV) : Prop :=
 off + cs.length ≤ L b ∧ ∃ vs : List Value, All2 (DRel w L) vs cs ∧ ∀ j v, vs[j]? = some v → w.cell? ⟨b, off + j, none⟩ = some v

theorem CRel.mono {w w' : World} {L L' : Nat → Nat} {b off : Nat} {cs : List AV} (hL : ∀ b, L b ≤ L' b) (hc : ∀ b off, off < L b → w'.cell? ⟨b, off, none⟩ = w.cell? ⟨b, off, none⟩)
  (h : CRel w L b off cs) : CRel w' L' b off cs := by
 obtain ⟨h1, vs, h2, h3⟩ := h
 refine ⟨Nat.le_trans h1 (hL b), vs, h2.mono fun _ _ => DRel.mono hL hc, fun j v hj => ?_⟩
 rw [hc b _ ?_]
 ·exact h3 j v hj
 ·have := h2.length
  have : j < vs.length := (List.getElem?_eq_some_iff.1 hj).1
  omega

theorem CRel.drop {w : World} {L : Nat → Nat} {b off : Nat} {cs : List AV} (n : Nat) (hn : n ≤ cs.length) (h : CRel w L b off cs) : CRel w L b (off + n) (cs.drop n) := by
 obtain ⟨h1, vs, h2, h3⟩ := h
 refine ⟨by simp; omega, vs.drop n, h2.drop n, fun j v hj => ?_⟩
 have := h3 (n + j) v (by simpa using hj)
 rwa [show off + n + j = off + (n + j) by omega]

theorem DRel.elem {w : World} {L : Nat → Nat} {v : Value} {es : List (List AV)} (h : DRel w L v (.sl es .none)) {i : Nat} (hi : i < es.length) :
  ∃ b off cap, v = .slice (some ⟨b, off, none⟩) es.length cap ∧ es.length ≤ cap ∧ (∃ esz, (∀ k (hk : k < es.length), (es[k]).length = esz)) ∧
   ∀ k (hk : k < es.length), CRel w L b (off + k * (es[i]).length) es[k] := by
 cases h with
 | slE a cap => simp at hi
 | sl b off cap esz _ vs hne hcap hLb hsz hcell hd =>
  refine ⟨b, off, cap, rfl, hcap, ⟨esz, hsz⟩, fun k hk => ?_⟩
  rw [hsz i hi]
  have h2 : (k + 1) * esz ≤ es.length * esz := Nat.mul_le_mul_right _ hk
  rw [Nat.add_mul] at h2
  refine ⟨by rw [hsz k hk]; omega, (List.range (es[k]).length).map (vs k), ?_, ?_⟩
  ·refine All2.of_get (by simp) fun j x y hx hy => ?_
   have hj : j < (es[k]).length := (List.getElem?_eq_some_iff.1 hy).1
   simp [List.getElem?_map, List.getElem?_range hj] at hx
   have : (es[k])[j] = y := (List.getElem?_eq_some_iff.1 hy).2
   rw [← hx, ← this]
   exact hd k j hk hj
  ·intro j x hx
   have hj : j < (es[k]).length := by
    have := (List.getElem?_eq_some_iff.1 hx).1
    simpa using this
   simp [List.getElem?_map, List.getElem?_range hj] at hx
   rw [← hx]
   exact hcell k j hk hj

theorem DRel.slice_form {w : World} {L : Nat → Nat} {v : Value} {es : List (List AV)} (h : DRel w L v (.sl es .none)) : ∃ a cap, v = .slice a es.length cap ∧ (es ≠ [] → es.length ≤ cap) := by
 cases h with
 | slE a cap => exact ⟨a, cap, rfl, by simp⟩
 | sl b off cap esz _ vs hne hcap hLb hsz hcell hd => exact ⟨_, cap, rfl, fun _ => hcap⟩

def SlF (v : Value) (n : Nat) : Prop := ∃ a cap, v = .slice a n cap ∧ (0 < n → ∃ b, a = some ⟨b, 0, none⟩)
def BRel (w : World) (G : Gh) (v : Value) : AV → Prop
 | .unk => True
 | .nilp => v = .pointer none
 | .ptr id off => ∃ b, G.μ[id]? = some (.blk b) ∧ v = .pointer (some ⟨b, off, none⟩)
 | .view cs => ∃ b off, v = .pointer (some ⟨b, off, none⟩) ∧ CRel w G.L b off cs
 | .snil => v = .slice none 0 0
 | .sl es .none => DRel w G.L v (.sl es .none)
 | .sl es .full => DRel w G.L v (.sl es .none) ∧ ∃ a, v = .slice a es.length es.length
 | .sl es (.own id) => DRel w G.L v (.sl es .none) ∧ ∃ v' size n, G.μ[id]? = some (.own v' size n) ∧ es.length ≤ n ∧ (es.length = n → v = v' ∧ ∀ c ∈ es, c.length = size)
 | .ms id off len cap => ∃ b, G.μ[id]? = some (.blk b) ∧ v = .slice (some ⟨b, off, none⟩) len cap
 | .map id => ∃ b, G.μ[id]? = some (.blk b) ∧ v = .map (some b)
 | .ov id n => SlF v n ∧ ∃ v' size n', G.μ[id]? = some (.own v' size n') ∧ n ≤ n' ∧ (n = n' → v = v')
 | .vp id n off => (∃ b o, v = .pointer (some ⟨b, o, none⟩)) ∧ ∃ v' size n', G.μ[id]? = some (.own v' size n') ∧ n ≤ n' ∧ (n = n' → ∃ g, v'.ownBlock = some g ∧ v = .pointer (some ⟨g, off, none⟩))
 | .nilfn => v = .nilFunc
 | .nili => v = .nilIface
 | .ifc => ∃ t x, v = .iface t x
 | .bool b => v = .bool b
 | .int k n => v = .int k n
 | .str s => v = .string ⟨s.toArray⟩
 | _ => False

def ARel (w : World) (G : Gh) (v : Value) : AV → Prop
 | .fn f caps => ∃ vs : Array Value, v = .func (.func f) #[] vs ∧ All2 (BRel w G) vs.toList caps
 | a => BRel w G v a

def VRel (w : World) (G : Gh) (v : Value) : AV → Prop
 | .agg cs => ∃ vs : Array Value, v = .agg vs ∧ All2 (ARel w G) vs.toList cs
 | a => ARel w G v a

def TRel (w : World) (G : Gh) (v : Value) : AV → Prop
 | .tup as => ∃ vs : Array Value, v = .tuple vs ∧ All2 (VRel w G) vs.toList as
 | a => VRel w G v a

def GI.le : GI → GI → Prop
 | .blk b, .blk b' => b = b'
 | .own v size n, .own v' size' n' => size = size' ∧ ((v = v' ∧ n = n') ∨ n < n')
 | .gap, _ => True
 | _, _ => False

theorem GI.le_refl : ∀ g : GI, g.le g
 | .blk _ => rfl
 | .own _ _ _ => ⟨rfl, .inl ⟨rfl, rfl⟩⟩
 | .gap => trivial
theorem GI.le_trans : ∀ {a b c : GI}, a.le b → b.le c → a.le c
 | .blk _, .blk _, .blk _, h, h' => Eq.trans h h'
 | .own _ _ _, .own _ _ _, .own _ _ _, h, h' => ⟨h.1.trans h'.1, by
   rcases h.2 with ⟨rfl, rfl⟩ | h1 <;> rcases h'.2 with ⟨rfl, rfl⟩ | h2
   ·exact .inl ⟨rfl, rfl⟩
   ·exact .inr h2
   ·exact .inr h1
   ·exact .inr (Nat.lt_trans h1 h2)⟩
 | .own _ _ _, .blk _, _, h, _ => h.elim
 | .blk _, .own _ _ _, _, h, _ => h.elim
 | .gap, _, _, _, _ => trivial
 | .blk _, .gap, _, h, _ => h.elim
 | .own _ _ _, .gap, _, h, _ => h.elim

structure Ext (B : Nat) (w : World) (G : Gh) (w' : World) (G' : Gh) : Prop where
 below : Below B w w'
 lev : ∀ b, G.L b ≤ G'.L b
 cell : ∀ b off, off < G.L b → w'.cell? ⟨b, off, none⟩ = w.cell? ⟨b, off, none⟩
 ids : ∀ (id : Nat) gi, G.μ[id]? = some gi → ∃ gi', G'.μ[id]? = some gi' ∧ gi.le gi'

theorem Ext.refl (B : Nat) (w : World) (G : Gh) : Ext B w G w G := ⟨Below.refl _ _, fun _ => Nat.le_refl _, fun _ _ _ => rfl, fun _ gi h => ⟨gi, h, gi.le_refl⟩⟩
theorem Ext.trans {B : Nat} {w w' w'' : World} {G G' G'' : Gh} (h : Ext B w G w' G') (h' : Ext B w' G' w'' G'') : Ext B w G w'' G'' :=
 ⟨h.below.trans h'.below, fun b => Nat.le_trans (h.lev b) (h'.lev b), fun b off ho => (h'.cell b off (Nat.lt_of_lt_of_le ho (h.lev b))).trans (h.cell b off ho),
  fun id gi hg => by
  obtain ⟨g1, h1, l1⟩ := h.ids id gi hg
  obtain ⟨g2, h2, l2⟩ := h'.ids id g1 h1
  exact ⟨g2, h2, GI.le_trans l1 l2⟩⟩

section
variable {B : Nat} {w w' : World} {G G' : Gh} {v : Value}
theorem Ext.drel (h : Ext B w G w' G') {a : AV} (hr : DRel w G.L v a) : DRel w' G'.L v a := hr.mono h.lev h.cell
theorem Ext.blk (h : Ext B w G w' G') {id b : Nat} (hb : G.μ[id]? = some (.blk b)) : G'.μ[id]? = some (.blk b) := by
 obtain ⟨g, h1, h2⟩ := h.ids id _ hb
 cases g with
 | blk b' => cases h2; exact h1
 | own _ _ _ => exact h2.elim
 | gap => exact h2.elim
theorem Ext.brel (h : Ext B w G w' G') : ∀ {a : AV}, BRel w G v a → BRel w' G' v a
 | .unk, _ => trivial
 | .nilp, hr => hr
 | .ptr _ _, ⟨b, h1, h2⟩ => ⟨b, h.blk h1, h2⟩
 | .view _, ⟨b, off, h1, h2⟩ => ⟨b, off, h1, h2.mono h.lev h.cell⟩
 | .snil, hr => hr
 | .sl _ .none, hr => h.drel hr
 | .sl _ .full, hr => ⟨h.drel hr.1, hr.2⟩
 | .sl es (.own id), ⟨hr, v', size, n, hμ, hle, heq⟩ => by
  refine ⟨h.drel hr, ?_⟩
  obtain ⟨g, h1, h2⟩ := h.ids id _ hμ
  cases g with
  | blk b => exact h2.elim
  | gap => exact h2.elim
  | own v2 s2 n2 =>
   obtain ⟨rfl, ⟨rfl, rfl⟩ | hlt⟩ := h2
   ·exact ⟨v', size, n, h1, hle, heq⟩
   ·exact ⟨v2, size, n2, h1, by omega, fun e => by omega⟩
 | .ms _ _ _ _, ⟨b, h1, h2⟩ => ⟨b, h.blk h1, h2⟩
 | .ov id n, ⟨hr, v', size, n', hμ, hle, heq⟩ => by
  refine ⟨hr, ?_⟩
  obtain ⟨g, h1, h2⟩ := h.ids id _ hμ
  cases g with
  | blk b => exact h2.elim
  | gap => exact h2.elim
  | own v2 s2 n2 =>
   obtain ⟨rfl, ⟨rfl, rfl⟩ | hlt⟩ := h2
   ·exact ⟨v', size, n', h1, hle, heq⟩
   ·exact ⟨v2, size, n2, h1, by omega, fun e => by omega⟩
 | .vp id n off, ⟨hr, v', size, n', hμ, hle, heq⟩ => by
  refine ⟨hr, ?_⟩
  obtain ⟨g, h1, h2⟩ := h.ids id _ hμ
  cases g with
  | blk b => exact h2.elim
  | gap => exact h2.elim
  | own v2 s2 n2 =>
   obtain ⟨rfl, ⟨rfl, rfl⟩ | hlt⟩ := h2
   ·exact ⟨v', size, n', h1, hle, heq⟩
   ·exact ⟨v2, size, n2, h1, by omega, fun e => by omega⟩
 | .map _, ⟨b, h1, h2⟩ => ⟨b, h.blk h1, h2⟩
 | .nilfn, hr => hr
 | .nili, hr => hr
 | .ifc, hr => hr
 | .bool _, hr => hr
 | .int _ _, hr => hr
 | .str _, hr => hr
 | .fn _ _, hr => hr.elim
 | .agg _, hr => hr.elim
 | .tup _, hr => hr.elim
theorem ARel.of_b {a : AV} (h : BRel w G v a) : ARel w G v a := by cases a <;> first | exact h | exact h.elim
theorem VRel.of_a {a : AV} (h : ARel w G v a) : VRel w G v a := by cases a <;> first | exact h | exact h.elim
theorem TRel.of_v {a : AV} (h : VRel w G v a) : TRel w G v a := by cases a <;> first | exact h | exact h.elim
theorem Ext.arel (h : Ext B w G w' G') {a : AV} (hr : ARel w G v a) : ARel w' G' v a := by
 cases a with
 | fn f caps => obtain ⟨vs, h1, h2⟩ := hr; exact ⟨vs, h1, h2.mono fun _ _ => h.brel⟩
 | _ => exact ARel.of_b (h.brel hr)
theorem Ext.vrel (h : Ext B w G w' G') {a : AV} (hr : VRel w G v a) : VRel w' G' v a := by
 cases a with
 | agg cs => obtain ⟨vs, h1, h2⟩ := hr; exact ⟨vs, h1, h2.mono fun _ _ => h.arel⟩
 | _ => exact VRel.of_a (h.arel hr)
theorem Ext.trel (h : Ext B w G w' G') {a : AV} (hr : TRel w G v a) : TRel w' G' v a := by
 cases a with
 | tup cs => obtain ⟨vs, h1, h2⟩ := hr; exact ⟨vs, h1, h2.mono fun _ _ => h.vrel⟩
 | _ => exact TRel.of_v (h.vrel hr)
end

def ERel (w : World) (G : Gh) (e : MapEntry) (p : List UInt8 × AV) : Prop := e.key = .string ⟨p.1.toArray⟩ ∧ VRel w G e.val p.2
theorem Ext.erel {B : Nat} {w w' : World} {G G' : Gh} (h : Ext B w G w' G') {e : MapEntry} {p : List UInt8 × AV} (hr : ERel w G e p) : ERel w' G' e p := ⟨hr.1, h.vrel hr.2⟩
def GI.block : GI → Option Nat
 | .blk b => some b
 | .own v _ _ => v.ownBlock
 | .gap => none

def BlkOK (B : Nat) (w : World) (G : Gh) : AB → GI → Prop
 | .cells cs, .blk b => B ≤ b ∧ G.L b = 0 ∧ ∃ (vs : Array Value) (e : TypeId), w.heap[b]? = some (.cells vs e (0, 0)) ∧ All2 (ARel w G) vs.toList cs
 | .perm e s n, .own v size n' => s = size ∧ n = n' ∧ (∃ xs, w.ownsRow B e size v n xs) ∧ ∀ b, v.ownBlock = some b → G.L b = n * size
 | .map kvs, .blk b => B ≤ b ∧ G.L b = 0 ∧ ∃ (es : Array MapEntry) (clk : Nat), w.heap[b]? = some (.map es clk) ∧ All2 (ERel w G) es.toList kvs
 | .gap, .gap => True
 | .fact φ, .gap => ∀ w', Below B w w' → φ w'
 | .vec e s n cs, .own v size n' => s = size ∧ n = n' ∧ (∃ xs, w.ownsRow B e size v n xs ∧ All2 (ARel w G) xs cs) ∧ ∀ b, v.ownBlock = some b → G.L b = 0
 | .bld t cs, .blk b => B ≤ b ∧ G.L b = 0 ∧ ∃ vs : Array Value, w.heap[b]? = some (.cells vs t (0, 0)) ∧ All2 (ARel w G) vs.toList cs
 | .dead, .own v _ _ => ∀ b, v.ownBlock = some b → ∃ (vs : Array Value) (e : TypeId) (fr : Nat × Nat), w.heap[b]? = some (.cells vs e fr) ∧ G.L b ≤ vs.size
 | _, _ => False

structure HRel (B : Nat) (w : World) (G : Gh) (H : Heap) : Prop where
 len : G.μ.length = H.length
 ok : ∀ (id : Nat) ab gi, H[id]? = some ab → G.μ[id]? = some gi → BlkOK B w G ab gi
 dist : ∀ (id id' : Nat) gi gi' b, G.μ[id]? = some gi → G.μ[id']? = some gi' → gi.block = some b → gi'.block = some b → id = id'
 fresh : ∀ b, w.heap.size ≤ b → G.L b = 0
 lt : ∀ (id : Nat) gi b, G.μ[id]? = some gi → gi.block = some b → b < w.heap.size
 base : B ≤ w.heap.size

def FRel (w : World) (G : Gh) (tm : Array Value) (F : List AV) : Prop := All2 (TRel w G) tm.toList F

end Go.Abs
namespace Go.Abs
open Go Go.RowKit

variable {B : Nat} {w w' : World} {G G' : Gh} {H : Heap}

theorem BlkOK.keep {ab : AB} {gi : GI} (h : BlkOK B w G ab gi) (he : Ext B w G w' G')
  (hb : ∀ b, gi.block = some b → w'.heap[b]? = w.heap[b]? ∧ G'.L b = G.L b) : BlkOK B w' G' ab gi := by
 cases ab with
 | cells cs =>
  cases gi with
  | blk b =>
   obtain ⟨h1, h2, vs, e, h3, h4⟩ := h
   obtain ⟨k1, k2⟩ := hb b rfl
   exact ⟨h1, by rw [k2]; exact h2, vs, e, by rw [k1]; exact h3, h4.mono fun _ _ => he.arel⟩
  | own v s n => exact h.elim
  | gap => exact h.elim
 | perm e s0 n =>
  cases gi with
  | blk b => exact h.elim
  | gap => exact h.elim
  | own v s n' =>
   obtain ⟨rfl, rfl, ⟨xs, hl, hx⟩, h2⟩ := h
   refine ⟨rfl, rfl, ⟨xs, hl, ?_⟩, fun b hbb => by rw [(hb b hbb).2]; exact h2 b hbb⟩
   rcases hx with hx | ⟨g, cap, cur, rfl, h3, h4, h5⟩
   ·exact .inl hx
   ·exact .inr ⟨g, cap, cur, rfl, h3, by rw [(hb g rfl).1]; exact h4, h5⟩
 | vec e s0 n cs =>
  cases gi with
  | blk b => exact h.elim
  | gap => exact h.elim
  | own v s n' =>
   obtain ⟨rfl, rfl, ⟨xs, ⟨hl, hx⟩, hr⟩, h2⟩ := h
   refine ⟨rfl, rfl, ⟨xs, ⟨hl, ?_⟩, hr.mono fun _ _ => he.arel⟩, fun b hbb => by rw [(hb b hbb).2]; exact h2 b hbb⟩
   rcases hx with hx | ⟨g, cap, cur, rfl, h3, h4, h5⟩
   ·exact .inl hx
   ·exact .inr ⟨g, cap, cur, rfl, h3, by rw [(hb g rfl).1]; exact h4, h5⟩
 | map kvs =>
  cases gi with
  | blk b =>
   obtain ⟨h1, h2, es, clk, h3, h4⟩ := h
   obtain ⟨k1, k2⟩ := hb b rfl
   exact ⟨h1, by rw [k2]; exact h2, es, clk, by rw [k1]; exact h3, h4.mono fun _ _ => he.erel⟩
  | own v s n => exact h.elim
  | gap => exact h.elim
 | gap =>
  cases gi with
  | blk b => exact h.elim
  | own v s n => exact h.elim
  | gap => exact h
 | bld t cs =>
  cases gi with
  | blk b =>
   obtain ⟨h1, h2, vs, h3, h4⟩ := h
   obtain ⟨k1, k2⟩ := hb b rfl
   exact ⟨h1, by rw [k2]; exact h2, vs, by rw [k1]; exact h3, h4.mono fun _ _ => he.arel⟩
  | own v s n => exact h.elim
  | gap => exact h.elim
 | fact φ =>
  cases gi with
  | blk b => exact h.elim
  | own v s n => exact h.elim
  | gap => exact fun w'' h' => h w'' (he.below.trans h')
 | dead =>
  cases gi with
  | blk b => exact h.elim
  | own v s n =>
   intro b hbb
   obtain ⟨vs, e, fr, h1, h2⟩ := h b hbb
   exact ⟨vs, e, fr, by rw [(hb b hbb).1]; exact h1, by rw [(hb b hbb).2]; exact h2⟩
  | gap => exact h.elim

theorem HRel.keep (h : HRel B w G H) (he : Ext B w G w' G') (hμ : G'.μ = G.μ)
  (hb : ∀ (id : Nat) gi b, G.μ[id]? = some gi → gi.block = some b → w'.heap[b]? = w.heap[b]? ∧ G'.L b = G.L b)
  (hf : ∀ b, w'.heap.size ≤ b → G'.L b = 0) : HRel B w' G' H where
 len := by rw [hμ]; exact h.len
 ok := fun id ab gi h1 h2 => by
  rw [hμ] at h2
  exact (h.ok id ab gi h1 h2).keep he (fun b hbb => hb id gi b h2 hbb)
 dist := fun id id' gi gi' b h1 h2 => by rw [hμ] at h1 h2; exact h.dist id id' gi gi' b h1 h2
 fresh := hf
 lt := fun id gi b h1 h2 => by rw [hμ] at h1; exact Nat.lt_of_lt_of_le (h.lt id gi b h1 h2) he.below.size
 base := Nat.le_trans h.base he.below.size

theorem Ext.drew (B : Nat) (w : World) (G : Gh) (n : Nat) : Ext B w G { w with drawn := n } G :=
 ⟨⟨rfl, rfl, rfl, Nat.le_refl _, fun _ _ => rfl⟩, fun _ => Nat.le_refl _, fun _ _ _ => rfl, fun _ gi h => ⟨gi, h, gi.le_refl⟩⟩
theorem HRel.drew (h : HRel B w G H) (n : Nat) : HRel B { w with drawn := n } G H :=
 h.keep (Ext.drew B w G n) rfl (fun _ _ _ _ _ => ⟨rfl, rfl⟩) h.fresh

theorem alloc_old {o : Obj} {b : Nat} (hb : b < w.heap.size) : (w.alloc o).heap[b]? = w.heap[b]? := Below.heap_alloc w o b hb
theorem alloc_size (o : Obj) : (w.alloc o).heap.size = w.heap.size + 1 := by simp only [World.alloc, Array.size_push]
theorem alloc_new (o : Obj) : (w.alloc o).heap[w.heap.size]? = some o := by simp only [World.alloc, Array.getElem?_push_size]

theorem cell_lt {a : Addr} (h : a.block < w.heap.size) (o : Obj) : (w.alloc o).cell? a = w.cell? a := World.cell?_alloc_lt _ _ _ h

theorem L_lt (h : HRel B w G H) {b off : Nat} (ho : off < G.L b) : b < w.heap.size := by
 by_cases hb : b < w.heap.size
 ·exact hb
 ·have := h.fresh b (by omega); omega

theorem Ext.alloc (h : HRel B w G H) (o : Obj) (L' : Nat → Nat) (hL : ∀ b, b ≠ w.heap.size → L' b = G.L b) (xs : List GI) :
  Ext B w G (w.alloc o) ⟨L', G.μ ++ xs⟩ where
 below := (Below.refl _ _).alloc h.base o
 lev := fun b => by
  by_cases hb : b = w.heap.size
  ·subst hb; rw [h.fresh _ (Nat.le_refl _)]; exact Nat.zero_le _
  ·show G.L b ≤ L' b
   rw [hL b hb]; exact Nat.le_refl _
 cell := fun b off ho => cell_lt (a := ⟨b, off, none⟩) (L_lt h ho) o
 ids := fun id gi hg => ⟨gi, by
  have : id < G.μ.length := (List.getElem?_eq_some_iff.1 hg).1
  simp only []
  rw [List.getElem?_append_left this]; exact hg, gi.le_refl⟩

theorem HRel.new (h : HRel B w G H) (vs : Array Value) (e : TypeId) (cs : List AV) (hc : All2 (ARel w G) vs.toList cs) :
  Ext B w G (w.alloc (.cells vs e)) ⟨G.L, G.μ ++ [.blk w.heap.size]⟩ ∧ HRel B (w.alloc (.cells vs e)) ⟨G.L, G.μ ++ [.blk w.heap.size]⟩ (H ++ [.cells cs]) := by
 have he := Ext.alloc h (.cells vs e) G.L (fun _ _ => rfl) [.blk w.heap.size]
 refine ⟨he, ?_⟩
 have split : ∀ (id : Nat) gi, (G.μ ++ [.blk w.heap.size])[id]? = some gi → G.μ[id]? = some gi ∨ (id = G.μ.length ∧ gi = .blk w.heap.size) := by
  intro id gi hg
  by_cases hlt : id < G.μ.length
  ·rw [List.getElem?_append_left hlt] at hg; exact .inl hg
  ·have hlt2 := (List.getElem?_eq_some_iff.1 hg).1
   simp at hlt2
   have : id = G.μ.length := by omega
   subst this
   simp at hg
   exact .inr ⟨rfl, hg.symm⟩
 refine ⟨by simp [h.len], ?_, ?_, ?_, ?_, ?_⟩
 ·intro id ab gi h1 h2
  rcases split id gi h2 with h2 | ⟨rfl, rfl⟩
  ·have hlt : id < H.length := by rw [← h.len]; exact (List.getElem?_eq_some_iff.1 h2).1
   rw [List.getElem?_append_left hlt] at h1
   exact (h.ok id ab gi h1 h2).keep he (fun b hb => ⟨alloc_old (h.lt id gi b h2 hb), rfl⟩)
  ·rw [h.len] at h1
   simp at h1
   subst h1
   exact ⟨h.base, h.fresh _ (Nat.le_refl _), vs, e, alloc_new _, hc.mono fun _ _ => he.arel⟩
 ·intro id id' gi gi' b h1 h2 h3 h4
  rcases split id gi h1 with h1 | ⟨rfl, rfl⟩ <;> rcases split id' gi' h2 with h2 | ⟨rfl, rfl⟩
  ·exact h.dist id id' gi gi' b h1 h2 h3 h4
  ·have := h.lt id gi b h1 h3
   simp [GI.block] at h4; omega
  ·have := h.lt id' gi' b h2 h4
   simp [GI.block] at h3; omega
  ·rfl
 ·intro b hb
  rw [alloc_size] at hb
  exact h.fresh b (by omega)
 ·intro id gi b h1 h2
  rw [alloc_size]
  rcases split id gi h1 with h1 | ⟨rfl, rfl⟩
  ·have := h.lt id gi b h1 h2; omega
  ·simp [GI.block] at h2; omega
 ·rw [alloc_size]; have := h.base; omega

theorem HRel.frozen (h : HRel B w G H) (vs : Array Value) (e : TypeId) (n : Nat) :
  Ext B w G (w.alloc (.cells vs e)) ⟨fun b => if b = w.heap.size then n else G.L b, G.μ⟩ ∧
   HRel B (w.alloc (.cells vs e)) ⟨fun b => if b = w.heap.size then n else G.L b, G.μ⟩ H := by
 have he := Ext.alloc h (.cells vs e) (fun b => if b = w.heap.size then n else G.L b) (fun b hb => by simp [hb]) []
 simp only [List.append_nil] at he
 refine ⟨he, h.keep he rfl (fun id gi b h1 h2 => ?_) (fun b hb => ?_)⟩
 ·have := h.lt id gi b h1 h2
  exact ⟨alloc_old this, by simp; intro; omega⟩
 ·rw [alloc_size] at hb
  have : b ≠ w.heap.size := by omega
  simp [this, h.fresh b (by omega)]

theorem heap_setRow_other {g k : Nat} (cs : Array Value) (h : k ≠ g) : (w.setRow g cs).heap[k]? = w.heap[k]? := setRow_other w g k cs h

theorem cell_block {w w' : World} {b off : Nat} (h : w'.heap[b]? = w.heap[b]?) : w'.cell? ⟨b, off, none⟩ = w.cell? ⟨b, off, none⟩ := World.cell?_of_block (a := ⟨b, off, none⟩) h

theorem HRel.store (h : HRel B w G H) {id b : Nat} {cs cs' : List AV} {vs vs' : Array Value} {e : TypeId} (hH : H[id]? = some (.cells cs)) (hμ : G.μ[id]? = some (.blk b))
  (hw : w.heap[b]? = some (.cells vs e (0, 0))) (hB : B ≤ b) (hc : All2 (ARel w G) vs'.toList cs') :
  Ext B w G (w.setRow b vs') G ∧ HRel B (w.setRow b vs') G (H.set id (.cells cs')) := by
 have hL : G.L b = 0 := by
  have := h.ok id _ _ hH hμ
  exact this.2.1
 have hsz : (w.setRow b vs').heap.size = w.heap.size := by simp [World.setRow]
 have he : Ext B w G (w.setRow b vs') G := by
  refine ⟨⟨rfl, rfl, rfl, by rw [hsz]; exact Nat.le_refl _, fun k hk => heap_setRow_other _ (by omega)⟩, fun _ => Nat.le_refl _, fun x off ho => ?_, fun _ gi h => ⟨gi, h, gi.le_refl⟩⟩
  have : x ≠ b := by intro hx; subst hx; omega
  exact cell_block (heap_setRow_other _ this)
 refine ⟨he, by simp [h.len], ?_, h.dist, by rw [hsz]; exact h.fresh, by rw [hsz]; exact h.lt, by rw [hsz]; exact h.base⟩
 intro id' ab gi h1 h2
 by_cases hid : id' = id
 ·subst hid
  rw [hμ] at h2
  cases h2
  have hlt : id' < H.length := (List.getElem?_eq_some_iff.1 hH).1
  rw [List.getElem?_set_self hlt] at h1
  cases h1
  exact ⟨hB, hL, vs', e, setRow_heap w b vs vs' e _ hw, hc.mono fun _ _ => he.arel⟩
 ·rw [List.getElem?_set_ne (fun h => hid h.symm)] at h1
  refine (h.ok id' ab gi h1 h2).keep he (fun x hx => ⟨heap_setRow_other _ ?_, rfl⟩)
  intro hxb
  subst hxb
  exact hid (h.dist id' id gi _ x h2 hμ hx rfl)

theorem HRel.storeV (h : HRel B w G H) {id e size n g cap : Nat} {cs cs' : List AV} {cur cur' : Array Value} {xs' : List Value} (hH : H[id]? = some (.vec e size n cs)) (hμ : G.μ[id]? = some (.own (.slice (some ⟨g, 0, none⟩) n cap) size n))
  (hw : w.heap[g]? = some (.cells cur e (0, 0))) (hB : B ≤ g) (hcap : n ≤ cap) (hcm : cap ≤ maxLen) (hsz : cur'.size = cap * size) (htake : cur'.toList.take (n * size) = xs') (hxl : xs'.length = n * size) (hc : All2 (ARel w G) xs' cs') :
  Ext B w G (w.setRow g cur') G ∧ HRel B (w.setRow g cur') G (H.set id (.vec e size n cs')) := by
 obtain ⟨_, _, _, hL0⟩ := h.ok id _ _ hH hμ
 have hL : G.L g = 0 := hL0 g rfl
 have hsz' : (w.setRow g cur').heap.size = w.heap.size := by simp [World.setRow]
 have he : Ext B w G (w.setRow g cur') G := by
  refine ⟨⟨rfl, rfl, rfl, by rw [hsz']; exact Nat.le_refl _, fun k hk => heap_setRow_other _ (by omega)⟩, fun _ => Nat.le_refl _, fun x off ho => ?_, fun _ gi h => ⟨gi, h, gi.le_refl⟩⟩
  have : x ≠ g := by intro hx; subst hx; omega
  exact cell_block (heap_setRow_other _ this)
 refine ⟨he, by simp [h.len], ?_, h.dist, by rw [hsz']; exact h.fresh, by rw [hsz']; exact h.lt, by rw [hsz']; exact h.base⟩
 intro id' ab gi h1 h2
 by_cases hid : id' = id
 ·subst hid
  rw [hμ] at h2
  cases h2
  have hlt : id' < H.length := (List.getElem?_eq_some_iff.1 hH).1
  rw [List.getElem?_set_self hlt] at h1
  cases h1
  exact ⟨rfl, rfl, ⟨xs', ⟨hxl, .inr ⟨g, cap, cur', rfl, hB, setRow_heap w g cur cur' e _ hw, hcap, hcm, hsz, htake⟩⟩, hc.mono fun _ _ => he.arel⟩, hL0⟩
 ·rw [List.getElem?_set_ne (fun h => hid h.symm)] at h1
  refine (h.ok id' ab gi h1 h2).keep he (fun x hx => ⟨heap_setRow_other _ ?_, rfl⟩)
  intro hxb
  subst hxb
  exact hid (h.dist id' id gi _ x h2 hμ hx rfl)

theorem HRel.newMap (h : HRel B w G H) :
  Ext B w G (w.alloc (.map #[] 0)) ⟨G.L, G.μ ++ [.blk w.heap.size]⟩ ∧ HRel B (w.alloc (.map #[] 0)) ⟨G.L, G.μ ++ [.blk w.heap.size]⟩ (H ++ [.map []]) := by
 have he := Ext.alloc h (.map #[] 0) G.L (fun _ _ => rfl) [.blk w.heap.size]
 refine ⟨he, ?_⟩
 have split : ∀ (id : Nat) gi, (G.μ ++ [.blk w.heap.size])[id]? = some gi → G.μ[id]? = some gi ∨ (id = G.μ.length ∧ gi = .blk w.heap.size) := by
  intro id gi hg
  by_cases hlt : id < G.μ.length
  ·rw [List.getElem?_append_left hlt] at hg; exact .inl hg
  ·have hlt2 := (List.getElem?_eq_some_iff.1 hg).1
   simp at hlt2
   have : id = G.μ.length := by omega
   subst this
   simp at hg
   exact .inr ⟨rfl, hg.symm⟩
 refine ⟨by simp [h.len], ?_, ?_, ?_, ?_, ?_⟩
 ·intro id ab gi h1 h2
  rcases split id gi h2 with h2 | ⟨rfl, rfl⟩
  ·have hlt : id < H.length := by rw [← h.len]; exact (List.getElem?_eq_some_iff.1 h2).1
   rw [List.getElem?_append_left hlt] at h1
   exact (h.ok id ab gi h1 h2).keep he (fun b hb => ⟨alloc_old (h.lt id gi b h2 hb), rfl⟩)
  ·rw [h.len] at h1
   simp at h1
   subst h1
   exact ⟨h.base, h.fresh _ (Nat.le_refl _), #[], 0, alloc_new _, trivial⟩
 ·intro id id' gi gi' b h1 h2 h3 h4
  rcases split id gi h1 with h1 | ⟨rfl, rfl⟩ <;> rcases split id' gi' h2 with h2 | ⟨rfl, rfl⟩
  ·exact h.dist id id' gi gi' b h1 h2 h3 h4
  ·have := h.lt id gi b h1 h3
   simp [GI.block] at h4; omega
  ·have := h.lt id' gi' b h2 h4
   simp [GI.block] at h3; omega
  ·rfl
 ·intro b hb
  rw [alloc_size] at hb
  exact h.fresh b (by omega)
 ·intro id gi b h1 h2
  rw [alloc_size]
  rcases split id gi h1 with h1 | ⟨rfl, rfl⟩
  ·have := h.lt id gi b h1 h2; omega
  ·simp [GI.block] at h2; omega
 ·rw [alloc_size]; have := h.base; omega

theorem HRel.storeMap (h : HRel B w G H) {id b : Nat} {kvs kvs' : List (List UInt8 × AV)} {es es' : Array MapEntry} {clk clk' : Nat} (hH : H[id]? = some (.map kvs)) (hμ : G.μ[id]? = some (.blk b))
  (hw : w.heap[b]? = some (.map es clk)) (hc : All2 (ERel w G) es'.toList kvs') :
  Ext B w G { w with heap := w.heap.setIfInBounds b (.map es' clk') } G ∧ HRel B { w with heap := w.heap.setIfInBounds b (.map es' clk') } G (H.set id (.map kvs')) := by
 obtain ⟨hB, hL, _⟩ := h.ok id _ _ hH hμ
 have hlt : b < w.heap.size := (Array.getElem?_eq_some_iff.1 hw).1
 have oth : ∀ k, k ≠ b → (w.heap.setIfInBounds b (.map es' clk'))[k]? = w.heap[k]? := fun k hk => by simp [Ne.symm hk]
 have hsz : (w.heap.setIfInBounds b (.map es' clk')).size = w.heap.size := by simp
 have he : Ext B w G { w with heap := w.heap.setIfInBounds b (.map es' clk') } G := by
  refine ⟨⟨rfl, rfl, rfl, by show w.heap.size ≤ (w.heap.setIfInBounds b (.map es' clk')).size; rw [hsz]; exact Nat.le_refl _, fun k hk => oth k (by omega)⟩, fun _ => Nat.le_refl _, fun x off ho => ?_, fun _ gi h => ⟨gi, h, gi.le_refl⟩⟩
  have : x ≠ b := by intro hx; subst hx; omega
  exact cell_block (oth x this)
 refine ⟨he, by simp [h.len], ?_, h.dist, fun x hx => h.fresh x (by simpa using hx), fun i gi x h1 h2 => by have := h.lt i gi x h1 h2; simpa using this, by have := h.base; simpa using this⟩
 intro id' ab gi h1 h2
 by_cases hid : id' = id
 ·subst hid
  rw [hμ] at h2
  cases h2
  have hlt' : id' < H.length := (List.getElem?_eq_some_iff.1 hH).1
  rw [List.getElem?_set_self hlt'] at h1
  cases h1
  exact ⟨hB, hL, es', clk', by simp [hlt], hc.mono fun _ _ => he.erel⟩
 ·rw [List.getElem?_set_ne (fun h => hid h.symm)] at h1
  refine (h.ok id' ab gi h1 h2).keep he (fun x hx => ⟨oth x ?_, rfl⟩)
  intro hxb
  subst hxb
  exact hid (h.dist id' id gi _ x h2 hμ hx rfl)

theorem HRel.keepGaps (h : HRel B w G H) (k : Nat) : Ext B w G w ⟨G.L, G.μ ++ List.replicate k .gap⟩ ∧ HRel B w ⟨G.L, G.μ ++ List.replicate k .gap⟩ (H ++ List.replicate k .gap) := by
 have he : Ext B w G w ⟨G.L, G.μ ++ List.replicate k .gap⟩ := ⟨Below.refl _ _, fun _ => Nat.le_refl _, fun _ _ _ => rfl, fun id gi hg => ⟨gi, by
  have : id < G.μ.length := (List.getElem?_eq_some_iff.1 hg).1
  simp only []
  rw [List.getElem?_append_left this]; exact hg, gi.le_refl⟩⟩
 have split : ∀ (id : Nat) gi, (G.μ ++ List.replicate k GI.gap)[id]? = some gi → G.μ[id]? = some gi ∨ (G.μ.length ≤ id ∧ gi = .gap) := by
  intro id gi hg
  by_cases hlt : id < G.μ.length
  ·rw [List.getElem?_append_left hlt] at hg; exact .inl hg
  ·rw [List.getElem?_append_right (by omega)] at hg
   exact .inr ⟨by omega, List.eq_of_mem_replicate (List.mem_iff_getElem?.2 ⟨_, hg⟩)⟩
 refine ⟨he, by simp [h.len], ?_, ?_, h.fresh, ?_, h.base⟩
 ·intro id ab gi h1 h2
  rcases split id gi h2 with h2 | ⟨hle, rfl⟩
  ·have hlt : id < H.length := by rw [← h.len]; exact (List.getElem?_eq_some_iff.1 h2).1
   rw [List.getElem?_append_left hlt] at h1
   exact (h.ok id ab gi h1 h2).keep he (fun b hb => ⟨rfl, rfl⟩)
  ·rw [List.getElem?_append_right (by rw [← h.len]; omega)] at h1
   rw [List.eq_of_mem_replicate (List.mem_iff_getElem?.2 ⟨_, h1⟩)]
   trivial
 ·intro id id' gi gi' b h1 h2 h3 h4
  rcases split id gi h1 with k1 | ⟨_, rfl⟩ <;> rcases split id' gi' h2 with k2 | ⟨_, rfl⟩
  ·exact h.dist id id' gi gi' b k1 k2 h3 h4
  ·cases h4
  ·cases h3
  ·cases h3
 ·intro id gi b h1 h2
  rcases split id gi h1 with k1 | ⟨_, rfl⟩
  ·exact h.lt id gi b k1 h2
  ·cases h2
theorem HRel.fill (h : HRel B w G H) {id : Nat} (hid : H[id]? = some .gap) (vs : Array Value) (e : TypeId) (cs : List AV) (hc : All2 (ARel w G) vs.toList cs) :
  Ext B w G (w.alloc (.cells vs e)) ⟨G.L, G.μ.set id (.blk w.heap.size)⟩ ∧ HRel B (w.alloc (.cells vs e)) ⟨G.L, G.μ.set id (.blk w.heap.size)⟩ (H.set id (.cells cs)) := by
 have hlt : id < H.length := (List.getElem?_eq_some_iff.1 hid).1
 have hltμ : id < G.μ.length := by rw [h.len]; exact hlt
 have hgap : G.μ[id]? = some .gap := by
  have hok := h.ok id _ _ hid (List.getElem?_eq_getElem hltμ)
  rw [List.getElem?_eq_getElem hltμ]
  cases hg : G.μ[id] with
  | blk b => rw [hg] at hok; exact hok.elim
  | own v s n => rw [hg] at hok; exact hok.elim
  | gap => rfl
 have split : ∀ (i : Nat) gi, (G.μ.set id (.blk w.heap.size))[i]? = some gi → (i ≠ id ∧ G.μ[i]? = some gi) ∨ (i = id ∧ gi = .blk w.heap.size) := by
  intro i gi hg
  by_cases hi : i = id
  ·subst hi
   rw [List.getElem?_set_self hltμ] at hg
   cases hg
   exact .inr ⟨rfl, rfl⟩
  ·rw [List.getElem?_set_ne (fun h => hi h.symm)] at hg
   exact .inl ⟨hi, hg⟩
 have he : Ext B w G (w.alloc (.cells vs e)) ⟨G.L, G.μ.set id (.blk w.heap.size)⟩ := by
  refine ⟨(Below.refl _ _).alloc h.base _, fun _ => Nat.le_refl _, fun b off ho => cell_lt (a := ⟨b, off, none⟩) (L_lt h ho) _, fun i gi hg => ?_⟩
  by_cases hi : i = id
  ·subst hi
   rw [hgap] at hg
   cases hg
   exact ⟨.blk w.heap.size, List.getElem?_set_self hltμ, trivial⟩
  ·exact ⟨gi, by show (G.μ.set id _)[i]? = _; rw [List.getElem?_set_ne (fun h => hi h.symm)]; exact hg, gi.le_refl⟩
 refine ⟨he, by simp [h.len], ?_, ?_, ?_, ?_, ?_⟩
 ·intro i ab gi h1 h2
  rcases split i gi h2 with ⟨hi, h2⟩ | ⟨rfl, rfl⟩
  ·rw [List.getElem?_set_ne (fun h => hi h.symm)] at h1
   exact (h.ok i ab gi h1 h2).keep he (fun b hb => ⟨alloc_old (h.lt i gi b h2 hb), rfl⟩)
  ·rw [List.getElem?_set_self hlt] at h1
   cases h1
   exact ⟨h.base, h.fresh _ (Nat.le_refl _), vs, e, alloc_new _, hc.mono fun _ _ => he.arel⟩
 ·intro i i' gi gi' b h1 h2 h3 h4
  rcases split i gi h1 with ⟨_, k1⟩ | ⟨e1, e2⟩ <;> rcases split i' gi' h2 with ⟨_, k2⟩ | ⟨e3, e4⟩
  ·exact h.dist i i' gi gi' b k1 k2 h3 h4
  ·have := h.lt i gi b k1 h3
   rw [e4] at h4
   simp [GI.block] at h4; omega
  ·have := h.lt i' gi' b k2 h4
   rw [e2] at h3
   simp [GI.block] at h3; omega
  ·rw [e1, e3]
 ·intro b hb
  rw [alloc_size] at hb
  exact h.fresh b (by omega)
 ·intro i gi b h1 h2
  rw [alloc_size]
  rcases split i gi h1 with ⟨_, k1⟩ | ⟨_, e2⟩
  ·have := h.lt i gi b k1 h2; omega
  ·rw [e2] at h2; simp [GI.block] at h2; omega
 ·rw [alloc_size]; have := h.base; omega

end Go.Abs
namespace Go.Abs
open Go Go.RowKit

def constAtom : Value → AV
 | .bool b => .bool b
 | .int k n => .int k n
 | .string s => .str s.data.toList
 | .pointer none => .nilp
 | .slice none 0 0 => .snil
 | .nilFunc => .nilfn
 | .nilIface => .nili
 | _ => .unk
def constAV : Value → AV
 | .agg cs => .agg (cs.toList.map constAtom)
 | v => constAtom v
def constCells : Value → List AV
 | .agg cs => cs.toList.map constAtom
 | v => [constAtom v]

def ev (F : List AV) : Operand → AV
 | .tmp t => F.getD t .unk
 | .const v => constAV v
 | .global _ => .unk
 | .func f => .fn f []

def AV.cs? : AV → Option (List AV)
 | .tup _ => none
 | .unk => none
 | .agg cs => some cs
 | a => some [a]
def AV.pd : AV → Option AV
 | .bool b => some (.bool b)
 | .int k n => some (.int k n)
 | .str s => some (.str s)
 | .snil => some (.sl [] .none)
 | .sl es _ => some (.sl es .none)
 | _ => none
def plain : List AV → Option (List AV)
 | [] => some []
 | a :: as => match a.pd, plain as with
  | some d, some ds => some (d :: ds)
  | _, _ => none
def AV.known : AV → Bool
 | .unk => false
 | _ => true
def AV.isB : AV → Bool
 | .fn _ _ | .agg _ | .tup _ => false
 | _ => true

def aIf (b : Bool) (p q : Prop) : Prop := if b = true then p else q
def aPick (c a b : AV) (K : AV → Prop) : Prop :=
 match c with
 | .bool t => K (if t = true then a else b)
 | _ => False
def aNew (cs : List AV) (H : Heap) (K : AV → Heap → Prop) : Prop := K (.ptr H.length 0) (H ++ [.cells cs])
def aBox (x : AV) (H : Heap) (K : AV → Heap → Prop) : Prop :=
 match x.cs? with
 | some cs => K (.ptr H.length 0) (H ++ [.cells cs])
 | none => False
def aCells (agg : Bool) (n off : Nat) (cs : List AV) (K : AV → Prop) : Prop :=
 match agg with
 | true => off + n ≤ cs.length ∧ K (.agg ((cs.drop off).take n))
 | false => match cs[off]? with
  | some c => K c
  | none => False
def loadAt (a : AV) (H : Heap) : Option (List AV × Nat) :=
 match a with
 | .ptr id off => (match H[id]? with
  | some (.cells cs) => some (cs, off)
  | _ => none)
 | .view cs => some (cs, 0)
 | .vp id m off => (match H[id]? with
  | some (.vec _ _ m' cs) => (match m' == m with
   | true => some (cs, off)
   | false => none)
  | _ => none)
 | _ => none
def aLoad (agg : Bool) (n : Nat) (a : AV) (H : Heap) (K : AV → Prop) : Prop :=
 match loadAt a H with
 | some p => aCells agg n p.2 p.1 K
 | none => False
theorem aLoad_def (agg : Bool) (n : Nat) (a : AV) (H : Heap) (K : AV → Prop) : aLoad agg n a H K = (match a with
  | .ptr id off => match H[id]? with
   | some (.cells cs) => aCells agg n off cs K
   | _ => False
  | .view cs => aCells agg n 0 cs K
  | .vp id m off => match H[id]? with
   | some (.vec _ _ m' cs) => m' = m ∧ aCells agg n off cs K
   | _ => False
  | _ => False) := by
 cases a with
 | ptr id off =>
  simp only [aLoad, loadAt]
  cases h : H[id]? with
  | none => rfl
  | some b => cases b <;> rfl
 | vp id m off =>
  simp only [aLoad, loadAt]
  cases h : H[id]? with
  | none => rfl
  | some b =>
   cases b with
   | vec e s m' cs =>
    simp only []
    by_cases hm : m' = m
    ·subst hm; simp
    ·have : (m' == m) = false := by simpa using hm
     simp [this, hm]
   | _ => rfl
 | _ => rfl
def aLoadC (agg : Bool) (n : Nat) (a : AV) (H : Heap) (K : AV → Prop) : Prop :=
 match a with
 | .vp _ _ _ => False
 | a => aLoad agg n a H K
def stoAt (n : Nat) (a x : AV) (H : Heap) : Option Heap :=
 match x.cs? with
 | some xs => (match xs.length == n && xs.all AV.known with
  | true => (match a with
   | .ptr id off => (match H[id]? with
    | some (.cells cs) => (match decide (off + n ≤ cs.length) with
     | true => some (H.set id (.cells (cs.take off ++ xs ++ cs.drop (off + n))))
     | false => none)
    | _ => none)
   | .vp id m off => (match H[id]? with
    | some (.vec e s m' cs) => (match m' == m && decide (off + n ≤ cs.length) with
     | true => some (H.set id (.vec e s m' (cs.take off ++ xs ++ cs.drop (off + n))))
     | false => none)
    | _ => none)
   | _ => none)
  | false => none)
 | none => none
def aStore (n : Nat) (a x : AV) (H : Heap) (K : Heap → Prop) : Prop :=
 match stoAt n a x H with
 | some H' => K H'
 | none => False
theorem aStore_def (n : Nat) (a x : AV) (H : Heap) (K : Heap → Prop) : aStore n a x H K = (match a, x.cs? with
  | .ptr id off, some xs => match H[id]? with
   | some (.cells cs) => (xs.length = n ∧ off + n ≤ cs.length ∧ xs.all AV.known = true) ∧ K (H.set id (.cells (cs.take off ++ xs ++ cs.drop (off + n))))
   | _ => False
  | .vp id m off, some xs => match H[id]? with
   | some (.vec e s m' cs) => (m' = m ∧ xs.length = n ∧ off + n ≤ cs.length ∧ xs.all AV.known = true) ∧ K (H.set id (.vec e s m' (cs.take off ++ xs ++ cs.drop (off + n))))
   | _ => False
  | _, _ => False) := by
 unfold aStore stoAt
 cases hx : x.cs? with
 | none => cases a <;> rfl
 | some xs =>
  simp only []
  cases hk : (xs.length == n && xs.all AV.known) with
  | false =>
   have hn : ¬ (xs.length = n ∧ xs.all AV.known = true) := by
    intro h
    rw [h.2, h.1] at hk
    simp at hk
   cases a with
   | ptr id off =>
    simp only []
    cases h : H[id]? with
    | none => rfl
    | some b =>
     cases b with
     | cells cs => simp only []; exact propext ⟨fun h => h.elim, fun h => (hn ⟨h.1.1, h.1.2.2⟩).elim⟩
     | _ => rfl
   | vp id m off =>
    simp only []
    cases h : H[id]? with
    | none => rfl
    | some b =>
     cases b with
     | vec e s m' cs => simp only []; exact propext ⟨fun h => h.elim, fun h => (hn ⟨h.1.2.1, h.1.2.2.2⟩).elim⟩
     | _ => rfl
   | _ => rfl
  | true =>
   have hn : xs.length = n ∧ xs.all AV.known = true := by
    rw [Bool.and_eq_true, beq_iff_eq] at hk
    exact hk
   cases a with
   | ptr id off =>
    simp only []
    cases h : H[id]? with
    | none => rfl
    | some b =>
     cases b with
     | cells cs =>
      simp only []
      by_cases hf : off + n ≤ cs.length
      ·rw [decide_eq_true hf]
       exact propext ⟨fun h => ⟨⟨hn.1, hf, hn.2⟩, h⟩, fun h => h.2⟩
      ·rw [decide_eq_false hf]
       exact propext ⟨fun h => h.elim, fun h => (hf h.1.2.1).elim⟩
     | _ => rfl
   | vp id m off =>
    simp only []
    cases h : H[id]? with
    | none => rfl
    | some b =>
     cases b with
     | vec e s m' cs =>
      simp only []
      by_cases hm : m' = m
      ·subst hm
       by_cases hf : off + n ≤ cs.length
       ·rw [decide_eq_true hf, beq_self_eq_true, Bool.and_true]
        exact propext ⟨fun h => ⟨⟨rfl, hn.1, hf, hn.2⟩, h⟩, fun h => h.2⟩
       ·rw [decide_eq_false hf, Bool.and_false]
        exact propext ⟨fun h => h.elim, fun h => (hf h.1.2.2.1).elim⟩
      ·have : (m' == m) = false := by simpa using hm
       rw [this, Bool.false_and]
       exact propext ⟨fun h => h.elim, fun h => (hm h.1.1).elim⟩
     | _ => rfl
   | _ => rfl
def fldOf (off : Nat) (a : AV) : Option AV :=
 match a with
 | .ptr id o => some (.ptr id (o + off))
 | .view cs => (match decide (off ≤ cs.length) with
  | true => some (.view (cs.drop off))
  | false => none)
 | .vp id n o => some (.vp id n (o + off))
 | _ => none
def aFld (off : Nat) (a : AV) (K : AV → Prop) : Prop :=
 match fldOf off a with
 | some v => K v
 | none => False
theorem aFld_def (off : Nat) (a : AV) (K : AV → Prop) : aFld off a K = (match a with
  | .ptr id o => K (.ptr id (o + off))
  | .view cs => off ≤ cs.length ∧ K (.view (cs.drop off))
  | .vp id n o => K (.vp id n (o + off))
  | _ => False) := by
 cases a with
 | view cs =>
  simp only [aFld, fldOf]
  by_cases h : off ≤ cs.length
  ·simp [h]
  ·simp [h]
 | _ => rfl
def aFldV (agg : Bool) (n off : Nat) (a : AV) (K : AV → Prop) : Prop :=
 match a with
 | .agg cs => aCells agg n off cs K
 | _ => False
def idxOf (esz : Nat) (x i : AV) : Option AV :=
 match i with
 | .int _ n => (match x with
  | .sl es _ => (match decide (0 ≤ n) && decide (n < es.length) && (es.getD n.toNat []).length == esz with
   | true => some (.view (es.getD n.toNat []))
   | false => none)
  | .ms id off len _ => (match decide (0 ≤ n) && decide (n < len) with
   | true => some (.ptr id (off + n.toNat * esz))
   | false => none)
  | .ov id m => (match decide (0 ≤ n) && decide (n < m) with
   | true => some (.vp id m (n.toNat * esz))
   | false => none)
  | _ => none)
 | _ => none
def aIdxA (esz : Nat) (x i : AV) (K : AV → Prop) : Prop :=
 match idxOf esz x i with
 | some v => K v
 | none => False
theorem aIdxA_def (esz : Nat) (x i : AV) (K : AV → Prop) : aIdxA esz x i K = (match x, i with
  | .sl es _, .int _ n => (0 ≤ n ∧ n < es.length) ∧ ((es.getD n.toNat []).length = esz ∧ K (.view (es.getD n.toNat [])))
  | .ms id off len _, .int _ n => (0 ≤ n ∧ n < len) ∧ K (.ptr id (off + n.toNat * esz))
  | .ov id m, .int _ n => (0 ≤ n ∧ n < m) ∧ K (.vp id m (n.toNat * esz))
  | _, _ => False) := by
 cases i with
 | int k n =>
  cases x with
  | sl es tok =>
   simp only [aIdxA, idxOf]
   by_cases h1 : 0 ≤ n
   ·by_cases h2 : n < es.length
    ·by_cases h3 : (es.getD n.toNat []).length = esz
     ·simp only [decide_eq_true h1, decide_eq_true h2, beq_iff_eq.2 h3, Bool.and_self]
      exact propext ⟨fun h => ⟨⟨h1, h2⟩, h3, h⟩, fun h => h.2.2⟩
     ·simp only [beq_eq_false_iff_ne.2 h3, Bool.and_false]
      exact propext ⟨fun h => h.elim, fun h => (h3 h.2.1).elim⟩
    ·simp only [decide_eq_false h2, Bool.and_false, Bool.false_and]
     exact propext ⟨fun h => h.elim, fun h => (h2 h.1.2).elim⟩
   ·simp only [decide_eq_false h1, Bool.false_and]
    exact propext ⟨fun h => h.elim, fun h => (h1 h.1.1).elim⟩
  | ms id off len cap =>
   simp only [aIdxA, idxOf]
   by_cases h1 : 0 ≤ n
   ·by_cases h2 : n < len
    ·simp only [decide_eq_true h1, decide_eq_true h2, Bool.and_self]
     exact propext ⟨fun h => ⟨⟨h1, h2⟩, h⟩, fun h => h.2⟩
    ·simp only [decide_eq_false h2, Bool.and_false]
     exact propext ⟨fun h => h.elim, fun h => (h2 h.1.2).elim⟩
   ·simp only [decide_eq_false h1, Bool.false_and]
    exact propext ⟨fun h => h.elim, fun h => (h1 h.1.1).elim⟩
  | ov id m =>
   simp only [aIdxA, idxOf]
   by_cases h1 : 0 ≤ n
   ·by_cases h2 : n < m
    ·simp only [decide_eq_true h1, decide_eq_true h2, Bool.and_self]
     exact propext ⟨fun h => ⟨⟨h1, h2⟩, h⟩, fun h => h.2⟩
    ·simp only [decide_eq_false h2, Bool.and_false]
     exact propext ⟨fun h => h.elim, fun h => (h2 h.1.2).elim⟩
   ·simp only [decide_eq_false h1, Bool.false_and]
    exact propext ⟨fun h => h.elim, fun h => (h1 h.1.1).elim⟩
  | _ => rfl
 | _ => cases x <;> rfl
def aIdxS (x i : AV) (K : AV → Prop) : Prop :=
 match x, i with
 | .str s, .int _ n => (0 ≤ n ∧ n < s.length) ∧ K (.int .u8 (s.getD n.toNat 0).toNat)
 | _, _ => False
def lenOf (u : Nat) (x : AV) : Option Int :=
 match u with
 | 0 => (match x with
  | .str s => some s.length
  | _ => none)
 | 1 => (match x with
  | .sl es _ => some es.length
  | .snil => some 0
  | .ms _ _ len _ => some len
  | .ov _ n => some n
  | _ => none)
 | _ => none
def aLen (u : Nat) (x : AV) (K : AV → Prop) : Prop :=
 match lenOf u x with
 | some n => K (.int .i64 n)
 | none => False
theorem aLen_def (u : Nat) (x : AV) (K : AV → Prop) : aLen u x K = (match u, x with
  | 0, .str s => K (.int .i64 s.length)
  | 1, .sl es _ => K (.int .i64 es.length)
  | 1, .snil => K (.int .i64 0)
  | 1, .ms _ _ len _ => K (.int .i64 len)
  | 1, .ov _ n => K (.int .i64 n)
  | _, _ => False) := by
 unfold aLen lenOf
 match u with
 | 0 => cases x <;> rfl
 | 1 => cases x <;> rfl
 | _ + 2 => cases x <;> rfl
def aBound (x : Option AV) (d : Nat) (K : Nat → Prop) : Prop :=
 match x with
 | none => K d
 | some (.int _ n) => 0 ≤ n ∧ K n.toNat
 | _ => False
def aSlice (u esz : Nat) (x : AV) (lo hi : Option AV) (K : AV → Prop) : Prop :=
 match u, x with
 | 0, .str s => aBound hi s.length fun h => aBound lo 0 fun l => (l ≤ h ∧ h ≤ s.length) ∧ K (.str ((s.take h).drop l))
 | 1, .sl es _ => aBound hi es.length fun h => aBound lo 0 fun l => (l ≤ h ∧ h ≤ es.length ∧ ∀ c ∈ es, c.length = esz) ∧ K (.sl ((es.take h).drop l) .none)
 | 1, .snil => aBound hi 0 fun h => aBound lo 0 fun l => (l ≤ h ∧ h ≤ 0) ∧ K .snil
 | 1, .ms id off len cap => aBound hi len fun h => aBound lo 0 fun l => (l ≤ h ∧ h ≤ cap) ∧ K (.ms id (if cap = l then off else off + l * esz) (h - l) (cap - l))
 | _, _ => False
def binOf (op : BinOp) (b : Bool) (x y : AV) : Option AV :=
 match x with
 | .int k m => (match y with
  | .int k' n => (match decide (k = k') with
   | true => (match op with
    | .add => some (.int k (k.wrap (m + n)))
    | .sub => some (.int k (k.wrap (m - n)))
    | .mul => some (.int k (k.wrap (m * n)))
    | .quo => (match n == 0 with
     | true => none
     | false => some (.int k (k.wrap (m.tdiv n))))
    | .rem => (match n == 0 with
     | true => none
     | false => some (.int k (m.tmod n)))
    | .eql => some (.bool (m == n))
    | .neq => some (.bool (m != n))
    | .lss => some (.bool (decide (m < n)))
    | .leq => some (.bool (decide (m ≤ n)))
    | .gtr => some (.bool (decide (m > n)))
    | .geq => some (.bool (decide (m ≥ n)))
    | _ => none)
   | false => none)
  | _ => none)
 | .str s => (match y with
  | .str t => (match op with
   | .add => (match decide (s.length + t.length ≤ 9223372036854775807) with
    | true => some (.str (s ++ t))
    | false => none)
   | .eql => some (.bool (s == t))
   | .neq => some (.bool (!(s == t)))
   | .lss => some (.bool (Op.bytesLess s t))
   | .leq => some (.bool (Op.bytesLess s t || s == t))
   | .gtr => some (.bool (!(Op.bytesLess s t || s == t)))
   | .geq => some (.bool (!Op.bytesLess s t))
   | _ => none)
  | _ => none)
 | .bool m => (match y with
  | .bool n => (match b with
   | true => (match op with
    | .eql => some (.bool (m == n))
    | .neq => some (.bool (!(m == n)))
    | _ => none)
   | false => none)
  | _ => none)
 | _ => none
def aBin (op : BinOp) (b : Bool) (x y : AV) (K : AV → Prop) : Prop :=
 match binOf op b x y with
 | some v => K v
 | none => False
theorem aBin_def (op : BinOp) (b : Bool) (x y : AV) (K : AV → Prop) : aBin op b x y K = (match x, y with
  | .int k m, .int k' n => k = k' ∧ (match op with
   | .add => K (.int k (k.wrap (m + n)))
   | .sub => K (.int k (k.wrap (m - n)))
   | .mul => K (.int k (k.wrap (m * n)))
   | .quo => n ≠ 0 ∧ K (.int k (k.wrap (m.tdiv n)))
   | .rem => n ≠ 0 ∧ K (.int k (m.tmod n))
   | .eql => K (.bool (m == n))
   | .neq => K (.bool (m != n))
   | .lss => K (.bool (decide (m < n)))
   | .leq => K (.bool (decide (m ≤ n)))
   | .gtr => K (.bool (decide (m > n)))
   | .geq => K (.bool (decide (m ≥ n)))
   | _ => False)
  | .str s, .str t => (match op with
   | .add => s.length + t.length ≤ 9223372036854775807 ∧ K (.str (s ++ t))
   | .eql => K (.bool (s == t))
   | .neq => K (.bool (!(s == t)))
   | .lss => K (.bool (Op.bytesLess s t))
   | .leq => K (.bool (Op.bytesLess s t || s == t))
   | .gtr => K (.bool (!(Op.bytesLess s t || s == t)))
   | .geq => K (.bool (!Op.bytesLess s t))
   | _ => False)
  | .bool m, .bool n => b = true ∧ (match op with
   | .eql => K (.bool (m == n))
   | .neq => K (.bool (!(m == n)))
   | _ => False)
  | _, _ => False) := by
 cases x with
 | int k m =>
  cases y with
  | int k' n =>
   simp only [aBin, binOf]
   by_cases hk : k = k'
   ·subst hk
    simp only [decide_true, true_and]
    cases op with
    | quo =>
     by_cases h0 : n = 0
     ·subst h0; simp
     ·have : (n == 0) = false := by simpa using h0
      simp [this, h0]
    | rem =>
     by_cases h0 : n = 0
     ·subst h0; simp
     ·have : (n == 0) = false := by simpa using h0
      simp [this, h0]
    | _ => rfl
   ·simp only [decide_eq_false hk]
    exact propext ⟨fun h => h.elim, fun h => (hk h.1).elim⟩
  | _ => rfl
 | str s =>
  cases y with
  | str t =>
   simp only [aBin, binOf]
   cases op with
   | add =>
    simp only []
    by_cases h : s.length + t.length ≤ 9223372036854775807
    ·simp only [decide_eq_true h]
     exact propext ⟨fun h2 => ⟨h, h2⟩, fun h => h.2⟩
    ·simp only [decide_eq_false h]
     exact propext ⟨fun h => h.elim, fun h2 => (h h2.1).elim⟩
   | _ => rfl
  | _ => rfl
 | bool m =>
  cases y with
  | bool n =>
   simp only [aBin, binOf]
   cases b with
   | true => cases op <;> exact propext ⟨fun h => ⟨rfl, h⟩, fun h => h.2⟩
   | false => exact propext ⟨fun h => h.elim, fun h => by cases h.1⟩
  | _ => rfl
 | _ => cases y <;> rfl
def aNilCmp (ok : Bool) (op : BinOp) (x : AV) (K : AV → Prop) : Prop :=
 ok = true ∧ (match x with
  | .nili => (match op with
   | .eql => K (.bool true)
   | .neq => K (.bool false)
   | _ => False)
  | .ifc => (match op with
   | .eql => K (.bool false)
   | .neq => K (.bool true)
   | _ => False)
  | _ => False)
def isNilI : Operand → Bool
 | .const .nilIface => true
 | _ => false
def aUn (op : UnOp) (x : AV) (K : AV → Prop) : Prop :=
 match op, x with
 | .not, .bool b => K (.bool (!b))
 | .neg, .int k n => K (.int k (k.wrap (0 - n)))
 | _, _ => False
def aConv (k : IntKind) (x : AV) (K : AV → Prop) : Prop :=
 match x with
 | .int _ n => K (.int k (k.wrap n))
 | _ => False
def aConvS (x : AV) (K : AV → Prop) : Prop :=
 match x with
 | .str s => K (.str s)
 | _ => False
def bytesOf : List (List AV) → Option (List UInt8)
 | [] => some []
 | [.int .u8 n] :: es => (match bytesOf es with
  | some s => some (UInt8.ofNat n.toNat :: s)
  | none => none)
 | _ => none
def aConvB (x : AV) (K : AV → Prop) : Prop :=
 match x with
 | .sl es _ => (match bytesOf es with
  | some s => K (.str s)
  | none => False)
 | .snil => K (.str [])
 | _ => False
def aExt (x : AV) (i : Nat) (K : AV → Prop) : Prop :=
 match x with
 | .tup vs => (match vs[i]? with
  | some v => K v
  | none => False)
 | _ => False
def aClos (f : Nat) (caps : List AV) (K : AV → Prop) : Prop := caps.all AV.isB = true ∧ K (.fn f caps)
def nilOf (x : AV) : Option AV :=
 match x with
 | .ptr _ _ | .view _ | .fn _ _ | .vp _ _ _ => some x
 | _ => none
def aNil (x : AV) (K : AV → Prop) : Prop :=
 match nilOf x with
 | some v => K v
 | none => False
theorem aNil_def (x : AV) (K : AV → Prop) : aNil x K = (match x with
  | .ptr _ _ | .view _ | .fn _ _ | .vp _ _ _ => K x
  | _ => False) := by
 unfold aNil nilOf
 cases x <;> rfl
def fillA (places : List (Nat × Nat)) : List (Nat × AV) → List AV → Option (List AV)
 | [], cs => some cs
 | (i, x) :: rest, cs => match places[i]?, x.cs? with
  | some (off, size), some xs => match xs.length == size && decide (off + size ≤ cs.length) with
   | true => fillA places rest (cs.take off ++ xs ++ cs.drop (off + size))
   | false => none
  | _, _ => none
def aBuild (zero : List AV) (places : List (Nat × Nat)) (parts : List (Nat × AV)) (K : AV → Prop) : Prop :=
 match fillA places parts zero with
 | some cs => K (.agg cs)
 | none => False
def fillS (esz : Nat) : List (Nat × AV) → List (List AV) → Option (List (List AV))
 | [], es => some es
 | (i, x) :: rest, es => match x.cs? with
  | some xs => match plain xs with
   | some ds => match ds.length == esz && decide (i < es.length) with
    | true => fillS esz rest (es.set i ds)
    | false => none
   | none => none
  | none => none
def aBuildS (esz : Nat) (zero : List AV) (len : Nat) (parts : List (Nat × AV)) (K : AV → Prop) : Prop :=
 match plain zero with
 | some z => (match fillS esz parts (List.replicate len z) with
  | some es => K (.sl es .full)
  | none => False)
 | none => False
def aMake (bytes : Nat) (zero : List AV) (len cap : AV) (H : Heap) (K : AV → Heap → Prop) : Prop :=
 match len, cap with
 | .int .i64 l, .int .i64 c => (0 ≤ l ∧ l ≤ c ∧ c * bytes ≤ 140737488355328 ∧ c ≤ 9223372036854775807) ∧
   K (.ms H.length 0 l.toNat c.toNat) (H ++ [.cells (List.replicate c.toNat zero).flatten])
 | _, _ => False
def mget : List (List UInt8 × AV) → List UInt8 → Option AV
 | [], _ => none
 | p :: l, s => match p.1 == s with
  | true => some p.2
  | false => mget l s
def mput : List (List UInt8 × AV) → List UInt8 → AV → List (List UInt8 × AV)
 | [], s, x => [(s, x)]
 | p :: l, s, x => match p.1 == s with
  | true => (s, x) :: l
  | false => p :: mput l s x
def aMkMap (H : Heap) (K : AV → Heap → Prop) : Prop := K (.map H.length) (H ++ [.map []])
def aLkp (zero : AV) (ok : Bool) (m k : AV) (H : Heap) (K : AV → Prop) : Prop :=
 match m, k with
 | .map id, .str s => match H[id]? with
  | some (.map kvs) => K (match ok with
   | true => .tup [(mget kvs s).getD zero, .bool (mget kvs s).isSome]
   | false => (mget kvs s).getD zero)
  | _ => False
 | _, _ => False
def aMUpd (m k x : AV) (H : Heap) (K : Heap → Prop) : Prop :=
 match m, k with
 | .map id, .str s => match H[id]? with
  | some (.map kvs) => (match x with
   | .tup _ => False
   | x => K (H.set id (.map (mput kvs s x))))
  | _ => False
 | _, _ => False
def aSrc (y : AV) (K : List (List AV) → Prop) : Prop :=
 match y with
 | .sl ys _ => K ys
 | .snil => K []
 | _ => False
def aAppTo (e size bytes : Nat) (x : AV) (ys : List (List AV)) (H : Heap) (K : AV → Heap → Prop) : Prop :=
 match x with
 | .snil => (ys.length * bytes ≤ 140737488355328 ∧ ys.length ≤ 9223372036854775807) ∧ K (.sl ys (.own H.length)) (H ++ [.perm e size ys.length])
 | .sl es (.own id) => H[id]? = some (.perm e size es.length) ∧ ((es.length + ys.length) * bytes ≤ 140737488355328 ∧ es.length + ys.length ≤ 9223372036854775807) ∧
   K (.sl (es ++ ys) (.own id)) (H.set id (.perm e size (es.length + ys.length)))
 | .ov id n => (match H[id]? with
  | some (.vec e' s' n' cs) => ((e' = e ∧ s' = size ∧ n' = n) ∧ (n + ys.length) * bytes ≤ 140737488355328 ∧ n + ys.length ≤ 9223372036854775807) ∧ K (.ov id (n + ys.length)) (H.set id (.vec e size (n + ys.length) (cs ++ ys.flatten)))
  | _ => False)
 | .sl es .full => (0 < ys.length ∧ (∀ c ∈ es, c.length = size) ∧ (es.length + ys.length) * bytes ≤ 140737488355328 ∧ es.length + ys.length ≤ 9223372036854775807) ∧ K (.sl (es ++ ys) (.own H.length)) (H ++ [.perm e size (es.length + ys.length)])
 | _ => False
def aAppend (e size bytes : Nat) (x y : AV) (H : Heap) (K : AV → Heap → Prop) : Prop :=
 aSrc y fun ys => (∀ c ∈ ys, c.length = size) ∧ aAppTo e size bytes x ys H K

def ACalls (P : Program) (f : FuncId) (args : List AV) (H : Heap) (K : AV → Heap → Prop) : Prop :=
 ∀ (B : Nat) (w : World) (G : Gh) (vs : Array Value), HRel B w G H → All2 (TRel w G) vs.toList args →
  Calls P f vs w fun e w' => ∃ v r H' G', e = .returned v ∧ Ext B w G w' G' ∧ HRel B w' G' H' ∧ TRel w' G' v r ∧ K r H'

def tSize (P : Program) (t : TypeId) : Option Nat := (P.info? t).map (·.size)
def tBytes (P : Program) (t : TypeId) : Option Nat := (P.info? t).map (·.bytes)
def tZero (P : Program) (t : TypeId) : Option Value := (P.info? t).bind (·.zero)
def tAgg (P : Program) (t : TypeId) : Option Bool := (P.underlying t).map fun | .struct _ | .array _ _ => true | _ => false
def tKind (P : Program) (t : TypeId) : Option Nat := (P.underlying t).bind fun | .string => some 0 | .slice _ => some 1 | _ => none
def tElem (P : Program) (t : TypeId) : Option TypeId := (P.underlying t).bind fun | .slice e => some e | _ => none
def tIface (P : Program) (t : TypeId) : Bool := match P.underlying t with | some (.interface _) => true | _ => false
def tBld (P : Program) (t : TypeId) : Bool := match P.underlying t with
 | some (.struct fs) => (match fs.toList with
  | [f0, _] => (match P.underlying f0.type with
   | some (.pointer e) => e == t
   | _ => false)
  | _ => false)
 | _ => false
def tU8 (P : Program) (t : TypeId) : Bool := match P.underlying t with | some (.int .u8) => true | _ => false
inductive CvK where
 | ints (k : IntKind)
 | strs
 | bytes
def cvK (P : Program) (s t : TypeId) : Option CvK :=
 match P.underlying s with
 | some (.int _) => (match P.underlying t with
  | some (.int k) => some (.ints k)
  | _ => none)
 | some .string => (match P.underlying t with
  | some .string => some .strs
  | _ => none)
 | some (.slice e) => (match P.underlying t with
  | some .string => (match tU8 P e with
   | true => some .bytes
   | false => none)
  | _ => none)
 | _ => none
def tBool (P : Program) (t : TypeId) : Bool := match P.underlying t with | some .bool => true | _ => false
def tField (P : Program) (t : TypeId) (i : Nat) : Option Field := (P.underlying t).bind fun | .struct fs => fs[i]? | _ => none
def tPlaces (P : Program) (t : TypeId) : Option (List (Nat × Nat)) := (P.underlying t).bind fun
 | .struct fs => fs.toList.mapM fun f => (tSize P f.type).map fun s => (f.offset, s)
 | _ => none
def tMapS (P : Program) (t : TypeId) : Option TypeId := (P.underlying t).bind fun
 | .map k e => (match P.underlying k with
  | some .string => some e
  | _ => none)
 | _ => none
def callable (P : Program) (f : FuncId) : Bool :=
 match P.funcs[f]? with
 | some fn => !(fn.name == "runtime.NumGoroutine") && fn.body.isSome
 | none => false

def aCallV (P : Program) (g : AV) (args : List AV) (H : Heap) (K : AV → Heap → Prop) : Prop :=
 match g with
 | .fn f caps => (match callable P f with
  | true => ACalls P f (args ++ caps) H K
  | false => False)
 | _ => False

def aBuiltin (P : Program) (b : Builtin) (c : Call) (F : List AV) (H : Heap) (K : AV → Heap → Prop) : Prop :=
 match b with
 | .len => (match c.args.toList, c.argTypes.toList with
  | [x], [t] => (match tKind P t with
   | some u => aLen u (ev F x) (K · H)
   | none => False)
  | _, _ => False)
 | .append => (match c.args.toList, c.argTypes.toList with
  | [x, y], [t, t'] => (match tElem P t, (tElem P t).bind (tSize P), (tElem P t).bind (tBytes P), (tElem P t).bind (tZero P), t == t' with
   | some e, some size, some bytes, some z, true => (match decide (0 < size) && (constCells z).length == size with
    | true => aAppend e size bytes (ev F x) (ev F y) H K
    | false => False)
   | _, _, _, _, _ => False)
  | _, _ => False)
 | _ => False

def aopM (P : Program) (op : Op) (F : List AV) (H : Heap) (K : AV → Heap → Prop) : Prop :=
 match op with
 | .makeMap t r => (match r, tMapS P t with
  | none, some _ => aMkMap H K
  | _, _ => False)
 | .lookup t x i ok => (match (tMapS P t).bind (tZero P) with
  | some z => aLkp (constAV z) ok (ev F x) (ev F i) H (K · H)
  | none => False)
 | .mapUpdate t m k x => (match tMapS P t with
  | some _ => aMUpd (ev F m) (ev F k) (ev F x) H (K (.tup []))
  | none => False)
 | .insert t m k x => (match tMapS P t with
  | some _ => aMUpd (ev F m) (ev F k) (ev F x) H (K (.tup []))
  | none => False)
 | _ => False

def aop0 (P : Program) (o : Oper) (F : List AV) (H : Heap) (K : AV → Heap → Prop) : Prop :=
 match o.op with
 | .move x | .assign x => K (ev F x) H
 | .pick c a b => aPick (ev F c) (ev F a) (ev F b) (K · H)
 | .alloc t => (match tZero P t with
  | some z => aNew (constCells z) H K
  | none => False)
 | .box _ x => aBox (ev F x) H K
 | .build t parts => (match tZero P t, tPlaces P t with
  | some z, some ps => aBuild (constCells z) ps (parts.toList.map fun p => (p.1, ev F p.2)) (K · H)
  | _, _ => False)
 | .buildSlice t len parts => (match (tElem P t).bind (tSize P), (tElem P t).bind (tZero P) with
  | some size, some z => (match decide (0 < size) && decide (len * size ≤ 16777216) && (constCells z).length == size with
   | true => aBuildS size (constCells z) len (parts.toList.map fun p => (p.1, ev F p.2)) (K · H)
   | false => False)
  | _, _ => False)
 | .load t a => (match tAgg P t, tSize P t with
  | some g, some n => aLoad g n (ev F a) H (K · H)
  | _, _ => False)
 | .store t a x => (match tSize P t with
  | some n => aStore n (ev F a) (ev F x) H (K (.tup []))
  | none => False)
 | .nilCheck x => aNil (ev F x) (K · H)
 | .binOp op t x y _ => (match isNilI y with
  | true => aNilCmp (tIface P t) op (ev F x) (K · H)
  | false => aBin op (tBool P t) (ev F x) (ev F y) (K · H))
 | .unOp op _ x => aUn op (ev F x) (K · H)
 | .convert s t x => (match cvK P s t with
  | some (.ints k) => aConv k (ev F x) (K · H)
  | some .strs => aConvS (ev F x) (K · H)
  | some .bytes => aConvB (ev F x) (K · H)
  | none => False)
 | .makeFunc (.func f) first caps => (match first.toList with
  | [] => aClos f (caps.toList.map (ev F)) (K · H)
  | _ => False)
 | .makeSlice t l c => (match (tElem P t).bind (tSize P), (tElem P t).bind (tBytes P), (tElem P t).bind (tZero P) with
  | some size, some bytes, some z => (match decide (0 < size) && (constCells z).length == size with
   | true => aMake bytes (constCells z) (ev F l) (ev F c) H K
   | false => False)
  | _, _, _ => False)
 | .slice t x lo hi none => (match tKind P t with
  | some 0 => aSlice 0 0 (ev F x) (lo.map (ev F)) (hi.map (ev F)) (K · H)
  | some 1 => (match (tElem P t).bind (tSize P) with
   | some size => aSlice 1 size (ev F x) (lo.map (ev F)) (hi.map (ev F)) (K · H)
   | none => False)
  | _ => False)
 | .fieldAddr s x i => (match tField P s i with
  | some f => (match tSize P f.type with
   | some (_ + 1) => aFld f.offset (ev F x) (K · H)
   | _ => False)
  | none => False)
 | .field s x i => (match tField P s i with
  | some f => (match tAgg P f.type, tSize P f.type with
   | some g, some n => aFldV g n f.offset (ev F x) (K · H)
   | _, _ => False)
  | none => False)
 | .indexAddr t x i => (match (tElem P t).bind (tSize P) with
  | some size => aIdxA size (ev F x) (ev F i) (K · H)
  | none => False)
 | .index t x i => (match tKind P t with
  | some 0 => aIdxS (ev F x) (ev F i) (K · H)
  | _ => False)
 | .extract x i => aExt (ev F x) i (K · H)
 | .call c => (match c.callee with
  | .value f => aCallV P (ev F f) (c.args.toList.map (ev F)) H K
  | .builtin b => aBuiltin P b c F H K
  | .invoke _ _ => False)
 | _ => False
def isM : Op → Bool
 | .makeMap _ _ | .lookup _ _ _ _ | .mapUpdate _ _ _ _ | .insert _ _ _ _ => true
 | _ => false
def aop (P : Program) (o : Oper) (F : List AV) (H : Heap) (K : AV → Heap → Prop) : Prop :=
 match isM o.op with
 | true => aopM P o.op F H K
 | false => aop0 P o F H K

def aopD (P : Program) (o : Oper) (F : List AV) (H : Heap) (K : AV → Heap → Prop) : Prop :=
 match o.op with
 | .load t a => (match tAgg P t, tSize P t with
  | some g, some n => aLoadC g n (ev F a) H (K · H)
  | _, _ => False)
 | _ => aop P o F H K
def aGuard (g : AV) (want : Bool) (p q : Prop) : Prop :=
 match g with
 | .bool b => aIf (b == want) p q
 | .tup [] => q
 | _ => False
def aGuardJ (g : AV) (want : Bool) (H : Heap) (p : (AV → Heap → Prop) → Prop) (J : AV → Heap → Prop) : Prop := aGuard g want (p J) (J (.tup []) H)
def aPure (H : Heap) (p : (AV → Heap → Prop) → Prop) (K : AV → Prop) : Prop := ∃ r, (p fun v H' => v = r ∧ H' = H) ∧ K r
def aPureX (H : Heap) (p : Heap → (AV → Heap → Prop) → Prop) (K : AV → Prop) : Prop := ∃ r, (∀ J : Heap, p (H ++ J) fun v H' => v = r ∧ H' = H ++ J) ∧ K r
def aTest (c : AV) (p q : Prop) : Prop :=
 match c with
 | .bool t => aIf t p q
 | _ => False

def putF (F : List AV) (d : Option Tmp) (v : AV) : List AV :=
 match d with
 | some d => F.set d v
 | none => F

def aNewB (t : TypeId) (cs : List AV) (H : Heap) (K : AV → Heap → Prop) : Prop := K (.ptr H.length 0) (H ++ [.bld t cs])
def aopO (P : Program) (o : Oper) (F : List AV) (H : Heap) (K : AV → Heap → Prop) : Prop :=
 match o.op with
 | .alloc t => (match tBld P t with
  | true => (match tZero P t with
   | some z => aNewB t (constCells z) H K
   | none => False)
  | false => aop P o F H K)
 | _ => aop P o F H K
def runOps (P : Program) (ops : Array Oper) : List Oper → (List AV → Heap → Prop) → List AV → Heap → Prop
 | [], K, F, H => K F H
 | o :: os, K, F, H => match o.guard with
  | none => aopO P o F H fun v H' => runOps P ops os K (putF F o.dst v) H'
  | some (j, want) => (match (ops[j]?).bind (·.dst) with
   | some d => aGuardJ (F.getD d .unk) want H (aopO P o F H) fun v H' => runOps P ops os K (putF F o.dst v) H'
   | none => False)

inductive WM where
 | n
 | w
 | g
 | c
def WM.on (wc : WM) (f : Operand) : Bool :=
 match wc with
 | .n => false
 | .c => (match f with
  | .func _ => true
  | _ => false)
 | _ => true
def WM.gr : WM → Bool
 | .g => true
 | _ => false
def GrowA (H H' : Heap) : Prop := H' = H ∨ (∃ e s n, H' = H ++ [.perm e s n]) ∨ (∃ (id e s n n' : Nat), H[id]? = some (.perm e s n) ∧ H' = H.set id (.perm e s n')) ∨
 ∃ (id e s n n' : Nat) (cs cs' : List AV), H[id]? = some (.vec e s n cs) ∧ H' = H.set id (.vec e s n' cs')
def opW (wc : WM) : Op → Bool
 | .store _ _ _ | .alloc _ | .box _ _ | .makeSlice _ _ _ | .makeMap _ _ | .mapUpdate _ _ _ _ | .insert _ _ _ _ => true
 | .call c => (match c.callee with
  | .builtin .append => true
  | .value f => wc.on f
  | _ => false)
 | _ => false
def opF : Op → Bool
 | .move _ | .assign _ | .pick _ _ _ | .build _ _ | .buildSlice _ _ _ | .nilCheck _ | .binOp _ _ _ _ _ | .unOp _ _ _ | .convert _ _ _ | .makeFunc _ _ _ | .slice _ _ _ _ _ | .fieldAddr _ _ _ | .field _ _ _
 | .indexAddr _ _ _ | .index _ _ _ | .extract _ _ => true
 | .call c => (match c.callee with
  | .builtin .len => true
  | _ => false)
 | _ => false
def opL : Op → Bool
 | .load _ _ => true
 | _ => false
def opA (wc : WM) : Op → Bool
 | .call c => (match c.callee with
  | .builtin .append => true
  | .value _ => wc.gr
  | _ => false)
 | _ => false
def opG (wc : WM) : Op → Bool
 | .call c => (match c.callee with
  | .value _ => wc.gr
  | _ => false)
 | _ => false
def opN : Op → Bool
 | .alloc _ | .box _ _ | .makeSlice _ _ _ | .makeMap _ _ => true
 | _ => false
def opV : Op → Bool
 | .alloc _ => true
 | _ => false
def opC (wc : WM) : Op → Bool
 | .call c => (match c.callee with
  | .value f => !wc.on f
  | _ => false)
 | _ => false
def okU (wc : WM) (q p : Op) : Bool := (opL q && (opA wc p || opN p)) || (opA wc q && opL p) || (opC wc q && opV p) || (opV q && opV p)
def aDet (wc : WM) (gr : Bool) (H : Heap) (p : (AV → Heap → Prop) → Prop) (K : AV → Heap → Prop) : Prop :=
 match wc with
 | .n => p K
 | _ => ∃ r H', p (fun v H2 => v = r ∧ H2 = H') ∧ (gr = true → GrowA H H') ∧ K r H'
def runD (wc : WM) (P : Program) (ops : Array Oper) : List Oper → (List AV → Heap → Prop) → List AV → Heap → Prop
 | [], K, F, H => K F H
 | o :: os, K, F, H => match o.guard with
  | none => (match opW wc o.op with
   | false => (match opC wc o.op with
    | false => aPure H (aopD P o F H) fun r => runD wc P ops os K (putF F o.dst r) H
    | true => aPureX H (fun H => aopD P o F H) fun r => runD wc P ops os K (putF F o.dst r) H)
   | true => aDet wc (opG wc o.op) H (aopD P o F H) fun v H' => runD wc P ops os K (putF F o.dst v) H')
  | some (j, want) => (match (ops[j]?).bind (·.dst) with
   | some d => (match opW wc o.op with
    | false => (match opC wc o.op with
     | false => aGuardJ (F.getD d .unk) want H (fun J => aPure H (aopD P o F H) (J · H)) fun v H' => runD wc P ops os K (putF F o.dst v) H'
     | true => aGuardJ (F.getD d .unk) want H (fun J => aPureX H (fun H => aopD P o F H) (J · H)) fun v H' => runD wc P ops os K (putF F o.dst v) H')
    | true => aGuardJ (F.getD d .unk) want H (fun J => aDet wc (opG wc o.op) H (aopD P o F H) J) fun v H' => runD wc P ops os K (putF F o.dst v) H')
   | none => False)

def andAll {α : Type} : List α → (α → Prop) → Prop
 | [], _ => True
 | [i], p => p i
 | i :: j :: l, p => p i ∧ andAll (j :: l) p
def runT (P : Program) (ops : Array Oper) (K : List AV → Heap → Prop) : Nat → Array Bool → List AV → Heap → Prop
 | 0, listed, F, H => (match Region.ready .any ops listed with
  | [] => K F H
  | _ => False)
 | n + 1, listed, F, H => (match Region.ready .any ops listed with
  | [] => K F H
  | i :: is => andAll (i :: is) fun i => (match ops[i]? with
   | some o => (match o.guard with
    | none => aop P o F H fun v H' => runT P ops K n (listed.setIfInBounds i true) (putF F o.dst v) H'
    | some _ => False)
   | none => False))
inductive AExit where
 | normal
 | exit (id : Nat)
 | ret
def AExit.toExit : AExit → Exit
 | .normal => .normal
 | .exit id => .exit id
 | .ret => .ret

def Post (B : Nat) (w : World) (G : Gh) (Q : AExit → List AV → Heap → Prop) (e : Exit) (a' : Act) (w' : World) : Prop :=
 ∃ F' H' G' e', e = AExit.toExit e' ∧ Ext B w G w' G' ∧ HRel B w' G' H' ∧ FRel w' G' a'.tmps F' ∧ a'.defers = [] ∧ Q e' F' H'

def AWp (P : Program) (c : Code) (Q : AExit → List AV → Heap → Prop) (F : List AV) (H : Heap) : Prop :=
 ∀ (B : Nat) (w : World) (G : Gh) (a : Act), HRel B w G H → FRel w G a.tmps F → a.defers = [] → c.wp P (Post B w G Q) a w

def ALoop (P : Program) (c : Code) (Q : AExit → List AV → Heap → Prop) (F : List AV) (H : Heap) : Prop := AWp P (.loop c) Q F H

def mask : List Bool → List AV → List AV
 | true :: bs, a :: as => a :: mask bs as
 | false :: bs, _ :: as => .unk :: mask bs as
 | [], as => as
 | _, [] => []
def firstRegion : Code → Nat
 | .region id _ _ => id
 | .seq a _ => firstRegion a
 | .block _ c => firstRegion c
 | .loop c => firstRegion c
 | .scope c => firstRegion c
 | _ => 0

def opReads (ops : Array Oper) (o : Oper) : List Nat :=
 (o.op.operands.toList.filterMap fun | .tmp t => some t | _ => none) ++
  (match o.guard with
  | some (g, _) => ((ops[g]?).bind (·.dst)).toList
  | none => [])
def hasEdge (o : Oper) (j : Nat) : Bool := o.after.any fun e => Region.binds .any e && e.on == j
def ordPair (ops : Array Oper) (i j : Nat) (oi oj : Oper) : Bool :=
 (i == j) || (match oj.dst with
  | some d => (oi.dst != some d) && (!(opReads ops oi).contains d || (if j < i then hasEdge oi j else hasEdge oj i))
  | none => true)
def ordOk (ops : Array Oper) : Bool :=
 (ops.toList.zipIdx.all fun p => (p.1.after.all fun e => !Region.binds .any e || decide (e.on < p.2)) && ops.toList.zipIdx.all fun q => ordPair ops p.2 q.2 p.1 q.1)
def ancMask (ms : List Nat) : List Edge → Nat → Nat
 | [], m => m
 | e :: es, m => ancMask ms es (match Region.binds .any e with
  | true => m ||| (1 <<< e.on) ||| ms.getD e.on 0
  | false => m)
def ancs : List Oper → List Nat → List Nat
 | [], ms => ms
 | o :: os, ms => ancs os (ms ++ [ancMask ms o.after.toList 0])
def ordW (wc : WM) (ops : Array Oper) : Bool :=
 match ops.toList.any (fun o => opW wc o.op) with
 | false => true
 | true => (fun ms => ops.toList.zipIdx.all fun p => ops.toList.zipIdx.all fun q =>
   !(decide (q.2 < p.2)) || !(opW wc p.1.op || opW wc q.1.op) || opF p.1.op || opF q.1.op || okU wc q.1.op p.1.op || Nat.testBit (ms.getD p.2 0) q.2) (ancs ops.toList [])
def tailDep (ops : Array Oper) (m : Nat) : Bool := (ops.toList.drop m).all (fun o => (List.range m).all fun i => hasEdge o i) && ops.toList.all fun o => o.guard.isNone
def preOps (ops : Array Oper) (m : Nat) : Array Oper := (ops.toList.take m).toArray
def tailL (m t : Nat) : Array Bool := (List.replicate m true ++ List.replicate t false).toArray
def ordV (ops : Array Oper) : Bool :=
 match ops.toList.any (fun o => opV o.op) with
 | false => true
 | true => (fun a k => ops.toList.zipIdx.all fun p => (opV p.1.op == (decide (a ≤ p.2) && decide (p.2 < a + k))) && (!opV p.1.op || p.1.guard.isNone)) (ops.toList.findIdx fun o => opV o.op) (ops.toList.countP fun o => opV o.op)
def seqQ (next : List AV → Heap → Prop) (Q : AExit → List AV → Heap → Prop) : AExit → List AV → Heap → Prop
 | .normal, F, H => next F H
 | .exit id, F, H => Q (.exit id) F H
 | .ret, F, H => Q .ret F H
def blkQ (id : Nat) (Q : AExit → List AV → Heap → Prop) : AExit → List AV → Heap → Prop
 | .normal, F, H => Q .normal F H
 | .exit id', F, H => (match id' == id with
  | true => Q .normal F H
  | false => Q (.exit id') F H)
 | .ret, F, H => Q .ret F H

def cutKey : Code → Nat
 | .region id _ _ => id
 | .seq a _ => cutKey a
 | .block _ c => cutKey c
 | .loop c => cutKey c
 | .scope c => cutKey c
 | .cond _ a b => 50000 + cutKey a * 1000 + cutKey b
 | _ => 0
def nxt (m : List Bool) (P : Program) (b : Code) (Q : AExit → List AV → Heap → Prop) (now : List AV → Heap → Prop) : List AV → Heap → Prop :=
 match m with
 | [] => now
 | m => fun F H => AWp P b Q (mask m F) H
def awp (P : Program) (M : Nat → List Bool) : Code → (AExit → List AV → Heap → Prop) → List AV → Heap → Prop
 | .skip, Q, F, H => Q .normal F H
 | .label _, Q, F, H => Q .normal F H
 | .region id ops draw, Q, F, H => (match draw with
  | false => runOps P ops ops.toList (Q .normal) F H
  | true => (match M (200000 + id) with
   | [] => (match ordOk ops && ordW .n ops && ordV ops && P.follows .mixedOrders with
    | true => runD .n P ops ops.toList (Q .normal) F H
    | false => False)
   | [_] => (match ordOk ops && ordW .w ops && ordV ops && P.follows .mixedOrders with
    | true => runD .w P ops ops.toList (Q .normal) F H
    | false => False)
   | [_, _] => (match ordOk ops && ordW .g ops && ordV ops && P.follows .mixedOrders with
    | true => runD .g P ops ops.toList (Q .normal) F H
    | false => False)
   | [_, _, _] => (match ordOk ops && ordW .c ops && ordV ops && P.follows .mixedOrders with
    | true => runD .c P ops ops.toList (Q .normal) F H
    | false => False)
   | _ :: _ :: _ :: _ :: l => (match ordOk (preOps ops (ops.size - l.length)) && ordW .n (preOps ops (ops.size - l.length)) && ordV (preOps ops (ops.size - l.length)) && P.follows .mixedOrders && tailDep ops (ops.size - l.length) && decide (l.length ≤ ops.size) with
    | true => runD .n P (preOps ops (ops.size - l.length)) (preOps ops (ops.size - l.length)).toList (runT P ops (Q .normal) l.length (tailL (ops.size - l.length) l.length)) F H
    | false => False)))
 | .seq a b, Q, F, H => awp P M a (seqQ (nxt (M (100000 + cutKey b)) P b Q (awp P M b Q)) Q) F H
 | .cond c a b, Q, F, H => aTest (ev F c) (awp P M a Q F H) (awp P M b Q F H)
 | .block id c, Q, F, H => awp P M c (blkQ id Q) F H
 | .scope c, Q, F, H => awp P M c Q F H
 | .loop c, Q, F, H => ALoop P c Q (mask (M (firstRegion c)) F) H
 | .ret, Q, F, H => Q .ret F H
 | .exit id, Q, F, H => Q (.exit id) F H
 | _, _, _, _ => False

def codeAt : List Nat → Code → Code
 | [], c => c
 | 0 :: p, .seq a _ => codeAt p a
 | _ :: p, .seq _ b => codeAt p b
 | 0 :: p, .cond _ a _ => codeAt p a
 | _ :: p, .cond _ _ b => codeAt p b
 | _ :: p, .block _ c => codeAt p c
 | _ :: p, .scope c => codeAt p c
 | _ :: p, .loop c => codeAt p c
 | _, c => c
def contAt (P : Program) (M : Nat → List Bool) : List Nat → Code → (AExit → List AV → Heap → Prop) → AExit → List AV → Heap → Prop
 | [], _, Q => Q
 | 0 :: p, .seq a b, Q => contAt P M p a (seqQ (nxt (M (100000 + cutKey b)) P b Q (awp P M b Q)) Q)
 | _ :: p, .seq _ b, Q => contAt P M p b Q
 | 0 :: p, .cond _ a _, Q => contAt P M p a Q
 | _ :: p, .cond _ _ b, Q => contAt P M p b Q
 | _ :: p, .block id c, Q => contAt P M p c (blkQ id Q)
 | _ :: p, .scope c, Q => contAt P M p c Q
 | _, _, Q => Q
def roundQ (m : List Bool) (Kb : List AV → Heap → Prop) (Q : AExit → List AV → Heap → Prop) : AExit → List AV → Heap → Prop
 | .normal, F, H => Kb (mask m F) H
 | .exit id, F, H => Q (.exit id) F H
 | .ret, F, H => Q .ret F H

end Go.Abs
namespace Go.Abs
open Go Go.RowKit

variable {P : Program} {B : Nat} {w : World} {G : Gh} {H : Heap}

def CallPost (B : Nat) (w : World) (G : Gh) (K : AV → Heap → Prop) (e : Ending) (w' : World) : Prop :=
 ∃ v r H' G', e = .returned v ∧ Ext B w G w' G' ∧ HRel B w' G' H' ∧ TRel w' G' v r ∧ K r H'

def OpOK (P : Program) (B : Nat) (w : World) (G : Gh) (K : AV → Heap → Prop) : Result Next → Prop
 | .ok (.value v) w' => ∃ av G' H', Ext B w G w' G' ∧ HRel B w' G' H' ∧ TRel w' G' v av ∧ K av H'
 | .ok .skip w' => ∃ G' H', Ext B w G w' G' ∧ HRel B w' G' H' ∧ K (.tup []) H'
 | .ok (.enter f vs) w' => w' = w ∧ Calls P f vs w (CallPost B w G K)
 | _ => False

theorem OpOK.same {K : AV → Heap → Prop} {v : Value} {av : AV} (hH : HRel B w G H) (hv : TRel w G v av) (hK : K av H) : OpOK P B w G K (.ok (.value v) w) :=
 ⟨av, G, H, Ext.refl _ _ _, hH, hv, hK⟩

theorem rel_atom (v : Value) : BRel w G v (constAtom v) := by
 unfold constAtom
 split <;> first | rfl | trivial
theorem rel_const (v : Value) : TRel w G v (constAV v) := by
 unfold constAV
 split
 ·rename_i cs
  refine ⟨cs, rfl, ?_⟩
  refine All2.of_get (by simp) fun i x y hx hy => ?_
  rw [List.getElem?_map, hx] at hy
  simp at hy
  rw [← hy]
  exact ARel.of_b (rel_atom x)
 ·exact TRel.of_v (VRel.of_a (ARel.of_b (rel_atom v)))
theorem rel_cells (v : Value) : All2 (ARel w G) v.cells.toList (constCells v) := by
 unfold constCells
 split
 ·rename_i cs
  simp only [Value.cells]
  refine All2.of_get (by simp) fun i x y hx hy => ?_
  rw [List.getElem?_map, hx] at hy
  simp at hy
  rw [← hy]
  exact ARel.of_b (rel_atom x)
 ·rename_i h
  have : v.cells = #[v] := by
   cases v <;> first | rfl | exact absurd rfl (h _)
  rw [this]
  exact ⟨ARel.of_b (rel_atom v), trivial⟩

theorem ev_rel {a : Act} {F : List AV} (hF : FRel w G a.tmps F) (x : Operand) : TRel w G (a.eval x) (ev F x) := by
 cases x with
 | tmp t =>
  unfold Act.eval ev
  simp only []
  cases h : F[t]? with
  | none => simp only [List.getD_eq_getElem?_getD, h]; trivial
  | some b =>
   obtain ⟨v, h1, h2⟩ := All2.get hF h
   have : a.tmps[t]? = some v := by simpa using h1
   simp only [List.getD_eq_getElem?_getD, h, Option.getD_some, Array.getD_eq_getD_getElem?, this]
   exact h2
 | const v => exact rel_const v
 | global g => trivial
 | func f => exact ⟨#[], rfl, trivial⟩

theorem ev_rels {a : Act} {F : List AV} (hF : FRel w G a.tmps F) (xs : List Operand) : All2 (TRel w G) (xs.map a.eval) (xs.map (ev F)) := by
 induction xs with
 | nil => trivial
 | cons x xs ih => exact ⟨ev_rel hF x, ih⟩

theorem run_info {t : TypeId} {i : TypeInfo} (h : P.info? t = some i) : (typeInfo t).run P w = .ok i w := by simp [typeInfo, h]
theorem run_size {t : TypeId} {n : Nat} (h : tSize P t = some n) : (sizeOf t).run P w = .ok n w := by
 unfold tSize at h
 cases hi : P.info? t with
 | none => simp [hi] at h
 | some i => simp [hi] at h; simp [sizeOf, run_info hi, h]
theorem run_zero {t : TypeId} {z : Value} (h : tZero P t = some z) : (zeroValue t).run P w = .ok z w := by
 unfold tZero at h
 cases hi : P.info? t with
 | none => simp [hi] at h
 | some i => simp [hi] at h; simp [zeroValue, run_info hi, h]
theorem run_und {t : TypeId} {d : TypeDesc} (h : P.underlying t = some d) : (underlying t).run P w = .ok d w := by simp [underlying, h]
theorem run_agg {t : TypeId} {g : Bool} (h : tAgg P t = some g) : (isAgg t).run P w = .ok g w := by
 unfold tAgg at h
 cases hu : P.underlying t with
 | none => simp [hu] at h
 | some d =>
  simp only [hu, Option.map_some, Option.some.injEq] at h
  cases d <;> simp_all [isAgg, run_und hu]
theorem und_elem {t e : TypeId} (h : tElem P t = some e) : P.underlying t = some (.slice e) := by
 unfold tElem at h
 cases hu : P.underlying t with
 | none => simp [hu] at h
 | some d => simp only [hu, Option.bind_some] at h; cases d <;> simp_all
theorem und_kind0 {t : TypeId} (h : tKind P t = some 0) : P.underlying t = some .string := by
 unfold tKind at h
 cases hu : P.underlying t with
 | none => simp [hu] at h
 | some d => simp only [hu, Option.bind_some] at h; cases d <;> simp_all
theorem und_kind1 {t : TypeId} (h : tKind P t = some 1) : ∃ e, P.underlying t = some (.slice e) := by
 unfold tKind at h
 cases hu : P.underlying t with
 | none => simp [hu] at h
 | some d => simp only [hu, Option.bind_some] at h; cases d <;> simp_all
theorem und_field {t : TypeId} {i : Nat} {f : Field} (h : tField P t i = some f) : ∃ fs, P.underlying t = some (.struct fs) ∧ fs[i]? = some f := by
 unfold tField at h
 cases hu : P.underlying t with
 | none => simp [hu] at h
 | some d => simp only [hu, Option.bind_some] at h; cases d <;> simp_all

theorem add_lit (b o n : Nat) : Addr.add ⟨b, o, none⟩ n = ⟨b, o + n, none⟩ := Addr.add_lit b o n

theorem ARel.oneCell {v : Value} : ∀ {a : AV}, a ≠ .unk → ARel w G v a → v.oneCell' = true := by
 intro a hne h
 cases a with
 | unk => exact absurd rfl hne
 | fn f caps => obtain ⟨vs, rfl, _⟩ := h; rfl
 | agg cs => exact h.elim
 | tup cs => exact h.elim
 | sl es tok =>
  cases tok with
  | none => obtain ⟨a, cap, rfl, _⟩ := DRel.slice_form h; rfl
  | full => obtain ⟨a, cap, rfl, _⟩ := DRel.slice_form h.1; rfl
  | own id => obtain ⟨a, cap, rfl, _⟩ := DRel.slice_form h.1; rfl
 | bool b => cases h; rfl
 | int k n => cases h; rfl
 | str s => cases h; rfl
 | nilp => cases h; rfl
 | snil => cases h; rfl
 | nilfn => cases h; rfl
 | nili => cases h; rfl
 | ifc => obtain ⟨t, x, rfl⟩ := h; rfl
 | ptr id off => obtain ⟨b, _, rfl⟩ := h; rfl
 | view cs => obtain ⟨b, off, rfl, _⟩ := h; rfl
 | ms id off len cap => obtain ⟨b, _, rfl⟩ := h; rfl
 | ov id n => obtain ⟨⟨a, cap, rfl, _⟩, _⟩ := h; rfl
 | vp id n off => obtain ⟨⟨b, o, rfl⟩, _⟩ := h; rfl
 | map id => obtain ⟨b, _, rfl⟩ := h; rfl

theorem cs_rel {v : Value} {x : AV} {xs : List AV} (h : TRel w G v x) (hx : x.cs? = some xs) : All2 (ARel w G) v.cells.toList xs := by
 have atom : ∀ {y : AV}, y ≠ .unk → y.cs? = some [y] → ARel w G v y → All2 (ARel w G) v.cells.toList [y] := by
  intro y hne _ hr
  have h1 := ARel.oneCell hne hr
  have : v.cells = #[v] := by cases v <;> first | rfl | simp [Value.oneCell'] at h1
  rw [this]
  exact ⟨hr, trivial⟩
 cases x with
 | unk => simp [AV.cs?] at hx
 | tup vs => simp [AV.cs?] at hx
 | agg cs =>
  simp [AV.cs?] at hx
  subst hx
  obtain ⟨vs, rfl, h2⟩ := h
  exact h2
 | _ =>
  simp [AV.cs?] at hx
  subst hx
  exact atom (by simp) rfl h

theorem ownsRow_form {v : Value} {e : TypeId} {size n : Nat} {xs : List Value} (h : w.ownsRow B e size v n xs) : ∃ a cap, v = .slice a n cap ∧ n ≤ cap := by
 rcases h.2 with ⟨rfl, rfl⟩ | ⟨g, cap, cur, rfl, h1, h2, h3, h4⟩
 ·exact ⟨none, 0, rfl, Nat.le_refl _⟩
 ·exact ⟨_, cap, rfl, h3⟩

theorem ownsRow_cells {e : TypeId} {size n cap g : Nat} {xs : List Value} (h : w.ownsRow B e size (.slice (some ⟨g, 0, none⟩) n cap) n xs) :
  xs.length = n * size ∧ B ≤ g ∧ g < w.heap.size ∧ ∀ (j : Nat), j < n * size → w.cell? ⟨g, j, none⟩ = xs[j]? := by
 obtain ⟨h0, h1⟩ := h
 rcases h1 with ⟨h1, _⟩ | ⟨g', cap', cur, h1, h2, h3, h4, h5, h6, h7⟩
 ·simp at h1
 ·simp at h1
  obtain ⟨rfl, rfl⟩ := h1
  refine ⟨h0, h2, (Array.getElem?_eq_some_iff.1 h3).1, fun j hj => ?_⟩
  rw [← h7]
  simp only [World.cell?, h3]
  rw [List.getElem?_take_of_lt hj]
  simp


theorem run_loadVar_of {t : TypeId} {g : Bool} {n : Nat} {b off : Nat} {ws : List Value} {cs : List AV} {K : AV → Prop} (hg : tAgg P t = some g) (hn : tSize P t = some n)
  (hr : All2 (ARel w G) ws cs) (hc : ∀ (j : Nat) v, ws[j]? = some v → w.cell? ⟨b, j, none⟩ = some v) (hk : aCells g n off cs K) :
  ∃ v av, (loadVar t ⟨b, off, none⟩).run P w = .ok v w ∧ TRel w G v av ∧ K av := by
 cases g with
 | true =>
  obtain ⟨h1, h2⟩ := hk
  have hl := hr.length
  have hlen : ((ws.drop off).take n).length = n := by simp; omega
  have hld := run_loadCells_list (P := P) w ⟨b, off, none⟩ ((ws.drop off).take n) (fun j v hj => by
   rw [add_lit]
   apply hc
   have : j < n := by have := (List.getElem?_eq_some_iff.1 hj).1; omega
   rw [List.getElem?_take] at hj
   simp [this] at hj
   exact hj)
  rw [hlen] at hld
  refine ⟨.agg ((ws.drop off).take n).toArray, .agg ((cs.drop off).take n), ?_, ⟨_, rfl, ?_⟩, h2⟩
  ·simp [loadVar, run_agg hg, run_size hn, hld]
  ·simpa using (hr.drop off).take n
 | false =>
  unfold aCells at hk
  simp only [] at hk
  cases hco : cs[off]? with
  | none => rw [hco] at hk; exact hk.elim
  | some c =>
   rw [hco] at hk
   obtain ⟨v, h1, h2⟩ := hr.get hco
   refine ⟨v, c, ?_, TRel.of_v (VRel.of_a h2), hk⟩
   simp [loadVar, run_agg hg, hc off v h1]

theorem DRel.toB {v : Value} {a : AV} (h : DRel w G.L v a) : BRel w G v a := by
 cases h with
 | bool b => rfl
 | int k n => rfl
 | str s => rfl
 | slE a cap => exact .slE a cap
 | sl b off cap esz es vs hne hcap hL hsz hc hd => exact .sl b off cap esz es vs hne hcap hL hsz hc hd

theorem sound_load {t : TypeId} {g : Bool} {n : Nat} {v : Value} {x : AV} {K : AV → Heap → Prop} (hH : HRel B w G H) (hx : TRel w G v x) (hg : tAgg P t = some g) (hn : tSize P t = some n)
  (h : aLoad g n x H (K · H)) : ∃ u, (Instr.loadAt t v).run P w = .ok u w ∧ ∃ av, TRel w G u av ∧ K av H := by
 rw [aLoad_def] at h
 split at h
 ·rename_i id off
  obtain ⟨b, hμ, rfl⟩ := hx
  split at h
  ·rename_i cs hcs
   have := hH.ok id _ _ hcs hμ
   obtain ⟨_, _, vs, e, hw, hr⟩ := this
   obtain ⟨u, av, h1, h2, h3⟩ := run_loadVar_of (P := P) (b := b) (off := off) (K := (K · H)) hg hn hr (fun j v hj => by simp [World.cell?, hw]; simpa using hj) h
   exact ⟨u, by simp [Instr.loadAt, Instr.sureAddr, h1], av, h2, h3⟩
  ·exact h.elim
 ·rename_i cs
  obtain ⟨b, off, rfl, hL, vs, hr, hc⟩ := hx
  have hr' : All2 (ARel w G) vs cs := hr.mono fun _ _ hd => ARel.of_b hd.toB
  -- the cells from 'off' on, read as a row of their own
  cases g with
  | true =>
   obtain ⟨h1, h2⟩ := h
   have hl := hr.length
   have hlen : (vs.take n).length = n := by simp; omega
   have hld := run_loadCells_list (P := P) w ⟨b, off, none⟩ (vs.take n) (fun j v hj => by
    rw [add_lit]
    apply hc
    rw [List.getElem?_take] at hj
    split at hj
    ·exact hj
    ·simp at hj)
   rw [hlen] at hld
   refine ⟨.agg (vs.take n).toArray, ?_, .agg (cs.take n), ⟨_, rfl, ?_⟩, ?_⟩
   ·simp [Instr.loadAt, Instr.sureAddr, loadVar, run_agg hg, run_size hn, hld]
   ·simpa using hr'.take n
   ·simpa using h2
  | false =>
   unfold aCells at h
   simp only [] at h
   cases hco : cs[0]? with
   | none => rw [hco] at h; exact h.elim
   | some c =>
    rw [hco] at h
    obtain ⟨v, h1, h2⟩ := hr'.get hco
    refine ⟨v, ?_, c, TRel.of_v (VRel.of_a h2), h⟩
    have := hc 0 v h1
    simp at this
    simp [Instr.loadAt, Instr.sureAddr, loadVar, run_agg hg, this]
 ·rename_i id m off
  obtain ⟨_, v', size, m', hμ, _, heq⟩ := hx
  split at h
  ·rename_i e s m2 cs hcs
   obtain ⟨rfl, h⟩ := h
   obtain ⟨rfl, rfl, ⟨xs, hown, hr⟩, _⟩ := hH.ok id _ _ hcs hμ
   obtain ⟨g, hg0, rfl⟩ := heq rfl
   obtain ⟨a, cap, rfl, _⟩ := ownsRow_form hown
   have ha : a = some ⟨g, 0, none⟩ := by
    rcases hown.2 with ⟨h1, _⟩ | ⟨g', cap', cur, h1, _⟩
    ·rw [h1] at hg0; cases hg0
    ·rw [h1] at hg0; simp [Value.ownBlock] at hg0; subst hg0; simp at h1; exact h1.1
   subst ha
   obtain ⟨hxl, _, _, hcell⟩ := ownsRow_cells hown
   obtain ⟨u, av, h1, h2, h3⟩ := run_loadVar_of (P := P) (b := g) (off := off) (K := (K · H)) hg hn hr (fun j v hj => by
    rw [hcell j (by rw [← hxl]; exact (List.getElem?_eq_some_iff.1 hj).1)]; exact hj) h
   exact ⟨u, by simp [Instr.loadAt, Instr.sureAddr, h1], av, h2, h3⟩
  ·exact h.elim
 ·exact h.elim

theorem plain_one {xs : List Value} {cs : List AV} (h : All2 (ARel w G) xs cs) (hu : ∀ c ∈ cs, c ≠ .unk) : ∀ v ∈ xs, v.oneCell' = true := by
 intro v hv
 obtain ⟨i, hi⟩ := List.mem_iff_getElem?.1 hv
 obtain ⟨c, h1, h2⟩ := h.get' hi
 exact ARel.oneCell (hu c (List.mem_iff_getElem?.2 ⟨i, h1⟩)) h2


theorem sound_store {t : TypeId} {n : Nat} {v u : Value} {a x : AV} {K : Heap → Prop} (hH : HRel B w G H) (ha : TRel w G v a) (hx : TRel w G u x) (hn : tSize P t = some n)
  (h : aStore n a x H K) : ∃ w' H', (Instr.storeAt t v u).run P w = .ok () w' ∧ Ext B w G w' G ∧ HRel B w' G H' ∧ K H' := by
 have ones : ∀ {xs : List AV}, All2 (ARel w G) u.cells.toList xs → xs.all AV.known = true → ∀ v ∈ u.cells.toList, v.oneCell' = true := fun hxr h3 => plain_one hxr (fun c hc => by
  have := List.all_eq_true.1 h3 c hc
  intro hcu; subst hcu; simp [AV.known] at this)
 rw [aStore_def] at h
 split at h
 ·rename_i id off xs hxs
  obtain ⟨b, hμ, rfl⟩ := ha
  split at h
  ·rename_i cs hcs
   obtain ⟨⟨h1, h2, h3⟩, hk⟩ := h
   obtain ⟨hB, _, vs, e, hw, hr⟩ := hH.ok id _ _ hcs hμ
   have hxr := cs_rel hx hxs
   have hl := hr.length
   have hlx := hxr.length
   have hst := run_storeCells_at P b off e u.cells.toList 0 vs w hw (by simp at hl hlx ⊢; omega) (ones hxr h3)
   simp only [Nat.add_zero] at hst
   have hnew : All2 (ARel w G) (vs.toList.take off ++ u.cells.toList ++ vs.toList.drop (off + u.cells.toList.length)).toArray.toList (cs.take off ++ xs ++ cs.drop (off + n)) := by
    have : u.cells.toList.length = n := by rw [hlx]; exact h1
    rw [this]
    simpa using ((hr.take off).append hxr).append (hr.drop (off + n))
   obtain ⟨he, hH'⟩ := hH.store hcs hμ hw hB hnew
   refine ⟨_, _, ?_, he, hH', hk⟩
   have hsz : u.cells.size = n := by simp at hlx; omega
   simp [Instr.storeAt, Instr.sureAddr, storeVar, run_size hn, hsz, hst]
  ·exact h.elim
 ·rename_i id m off xs hxs
  obtain ⟨_, v', size, m', hμ, _, heq⟩ := ha
  split at h
  ·rename_i e s m2 cs hcs
   obtain ⟨⟨rfl, h1, h2, h3⟩, hk⟩ := h
   obtain ⟨rfl, rfl, ⟨ys, hown, hr⟩, _⟩ := hH.ok id _ _ hcs hμ
   obtain ⟨g, hg0, rfl⟩ := heq rfl
   obtain ⟨hyl, hrow⟩ := hown
   rcases hrow with ⟨h5, _⟩ | ⟨g', cap, cur, h5, hBg, hw, hc1, hc2, hc3, hc4⟩
   ·rw [h5] at hg0; cases hg0
   rw [h5] at hg0 hμ
   simp [Value.ownBlock] at hg0
   subst hg0
   have hxr := cs_rel hx hxs
   have hl := hr.length
   have hlx := hxr.length
   have hun : u.cells.toList.length = n := by rw [hlx]; exact h1
   have hms : m2 * s ≤ cur.size := by rw [hc3]; exact Nat.mul_le_mul_right _ hc1
   have hst := run_storeCells_at P g' off e u.cells.toList 0 cur w hw (by omega) (ones hxr h3)
   simp only [Nat.add_zero] at hst
   rw [hun] at hst
   have hfit : off + n ≤ m2 * s := by omega
   have htk : (cur.toList.take off ++ u.cells.toList ++ cur.toList.drop (off + n)).toArray.toList.take (m2 * s) = ys.take off ++ u.cells.toList ++ ys.drop (off + n) := by
    rw [← hc4]
    simp only [List.take_append, List.length_take, Array.length_toList, List.length_append, hun]
    rw [List.take_take, List.take_take, List.drop_take, List.take_of_length_le (l := u.cells.toList) (by omega)]
    congr 2
    ·congr 1; omega
    ·congr 1
     omega
   obtain ⟨he, hH'⟩ := hH.storeV (cs' := cs.take off ++ xs ++ cs.drop (off + n)) hcs hμ hw hBg hc1 hc2 (by simp [List.length_append, hun]; omega) htk (by simp [hun]; omega) (by
    have := ((hr.take off).append hxr).append (hr.drop (off + n))
    simpa using this)
   refine ⟨_, _, ?_, he, hH', hk⟩
   have hsz : u.cells.size = n := by simp at hlx; omega
   simp [Instr.storeAt, Instr.sureAddr, storeVar, run_size hn, hsz, hst]
  ·exact h.elim
 ·exact h.elim

theorem sound_box {t : TypeId} {v : Value} {x : AV} {K : AV → Heap → Prop} (hH : HRel B w G H) (hx : TRel w G v x) (h : aBox x H K) :
  OpOK P B w G K (((do pure (.value (← Instr.box t v))) : Sem Next).run P w) := by
 unfold aBox at h
 split at h
 ·rename_i cs hcs
  obtain ⟨he, hH'⟩ := hH.new v.cells t cs (cs_rel hx hcs)
  have hrun : ((do pure (.value (← Instr.box t v))) : Sem Next).run P w = .ok (.value (.pointer (some ⟨w.heap.size, 0, none⟩))) (w.alloc (.cells v.cells t)) := by
   simp [Instr.box, newVar, newRow, World.alloc_eq]
  rw [hrun]
  refine ⟨.ptr H.length 0, _, _, he, hH', ⟨w.heap.size, ?_, rfl⟩, h⟩
  rw [← hH.len]; simp
 ·exact h.elim
theorem sound_alloc {t : TypeId} {z : Value} {K : AV → Heap → Prop} (hH : HRel B w G H) (hz : tZero P t = some z) (h : K (.ptr H.length 0) (H ++ [.cells (constCells z)])) :
  OpOK P B w G K (((do pure (.value (← Instr.alloc t true (.tuple #[])))) : Sem Next).run P w) := by
 obtain ⟨he, hH'⟩ := hH.new z.cells t (constCells z) (rel_cells z)
 have hrun : ((do pure (.value (← Instr.alloc t true (.tuple #[])))) : Sem Next).run P w = .ok (.value (.pointer (some ⟨w.heap.size, 0, none⟩))) (w.alloc (.cells z.cells t)) := by
  simp [Instr.alloc, run_zero hz, newVar, newRow, World.alloc_eq]
 rw [hrun]
 refine ⟨.ptr H.length 0, _, _, he, hH', ⟨w.heap.size, ?_, rfl⟩, h⟩
 rw [← hH.len]; simp

theorem sound_fld {s : TypeId} {i : Nat} {f : Field} {n : Nat} {v : Value} {x : AV} {K : AV → Prop} (hx : TRel w G v x) (hf : tField P s i = some f) (hn : tSize P f.type = some (n + 1))
  (h : aFld f.offset x K) : ∃ u, (Instr.fieldAt s v i).run P w = .ok u w ∧ ∃ av, TRel w G u av ∧ K av := by
 obtain ⟨fs, hu, hfs⟩ := und_field hf
 rw [aFld_def] at h
 split at h
 ·rename_i id off
  obtain ⟨b, hμ, rfl⟩ := hx
  refine ⟨.pointer (some ⟨b, off + f.offset, none⟩), ?_, .ptr id (off + f.offset), ⟨b, hμ, rfl⟩, h⟩
  simp [Instr.fieldAt, run_und hu, hfs, Instr.sureAddr, fieldPlace, run_size hn, add_lit]
 ·rename_i cs
  obtain ⟨b, off, rfl, hc⟩ := hx
  refine ⟨.pointer (some ⟨b, off + f.offset, none⟩), ?_, .view (cs.drop f.offset), ⟨b, _, rfl, hc.drop _ h.1⟩, h.2⟩
  simp [Instr.fieldAt, run_und hu, hfs, Instr.sureAddr, fieldPlace, run_size hn, add_lit]
 ·rename_i id m off
  obtain ⟨⟨b, o, rfl⟩, v', size, m', hμ, hle, heq⟩ := hx
  refine ⟨.pointer (some ⟨b, o + f.offset, none⟩), ?_, .vp id m (off + f.offset), ⟨⟨b, _, rfl⟩, v', size, m', hμ, hle, fun e => ?_⟩, h⟩
  ·simp [Instr.fieldAt, run_und hu, hfs, Instr.sureAddr, fieldPlace, run_size hn, add_lit]
  ·obtain ⟨g, h1, h2⟩ := heq e
   simp at h2
   exact ⟨g, h1, by rw [h2.1, h2.2]⟩
 ·exact h.elim
theorem sound_part {t : TypeId} {g : Bool} {n off : Nat} {vs : Array Value} {cs : List AV} {K : AV → Prop} (hr : All2 (ARel w G) vs.toList cs) (hg : tAgg P t = some g) (hn : tSize P t = some n)
  (h : aCells g n off cs K) : ∃ u, (part t vs off).run P w = .ok u w ∧ ∃ av, TRel w G u av ∧ K av := by
 cases g with
 | true =>
  obtain ⟨h1, h2⟩ := h
  refine ⟨.agg (vs.extract off (off + n)), by simp [part, run_agg hg, run_size hn], .agg ((cs.drop off).take n), ⟨_, rfl, ?_⟩, h2⟩
  have : (vs.extract off (off + n)).toList = (vs.toList.drop off).take n := by
   rw [Array.toList_extract, List.extract_eq_take_drop]; congr 1; omega
  rw [this]
  exact (hr.drop off).take n
 | false =>
  unfold aCells at h
  simp only [] at h
  cases hco : cs[off]? with
  | none => rw [hco] at h; exact h.elim
  | some c =>
   rw [hco] at h
   obtain ⟨v, h1, h2⟩ := hr.get hco
   refine ⟨v, ?_, c, TRel.of_v (VRel.of_a h2), h⟩
   have : vs[off]? = some v := by simpa using h1
   simp [part, run_agg hg, this]
theorem sound_fldV {s : TypeId} {i : Nat} {f : Field} {g : Bool} {n : Nat} {v : Value} {x : AV} {K : AV → Prop} (hx : TRel w G v x) (hf : tField P s i = some f) (hg : tAgg P f.type = some g)
  (hn : tSize P f.type = some n) (h : aFldV g n f.offset x K) : ∃ u, (Instr.field s v i).run P w = .ok u w ∧ ∃ av, TRel w G u av ∧ K av := by
 obtain ⟨fs, hu, hfs⟩ := und_field hf
 unfold aFldV at h
 split at h
 ·rename_i cs
  obtain ⟨vs, rfl, hr⟩ := hx
  obtain ⟨u, h1, h2⟩ := sound_part (P := P) hr hg hn h
  exact ⟨u, by simp [Instr.field, run_und hu, hfs, asAgg, h1], h2⟩
 ·exact h.elim

theorem sl_drel {v : Value} {es : List (List AV)} {tok : Tok} (h : TRel w G v (.sl es tok)) : DRel w G.L v (.sl es .none) := by
 cases tok with
 | none => exact h
 | full => exact h.1
 | own id => exact h.1

theorem sound_idxA {t e : TypeId} {size : Nat} {v u : Value} {x i : AV} {K : AV → Prop} (hx : TRel w G v x) (hi : TRel w G u i) (he : tElem P t = some e) (hn : tSize P e = some size)
  (h : aIdxA size x i K) : ∃ r, (Instr.indexAt t v u).run P w = .ok r w ∧ ∃ av, TRel w G r av ∧ K av := by
 have hu := und_elem he
 rw [aIdxA_def] at h
 split at h
 ·rename_i es tok k n
  obtain ⟨⟨h0, hlt⟩, hsz, hk⟩ := h
  cases hi
  have hd := sl_drel hx
  have hlt' : n.toNat < es.length := by omega
  obtain ⟨b, off, cap, rfl, hcap, ⟨esz, hall⟩, hel⟩ := hd.elem hlt'
  have hc := hel n.toNat hlt'
  have hes : es.getD n.toNat [] = es[n.toNat] := by simp [List.getD_eq_getElem?_getD, hlt']
  rw [hes] at hsz hk
  rw [hsz] at hc
  refine ⟨.pointer (some ⟨b, off + n.toNat * size, none⟩), ?_, .view es[n.toNat], ⟨b, _, rfl, hc⟩, hk⟩
  simp [Instr.indexAt, asIntOf, run_und hu, h0, hlt, run_size hn, add_lit]
 ·rename_i id off len cap k n
  obtain ⟨⟨h0, hlt⟩, hk⟩ := h
  cases hi
  obtain ⟨b, hμ, rfl⟩ := hx
  refine ⟨.pointer (some ⟨b, off + n.toNat * size, none⟩), ?_, .ptr id (off + n.toNat * size), ⟨b, hμ, rfl⟩, hk⟩
  simp [Instr.indexAt, asIntOf, run_und hu, h0, hlt, run_size hn, add_lit]
 ·rename_i id m k n
  obtain ⟨⟨h0, hlt⟩, hk⟩ := h
  cases hi
  obtain ⟨⟨a, cap, rfl, ha⟩, v', sz, m', hμ, hle, heq⟩ := hx
  obtain ⟨b, rfl⟩ := ha (by omega)
  refine ⟨.pointer (some ⟨b, 0 + n.toNat * size, none⟩), ?_, .vp id m (n.toNat * size), ⟨⟨b, _, rfl⟩, v', sz, m', hμ, hle, fun e => ?_⟩, hk⟩
  ·simp [Instr.indexAt, asIntOf, run_und hu, h0, hlt, run_size hn, add_lit]
  ·rw [← heq e]
   exact ⟨b, rfl, by simp⟩
 ·exact h.elim

theorem str_size (s : List UInt8) : (ByteArray.mk s.toArray).size = s.length := by simp [ByteArray.size]
theorem str_get (s : List UInt8) (i : Nat) (h : i < s.length) : (ByteArray.mk s.toArray)[i]? = some s[i] := by
 rw [getElem?_pos _ _ (by rw [str_size]; exact h)]
 rfl
theorem str_toList (s : List UInt8) : (ByteArray.mk s.toArray).toList = s := Go.ByteArray.toList_mk s

theorem sound_idxS {t : TypeId} {v u : Value} {x i : AV} {K : AV → Prop} (hx : TRel w G v x) (hi : TRel w G u i) (ht : tKind P t = some 0)
  (h : aIdxS x i K) : ∃ r, (Instr.index t v u).run P w = .ok r w ∧ ∃ av, TRel w G r av ∧ K av := by
 have hu := und_kind0 ht
 unfold aIdxS at h
 split at h
 ·rename_i s k n
  obtain ⟨⟨h0, hlt⟩, hk⟩ := h
  cases hi
  cases hx
  have hlt' : n.toNat < s.length := by omega
  have hes : s.getD n.toNat 0 = s[n.toNat] := by simp [List.getD_eq_getElem?_getD, hlt']
  rw [hes] at hk
  refine ⟨.int .u8 s[n.toNat].toNat, ?_, .int .u8 s[n.toNat].toNat, rfl, hk⟩
  simp [Instr.index, asIntOf, run_und hu, h0, str_get s _ hlt']
 ·exact h.elim

theorem sound_len {t : TypeId} {k : Nat} {v : Value} {x : AV} {ty : TypeId} {K : AV → Prop} (hx : TRel w G v x) (ht : tKind P t = some k)
  (h : aLen k x K) : ∃ r, (Builtin.len_ #[t] ty #[v]).run P w = .ok r w ∧ ∃ av, TRel w G r av ∧ K av := by
 rw [aLen_def] at h
 split at h
 ·rename_i s
  cases hx
  exact ⟨.int .i64 s.length, by simp [Builtin.len_, run_und (und_kind0 ht), goInt, str_size], .int .i64 s.length, rfl, h⟩
 ·rename_i es tok
  obtain ⟨e, hu⟩ := und_kind1 ht
  obtain ⟨a, cap, rfl, _⟩ := (sl_drel hx).slice_form
  exact ⟨.int .i64 es.length, by simp [Builtin.len_, run_und hu, goInt], .int .i64 es.length, rfl, h⟩
 ·obtain ⟨e, hu⟩ := und_kind1 ht
  cases hx
  exact ⟨.int .i64 0, by simp [Builtin.len_, run_und hu, goInt], .int .i64 0, rfl, h⟩
 ·rename_i len _
  obtain ⟨e, hu⟩ := und_kind1 ht
  obtain ⟨b, hμ, rfl⟩ := hx
  exact ⟨.int .i64 len, by simp [Builtin.len_, run_und hu, goInt], .int .i64 len, rfl, h⟩
 ·rename_i _ n
  obtain ⟨e, hu⟩ := und_kind1 ht
  obtain ⟨⟨a, cap, rfl, _⟩, _⟩ := hx
  exact ⟨.int .i64 n, by simp [Builtin.len_, run_und hu, goInt], .int .i64 n, rfl, h⟩
 ·exact h.elim

end Go.Abs
namespace Go.Abs
open Go Go.RowKit

variable {P : Program} {B : Nat} {w : World} {G : Gh} {H : Heap}

theorem run_bound {x : Option Value} {ax : Option AV} {d : Nat} {K : Nat → Prop} (hx : All2 (TRel w G) x.toList ax.toList) (h : aBound ax d K) :
  ∃ l, ((x = none ∧ l = d) ∨ ∃ k n, x = some (.int k n) ∧ 0 ≤ n ∧ l = n.toNat) ∧ K l := by
 cases ax with
 | none =>
  cases x with
  | none => exact ⟨d, .inl ⟨rfl, rfl⟩, h⟩
  | some v => simp [All2] at hx
 | some a =>
  cases x with
  | none => simp [All2] at hx
  | some v =>
   have hv : TRel w G v a := hx.1
   unfold aBound at h
   cases a <;> first | exact h.elim | skip
   rename_i k n
   cases hv
   exact ⟨n.toNat, .inr ⟨k, n, rfl, h.1, rfl⟩, h.2⟩

theorem DRel.sub {v : Value} {es : List (List AV)} {l h : Nat} (hd : DRel w G.L v (.sl es .none)) (hl : l ≤ h) (hh : h ≤ es.length) {a : Option Addr} {cap : Nat} (size : Nat)
  (hv : v = .slice a es.length cap) (hsz : ∀ c ∈ es, c.length = size) :
  DRel w G.L (.slice (if cap = l then a else a.map (·.add (l * size))) (h - l) (cap - l)) (.sl ((es.take h).drop l) .none) := by
 by_cases hlh : l = h
 ·subst hlh
  have : (es.take l).drop l = [] := by apply List.drop_eq_nil_of_le; simp; omega
  rw [this, Nat.sub_self]
  exact .slE _ _
 ·cases hd with
  | slE a' cap' => simp at hh; omega
  | sl b off cap' esz _ vs hne hcap hL hsz' hc hdd =>
   cases hv
   have hcl : cap ≠ l := by omega
   have h0 : 0 < es.length := by omega
   have hesz : esz = size := by rw [← hsz' 0 h0]; exact hsz _ (List.getElem_mem h0)
   subst hesz
   have hlen : ((es.take h).drop l).length = h - l := by simp; omega
   simp only [hcl, if_false, Option.map_some, add_lit]
   have hget : ∀ i (hi : i < ((es.take h).drop l).length), ((es.take h).drop l)[i] = es[l + i]'(by rw [hlen] at hi; omega) := by
    intro i hi; simp
   have key : DRel w G.L (.slice (some ⟨b, off + l * esz, none⟩) ((es.take h).drop l).length (cap - l)) (.sl ((es.take h).drop l) .none) := by
    refine .sl b (off + l * esz) (cap - l) esz _ (fun i j => vs (l + i) j) ?_ (by rw [hlen]; omega) ?_ ?_ ?_ ?_
    ·intro hnil; rw [hnil] at hlen; simp at hlen; omega
    ·rw [hlen]
     have h1 : l * esz + (h - l) * esz = h * esz := by rw [← Nat.add_mul]; congr 1; omega
     have h2 : h * esz ≤ es.length * esz := Nat.mul_le_mul_right _ hh
     omega
    ·intro i hi; rw [hget i hi]; exact hsz' _ _
    ·intro i j hi hj
     rw [hlen] at hi
     have := hc (l + i) j (by omega) (by rw [hget i (by rw [hlen]; exact hi)] at hj; exact hj)
     rw [show off + l * esz + i * esz + j = off + (l + i) * esz + j by rw [Nat.add_mul]; omega]
     exact this
    ·intro i j hi hj
     have hi' := hi
     rw [hlen] at hi'
     have := hdd (l + i) j (by omega) (by rw [hget i hi] at hj; exact hj)
     simpa [hget i hi] using this
   rw [hlen] at key
   exact key

theorem run_sliceBounds {isS : Bool} {len cap : Nat} {lo hi : Option Value} {l h : Nat} (hhi : (hi = none ∧ h = len) ∨ ∃ k n, hi = some (.int k n) ∧ 0 ≤ n ∧ h = n.toNat)
  (hlo : (lo = none ∧ l = 0) ∨ ∃ k n, lo = some (.int k n) ∧ 0 ≤ n ∧ l = n.toNat) (hl : l ≤ h) (hh : h ≤ cap) :
  (Instr.sliceBounds isS len cap lo hi none).run P w = .ok (l, h, cap) w := by
 rcases hhi with ⟨rfl, rfl⟩ | ⟨k, n, rfl, hn, rfl⟩ <;> rcases hlo with ⟨rfl, rfl⟩ | ⟨k', m, rfl, hm, rfl⟩
 ·simp [Instr.sliceBounds]
 ·have : m ≤ (h : Int) := by omega
  simp [Instr.sliceBounds, Instr.sliceBound, asIntOf, hm, this]
 ·have : n ≤ (cap : Int) := by omega
  simp [Instr.sliceBounds, Instr.sliceBound, asIntOf, hn, this]
 ·have h1 : n ≤ (cap : Int) := by omega
  have h2 : m ≤ ((n.toNat : Nat) : Int) := by omega
  simp [Instr.sliceBounds, Instr.sliceBound, asIntOf, hn, h1, hm]
  try omega

theorem str_extract (s : List UInt8) (l h : Nat) : (ByteArray.mk s.toArray).extract l h = ⟨((s.take h).drop l).toArray⟩ := by
 apply ByteArray.ext
 simp [ByteArray.data_extract, List.drop_take]

theorem sound_slice {t : TypeId} {u size : Nat} {v : Value} {x : AV} {lo hi : Option Value} {alo ahi : Option AV} {K : AV → Prop} (hx : TRel w G v x) (hlo : All2 (TRel w G) lo.toList alo.toList)
  (hhi : All2 (TRel w G) hi.toList ahi.toList) (ht : tKind P t = some u) (hs : u = 1 → (tElem P t).bind (tSize P) = some size)
  (h : aSlice u size x alo ahi K) : ∃ r, (Instr.sliceAt t v lo hi none).run P w = .ok r w ∧ ∃ av, TRel w G r av ∧ K av := by
 unfold aSlice at h
 split at h
 ·rename_i s
  have hu := und_kind0 ht
  cases hx
  obtain ⟨hh, hhv, h⟩ := run_bound hhi h
  obtain ⟨ll, hlv, ⟨h1, h2⟩, hk⟩ := run_bound hlo h
  refine ⟨.string ⟨((s.take hh).drop ll).toArray⟩, ?_, .str ((s.take hh).drop ll), rfl, hk⟩
  have hb := run_sliceBounds (P := P) (w := w) (isS := false) (len := s.length) (cap := s.length) hhv hlv h1 h2
  simp only [Instr.sliceAt, Instr.slice, Sem.run_bind, run_und hu, Result.andThen_ok, str_size, hb, Option.isSome_none, Bool.false_eq_true, if_false, Sem.run_pure, str_extract]
 ·rename_i es tok
  obtain ⟨hh, hhv, h⟩ := run_bound hhi h
  obtain ⟨ll, hlv, ⟨h1, h2, h3⟩, hk⟩ := run_bound hlo h
  have hs := hs rfl
  cases he : tElem P t with
  | none => simp [he] at hs
  | some e =>
   simp only [he, Option.bind_some] at hs
   have hd := sl_drel hx
   obtain ⟨a, cap, rfl, hcap⟩ := hd.slice_form
   have hcap' : hh ≤ cap := by
    by_cases hne : es = []
    ·subst hne; simp at h2; omega
    ·have := hcap hne; omega
   have hb := run_sliceBounds (P := P) (w := w) (isS := true) (len := es.length) (cap := cap) hhv hlv h1 hcap'
   have hsub := hd.sub h1 h2 size rfl h3
   refine ⟨_, ?_, .sl ((es.take hh).drop ll) .none, hsub, hk⟩
   simp only [Instr.sliceAt, Instr.slice, Sem.run_bind, run_und (und_elem he), Result.andThen_ok, hb, Sem.run_pure, run_size hs]
 ·obtain ⟨hh, hhv, h⟩ := run_bound hhi h
  obtain ⟨ll, hlv, ⟨h1, h2⟩, hk⟩ := run_bound hlo h
  have hs := hs rfl
  cases he : tElem P t with
  | none => simp [he] at hs
  | some e =>
   simp only [he, Option.bind_some] at hs
   cases hx
   have hb := run_sliceBounds (P := P) (w := w) (isS := true) (len := 0) (cap := 0) hhv hlv h1 h2
   refine ⟨.slice none 0 0, ?_, .snil, rfl, hk⟩
   have : ll = 0 := by omega
   subst this
   have : hh = 0 := by omega
   subst this
   simp [Instr.sliceAt, Instr.slice, Sem.run_bind, run_und (und_elem he), hb, run_size hs]
 ·rename_i id off len cap
  obtain ⟨hh, hhv, h⟩ := run_bound hhi h
  obtain ⟨ll, hlv, ⟨h1, h2⟩, hk⟩ := run_bound hlo h
  have hs := hs rfl
  cases he : tElem P t with
  | none => simp [he] at hs
  | some e =>
   simp only [he, Option.bind_some] at hs
   obtain ⟨b, hμ, rfl⟩ := hx
   have hb := run_sliceBounds (P := P) (w := w) (isS := true) (len := len) (cap := cap) hhv hlv h1 h2
   refine ⟨.slice (some ⟨b, if cap = ll then off else off + ll * size, none⟩) (hh - ll) (cap - ll), ?_, .ms id (if cap = ll then off else off + ll * size) (hh - ll) (cap - ll), ⟨b, hμ, rfl⟩, hk⟩
   simp only [Instr.sliceAt, Instr.slice, Sem.run_bind, run_und (und_elem he), Result.andThen_ok, hb, Sem.run_pure, run_size hs]
   by_cases hc : cap = ll <;> simp [hc, add_lit]
 ·exact h.elim

theorem run_eqGuard_int {op : BinOp} {t : TypeId} {x y : Operand} {k : IntKind} {m : Int} {b : Value} : (eqGuard op t x y (.int k m) b).run P w = .ok () w := by
 cases op <;> rfl
theorem run_eqGuard_str {op : BinOp} {t : TypeId} {x y : Operand} {s : ByteArray} {b : Value} : (eqGuard op t x y (.string s) b).run P w = .ok () w := by
 cases op <;> rfl
theorem run_eqGuard_bool {op : BinOp} {t : TypeId} {x y : Operand} {m : Bool} {b : Value} : (eqGuard op t x y (.bool m) b).run P w = .ok () w := by
 cases op <;> rfl

def BinR (P : Program) (w : World) (G : Gh) (op : BinOp) (t : TypeId) (u v : Value) (K : AV → Prop) : Prop := ∃ r, (binOp op t u v).run P w = .ok r w ∧ ∃ av, TRel w G r av ∧ K av
theorem BinR.mk {op : BinOp} {t : TypeId} {u v r : Value} {K : AV → Prop} (av : AV) (h : (binOp op t u v).run P w = .ok r w) (hr : TRel w G r av) (hk : K av) : BinR P w G op t u v K := ⟨r, h, av, hr, hk⟩
theorem bin_int {op : BinOp} {t : TypeId} {k : IntKind} {m n : Int} {b : Bool} {K : AV → Prop} (h : aBin op b (.int k m) (.int k n) K) : BinR P w G op t (.int k m) (.int k n) K := by
 rw [aBin_def] at h
 have h := h.2
 cases op <;> simp only [] at h <;> first | exact h.elim | skip
 case add => exact BinR.mk (.int k (k.wrap (m + n))) (by simp [binOp, Op.intArith]) rfl h
 case sub => exact BinR.mk (.int k (k.wrap (m - n))) (by simp [binOp, Op.intArith]) rfl h
 case mul => exact BinR.mk (.int k (k.wrap (m * n))) (by simp [binOp, Op.intArith]) rfl h
 case quo => exact BinR.mk (.int k (k.wrap (m.tdiv n))) (by simp [binOp, Op.intDiv, h.1]) rfl h.2
 case rem => exact BinR.mk (.int k (m.tmod n)) (by simp [binOp, Op.intDiv, h.1]) rfl h.2
 case eql => exact BinR.mk (.bool (m == n)) (by simp [binOp, Op.intCmp]) rfl h
 case neq => exact BinR.mk (.bool (m != n)) (by simp [binOp, Op.intCmp]) rfl h
 case lss => exact BinR.mk (.bool (decide (m < n))) (by simp [binOp, Op.intCmp]) rfl h
 case leq => exact BinR.mk (.bool (decide (m ≤ n))) (by simp [binOp, Op.intCmp]) rfl h
 case gtr => exact BinR.mk (.bool (decide (m > n))) (by simp [binOp, Op.intCmp]) rfl h
 case geq => exact BinR.mk (.bool (decide (m ≥ n))) (by simp [binOp, Op.intCmp]) rfl h
theorem bin_str {op : BinOp} {t : TypeId} {s s' : List UInt8} {b : Bool} {K : AV → Prop} (h : aBin op b (.str s) (.str s') K) : BinR P w G op t (.string ⟨s.toArray⟩) (.string ⟨s'.toArray⟩) K := by
 rw [aBin_def] at h
 cases op <;> simp only [] at h <;> first | exact h.elim | skip
 case add =>
  obtain ⟨h1, h2⟩ := h
  refine BinR.mk (r := .string ⟨(s ++ s').toArray⟩) (.str (s ++ s')) ?_ rfl h2
  have hlt : ¬ ((((ByteArray.mk s.toArray).size + (ByteArray.mk s'.toArray).size : Nat) : Int) > IntKind.i64.max) := by
   have : IntKind.i64.max = 9223372036854775807 := by decide
   rw [str_size, str_size]
   omega
  have happ : (ByteArray.mk s.toArray) ++ (ByteArray.mk s'.toArray) = ⟨(s ++ s').toArray⟩ := by
   apply ByteArray.ext
   simp
  simp only [binOp, Op.stringOp]
  rw [if_neg hlt, happ]
  rfl
 case eql => exact BinR.mk (r := .bool (s == s')) (.bool (s == s')) (by simp only [binOp, Op.stringOp, str_toList]; rfl) rfl h
 case neq => exact BinR.mk (r := .bool (!(s == s'))) (.bool (!(s == s'))) (by simp only [binOp, Op.stringOp, str_toList]; rfl) rfl h
 case lss => exact BinR.mk (r := .bool (Op.bytesLess s s')) (.bool (Op.bytesLess s s')) (by simp only [binOp, Op.stringOp, str_toList]; rfl) rfl h
 case leq => exact BinR.mk (r := .bool (Op.bytesLess s s' || s == s')) (.bool (Op.bytesLess s s' || s == s')) (by simp only [binOp, Op.stringOp, str_toList]; rfl) rfl h
 case gtr => exact BinR.mk (r := .bool (!(Op.bytesLess s s' || s == s'))) (.bool (!(Op.bytesLess s s' || s == s'))) (by simp only [binOp, Op.stringOp, str_toList]; rfl) rfl h
 case geq => exact BinR.mk (r := .bool (!Op.bytesLess s s')) (.bool (!Op.bytesLess s s')) (by simp only [binOp, Op.stringOp, str_toList]; rfl) rfl h
theorem bin_bool {op : BinOp} {t : TypeId} {m n b : Bool} {K : AV → Prop} (hu : b = true → P.underlying t = some .bool) (h : aBin op b (.bool m) (.bool n) K) : BinR P w G op t (.bool m) (.bool n) K := by
 rw [aBin_def] at h
 have hu := hu h.1
 have h := h.2
 have he : ∀ x y : Bool, (Op.equal t (.bool x) (.bool y)).run P w = .ok (x == y) w := fun x y => by
  have hm : Op.equal t (.bool x) (.bool y) = Op.equalIn (9999 + 1) t (.bool x) (.bool y) := rfl
  rw [hm]
  unfold Op.equalIn
  simp only [Sem.run_bind, run_und hu, Result.andThen_ok, Sem.run_pure]
 cases op <;> simp only [] at h <;> first | exact h.elim | skip
 case eql => exact BinR.mk (.bool (m == n)) (by simp only [binOp, Sem.run_bind, he, Result.andThen_ok, Sem.run_pure]) rfl h
 case neq => exact BinR.mk (.bool (!(m == n))) (by simp only [binOp, Sem.run_bind, he, Result.andThen_ok, Sem.run_pure]) rfl h

theorem sound_bin {op : BinOp} {t : TypeId} {xo yo : Operand} {u v : Value} {x y : AV} {K : AV → Prop} (hx : TRel w G u x) (hy : TRel w G v y) (h : aBin op (tBool P t) x y K) :
  ∃ r, ((do eqGuard op t xo yo u v; binOp op t u v) : Sem Value).run P w = .ok r w ∧ ∃ av, TRel w G r av ∧ K av := by
 have h0 := h
 rw [aBin_def] at h
 split at h
 ·cases hx
  cases hy
  have hk := h.1
  subst hk
  obtain ⟨r, h1, h2⟩ := bin_int (P := P) (w := w) (G := G) (t := t) h0
  exact ⟨r, by rw [Sem.run_bind, run_eqGuard_int]; exact h1, h2⟩
 ·cases hx
  cases hy
  obtain ⟨r, h1, h2⟩ := bin_str (P := P) (w := w) (G := G) (t := t) h0
  exact ⟨r, by rw [Sem.run_bind, run_eqGuard_str]; exact h1, h2⟩
 ·cases hx
  cases hy
  obtain ⟨r, h1, h2⟩ := bin_bool (P := P) (w := w) (G := G) (t := t) (fun hb => by
   unfold tBool at hb
   split at hb
   ·assumption
   ·cases hb) h0
  exact ⟨r, by rw [Sem.run_bind, run_eqGuard_bool]; exact h1, h2⟩
 ·exact h.elim

theorem sound_nilCmp {op : BinOp} {t : TypeId} {xo yo : Operand} {u : Value} {x : AV} {a : Act} {K : AV → Prop} (hx : TRel w G u x) (hy : isNilI yo = true) (h : aNilCmp (tIface P t) op x K) :
  ∃ r, ((do eqGuard op t xo yo u (a.eval yo); binOp op t u (a.eval yo)) : Sem Value).run P w = .ok r w ∧ ∃ av, TRel w G r av ∧ K av := by
 obtain ⟨ht, h⟩ := h
 obtain ⟨ms, hu⟩ : ∃ ms, P.underlying t = some (.interface ms) := by
  unfold tIface at ht
  split at ht
  ·exact ⟨_, by assumption⟩
  ·cases ht
 obtain rfl : yo = .const .nilIface := by
  unfold isNilI at hy
  split at hy
  ·rfl
  ·cases hy
 have he : a.eval (.const .nilIface) = .nilIface := rfl
 rw [he]
 split at h
 ·cases hx
  have hq : ∀ d : Nat, (Op.equalIn (d + 1) t .nilIface .nilIface).run P w = .ok true w := fun d => by simp [Op.equalIn, run_und hu]
  have hg : ∀ op, eqGuard op t xo (.const .nilIface) .nilIface .nilIface = pure () := fun op => eqGuard_nil_constR _ _ _ _
  split at h
  ·exact ⟨.bool true, by rw [hg]; simp only [binOp]; simp [Op.equal, Op.maxDepth, hq 9999], .bool true, rfl, h⟩
  ·exact ⟨.bool false, by rw [hg]; simp only [binOp]; simp [Op.equal, Op.maxDepth, hq 9999], .bool false, rfl, h⟩
  ·exact h.elim
 ·obtain ⟨ti, xi, rfl⟩ := hx
  have hq : ∀ d : Nat, (Op.equalIn (d + 1) t (.iface ti xi) .nilIface).run P w = .ok false w := fun d => by simp [Op.equalIn, run_und hu]
  have hg : ∀ op, eqGuard op t xo (.const .nilIface) (.iface ti xi) .nilIface = pure () := fun op => eqGuard_at_iface _ _ _ _ _ _ _
  split at h
  ·exact ⟨.bool false, by rw [hg]; simp only [binOp]; simp [Op.equal, Op.maxDepth, hq 9999], .bool false, rfl, h⟩
  ·exact ⟨.bool true, by rw [hg]; simp only [binOp]; simp [Op.equal, Op.maxDepth, hq 9999], .bool true, rfl, h⟩
  ·exact h.elim
 ·exact h.elim

theorem sound_un {op : UnOp} {v : Value} {x : AV} {K : AV → Prop} (hx : TRel w G v x) (h : aUn op x K) : ∃ r, (Op.unary op v).run P w = .ok r w ∧ ∃ av, TRel w G r av ∧ K av := by
 unfold aUn at h
 split at h
 ·cases hx; exact ⟨_, by simp [Op.unary], .bool _, rfl, h⟩
 ·cases hx; exact ⟨_, by simp [Op.unary, Op.intArith], .int _ _, rfl, h⟩
 ·exact h.elim
theorem sound_conv {s t : TypeId} {j k : IntKind} {v : Value} {x : AV} {K : AV → Prop} (hx : TRel w G v x) (hs : P.underlying s = some (.int j)) (ht : P.underlying t = some (.int k)) (h : aConv k x K) :
  ∃ r, (convert s t v).run P w = .ok r w ∧ ∃ av, TRel w G r av ∧ K av := by
 unfold aConv at h
 split at h
 ·cases hx; exact ⟨_, by simp [convert, run_und hs, run_und ht, Conv.intToInt], .int _ _, rfl, h⟩
 ·exact h.elim
theorem sound_convS {s t : TypeId} {v : Value} {x : AV} {K : AV → Prop} (hx : TRel w G v x) (hs : P.underlying s = some .string) (ht : P.underlying t = some .string) (h : aConvS x K) :
  ∃ r, (convert s t v).run P w = .ok r w ∧ ∃ av, TRel w G r av ∧ K av := by
 unfold aConvS at h
 split at h
 ·cases hx; exact ⟨_, by simp [convert, run_und hs, run_und ht], .str _, rfl, h⟩
 ·exact h.elim
theorem sound_ext {v : Value} {x : AV} {i : Nat} {K : AV → Prop} (hx : TRel w G v x) (h : aExt x i K) : ∃ r, (Instr.extract v i).run P w = .ok r w ∧ ∃ av, TRel w G r av ∧ K av := by
 unfold aExt at h
 split at h
 ·obtain ⟨vs, rfl, hr⟩ := hx
  split at h
  ·rename_i a ha
   obtain ⟨u, h1, h2⟩ := hr.get ha
   have : vs[i]? = some u := by simpa using h1
   exact ⟨u, by simp [Instr.extract, this], a, TRel.of_v h2, h⟩
  ·exact h.elim
 ·exact h.elim

end Go.Abs
namespace Go.Abs
open Go Go.RowKit

variable {P : Program} {B : Nat} {w : World} {G : Gh} {H : Heap}

theorem splice_set (l : List Value) (k : Nat) (v : Value) (rest : List Value) (hk : k + (rest.length + 1) ≤ l.length) :
  (l.set k v).take (k + 1) ++ rest ++ (l.set k v).drop (k + 1 + rest.length) = l.take k ++ (v :: rest) ++ l.drop (k + (rest.length + 1)) := list_seg_step l k v rest hk

theorem foldl_splice (off : Nat) : ∀ (vs : List Value) (k : Nat) (cs : Array Value), off + k + vs.length ≤ cs.size →
  ((vs.zipIdx k).foldl (fun (cs : Array Value) (p : Value × Nat) => cs.setIfInBounds (off + p.2) p.1) cs).toList = cs.toList.take (off + k) ++ vs ++ cs.toList.drop (off + k + vs.length)
 | [], k, cs, h => by simp
 | v :: vs, k, cs, h => by
  simp only [List.zipIdx_cons, List.foldl_cons]
  rw [foldl_splice off vs (k + 1) (cs.setIfInBounds (off + k) v) (by simp at h ⊢; omega)]
  have := splice_set cs.toList (off + k) v vs (by simp at h ⊢; omega)
  simpa [Array.toList_setIfInBounds, Nat.add_assoc] using this

theorem arr_splice (off : Nat) (vs cs : Array Value) (h : off + vs.size ≤ cs.size) :
  (vs.zipIdx.foldl (fun cs (c, j) => cs.setIfInBounds (off + j) c) cs).toList = cs.toList.take off ++ vs.toList ++ cs.toList.drop (off + vs.size) := by
 have := foldl_splice off vs.toList 0 cs (by simpa using h)
 simp only [Nat.add_zero, Array.length_toList] at this
 rw [← this, ← Array.foldl_toList, Array.toList_zipIdx]

theorem fill_rel {places : List (Nat × Nat)} : ∀ (parts : List (Nat × Value)) (aparts : List (Nat × AV)) (cells : Array Value) (cs cs' : List AV),
  All2 (fun (p : Nat × Value) (q : Nat × AV) => p.1 = q.1 ∧ TRel w G p.2 q.2) parts aparts → All2 (ARel w G) cells.toList cs → fillA places aparts cs = some cs' →
  ∃ cells', Instr.fill (places.toArray[·]?) cells parts = some cells' ∧ All2 (ARel w G) cells'.toList cs'
 | [], [], cells, cs, cs', _, hc, hf => by
  simp [fillA] at hf
  subst hf
  exact ⟨cells, rfl, hc⟩
 | (i, v) :: parts, (i', x) :: aparts, cells, cs, cs', hp, hc, hf => by
  obtain ⟨⟨h1, h2⟩, h3⟩ := hp
  simp only [] at h1 h2
  subst h1
  unfold fillA at hf
  split at hf
  ·rename_i off size xs hpl hxs
   split at hf
   ·rename_i hb
    simp only [Bool.and_eq_true, beq_iff_eq, decide_eq_true_eq] at hb
    have hxr := cs_rel h2 hxs
    have hlx := hxr.length
    have hlc := hc.length
    simp at hlx hlc
    have hfit : off + v.cells.size ≤ cells.size := by omega
    have hsp := arr_splice off v.cells cells hfit
    have hnew : All2 (ARel w G) (v.cells.zipIdx.foldl (fun cs (c, j) => cs.setIfInBounds (off + j) c) cells).toList (cs.take off ++ xs ++ cs.drop (off + size)) := by
     rw [hsp, hlx, hb.1]
     exact ((hc.take off).append hxr).append (hc.drop (off + size))
    obtain ⟨cells', hc1, hc2⟩ := fill_rel parts aparts _ _ cs' h3 hnew hf
    refine ⟨cells', ?_, hc2⟩
    unfold Instr.fill
    have hpl' : places.toArray[i]? = some (off, size) := by simpa using hpl
    simp only [hpl']
    rw [if_neg (by simp; omega)]
    exact hc1
   ·cases hf
  ·cases hf

theorem places_eq (fs : List Field) : (fs.mapM fun f => (tSize P f.type).map fun s => (f.offset, s)) = fs.mapM (fun f => (P.info? f.type).map fun i => (f.offset, i.size)) := by
 congr 1
 funext f
 simp [tSize, Function.comp_def]

theorem sound_build {t : TypeId} {z : Value} {ps : List (Nat × Nat)} {parts : Array (Nat × Value)} {aparts : List (Nat × AV)} {K : AV → Prop} (hz : tZero P t = some z) (hp : tPlaces P t = some ps)
  (hr : All2 (fun (p : Nat × Value) (q : Nat × AV) => p.1 = q.1 ∧ TRel w G p.2 q.2) parts.toList aparts) (h : aBuild (constCells z) ps aparts K) :
  ∃ r, (Instr.build t parts).run P w = .ok r w ∧ ∃ av, TRel w G r av ∧ K av := by
 unfold aBuild at h
 split at h
 ·rename_i cs' hf
  obtain ⟨cells', h1, h2⟩ := fill_rel parts.toList aparts z.cells (constCells z) cs' hr (rel_cells z) hf
  refine ⟨.agg cells', run_build w t parts cells' ?_, .agg cs', ⟨cells', rfl, h2⟩, h⟩
  unfold Program.built
  unfold tZero at hz
  cases hi : P.info? t with
  | none => simp [hi] at hz
  | some it =>
   simp [hi] at hz
   unfold tPlaces at hp
   cases hu : P.underlying t with
   | none => simp [hu] at hp
   | some d =>
    cases d <;> simp only [hu, Option.bind_some] at hp <;> try (cases hp; done)
    rw [places_eq] at hp
    simp only [hz, hp]
    exact h1
 ·exact h.elim

theorem pd_rel {v : Value} {a d : AV} (h : ARel w G v a) (hd : a.pd = some d) : DRel w G.L v d := by
 cases a with
 | bool b => cases hd; cases h; exact .bool b
 | int k n => cases hd; cases h; exact .int k n
 | str s => cases hd; cases h; exact .str s
 | snil => cases hd; cases h; exact .slE _ _
 | sl es tok =>
  cases hd
  cases tok with
  | none => exact h
  | full => exact h.1
  | own id => exact h.1
 | _ => cases hd
theorem plain_rel : ∀ {vs : List Value} {as ds : List AV}, All2 (ARel w G) vs as → plain as = some ds → All2 (DRel w G.L) vs ds
 | [], [], ds, _, h => by cases h; trivial
 | v :: vs, a :: as, ds, hr, h => by
  unfold plain at h
  split at h
  ·rename_i d ds' h1 h2
   cases h
   exact ⟨pd_rel hr.1 h1, plain_rel hr.2 h2⟩
  ·cases h
theorem plain_len : ∀ {as ds : List AV}, plain as = some ds → ds.length = as.length
 | [], ds, h => by cases h; rfl
 | a :: as, ds, h => by
  unfold plain at h
  split at h
  ·rename_i d ds' h1 h2
   cases h
   simp [plain_len h2]
  ·cases h

theorem flat_len {size : Nat} : ∀ {es : List (List AV)}, (∀ c ∈ es, c.length = size) → es.flatten.length = es.length * size
 | [], _ => by simp
 | e :: es, h => by
  rw [List.flatten_cons, List.length_append, flat_len (fun c hc => h c (by simp [hc])), h e (by simp), List.length_cons, Nat.add_mul]
  omega
theorem flat_get {size : Nat} : ∀ {es : List (List AV)}, (∀ c ∈ es, c.length = size) → ∀ (i j : Nat) (hi : i < es.length) (hj : j < (es[i]).length), es.flatten[i * size + j]? = some (es[i])[j]
 | [], _, i, _, hi, _ => by simp at hi
 | e :: es, h, 0, j, hi, hj => by
  simp only [List.getElem_cons_zero] at hj ⊢
  rw [List.flatten_cons, List.getElem?_append_left (by omega)]
  simp [hj]
 | e :: es, h, i + 1, j, hi, hj => by
  simp only [List.getElem_cons_succ] at hj ⊢
  have he := h e (by simp)
  have := flat_get (es := es) (fun c hc => h c (by simp [hc])) i j (by simpa using hi) hj
  rw [List.flatten_cons, List.getElem?_append_right (by rw [he, Nat.add_mul]; omega), he]
  rw [show (i + 1) * size + j - size = i * size + j by rw [Nat.add_mul]; omega]
  exact this

theorem DRel.of_flat {L : Nat → Nat} {g size cap : Nat} {es : List (List AV)} {zs : List Value} (hsz : ∀ c ∈ es, c.length = size) (hne : es ≠ []) (hcap : es.length ≤ cap) (hL : es.length * size ≤ L g)
  (hr : All2 (DRel w L) zs es.flatten) (hc : ∀ j v, zs[j]? = some v → w.cell? ⟨g, j, none⟩ = some v) : DRel w L (.slice (some ⟨g, 0, none⟩) es.length cap) (.sl es .none) := by
 have hget : ∀ i j (hi : i < es.length) (hj : j < (es[i]).length), ∃ v, zs[i * size + j]? = some v ∧ DRel w L v (es[i])[j] := fun i j hi hj => hr.get (flat_get hsz i j hi hj)
 refine .sl g 0 cap size es (fun i j => zs.getD (i * size + j) undef) hne hcap (by omega) (fun i hi => hsz _ (List.getElem_mem hi)) (fun i j hi hj => ?_) (fun i j hi hj => ?_)
 ·obtain ⟨v, h1, h2⟩ := hget i j hi hj
  simp only [Nat.zero_add, List.getD_eq_getElem?_getD, h1, Option.getD_some]
  exact hc _ _ h1
 ·obtain ⟨v, h1, h2⟩ := hget i j hi hj
  simp only [List.getD_eq_getElem?_getD, h1, Option.getD_some]
  exact h2
theorem DRel.flat {L : Nat → Nat} {v : Value} {es : List (List AV)} {size : Nat} (h : DRel w L v (.sl es .none)) (hne : es ≠ []) (hsz : ∀ c ∈ es, c.length = size) :
  ∃ b off cap zs, v = .slice (some ⟨b, off, none⟩) es.length cap ∧ zs.length = es.length * size ∧ All2 (DRel w L) zs es.flatten ∧ (∀ j u, zs[j]? = some u → w.cell? ⟨b, off + j, none⟩ = some u) ∧ off + es.length * size ≤ L b := by
 cases h with
 | slE a cap => exact absurd rfl hne
 | sl b off cap esz _ vs hne hcap hL hsz' hc hd =>
  have h0 : 0 < es.length := by cases es <;> simp_all
  have hesz : esz = size := by rw [← hsz' 0 h0]; exact hsz _ (List.getElem_mem h0)
  subst hesz
  have hfl := flat_len hsz
  -- position k of the row lies in element k / esz
  have hpos : ∀ k, k < es.length * esz → ∃ i j, ∃ (hi : i < es.length) (_ : j < (es[i]).length), k = i * esz + j := by
   intro k hk
   have hz : 0 < esz := by cases esz <;> simp_all
   refine ⟨k / esz, k % esz, ?_, ?_, ?_⟩
   ·exact (Nat.div_lt_iff_lt_mul hz).2 hk
   ·rw [hsz' _ _]; exact Nat.mod_lt _ hz
   ·rw [Nat.mul_comm]; exact (Nat.div_add_mod k esz).symm
  refine ⟨b, off, cap, (List.range (es.length * esz)).map (fun k => vs (k / esz) (k % esz)), rfl, by simp, ?_, ?_, hL⟩
  ·refine All2.of_get (by simp [hfl]) fun k x y hx hy => ?_
   have hk : k < es.length * esz := by
    have := (List.getElem?_eq_some_iff.1 hx).1
    simpa using this
   obtain ⟨i, j, hi, hj, rfl⟩ := hpos k hk
   have hj' : j < esz := by rw [← hsz' i hi]; exact hj
   rw [flat_get hsz i j hi hj] at hy
   cases hy
   simp only [List.getElem?_map, List.getElem?_range hk, Option.map_some, Option.some.injEq] at hx
   have hz : 0 < esz := by omega
   rw [show (i * esz + j) / esz = i by rw [Nat.mul_comm, Nat.mul_add_div hz, Nat.div_eq_of_lt hj']; omega, show (i * esz + j) % esz = j by rw [Nat.mul_comm, Nat.mul_add_mod, Nat.mod_eq_of_lt hj']] at hx
   rw [← hx]
   exact hd i j hi hj
  ·intro k u hx
   have hk : k < es.length * esz := by
    have := (List.getElem?_eq_some_iff.1 hx).1
    simpa using this
   obtain ⟨i, j, hi, hj, rfl⟩ := hpos k hk
   have hj' : j < esz := by rw [← hsz' i hi]; exact hj
   simp only [List.getElem?_map, List.getElem?_range hk, Option.map_some, Option.some.injEq] at hx
   have hz : 0 < esz := by omega
   rw [show (i * esz + j) / esz = i by rw [Nat.mul_comm, Nat.mul_add_div hz, Nat.div_eq_of_lt hj']; omega, show (i * esz + j) % esz = j by rw [Nat.mul_comm, Nat.mul_add_mod, Nat.mod_eq_of_lt hj']] at hx
   rw [← hx, ← Nat.add_assoc]
   exact hc i j hi hj

end Go.Abs
namespace Go.Abs
open Go Go.RowKit

variable {P : Program} {B : Nat} {w : World} {G : Gh} {H : Heap}

theorem made_rel {R : Value → AV → Prop} {z : Array Value} {zc : List AV} (h : All2 R z.toList zc) (hz : 0 < z.size) : ∀ n, All2 R ((Array.range (n * z.size)).map (z[· % z.size]!)).toList (List.replicate n zc).flatten := by
 intro n
 have hl := h.length
 simp at hl
 have hall : ∀ c ∈ List.replicate n zc, c.length = z.size := fun c hc => by rw [List.eq_of_mem_replicate hc, hl]
 have hfl := flat_len hall
 refine All2.of_get (by simp [hl]) fun k x y hx hy => ?_
 have hk : k < n * z.size := by
  have := (List.getElem?_eq_some_iff.1 hx).1
  simpa using this
 have hi : k / z.size < (List.replicate n zc).length := by simpa using (Nat.div_lt_iff_lt_mul hz).2 hk
 have hj : k % z.size < ((List.replicate n zc)[k / z.size]).length := by simp [← hl]; exact Nat.mod_lt _ hz
 have := flat_get hall (k / z.size) (k % z.size) hi hj
 rw [show k / z.size * z.size + k % z.size = k by rw [Nat.mul_comm]; exact Nat.div_add_mod k z.size, hy] at this
 simp only [List.getElem_replicate, Option.some.injEq] at this
 have hx' : z[k % z.size]! = x := by simpa [hk] using hx
 have hm : k % z.size < z.size := Nat.mod_lt _ hz
 have hzx : z.toList[k % z.size]? = some x := by
  rw [← hx']
  simp [hm]
 obtain ⟨b, h1, h2⟩ := h.get' hzx
 have : zc[k % z.size]? = some y := by rw [this]; simp
 rw [this] at h1
 cases h1
 exact h2

theorem flat_set {size : Nat} : ∀ {es : List (List AV)}, (∀ c ∈ es, c.length = size) → ∀ (i : Nat) (ds : List AV), i < es.length → (es.set i ds).flatten = es.flatten.take (i * size) ++ ds ++ es.flatten.drop (i * size + size)
 | [], _, i, _, hi => by simp at hi
 | e :: es, h, 0, ds, hi => by
  have he := h e (by simp)
  simp [← he]
 | e :: es, h, i + 1, ds, hi => by
  have he := h e (by simp)
  have := flat_set (es := es) (fun c hc => h c (by simp [hc])) i ds (by simpa using hi)
  rw [List.set_cons_succ, List.flatten_cons, this, List.flatten_cons]
  have h1 : (i + 1) * size = e.length + i * size := by rw [Nat.add_mul, he]; omega
  rw [h1, Nat.add_assoc]
  simp [List.take_append, List.drop_append, List.take_of_length_le, List.drop_eq_nil_of_le]

theorem fillS_rel {size : Nat} : ∀ (parts : List (Nat × Value)) (aparts : List (Nat × AV)) (cells : Array Value) (es es' : List (List AV)), (∀ c ∈ es, c.length = size) →
  All2 (fun (p : Nat × Value) (q : Nat × AV) => p.1 = q.1 ∧ TRel w G p.2 q.2) parts aparts → All2 (DRel w G.L) cells.toList es.flatten → fillS size aparts es = some es' →
  ∃ cells', Instr.fill (fun i => some (i * size, size)) cells parts = some cells' ∧ All2 (DRel w G.L) cells'.toList es'.flatten ∧ (∀ c ∈ es', c.length = size) ∧ es'.length = es.length
 | [], [], cells, es, es', hs, _, hc, hf => by
  simp [fillS] at hf
  subst hf
  exact ⟨cells, rfl, hc, hs, rfl⟩
 | (i, v) :: parts, (i', x) :: aparts, cells, es, es', hs, hp, hc, hf => by
  obtain ⟨⟨h1, h2⟩, h3⟩ := hp
  simp only [] at h1 h2
  subst h1
  unfold fillS at hf
  split at hf
  ·rename_i xs hxs
   split at hf
   ·rename_i ds hds
    split at hf
    ·rename_i hb
     simp only [Bool.and_eq_true, beq_iff_eq, decide_eq_true_eq] at hb
     have hxr := plain_rel (cs_rel h2 hxs) hds
     have hlx := hxr.length
     have hlc := hc.length
     have hfl := flat_len hs
     simp at hlx
     simp only [Array.length_toList] at hlc
     have hmul : (i + 1) * size ≤ es.length * size := Nat.mul_le_mul_right _ hb.2
     rw [Nat.add_mul] at hmul
     have hfit : i * size + v.cells.size ≤ cells.size := by omega
     have hsp := arr_splice (i * size) v.cells cells hfit
     have hnew : All2 (DRel w G.L) (v.cells.zipIdx.foldl (fun cs (c, j) => cs.setIfInBounds (i * size + j) c) cells).toList (es.set i ds).flatten := by
      rw [hsp, flat_set hs i ds hb.2, hlx, hb.1]
      exact ((hc.take _).append hxr).append (hc.drop _)
     have hs' : ∀ c ∈ es.set i ds, c.length = size := fun c hcm => by
      rcases List.mem_or_eq_of_mem_set hcm with h | h
      ·exact hs c h
      ·rw [h]; exact hb.1
     obtain ⟨cells', hc1, hc2, hc3, hc4⟩ := fillS_rel parts aparts _ _ es' hs' h3 hnew hf
     refine ⟨cells', ?_, hc2, hc3, by rw [hc4]; simp⟩
     unfold Instr.fill
     simp only []
     rw [if_neg (by simp; omega)]
     exact hc1
    ·cases hf
   ·cases hf
  ·cases hf

theorem sound_buildS {t e : TypeId} {size len : Nat} {z : Value} {parts : Array (Nat × Value)} {aparts : List (Nat × AV)} {K : AV → Heap → Prop} (hH : HRel B w G H) (he : tElem P t = some e) (hn : tSize P e = some size)
  (hz : tZero P e = some z) (h0 : 0 < size) (hlen : len * size ≤ 16777216) (hzl : (constCells z).length = size)
  (hr : All2 (fun (p : Nat × Value) (q : Nat × AV) => p.1 = q.1 ∧ TRel w G p.2 q.2) parts.toList aparts) (h : aBuildS size (constCells z) len aparts (K · H)) :
  OpOK P B w G K (((do pure (.value (← Instr.buildSlice t len parts))) : Sem Next).run P w) := by
 unfold aBuildS at h
 split at h
 ·rename_i zc hzc
  split at h
  ·rename_i es hes
   have hzr := rel_cells (w := w) (G := G) z
   have hzs : z.cells.size = size := by have := hzr.length; simp at this; omega
   have hzd := plain_rel hzr hzc
   have hm := made_rel hzd (by omega) len
   rw [hzs] at hm
   have hzcl : zc.length = size := by rw [plain_len hzc]; exact hzl
   have hall : ∀ c ∈ List.replicate len zc, c.length = size := fun c hc => by rw [List.eq_of_mem_replicate hc, hzcl]
   obtain ⟨cells', h1, h2, h3, h4⟩ := fillS_rel parts.toList aparts _ _ es hall hr hm hes
   simp at h4
   have hsz' : cells'.size = len * size := by
    have := h2.length
    rw [flat_len h3, h4] at this
    simpa using this
   obtain ⟨hx, hH'⟩ := hH.frozen cells' e (len * size)
   have hrun : ((do pure (.value (← Instr.buildSlice t len parts))) : Sem Next).run P w = .ok (.value (.slice (some ⟨w.heap.size, 0, none⟩) len len)) (w.alloc (.cells cells' e)) := by
    have hbig : ¬ (2 ^ 24 < len * size) := by omega
    by_cases hl0 : len * size = 0
    ·have hl : len = 0 := by rcases Nat.mul_eq_zero.1 hl0 with h | h <;> omega
     subst hl
     simp only [Nat.zero_mul, Array.range_zero', Array.map_empty] at h1
     simp [Instr.buildSlice, run_und (und_elem he), run_size hn, h1, newRow, World.alloc_eq, Array.range_zero']
    ·simp [Instr.buildSlice, run_und (und_elem he), run_size hn, run_zero hz, hbig, hl0, hzs, h1, newRow, World.alloc_eq]
   rw [hrun]
   refine ⟨.sl es .full, _, H, hx, hH', ⟨?_, some ⟨w.heap.size, 0, none⟩, by rw [h4]⟩, h⟩
   by_cases hne : es = []
   ·subst hne
    simp at h4
    subst h4
    exact .slE _ _
   ·have := DRel.of_flat (w := w.alloc (.cells cells' e)) (L := fun b => if b = w.heap.size then len * size else G.L b) (g := w.heap.size) (cap := len) (zs := cells'.toList) h3 hne (by omega) (by simp [h4]) (h2.mono fun _ _ => hx.drel)
     (fun j v hj => by rw [World.cell?_alloc_new]; simpa using hj)
    rw [h4] at this
    exact this
  ·exact h.elim
 ·exact h.elim

theorem sound_make {t e : TypeId} {size bytes : Nat} {z : Value} {vl vc : Value} {l c : AV} {K : AV → Heap → Prop} (hH : HRel B w G H) (he : tElem P t = some e) (hn : tSize P e = some size) (hby : tBytes P e = some bytes)
  (hz : tZero P e = some z) (h0 : 0 < size) (hzl : (constCells z).length = size) (hl : TRel w G vl l) (hc : TRel w G vc c) (h : aMake bytes (constCells z) l c H K) :
  OpOK P B w G K (((do pure (.value (← Instr.makeSlice t vl vc))) : Sem Next).run P w) := by
 unfold aMake at h
 split at h
 ·rename_i l c
  cases hl
  cases hc
  obtain ⟨⟨h1, h2, h3, h4⟩, hk⟩ := h
  have hzr := rel_cells (w := w) (G := G) z
  have hzs : z.cells.size = size := by have := hzr.length; simp at this; omega
  unfold tSize at hn
  unfold tZero at hz
  unfold tBytes at hby
  cases hi : P.info? e with
  | none => simp [hi] at hn
  | some i =>
   simp [hi] at hn hz hby
   have hr := run_make (P := P) w t e i z (und_elem he) hi hz .i64 .i64 l c h1 h2 (by rw [hby, Int.mul_comm]; omega) h4
   have hm := made_rel hzr (by omega) c.toNat
   rw [hzs] at hm
   rw [hn] at hr
   obtain ⟨hx, hH'⟩ := hH.new (madeCells z.cells (c.toNat * size)) e _ (by simpa [madeCells, hzs] using hm)
   have hrun : ((do pure (.value (← Instr.makeSlice t (.int .i64 l) (.int .i64 c)))) : Sem Next).run P w = .ok (.value (.slice (some ⟨w.heap.size, 0, none⟩) l.toNat c.toNat)) (w.alloc (.cells (madeCells z.cells (c.toNat * size)) e)) := by
    rw [Sem.run_bind, hr]; rfl
   rw [hrun]
   refine ⟨.ms H.length 0 l.toNat c.toNat, _, _, hx, hH', ⟨w.heap.size, ?_, rfl⟩, hk⟩
   rw [← hH.len]; simp
 ·exact h.elim

theorem bytesOf_spec : ∀ {es : List (List AV)} {s : List UInt8}, bytesOf es = some s → ∃ ns : List Int, es = ns.map (fun n => [.int .u8 n]) ∧ s = ns.map (fun n => UInt8.ofNat n.toNat)
 | [], s, h => by simp [bytesOf] at h; exact ⟨[], rfl, h.symm ▸ rfl⟩
 | c :: es, s, h => by
  unfold bytesOf at h
  split at h
  ·rename_i heq
   cases heq
  ·rename_i n es' heq
   cases heq
   split at h
   ·rename_i s' hs'
    obtain ⟨ns, rfl, rfl⟩ := bytesOf_spec hs'
    cases h
    exact ⟨n :: ns, rfl, rfl⟩
   ·cases h
  ·cases h
theorem push_bytes : ∀ (ns : List Int) (acc : List UInt8), ns.foldl (fun r n => r.push (UInt8.ofNat n.toNat)) (ByteArray.mk acc.toArray) = ⟨(acc ++ ns.map fun n => UInt8.ofNat n.toNat).toArray⟩
 | [], acc => by simp
 | n :: ns, acc => by
  have h : (ByteArray.mk acc.toArray).push (UInt8.ofNat n.toNat) = ⟨(acc ++ [UInt8.ofNat n.toNat]).toArray⟩ := by
   simp [ByteArray.push]
  rw [List.foldl_cons, h, push_bytes ns]
  simp
theorem ints_rel {L : Nat → Nat} : ∀ {zs : List Value} {ns : List Int}, All2 (DRel w L) zs (ns.map (AV.int .u8)) → zs = ns.map (Value.int .u8)
 | [], [], _ => rfl
 | z :: zs, n :: ns, h => by
  obtain ⟨h1, h2⟩ := h
  cases h1
  rw [ints_rel h2]
  rfl
theorem u8_flat : ∀ ns : List Int, (ns.map fun n => [AV.int .u8 n]).flatten = ns.map (AV.int .u8)
 | [] => rfl
 | n :: ns => by rw [List.map_cons, List.flatten_cons, u8_flat ns]; rfl
theorem sound_convB {s t e : TypeId} {v : Value} {x : AV} {K : AV → Prop} (hx : TRel w G v x) (hs : P.underlying s = some (.slice e)) (ht : P.underlying t = some .string) (he : tU8 P e = true) (h : aConvB x K) :
  ∃ r, (convert s t v).run P w = .ok r w ∧ ∃ av, TRel w G r av ∧ K av := by
 have hue : P.underlying e = some (.int .u8) := by
  unfold tU8 at he
  split at he
  ·assumption
  ·cases he
 unfold aConvB at h
 split at h
 ·rename_i es tok
  have hd := sl_drel hx
  split at h
  ·rename_i bs hb
   obtain ⟨ns, rfl, rfl⟩ := bytesOf_spec hb
   refine ⟨.string ⟨(ns.map fun n => UInt8.ofNat n.toNat).toArray⟩, ?_, .str _, rfl, h⟩
   by_cases hne : ns = []
   ·subst hne
    obtain ⟨a, cap, rfl, _⟩ := hd.slice_form
    rw [run_convert_bytes_string w s t e _ _ _ hs hue ht]
    cases a with
    | none => rfl
    | some a =>
     have hl : (loadCells a 0).run P w = .ok #[] w := by simpa using run_loadCells_list (P := P) w a [] (by simp)
     exact run_bytesToString w a 0 cap [] hl
   ·obtain ⟨b, off, cap, zs, rfl, hzl, hzr, hzc, _⟩ := hd.flat (size := 1) (by simpa using hne) (by simp)
    rw [u8_flat] at hzr
    obtain rfl := ints_rel hzr
    rw [run_convert_bytes_string w s t e _ _ _ hs hue ht]
    have hld := run_loadCells_list (P := P) w ⟨b, off, none⟩ (ns.map (Value.int .u8)) (fun j v hj => by rw [add_lit]; exact hzc j v hj)
    rw [List.length_map] at hld
    rw [List.length_map, run_bytesToString w _ _ cap ns hld]
    have := push_bytes ns []
    simp only [List.nil_append] at this
    rw [← this]
    rfl
  ·exact h.elim
 ·cases hx
  refine ⟨.string ⟨#[]⟩, ?_, .str [], rfl, h⟩
  rw [run_convert_bytes_string w s t e _ _ _ hs hue ht]
  rfl
 ·exact h.elim

end Go.Abs
namespace Go.Abs
open Go Go.RowKit

variable {P : Program} {B : Nat} {w : World} {G : Gh} {H : Heap}

theorem rel_constV (v : Value) : VRel w G v (constAV v) := by
 unfold constAV
 split
 ·rename_i cs
  refine ⟨cs, rfl, ?_⟩
  refine All2.of_get (by simp) fun i x y hx hy => ?_
  rw [List.getElem?_map, hx] at hy
  simp at hy
  rw [← hy]
  exact ARel.of_b (rel_atom x)
 ·exact VRel.of_a (ARel.of_b (rel_atom v))
theorem und_mapS {t e : TypeId} (h : tMapS P t = some e) : ∃ k, P.underlying t = some (.map k e) ∧ P.underlying k = some .string := by
 unfold tMapS at h
 cases hu : P.underlying t with
 | none => simp [hu] at h
 | some d =>
  simp only [hu, Option.bind_some] at h
  cases d <;> simp only [] at h <;> try (cases h; done)
  rename_i k e'
  split at h
  ·rename_i hk
   cases h
   exact ⟨k, rfl, hk⟩
  ·cases h

theorem find_map {s : List UInt8} {x : AV} : ∀ {es : List MapEntry} {kvs : List (List UInt8 × AV)} (i : Nat), All2 (ERel w G) es kvs →
  (mget kvs s = none ∧ Instr.findNow .string (.string ⟨s.toArray⟩) es i = some none ∧ mput kvs s x = kvs ++ [(s, x)]) ∨
  (∃ j e v, mget kvs s = some v ∧ Instr.findNow .string (.string ⟨s.toArray⟩) es i = some (some (i + j, e.val)) ∧ es[j]? = some e ∧ VRel w G e.val v ∧ e.key = .string ⟨s.toArray⟩ ∧ mput kvs s x = kvs.set j (s, x))
 | [], [], i, _ => .inl ⟨rfl, rfl, rfl⟩
 | e :: es, p :: kvs, i, h => by
  obtain ⟨⟨hk, hv⟩, ht⟩ := h
  have hbeq : ((⟨s.toArray⟩ : ByteArray) == ⟨p.1.toArray⟩) = (p.1 == s) := by
   have e1 : ((⟨s.toArray⟩ : ByteArray) == ⟨p.1.toArray⟩) = (s.toArray == p.1.toArray) := rfl
   rw [e1, Bool.eq_iff_iff, beq_iff_eq, beq_iff_eq]
   constructor
   ·intro h
    have := congrArg Array.toList h
    simpa using this.symm
   ·intro h; rw [h]
  have hsame : Instr.sameNow .string (.string ⟨s.toArray⟩) e.key = some (p.1 == s) := by rw [hk]; simp only [Instr.sameNow, hbeq]
  cases hb : (p.1 == s) with
  | true =>
   right
   rw [hb] at hsame
   have hps : p.1 = s := by simpa using hb
   exact ⟨0, e, p.2, by simp only [mget, hb], by simp only [Instr.findNow, hsame, Nat.add_zero], rfl, hv, by rw [hk, hps], by simp only [mput, hb, List.set_cons_zero]⟩
  | false =>
   rw [hb] at hsame
   rcases find_map (s := s) (x := x) (i + 1) ht with ⟨h1, h2, h3⟩ | ⟨j, e', v, h1, h2, h3, h4, h5, h6⟩
   ·exact .inl ⟨by simp only [mget, hb, h1], by simp only [Instr.findNow, hsame, h2], by simp only [mput, hb, h3, List.cons_append]⟩
   ·refine .inr ⟨j + 1, e', v, by simp only [mget, hb, h1], ?_, by simpa using h3, h4, h5, by simp only [mput, hb, h6, List.set_cons_succ]⟩
    simp only [Instr.findNow, hsame, h2]
    congr 3
    omega
 | [], _ :: _, _, h => h.elim
 | _ :: _, [], _, h => h.elim

theorem sound_mkmap {t : TypeId} {K : AV → Heap → Prop} (hH : HRel B w G H) (h : aMkMap H K) : OpOK P B w G K (((do pure (.value (← Instr.makeMap t none))) : Sem Next).run P w) := by
 obtain ⟨he, hH'⟩ := hH.newMap
 have hrun : ((do pure (.value (← Instr.makeMap t none))) : Sem Next).run P w = .ok (.value (.map (some w.heap.size))) (w.alloc (.map #[] 0)) := by
  simp [Instr.makeMap, newObj, Sem.run, World.alloc_eq]
 rw [hrun]
 refine ⟨.map H.length, _, _, he, hH', ⟨w.heap.size, ?_, rfl⟩, h⟩
 rw [← hH.len]; simp

theorem sound_lkp {t e : TypeId} {z vm vk : Value} {m k : AV} {ok : Bool} {K : AV → Prop} (hH : HRel B w G H) (ht : tMapS P t = some e) (hz : tZero P e = some z) (hm : TRel w G vm m) (hk : TRel w G vk k)
  (h : aLkp (constAV z) ok m k H K) : ∃ u, (Instr.lookup t vm vk ok).run P w = .ok u w ∧ ∃ av, TRel w G u av ∧ K av := by
 obtain ⟨kt, hu, huk⟩ := und_mapS ht
 unfold aLkp at h
 split at h
 ·rename_i id s
  split at h
  ·rename_i kvs hkvs
   obtain ⟨b, hμ, rfl⟩ := hm
   cases hk
   obtain ⟨_, _, es, clk, hw, hes⟩ := hH.ok id _ _ hkvs hμ
   have hkey : MapKept.IsKey .string (.string ⟨s.toArray⟩) := trivial
   rcases find_map (s := s) (x := .unk) 0 hes with ⟨h1, h2, _⟩ | ⟨j, e', v, h1, h2, h3, h4, h5, _⟩
   ·rw [h1] at h
    have hzv : VRel w G z (constAV z) := rel_constV z
    cases ok with
    | false =>
     refine ⟨z, ?_, _, rel_const z, h⟩
     simp [Instr.lookup, run_und hu, MapKept.run_getObj_map hw, MapKept.run_checkKey huk hkey, MapKept.run_findKey huk h2, run_zero hz]
    | true =>
     refine ⟨.tuple #[z, .bool false], ?_, .tup [constAV z, .bool false], ⟨_, rfl, hzv, rfl, trivial⟩, h⟩
     simp [Instr.lookup, run_und hu, MapKept.run_getObj_map hw, MapKept.run_checkKey huk hkey, MapKept.run_findKey huk h2, run_zero hz]
   ·rw [h1] at h
    cases ok with
    | false =>
     refine ⟨e'.val, ?_, _, TRel.of_v h4, h⟩
     simp [Instr.lookup, run_und hu, MapKept.run_getObj_map hw, MapKept.run_checkKey huk hkey, MapKept.run_findKey huk h2]
    | true =>
     refine ⟨.tuple #[e'.val, .bool true], ?_, .tup [v, .bool true], ⟨_, rfl, h4, rfl, trivial⟩, h⟩
     simp [Instr.lookup, run_und hu, MapKept.run_getObj_map hw, MapKept.run_checkKey huk hkey, MapKept.run_findKey huk h2]
  ·exact h.elim
 ·exact h.elim

theorem sound_mupd {t e : TypeId} {vm vk vx : Value} {m k x : AV} {K : Heap → Prop} (hH : HRel B w G H) (ht : tMapS P t = some e) (hm : TRel w G vm m) (hk : TRel w G vk k) (hx : TRel w G vx x)
  (h : aMUpd m k x H K) : ∃ w' H', (Instr.mapUpdate t vm vk vx).run P w = .ok () w' ∧ Ext B w G w' G ∧ HRel B w' G H' ∧ K H' := by
 obtain ⟨kt, hu, huk⟩ := und_mapS ht
 unfold aMUpd at h
 split at h
 ·rename_i id s
  split at h
  ·rename_i kvs hkvs
   obtain ⟨b, hμ, rfl⟩ := hm
   cases hk
   obtain ⟨_, _, es, clk, hw, hes⟩ := hH.ok id _ _ hkvs hμ
   have hkey : MapKept.IsKey .string (.string ⟨s.toArray⟩) := trivial
   split at h
   ·exact h.elim
   ·rename_i hnt
    have hv : VRel w G vx x := by
     cases x <;> first | exact hx | exact (hnt _ rfl).elim
    rcases find_map (s := s) (x := x) 0 hes with ⟨h1, h2, h6⟩ | ⟨j, e', v, h1, h2, h3, h4, h5, h6⟩
    ·rw [h6] at h
     obtain ⟨he, hH'⟩ := hH.storeMap (es' := es.push ⟨.string ⟨s.toArray⟩, vx, clk⟩) (clk' := clk + 1) hkvs hμ hw (kvs' := kvs ++ [(s, x)]) (by
      rw [Array.toList_push]
      exact hes.append ⟨⟨rfl, hv⟩, trivial⟩)
     refine ⟨_, _, ?_, he, hH', h⟩
     simp [Instr.mapUpdate, run_und hu, MapKept.run_getObj_map hw, MapKept.run_checkKey huk hkey, MapKept.run_findKey huk h2, MapKept.run_setObj_map _ hw]
    ·rw [h6] at h
     have hj : es[j]? = some e' := by simpa using h3
     have hjl : j < es.size := (Array.getElem?_eq_some_iff.1 hj).1
     obtain ⟨he, hH'⟩ := hH.storeMap (es' := es.modify j fun e => { e with key := .string ⟨s.toArray⟩, val := vx }) (clk' := clk) hkvs hμ hw (kvs' := kvs.set j (s, x)) (by
      have e1 : (es.modify j fun e => { e with key := .string ⟨s.toArray⟩, val := vx }).toList = es.toList.set j { e' with key := .string ⟨s.toArray⟩, val := vx } := by
       rw [Array.toList_modify, List.modify_eq_set]
       simp [hj]
      rw [e1]
      exact hes.set j ⟨rfl, hv⟩)
     refine ⟨_, _, ?_, he, hH', h⟩
     have hks : (Instr.keyThatStays (((es[j]?).map (·.key)).getD (.string ⟨s.toArray⟩)) (.string ⟨s.toArray⟩)).run P w = .ok (.string ⟨s.toArray⟩) w := by
      rw [hj]
      simp only [Option.map_some, Option.getD_some, h5]
      exact MapKept.run_keyThatStays hkey
     simp only [Nat.zero_add] at h2
     simp [Instr.mapUpdate, run_und hu, MapKept.run_getObj_map hw, MapKept.run_checkKey huk hkey, MapKept.run_findKey huk h2, hks, MapKept.run_setObj_map _ hw]
  ·exact h.elim
 ·exact h.elim
end Go.Abs
