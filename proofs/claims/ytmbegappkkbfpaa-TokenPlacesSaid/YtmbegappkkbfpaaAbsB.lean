/- The abstract layer, part B: steps of the memory: draws, new blocks, stores, appends; how the heap's relation is kept. -/
import Derived.Test.YtmbegappkkbfpaaAbsA
namespace Go.Abs
open Go Go.RowKit

variable {B : Nat} {w w' : World} {G G' : Gh} {H : Heap}

theorem BlkOK.keep {ab : AB} {gi : GI} (h : BlkOK B w G ab gi) (he : Ext B w G w' G')
    (hb : ∀ b, gi.block = some b → w'.heap[b]? = w.heap[b]? ∧ G'.L b = G.L b) : BlkOK B w' G' ab gi := by
  cases ab with
  | cells cs =>
    cases gi with
    | blk b =>
      obtain ⟨h1, h2, vs, e, h3, h4⟩ := h
      obtain ⟨k1, k2⟩ := hb b rfl
      exact ⟨h1, by rw [k2]; exact h2, vs, e, by rw [k1]; exact h3, h4.mono fun _ _ => he.arel⟩
    | own v s n => exact h.elim
  | perm e s0 n =>
    cases gi with
    | blk b => exact h.elim
    | own v s n' =>
      obtain ⟨rfl, rfl, ⟨xs, hl, hx⟩, h2⟩ := h
      refine ⟨rfl, rfl, ⟨xs, hl, ?_⟩, fun b hbb => by rw [(hb b hbb).2]; exact h2 b hbb⟩
      rcases hx with hx | ⟨g, cap, cur, rfl, h3, h4, h5⟩
      · exact .inl hx
      · exact .inr ⟨g, cap, cur, rfl, h3, by rw [(hb g rfl).1]; exact h4, h5⟩
  | map kvs => cases gi <;> exact h.elim

theorem HRel.keep (h : HRel B w G H) (he : Ext B w G w' G') (hμ : G'.μ = G.μ)
    (hb : ∀ (id : Nat) gi b, G.μ[id]? = some gi → gi.block = some b → w'.heap[b]? = w.heap[b]? ∧ G'.L b = G.L b)
    (hf : ∀ b, w'.heap.size ≤ b → G'.L b = 0) : HRel B w' G' H where
  len := by rw [hμ]; exact h.len
  ok := fun id ab gi h1 h2 => by
    rw [hμ] at h2
    exact (h.ok id ab gi h1 h2).keep he (fun b hbb => hb id gi b h2 hbb)
  dist := fun id id' gi gi' b h1 h2 => by rw [hμ] at h1 h2; exact h.dist id id' gi gi' b h1 h2
  fresh := hf
  lt := fun id gi b h1 h2 => by rw [hμ] at h1; exact Nat.lt_of_lt_of_le (h.lt id gi b h1 h2) he.below.size
  base := Nat.le_trans h.base he.below.size

/-! ### A world that has drawn -/
theorem Ext.drew (B : Nat) (w : World) (G : Gh) (n : Nat) : Ext B w G { w with drawn := n } G :=
  ⟨⟨rfl, rfl, rfl, Nat.le_refl _, fun _ _ => rfl⟩, fun _ => Nat.le_refl _, fun _ _ _ => rfl, fun _ gi h => ⟨gi, h, gi.le_refl⟩⟩
theorem HRel.drew (h : HRel B w G H) (n : Nat) : HRel B { w with drawn := n } G H :=
  h.keep (Ext.drew B w G n) rfl (fun _ _ _ _ _ => ⟨rfl, rfl⟩) h.fresh

/-! ### New blocks -/
theorem alloc_old {o : Obj} {b : Nat} (hb : b < w.heap.size) : (w.alloc o).heap[b]? = w.heap[b]? := Below.heap_alloc w o b hb
theorem alloc_size (o : Obj) : (w.alloc o).heap.size = w.heap.size + 1 := by simp only [World.alloc, Array.size_push]
theorem alloc_new (o : Obj) : (w.alloc o).heap[w.heap.size]? = some o := by simp only [World.alloc, Array.getElem?_push_size]

theorem cell_lt {a : Addr} (h : a.block < w.heap.size) (o : Obj) : (w.alloc o).cell? a = w.cell? a := World.cell?_alloc_lt _ _ _ h

theorem L_lt (h : HRel B w G H) {b off : Nat} (ho : off < G.L b) : b < w.heap.size := by
  by_cases hb : b < w.heap.size
  · exact hb
  · have := h.fresh b (by omega); omega

theorem Ext.alloc (h : HRel B w G H) (o : Obj) (L' : Nat → Nat) (hL : ∀ b, b ≠ w.heap.size → L' b = G.L b) (xs : List GI) :
    Ext B w G (w.alloc o) ⟨L', G.μ ++ xs⟩ where
  below := (Below.refl _ _).alloc h.base o
  lev := fun b => by
    by_cases hb : b = w.heap.size
    · subst hb; rw [h.fresh _ (Nat.le_refl _)]; exact Nat.zero_le _
    · show G.L b ≤ L' b
      rw [hL b hb]; exact Nat.le_refl _
  cell := fun b off ho => cell_lt (a := ⟨b, off, none⟩) (L_lt h ho) o
  ids := fun id gi hg => ⟨gi, by
    have : id < G.μ.length := (List.getElem?_eq_some_iff.1 hg).1
    simp only []
    rw [List.getElem?_append_left this]; exact hg, gi.le_refl⟩

/-- A new mutable block. -/
theorem HRel.new (h : HRel B w G H) (vs : Array Value) (e : TypeId) (cs : List AV) (hc : All2 (ARel w G) vs.toList cs) :
    Ext B w G (w.alloc (.cells vs e)) ⟨G.L, G.μ ++ [.blk w.heap.size]⟩ ∧ HRel B (w.alloc (.cells vs e)) ⟨G.L, G.μ ++ [.blk w.heap.size]⟩ (H ++ [.cells cs]) := by
  have he := Ext.alloc h (.cells vs e) G.L (fun _ _ => rfl) [.blk w.heap.size]
  refine ⟨he, ?_⟩
  have split : ∀ (id : Nat) gi, (G.μ ++ [.blk w.heap.size])[id]? = some gi → G.μ[id]? = some gi ∨ (id = G.μ.length ∧ gi = .blk w.heap.size) := by
    intro id gi hg
    by_cases hlt : id < G.μ.length
    · rw [List.getElem?_append_left hlt] at hg; exact .inl hg
    · have hlt2 := (List.getElem?_eq_some_iff.1 hg).1
      simp at hlt2
      have : id = G.μ.length := by omega
      subst this
      simp at hg
      exact .inr ⟨rfl, hg.symm⟩
  refine ⟨by simp [h.len], ?_, ?_, ?_, ?_, ?_⟩
  · intro id ab gi h1 h2
    rcases split id gi h2 with h2 | ⟨rfl, rfl⟩
    · have hlt : id < H.length := by rw [← h.len]; exact (List.getElem?_eq_some_iff.1 h2).1
      rw [List.getElem?_append_left hlt] at h1
      exact (h.ok id ab gi h1 h2).keep he (fun b hb => ⟨alloc_old (h.lt id gi b h2 hb), rfl⟩)
    · rw [h.len] at h1
      simp at h1
      subst h1
      exact ⟨h.base, h.fresh _ (Nat.le_refl _), vs, e, alloc_new _, hc.mono fun _ _ => he.arel⟩
  · intro id id' gi gi' b h1 h2 h3 h4
    rcases split id gi h1 with h1 | ⟨rfl, rfl⟩ <;> rcases split id' gi' h2 with h2 | ⟨rfl, rfl⟩
    · exact h.dist id id' gi gi' b h1 h2 h3 h4
    · have := h.lt id gi b h1 h3
      simp [GI.block] at h4; omega
    · have := h.lt id' gi' b h2 h4
      simp [GI.block] at h3; omega
    · rfl
  · intro b hb
    rw [alloc_size] at hb
    exact h.fresh b (by omega)
  · intro id gi b h1 h2
    rw [alloc_size]
    rcases split id gi h1 with h1 | ⟨rfl, rfl⟩
    · have := h.lt id gi b h1 h2; omega
    · simp [GI.block] at h2; omega
  · rw [alloc_size]; have := h.base; omega

/-- A new block of immutable cells. -/
theorem HRel.frozen (h : HRel B w G H) (vs : Array Value) (e : TypeId) (n : Nat) :
    Ext B w G (w.alloc (.cells vs e)) ⟨fun b => if b = w.heap.size then n else G.L b, G.μ⟩ ∧
      HRel B (w.alloc (.cells vs e)) ⟨fun b => if b = w.heap.size then n else G.L b, G.μ⟩ H := by
  have he := Ext.alloc h (.cells vs e) (fun b => if b = w.heap.size then n else G.L b) (fun b hb => by simp [hb]) []
  simp only [List.append_nil] at he
  refine ⟨he, h.keep he rfl (fun id gi b h1 h2 => ?_) (fun b hb => ?_)⟩
  · have := h.lt id gi b h1 h2
    exact ⟨alloc_old this, by simp; intro; omega⟩
  · rw [alloc_size] at hb
    have : b ≠ w.heap.size := by omega
    simp [this, h.fresh b (by omega)]

/-! ### Stores into mutable blocks -/
theorem heap_setRow_other {g k : Nat} (cs : Array Value) (h : k ≠ g) : (w.setRow g cs).heap[k]? = w.heap[k]? := setRow_other w g k cs h

theorem cell_block {w w' : World} {b off : Nat} (h : w'.heap[b]? = w.heap[b]?) : w'.cell? ⟨b, off, none⟩ = w.cell? ⟨b, off, none⟩ := World.cell?_of_block (a := ⟨b, off, none⟩) h

theorem HRel.store (h : HRel B w G H) {id b : Nat} {cs cs' : List AV} {vs vs' : Array Value} {e : TypeId} (hH : H[id]? = some (.cells cs)) (hμ : G.μ[id]? = some (.blk b))
    (hw : w.heap[b]? = some (.cells vs e (0, 0))) (hB : B ≤ b) (hc : All2 (ARel w G) vs'.toList cs') :
    Ext B w G (w.setRow b vs') G ∧ HRel B (w.setRow b vs') G (H.set id (.cells cs')) := by
  have hL : G.L b = 0 := by
    have := h.ok id _ _ hH hμ
    exact this.2.1
  have hsz : (w.setRow b vs').heap.size = w.heap.size := by simp [World.setRow]
  have he : Ext B w G (w.setRow b vs') G := by
    refine ⟨⟨rfl, rfl, rfl, by rw [hsz]; exact Nat.le_refl _, fun k hk => heap_setRow_other _ (by omega)⟩, fun _ => Nat.le_refl _, fun x off ho => ?_, fun _ gi h => ⟨gi, h, gi.le_refl⟩⟩
    have : x ≠ b := by intro hx; subst hx; omega
    exact cell_block (heap_setRow_other _ this)
  refine ⟨he, by simp [h.len], ?_, h.dist, by rw [hsz]; exact h.fresh, by rw [hsz]; exact h.lt, by rw [hsz]; exact h.base⟩
  intro id' ab gi h1 h2
  by_cases hid : id' = id
  · subst hid
    rw [hμ] at h2
    cases h2
    have hlt : id' < H.length := (List.getElem?_eq_some_iff.1 hH).1
    rw [List.getElem?_set_self hlt] at h1
    cases h1
    exact ⟨hB, hL, vs', e, setRow_heap w b vs vs' e _ hw, hc.mono fun _ _ => he.arel⟩
  · rw [List.getElem?_set_ne (fun h => hid h.symm)] at h1
    refine (h.ok id' ab gi h1 h2).keep he (fun x hx => ⟨heap_setRow_other _ ?_, rfl⟩)
    intro hxb
    subst hxb
    exact hid (h.dist id' id gi _ x h2 hμ hx rfl)

end Go.Abs
