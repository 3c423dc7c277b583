/- The abstract layer, part D: each abstract operation is sound for the model's operation. -/
import Derived.Test.YtmbegappkkbfpaaAbsC
import Derived.Laws.AppendOwnNone
import Derived.Laws.Strings
namespace Go.Abs
open Go Go.RowKit

variable {P : Program} {B : Nat} {w : World} {G : Gh} {H : Heap}

def CallPost (B : Nat) (w : World) (G : Gh) (K : AV → Heap → Prop) (e : Ending) (w' : World) : Prop :=
  ∃ v r H' G', e = .returned v ∧ Ext B w G w' G' ∧ HRel B w' G' H' ∧ TRel w' G' v r ∧ K r H'

/-- What an operation came to, and that it fits. -/
def OpOK (P : Program) (B : Nat) (w : World) (G : Gh) (K : AV → Heap → Prop) : Result Next → Prop
  | .ok (.value v) w' => ∃ av G' H', Ext B w G w' G' ∧ HRel B w' G' H' ∧ TRel w' G' v av ∧ K av H'
  | .ok .skip w' => ∃ G' H', Ext B w G w' G' ∧ HRel B w' G' H' ∧ K (.tup []) H'
  | .ok (.enter f vs) w' => w' = w ∧ Calls P f vs w (CallPost B w G K)
  | _ => False

theorem OpOK.same {K : AV → Heap → Prop} {v : Value} {av : AV} (hH : HRel B w G H) (hv : TRel w G v av) (hK : K av H) : OpOK P B w G K (.ok (.value v) w) :=
  ⟨av, G, H, Ext.refl _ _ _, hH, hv, hK⟩

theorem rel_atom (v : Value) : BRel w G v (constAtom v) := by
  unfold constAtom
  split <;> first | rfl | trivial
theorem rel_const (v : Value) : TRel w G v (constAV v) := by
  unfold constAV
  split
  · rename_i cs
    refine ⟨cs, rfl, ?_⟩
    refine All2.of_get (by simp) fun i x y hx hy => ?_
    rw [List.getElem?_map, hx] at hy
    simp at hy
    rw [← hy]
    exact ARel.of_b (rel_atom x)
  · exact TRel.of_v (VRel.of_a (ARel.of_b (rel_atom v)))
theorem rel_cells (v : Value) : All2 (ARel w G) v.cells.toList (constCells v) := by
  unfold constCells
  split
  · rename_i cs
    simp only [Value.cells]
    refine All2.of_get (by simp) fun i x y hx hy => ?_
    rw [List.getElem?_map, hx] at hy
    simp at hy
    rw [← hy]
    exact ARel.of_b (rel_atom x)
  · rename_i h
    have : v.cells = #[v] := by
      cases v <;> first | rfl | exact absurd rfl (h _)
    rw [this]
    exact ⟨ARel.of_b (rel_atom v), trivial⟩

theorem ev_rel {a : Act} {F : List AV} (hF : FRel w G a.tmps F) (x : Operand) : TRel w G (a.eval x) (ev F x) := by
  cases x with
  | tmp t =>
    unfold Act.eval ev
    simp only []
    cases h : F[t]? with
    | none => simp only [List.getD_eq_getElem?_getD, h]; trivial
    | some b =>
      obtain ⟨v, h1, h2⟩ := All2.get hF h
      have : a.tmps[t]? = some v := by simpa using h1
      simp only [List.getD_eq_getElem?_getD, h, Option.getD_some, Array.getD_eq_getD_getElem?, this]
      exact h2
  | const v => exact rel_const v
  | global g => trivial
  | func f => exact ⟨#[], rfl, trivial⟩

theorem ev_rels {a : Act} {F : List AV} (hF : FRel w G a.tmps F) (xs : List Operand) : All2 (TRel w G) (xs.map a.eval) (xs.map (ev F)) := by
  induction xs with
  | nil => trivial
  | cons x xs ih => exact ⟨ev_rel hF x, ih⟩

/-! ### The program's tables -/
theorem run_info {t : TypeId} {i : TypeInfo} (h : P.info? t = some i) : (typeInfo t).run P w = .ok i w := by simp [typeInfo, h]
theorem run_size {t : TypeId} {n : Nat} (h : tSize P t = some n) : (sizeOf t).run P w = .ok n w := by
  unfold tSize at h
  cases hi : P.info? t with
  | none => simp [hi] at h
  | some i => simp [hi] at h; simp [sizeOf, run_info hi, h]
theorem run_zero {t : TypeId} {z : Value} (h : tZero P t = some z) : (zeroValue t).run P w = .ok z w := by
  unfold tZero at h
  cases hi : P.info? t with
  | none => simp [hi] at h
  | some i => simp [hi] at h; simp [zeroValue, run_info hi, h]
theorem run_und {t : TypeId} {d : TypeDesc} (h : P.underlying t = some d) : (underlying t).run P w = .ok d w := by simp [underlying, h]
theorem run_agg {t : TypeId} {g : Bool} (h : tAgg P t = some g) : (isAgg t).run P w = .ok g w := by
  unfold tAgg at h
  cases hu : P.underlying t with
  | none => simp [hu] at h
  | some d =>
    simp only [hu, Option.map_some, Option.some.injEq] at h
    cases d <;> simp_all [isAgg, run_und hu]
theorem und_elem {t e : TypeId} (h : tElem P t = some e) : P.underlying t = some (.slice e) := by
  unfold tElem at h
  cases hu : P.underlying t with
  | none => simp [hu] at h
  | some d => simp only [hu, Option.bind_some] at h; cases d <;> simp_all
theorem und_kind0 {t : TypeId} (h : tKind P t = some 0) : P.underlying t = some .string := by
  unfold tKind at h
  cases hu : P.underlying t with
  | none => simp [hu] at h
  | some d => simp only [hu, Option.bind_some] at h; cases d <;> simp_all
theorem und_kind1 {t : TypeId} (h : tKind P t = some 1) : ∃ e, P.underlying t = some (.slice e) := by
  unfold tKind at h
  cases hu : P.underlying t with
  | none => simp [hu] at h
  | some d => simp only [hu, Option.bind_some] at h; cases d <;> simp_all
theorem und_field {t : TypeId} {i : Nat} {f : Field} (h : tField P t i = some f) : ∃ fs, P.underlying t = some (.struct fs) ∧ fs[i]? = some f := by
  unfold tField at h
  cases hu : P.underlying t with
  | none => simp [hu] at h
  | some d => simp only [hu, Option.bind_some] at h; cases d <;> simp_all

theorem add_lit (b o n : Nat) : Addr.add ⟨b, o, none⟩ n = ⟨b, o + n, none⟩ := Addr.add_lit b o n

theorem ARel.oneCell {v : Value} : ∀ {a : AV}, a ≠ .unk → ARel w G v a → v.oneCell' = true := by
  intro a hne h
  cases a with
  | unk => exact absurd rfl hne
  | fn f caps => obtain ⟨vs, rfl, _⟩ := h; rfl
  | agg cs => exact h.elim
  | tup cs => exact h.elim
  | sl es tok =>
    cases tok with
    | none => obtain ⟨a, cap, rfl, _⟩ := DRel.slice_form h; rfl
    | full => obtain ⟨a, cap, rfl, _⟩ := DRel.slice_form h.1; rfl
    | own id => obtain ⟨a, cap, rfl, _⟩ := DRel.slice_form h.1; rfl
  | bool b => cases h; rfl
  | int k n => cases h; rfl
  | str s => cases h; rfl
  | nilp => cases h; rfl
  | snil => cases h; rfl
  | nilfn => cases h; rfl
  | ptr id off => obtain ⟨b, _, rfl⟩ := h; rfl
  | view cs => obtain ⟨b, off, rfl, _⟩ := h; rfl
  | ms id off len cap => obtain ⟨b, _, rfl⟩ := h; rfl
  | map id => obtain ⟨b, _, rfl⟩ := h; rfl

/-- The cells of a storable value. -/
theorem cs_rel {v : Value} {x : AV} {xs : List AV} (h : TRel w G v x) (hx : x.cs? = some xs) : All2 (ARel w G) v.cells.toList xs := by
  have atom : ∀ {y : AV}, y ≠ .unk → y.cs? = some [y] → ARel w G v y → All2 (ARel w G) v.cells.toList [y] := by
    intro y hne _ hr
    have h1 := ARel.oneCell hne hr
    have : v.cells = #[v] := by cases v <;> first | rfl | simp [Value.oneCell'] at h1
    rw [this]
    exact ⟨hr, trivial⟩
  cases x with
  | unk => simp [AV.cs?] at hx
  | tup vs => simp [AV.cs?] at hx
  | agg cs =>
    simp [AV.cs?] at hx
    subst hx
    obtain ⟨vs, rfl, h2⟩ := h
    exact h2
  | _ =>
    simp [AV.cs?] at hx
    subst hx
    exact atom (by simp) rfl h

/-! ### Loads -/
theorem run_loadVar_of {t : TypeId} {g : Bool} {n : Nat} {b off : Nat} {ws : List Value} {cs : List AV} {K : AV → Prop} (hg : tAgg P t = some g) (hn : tSize P t = some n)
    (hr : All2 (ARel w G) ws cs) (hc : ∀ (j : Nat) v, ws[j]? = some v → w.cell? ⟨b, j, none⟩ = some v) (hk : aCells g n off cs K) :
    ∃ v av, (loadVar t ⟨b, off, none⟩).run P w = .ok v w ∧ TRel w G v av ∧ K av := by
  cases g with
  | true =>
    obtain ⟨h1, h2⟩ := hk
    have hl := hr.length
    have hlen : ((ws.drop off).take n).length = n := by simp; omega
    have hld := run_loadCells_list (P := P) w ⟨b, off, none⟩ ((ws.drop off).take n) (fun j v hj => by
      rw [add_lit]
      apply hc
      have : j < n := by have := (List.getElem?_eq_some_iff.1 hj).1; omega
      rw [List.getElem?_take] at hj
      simp [this] at hj
      exact hj)
    rw [hlen] at hld
    refine ⟨.agg ((ws.drop off).take n).toArray, .agg ((cs.drop off).take n), ?_, ⟨_, rfl, ?_⟩, h2⟩
    · simp [loadVar, run_agg hg, run_size hn, hld]
    · simpa using (hr.drop off).take n
  | false =>
    unfold aCells at hk
    simp only [] at hk
    cases hco : cs[off]? with
    | none => rw [hco] at hk; exact hk.elim
    | some c =>
      rw [hco] at hk
      obtain ⟨v, h1, h2⟩ := hr.get hco
      refine ⟨v, c, ?_, TRel.of_v (VRel.of_a h2), hk⟩
      simp [loadVar, run_agg hg, hc off v h1]

theorem DRel.toB {v : Value} {a : AV} (h : DRel w G.L v a) : BRel w G v a := by
  cases h with
  | bool b => rfl
  | int k n => rfl
  | str s => rfl
  | slE a cap => exact .slE a cap
  | sl b off cap esz es vs hne hcap hL hsz hc hd => exact .sl b off cap esz es vs hne hcap hL hsz hc hd

theorem sound_load {t : TypeId} {g : Bool} {n : Nat} {v : Value} {x : AV} {K : AV → Heap → Prop} (hH : HRel B w G H) (hx : TRel w G v x) (hg : tAgg P t = some g) (hn : tSize P t = some n)
    (h : aLoad g n x H (K · H)) : ∃ u, (Instr.loadAt t v).run P w = .ok u w ∧ ∃ av, TRel w G u av ∧ K av H := by
  unfold aLoad at h
  split at h
  · rename_i id off
    obtain ⟨b, hμ, rfl⟩ := hx
    split at h
    · rename_i cs hcs
      have := hH.ok id _ _ hcs hμ
      obtain ⟨_, _, vs, e, hw, hr⟩ := this
      obtain ⟨u, av, h1, h2, h3⟩ := run_loadVar_of (P := P) (b := b) (off := off) (K := (K · H)) hg hn hr (fun j v hj => by simp [World.cell?, hw]; simpa using hj) h
      exact ⟨u, by simp [Instr.loadAt, Instr.sureAddr, h1], av, h2, h3⟩
    · exact h.elim
  · rename_i cs
    obtain ⟨b, off, rfl, hL, vs, hr, hc⟩ := hx
    have hr' : All2 (ARel w G) vs cs := hr.mono fun _ _ hd => ARel.of_b hd.toB
    -- the cells from 'off' on, read as a row of their own
    cases g with
    | true =>
      obtain ⟨h1, h2⟩ := h
      have hl := hr.length
      have hlen : (vs.take n).length = n := by simp; omega
      have hld := run_loadCells_list (P := P) w ⟨b, off, none⟩ (vs.take n) (fun j v hj => by
        rw [add_lit]
        apply hc
        rw [List.getElem?_take] at hj
        split at hj
        · exact hj
        · simp at hj)
      rw [hlen] at hld
      refine ⟨.agg (vs.take n).toArray, ?_, .agg (cs.take n), ⟨_, rfl, ?_⟩, ?_⟩
      · simp [Instr.loadAt, Instr.sureAddr, loadVar, run_agg hg, run_size hn, hld]
      · simpa using hr'.take n
      · simpa using h2
    | false =>
      unfold aCells at h
      simp only [] at h
      cases hco : cs[0]? with
      | none => rw [hco] at h; exact h.elim
      | some c =>
        rw [hco] at h
        obtain ⟨v, h1, h2⟩ := hr'.get hco
        refine ⟨v, ?_, c, TRel.of_v (VRel.of_a h2), h⟩
        have := hc 0 v h1
        simp at this
        simp [Instr.loadAt, Instr.sureAddr, loadVar, run_agg hg, this]
  · exact h.elim

/-! ### Stores -/
theorem plain_one {xs : List Value} {cs : List AV} (h : All2 (ARel w G) xs cs) (hu : ∀ c ∈ cs, c ≠ .unk) : ∀ v ∈ xs, v.oneCell' = true := by
  intro v hv
  obtain ⟨i, hi⟩ := List.mem_iff_getElem?.1 hv
  obtain ⟨c, h1, h2⟩ := h.get' hi
  exact ARel.oneCell (hu c (List.mem_iff_getElem?.2 ⟨i, h1⟩)) h2


theorem sound_store {t : TypeId} {n : Nat} {v u : Value} {a x : AV} {K : Heap → Prop} (hH : HRel B w G H) (ha : TRel w G v a) (hx : TRel w G u x) (hn : tSize P t = some n)
    (h : aStore n a x H K) : ∃ w' H', (Instr.storeAt t v u).run P w = .ok () w' ∧ Ext B w G w' G ∧ HRel B w' G H' ∧ K H' := by
  unfold aStore at h
  split at h
  · rename_i id off xs hxs
    obtain ⟨b, hμ, rfl⟩ := ha
    split at h
    · rename_i cs hcs
      obtain ⟨⟨h1, h2, h3⟩, hk⟩ := h
      obtain ⟨hB, _, vs, e, hw, hr⟩ := hH.ok id _ _ hcs hμ
      have hxr := cs_rel hx hxs
      have hl := hr.length
      have hlx := hxr.length
      have hone : ∀ v ∈ u.cells.toList, v.oneCell' = true := plain_one hxr (fun c hc => by
        have := List.all_eq_true.1 h3 c hc
        intro hcu; subst hcu; simp [AV.known] at this)
      have hst := run_storeCells_at P b off e u.cells.toList 0 vs w hw (by simp at hl hlx ⊢; omega) hone
      simp only [Nat.add_zero] at hst
      have hnew : All2 (ARel w G) (vs.toList.take off ++ u.cells.toList ++ vs.toList.drop (off + u.cells.toList.length)).toArray.toList (cs.take off ++ xs ++ cs.drop (off + n)) := by
        have : u.cells.toList.length = n := by rw [hlx]; exact h1
        rw [this]
        simpa using ((hr.take off).append hxr).append (hr.drop (off + n))
      obtain ⟨he, hH'⟩ := hH.store hcs hμ hw hB hnew
      refine ⟨_, _, ?_, he, hH', hk⟩
      have hsz : u.cells.size = n := by simp at hlx; omega
      simp [Instr.storeAt, Instr.sureAddr, storeVar, run_size hn, hsz, hst]
    · exact h.elim
  · exact h.elim

/-! ### New variables -/
theorem sound_box {t : TypeId} {v : Value} {x : AV} {K : AV → Heap → Prop} (hH : HRel B w G H) (hx : TRel w G v x) (h : aBox x H K) :
    OpOK P B w G K (((do pure (.value (← Instr.box t v))) : Sem Next).run P w) := by
  unfold aBox at h
  split at h
  · rename_i cs hcs
    obtain ⟨he, hH'⟩ := hH.new v.cells t cs (cs_rel hx hcs)
    have hrun : ((do pure (.value (← Instr.box t v))) : Sem Next).run P w = .ok (.value (.pointer (some ⟨w.heap.size, 0, none⟩))) (w.alloc (.cells v.cells t)) := by
      simp [Instr.box, newVar, newRow, World.alloc_eq]
    rw [hrun]
    refine ⟨.ptr H.length 0, _, _, he, hH', ⟨w.heap.size, ?_, rfl⟩, h⟩
    rw [← hH.len]; simp
  · exact h.elim
theorem sound_alloc {t : TypeId} {z : Value} {K : AV → Heap → Prop} (hH : HRel B w G H) (hz : tZero P t = some z) (h : K (.ptr H.length 0) (H ++ [.cells (constCells z)])) :
    OpOK P B w G K (((do pure (.value (← Instr.alloc t true (.tuple #[])))) : Sem Next).run P w) := by
  obtain ⟨he, hH'⟩ := hH.new z.cells t (constCells z) (rel_cells z)
  have hrun : ((do pure (.value (← Instr.alloc t true (.tuple #[])))) : Sem Next).run P w = .ok (.value (.pointer (some ⟨w.heap.size, 0, none⟩))) (w.alloc (.cells z.cells t)) := by
    simp [Instr.alloc, run_zero hz, newVar, newRow, World.alloc_eq]
  rw [hrun]
  refine ⟨.ptr H.length 0, _, _, he, hH', ⟨w.heap.size, ?_, rfl⟩, h⟩
  rw [← hH.len]; simp

/-! ### Addresses and parts -/
theorem sound_fld {s : TypeId} {i : Nat} {f : Field} {n : Nat} {v : Value} {x : AV} {K : AV → Prop} (hx : TRel w G v x) (hf : tField P s i = some f) (hn : tSize P f.type = some (n + 1))
    (h : aFld f.offset x K) : ∃ u, (Instr.fieldAt s v i).run P w = .ok u w ∧ ∃ av, TRel w G u av ∧ K av := by
  obtain ⟨fs, hu, hfs⟩ := und_field hf
  unfold aFld at h
  split at h
  · rename_i id off
    obtain ⟨b, hμ, rfl⟩ := hx
    refine ⟨.pointer (some ⟨b, off + f.offset, none⟩), ?_, .ptr id (off + f.offset), ⟨b, hμ, rfl⟩, h⟩
    simp [Instr.fieldAt, run_und hu, hfs, Instr.sureAddr, fieldPlace, run_size hn, add_lit]
  · rename_i cs
    obtain ⟨b, off, rfl, hc⟩ := hx
    refine ⟨.pointer (some ⟨b, off + f.offset, none⟩), ?_, .view (cs.drop f.offset), ⟨b, _, rfl, hc.drop _ h.1⟩, h.2⟩
    simp [Instr.fieldAt, run_und hu, hfs, Instr.sureAddr, fieldPlace, run_size hn, add_lit]
  · exact h.elim
theorem sound_part {t : TypeId} {g : Bool} {n off : Nat} {vs : Array Value} {cs : List AV} {K : AV → Prop} (hr : All2 (ARel w G) vs.toList cs) (hg : tAgg P t = some g) (hn : tSize P t = some n)
    (h : aCells g n off cs K) : ∃ u, (part t vs off).run P w = .ok u w ∧ ∃ av, TRel w G u av ∧ K av := by
  cases g with
  | true =>
    obtain ⟨h1, h2⟩ := h
    refine ⟨.agg (vs.extract off (off + n)), by simp [part, run_agg hg, run_size hn], .agg ((cs.drop off).take n), ⟨_, rfl, ?_⟩, h2⟩
    have : (vs.extract off (off + n)).toList = (vs.toList.drop off).take n := by
      rw [Array.toList_extract, List.extract_eq_take_drop]; congr 1; omega
    rw [this]
    exact (hr.drop off).take n
  | false =>
    unfold aCells at h
    simp only [] at h
    cases hco : cs[off]? with
    | none => rw [hco] at h; exact h.elim
    | some c =>
      rw [hco] at h
      obtain ⟨v, h1, h2⟩ := hr.get hco
      refine ⟨v, ?_, c, TRel.of_v (VRel.of_a h2), h⟩
      have : vs[off]? = some v := by simpa using h1
      simp [part, run_agg hg, this]
theorem sound_fldV {s : TypeId} {i : Nat} {f : Field} {g : Bool} {n : Nat} {v : Value} {x : AV} {K : AV → Prop} (hx : TRel w G v x) (hf : tField P s i = some f) (hg : tAgg P f.type = some g)
    (hn : tSize P f.type = some n) (h : aFldV g n f.offset x K) : ∃ u, (Instr.field s v i).run P w = .ok u w ∧ ∃ av, TRel w G u av ∧ K av := by
  obtain ⟨fs, hu, hfs⟩ := und_field hf
  unfold aFldV at h
  split at h
  · rename_i cs
    obtain ⟨vs, rfl, hr⟩ := hx
    obtain ⟨u, h1, h2⟩ := sound_part (P := P) hr hg hn h
    exact ⟨u, by simp [Instr.field, run_und hu, hfs, asAgg, h1], h2⟩
  · exact h.elim

theorem sl_drel {v : Value} {es : List (List AV)} {tok : Tok} (h : TRel w G v (.sl es tok)) : DRel w G.L v (.sl es .none) := by
  cases tok with
  | none => exact h
  | full => exact h.1
  | own id => exact h.1

theorem sound_idxA {t e : TypeId} {size : Nat} {v u : Value} {x i : AV} {K : AV → Prop} (hx : TRel w G v x) (hi : TRel w G u i) (he : tElem P t = some e) (hn : tSize P e = some size)
    (h : aIdxA size x i K) : ∃ r, (Instr.indexAt t v u).run P w = .ok r w ∧ ∃ av, TRel w G r av ∧ K av := by
  have hu := und_elem he
  unfold aIdxA at h
  split at h
  · rename_i es tok k n
    obtain ⟨⟨h0, hlt⟩, hsz, hk⟩ := h
    cases hi
    have hd := sl_drel hx
    have hlt' : n.toNat < es.length := by omega
    obtain ⟨b, off, cap, rfl, hcap, ⟨esz, hall⟩, hel⟩ := hd.elem hlt'
    have hc := hel n.toNat hlt'
    have hes : es.getD n.toNat [] = es[n.toNat] := by simp [List.getD_eq_getElem?_getD, hlt']
    rw [hes] at hsz hk
    rw [hsz] at hc
    refine ⟨.pointer (some ⟨b, off + n.toNat * size, none⟩), ?_, .view es[n.toNat], ⟨b, _, rfl, hc⟩, hk⟩
    simp [Instr.indexAt, asIntOf, run_und hu, h0, hlt, run_size hn, add_lit]
  · rename_i id off len cap k n
    obtain ⟨⟨h0, hlt⟩, hk⟩ := h
    cases hi
    obtain ⟨b, hμ, rfl⟩ := hx
    refine ⟨.pointer (some ⟨b, off + n.toNat * size, none⟩), ?_, .ptr id (off + n.toNat * size), ⟨b, hμ, rfl⟩, hk⟩
    simp [Instr.indexAt, asIntOf, run_und hu, h0, hlt, run_size hn, add_lit]
  · exact h.elim

theorem str_size (s : List UInt8) : (ByteArray.mk s.toArray).size = s.length := by simp [ByteArray.size]
theorem str_get (s : List UInt8) (i : Nat) (h : i < s.length) : (ByteArray.mk s.toArray)[i]? = some s[i] := by
  rw [getElem?_pos _ _ (by rw [str_size]; exact h)]
  rfl
theorem str_toList (s : List UInt8) : (ByteArray.mk s.toArray).toList = s := Go.ByteArray.toList_mk s

theorem sound_idxS {t : TypeId} {v u : Value} {x i : AV} {K : AV → Prop} (hx : TRel w G v x) (hi : TRel w G u i) (ht : tKind P t = some 0)
    (h : aIdxS x i K) : ∃ r, (Instr.index t v u).run P w = .ok r w ∧ ∃ av, TRel w G r av ∧ K av := by
  have hu := und_kind0 ht
  unfold aIdxS at h
  split at h
  · rename_i s k n
    obtain ⟨⟨h0, hlt⟩, hk⟩ := h
    cases hi
    cases hx
    have hlt' : n.toNat < s.length := by omega
    have hes : s.getD n.toNat 0 = s[n.toNat] := by simp [List.getD_eq_getElem?_getD, hlt']
    rw [hes] at hk
    refine ⟨.int .u8 s[n.toNat].toNat, ?_, .int .u8 s[n.toNat].toNat, rfl, hk⟩
    simp [Instr.index, asIntOf, run_und hu, h0, str_get s _ hlt']
  · exact h.elim

theorem sound_len {t : TypeId} {k : Nat} {v : Value} {x : AV} {ty : TypeId} {K : AV → Prop} (hx : TRel w G v x) (ht : tKind P t = some k)
    (h : aLen k x K) : ∃ r, (Builtin.len_ #[t] ty #[v]).run P w = .ok r w ∧ ∃ av, TRel w G r av ∧ K av := by
  unfold aLen at h
  split at h
  · rename_i s
    cases hx
    exact ⟨.int .i64 s.length, by simp [Builtin.len_, run_und (und_kind0 ht), goInt, str_size], .int .i64 s.length, rfl, h⟩
  · rename_i es tok
    obtain ⟨e, hu⟩ := und_kind1 ht
    obtain ⟨a, cap, rfl, _⟩ := (sl_drel hx).slice_form
    exact ⟨.int .i64 es.length, by simp [Builtin.len_, run_und hu, goInt], .int .i64 es.length, rfl, h⟩
  · obtain ⟨e, hu⟩ := und_kind1 ht
    cases hx
    exact ⟨.int .i64 0, by simp [Builtin.len_, run_und hu, goInt], .int .i64 0, rfl, h⟩
  · rename_i len _
    obtain ⟨e, hu⟩ := und_kind1 ht
    obtain ⟨b, hμ, rfl⟩ := hx
    exact ⟨.int .i64 len, by simp [Builtin.len_, run_und hu, goInt], .int .i64 len, rfl, h⟩
  · exact h.elim

end Go.Abs
