/- The abstract layer, part G: slices' literals, make, append. -/
import Derived.Test.YtmbegappkkbfpaaAbsF
namespace Go.Abs
open Go Go.RowKit

variable {P : Program} {B : Nat} {w : World} {G : Gh} {H : Heap}

theorem made_rel {R : Value → AV → Prop} {z : Array Value} {zc : List AV} (h : All2 R z.toList zc) (hz : 0 < z.size) : ∀ n, All2 R ((Array.range (n * z.size)).map (z[· % z.size]!)).toList (List.replicate n zc).flatten := by
  intro n
  have hl := h.length
  simp at hl
  have hall : ∀ c ∈ List.replicate n zc, c.length = z.size := fun c hc => by rw [List.eq_of_mem_replicate hc, hl]
  have hfl := flat_len hall
  refine All2.of_get (by simp [hl]) fun k x y hx hy => ?_
  have hk : k < n * z.size := by
    have := (List.getElem?_eq_some_iff.1 hx).1
    simpa using this
  have hi : k / z.size < (List.replicate n zc).length := by simpa using (Nat.div_lt_iff_lt_mul hz).2 hk
  have hj : k % z.size < ((List.replicate n zc)[k / z.size]).length := by simp [← hl]; exact Nat.mod_lt _ hz
  have := flat_get hall (k / z.size) (k % z.size) hi hj
  rw [show k / z.size * z.size + k % z.size = k by rw [Nat.mul_comm]; exact Nat.div_add_mod k z.size, hy] at this
  simp only [List.getElem_replicate, Option.some.injEq] at this
  have hx' : z[k % z.size]! = x := by simpa [hk] using hx
  have hm : k % z.size < z.size := Nat.mod_lt _ hz
  have hzx : z.toList[k % z.size]? = some x := by
    rw [← hx']
    simp [hm]
  obtain ⟨b, h1, h2⟩ := h.get' hzx
  have : zc[k % z.size]? = some y := by rw [this]; simp
  rw [this] at h1
  cases h1
  exact h2

theorem flat_set {size : Nat} : ∀ {es : List (List AV)}, (∀ c ∈ es, c.length = size) → ∀ (i : Nat) (ds : List AV), i < es.length → (es.set i ds).flatten = es.flatten.take (i * size) ++ ds ++ es.flatten.drop (i * size + size)
  | [], _, i, _, hi => by simp at hi
  | e :: es, h, 0, ds, hi => by
    have he := h e (by simp)
    simp [← he]
  | e :: es, h, i + 1, ds, hi => by
    have he := h e (by simp)
    have := flat_set (es := es) (fun c hc => h c (by simp [hc])) i ds (by simpa using hi)
    rw [List.set_cons_succ, List.flatten_cons, this, List.flatten_cons]
    have h1 : (i + 1) * size = e.length + i * size := by rw [Nat.add_mul, he]; omega
    rw [h1, Nat.add_assoc]
    simp [List.take_append, List.drop_append, List.take_of_length_le, List.drop_eq_nil_of_le]

theorem fillS_rel {size : Nat} : ∀ (parts : List (Nat × Value)) (aparts : List (Nat × AV)) (cells : Array Value) (es es' : List (List AV)), (∀ c ∈ es, c.length = size) →
    All2 (fun (p : Nat × Value) (q : Nat × AV) => p.1 = q.1 ∧ TRel w G p.2 q.2) parts aparts → All2 (DRel w G.L) cells.toList es.flatten → fillS size aparts es = some es' →
    ∃ cells', Instr.fill (fun i => some (i * size, size)) cells parts = some cells' ∧ All2 (DRel w G.L) cells'.toList es'.flatten ∧ (∀ c ∈ es', c.length = size) ∧ es'.length = es.length
  | [], [], cells, es, es', hs, _, hc, hf => by
    simp [fillS] at hf
    subst hf
    exact ⟨cells, rfl, hc, hs, rfl⟩
  | (i, v) :: parts, (i', x) :: aparts, cells, es, es', hs, hp, hc, hf => by
    obtain ⟨⟨h1, h2⟩, h3⟩ := hp
    simp only [] at h1 h2
    subst h1
    unfold fillS at hf
    split at hf
    · rename_i xs hxs
      split at hf
      · rename_i ds hds
        split at hf
        · rename_i hb
          simp only [Bool.and_eq_true, beq_iff_eq, decide_eq_true_eq] at hb
          have hxr := plain_rel (cs_rel h2 hxs) hds
          have hlx := hxr.length
          have hlc := hc.length
          have hfl := flat_len hs
          simp at hlx
          simp only [Array.length_toList] at hlc
          have hmul : (i + 1) * size ≤ es.length * size := Nat.mul_le_mul_right _ hb.2
          rw [Nat.add_mul] at hmul
          have hfit : i * size + v.cells.size ≤ cells.size := by omega
          have hsp := arr_splice (i * size) v.cells cells hfit
          have hnew : All2 (DRel w G.L) (v.cells.zipIdx.foldl (fun cs (c, j) => cs.setIfInBounds (i * size + j) c) cells).toList (es.set i ds).flatten := by
            rw [hsp, flat_set hs i ds hb.2, hlx, hb.1]
            exact ((hc.take _).append hxr).append (hc.drop _)
          have hs' : ∀ c ∈ es.set i ds, c.length = size := fun c hcm => by
            rcases List.mem_or_eq_of_mem_set hcm with h | h
            · exact hs c h
            · rw [h]; exact hb.1
          obtain ⟨cells', hc1, hc2, hc3, hc4⟩ := fillS_rel parts aparts _ _ es' hs' h3 hnew hf
          refine ⟨cells', ?_, hc2, hc3, by rw [hc4]; simp⟩
          unfold Instr.fill
          simp only []
          rw [if_neg (by simp; omega)]
          exact hc1
        · cases hf
      · cases hf
    · cases hf

theorem sound_buildS {t e : TypeId} {size len : Nat} {z : Value} {parts : Array (Nat × Value)} {aparts : List (Nat × AV)} {K : AV → Heap → Prop} (hH : HRel B w G H) (he : tElem P t = some e) (hn : tSize P e = some size)
    (hz : tZero P e = some z) (h0 : 0 < size) (hlen : len * size ≤ 16777216) (hzl : (constCells z).length = size)
    (hr : All2 (fun (p : Nat × Value) (q : Nat × AV) => p.1 = q.1 ∧ TRel w G p.2 q.2) parts.toList aparts) (h : aBuildS size (constCells z) len aparts (K · H)) :
    OpOK P B w G K (((do pure (.value (← Instr.buildSlice t len parts))) : Sem Next).run P w) := by
  unfold aBuildS at h
  split at h
  · rename_i zc hzc
    split at h
    · rename_i es hes
      have hzr := rel_cells (w := w) (G := G) z
      have hzs : z.cells.size = size := by have := hzr.length; simp at this; omega
      have hzd := plain_rel hzr hzc
      have hm := made_rel hzd (by omega) len
      rw [hzs] at hm
      have hzcl : zc.length = size := by rw [plain_len hzc]; exact hzl
      have hall : ∀ c ∈ List.replicate len zc, c.length = size := fun c hc => by rw [List.eq_of_mem_replicate hc, hzcl]
      obtain ⟨cells', h1, h2, h3, h4⟩ := fillS_rel parts.toList aparts _ _ es hall hr hm hes
      simp at h4
      have hsz' : cells'.size = len * size := by
        have := h2.length
        rw [flat_len h3, h4] at this
        simpa using this
      obtain ⟨hx, hH'⟩ := hH.frozen cells' e (len * size)
      have hrun : ((do pure (.value (← Instr.buildSlice t len parts))) : Sem Next).run P w = .ok (.value (.slice (some ⟨w.heap.size, 0, none⟩) len len)) (w.alloc (.cells cells' e)) := by
        have hbig : ¬ (2 ^ 24 < len * size) := by omega
        by_cases hl0 : len * size = 0
        · have hl : len = 0 := by rcases Nat.mul_eq_zero.1 hl0 with h | h <;> omega
          subst hl
          simp only [Nat.zero_mul, Array.range_zero', Array.map_empty] at h1
          simp [Instr.buildSlice, run_und (und_elem he), run_size hn, h1, newRow, World.alloc_eq, Array.range_zero']
        · simp [Instr.buildSlice, run_und (und_elem he), run_size hn, run_zero hz, hbig, hl0, hzs, h1, newRow, World.alloc_eq]
      rw [hrun]
      refine ⟨.sl es .full, _, H, hx, hH', ⟨?_, some ⟨w.heap.size, 0, none⟩, by rw [h4]⟩, h⟩
      by_cases hne : es = []
      · subst hne
        simp at h4
        subst h4
        exact .slE _ _
      · have := DRel.of_flat (w := w.alloc (.cells cells' e)) (L := fun b => if b = w.heap.size then len * size else G.L b) (g := w.heap.size) (cap := len) (zs := cells'.toList) h3 hne (by omega) (by simp [h4]) (h2.mono fun _ _ => hx.drel)
          (fun j v hj => by rw [World.cell?_alloc_new]; simpa using hj)
        rw [h4] at this
        exact this
    · exact h.elim
  · exact h.elim

theorem sound_make {t e : TypeId} {size bytes : Nat} {z : Value} {vl vc : Value} {l c : AV} {K : AV → Heap → Prop} (hH : HRel B w G H) (he : tElem P t = some e) (hn : tSize P e = some size) (hby : tBytes P e = some bytes)
    (hz : tZero P e = some z) (h0 : 0 < size) (hzl : (constCells z).length = size) (hl : TRel w G vl l) (hc : TRel w G vc c) (h : aMake bytes (constCells z) l c H K) :
    OpOK P B w G K (((do pure (.value (← Instr.makeSlice t vl vc))) : Sem Next).run P w) := by
  unfold aMake at h
  split at h
  · rename_i l c
    cases hl
    cases hc
    obtain ⟨⟨h1, h2, h3, h4⟩, hk⟩ := h
    have hzr := rel_cells (w := w) (G := G) z
    have hzs : z.cells.size = size := by have := hzr.length; simp at this; omega
    unfold tSize at hn
    unfold tZero at hz
    unfold tBytes at hby
    cases hi : P.info? e with
    | none => simp [hi] at hn
    | some i =>
      simp [hi] at hn hz hby
      have hr := run_make (P := P) w t e i z (und_elem he) hi hz .i64 .i64 l c h1 h2 (by rw [hby, Int.mul_comm]; omega) h4
      have hm := made_rel hzr (by omega) c.toNat
      rw [hzs] at hm
      rw [hn] at hr
      obtain ⟨hx, hH'⟩ := hH.new (madeCells z.cells (c.toNat * size)) e _ (by simpa [madeCells, hzs] using hm)
      have hrun : ((do pure (.value (← Instr.makeSlice t (.int .i64 l) (.int .i64 c)))) : Sem Next).run P w = .ok (.value (.slice (some ⟨w.heap.size, 0, none⟩) l.toNat c.toNat)) (w.alloc (.cells (madeCells z.cells (c.toNat * size)) e)) := by
        rw [Sem.run_bind, hr]; rfl
      rw [hrun]
      refine ⟨.ms H.length 0 l.toNat c.toNat, _, _, hx, hH', ⟨w.heap.size, ?_, rfl⟩, hk⟩
      rw [← hH.len]; simp
  · exact h.elim

end Go.Abs
