/- The abstract layer, part F: literals, make, append. -/
import Derived.Test.YtmbegappkkbfpaaAbsE
import Derived.Laws.MakeOwn
namespace Go.Abs
open Go Go.RowKit

variable {P : Program} {B : Nat} {w : World} {G : Gh} {H : Heap}

/-! ### Splicing -/
theorem splice_set (l : List Value) (k : Nat) (v : Value) (rest : List Value) (hk : k + (rest.length + 1) ≤ l.length) :
    (l.set k v).take (k + 1) ++ rest ++ (l.set k v).drop (k + 1 + rest.length) = l.take k ++ (v :: rest) ++ l.drop (k + (rest.length + 1)) := list_seg_step l k v rest hk

theorem foldl_splice (off : Nat) : ∀ (vs : List Value) (k : Nat) (cs : Array Value), off + k + vs.length ≤ cs.size →
    ((vs.zipIdx k).foldl (fun (cs : Array Value) (p : Value × Nat) => cs.setIfInBounds (off + p.2) p.1) cs).toList = cs.toList.take (off + k) ++ vs ++ cs.toList.drop (off + k + vs.length)
  | [], k, cs, h => by simp
  | v :: vs, k, cs, h => by
    simp only [List.zipIdx_cons, List.foldl_cons]
    rw [foldl_splice off vs (k + 1) (cs.setIfInBounds (off + k) v) (by simp at h ⊢; omega)]
    have := splice_set cs.toList (off + k) v vs (by simp at h ⊢; omega)
    simpa [Array.toList_setIfInBounds, Nat.add_assoc] using this

theorem arr_splice (off : Nat) (vs cs : Array Value) (h : off + vs.size ≤ cs.size) :
    (vs.zipIdx.foldl (fun cs (c, j) => cs.setIfInBounds (off + j) c) cs).toList = cs.toList.take off ++ vs.toList ++ cs.toList.drop (off + vs.size) := by
  have := foldl_splice off vs.toList 0 cs (by simpa using h)
  simp only [Nat.add_zero, Array.length_toList] at this
  rw [← this, ← Array.foldl_toList, Array.toList_zipIdx]

theorem fill_rel {places : List (Nat × Nat)} : ∀ (parts : List (Nat × Value)) (aparts : List (Nat × AV)) (cells : Array Value) (cs cs' : List AV),
    All2 (fun (p : Nat × Value) (q : Nat × AV) => p.1 = q.1 ∧ TRel w G p.2 q.2) parts aparts → All2 (ARel w G) cells.toList cs → fillA places aparts cs = some cs' →
    ∃ cells', Instr.fill (places.toArray[·]?) cells parts = some cells' ∧ All2 (ARel w G) cells'.toList cs'
  | [], [], cells, cs, cs', _, hc, hf => by
    simp [fillA] at hf
    subst hf
    exact ⟨cells, rfl, hc⟩
  | (i, v) :: parts, (i', x) :: aparts, cells, cs, cs', hp, hc, hf => by
    obtain ⟨⟨h1, h2⟩, h3⟩ := hp
    simp only [] at h1 h2
    subst h1
    unfold fillA at hf
    split at hf
    · rename_i off size xs hpl hxs
      split at hf
      · rename_i hb
        simp only [Bool.and_eq_true, beq_iff_eq, decide_eq_true_eq] at hb
        have hxr := cs_rel h2 hxs
        have hlx := hxr.length
        have hlc := hc.length
        simp at hlx hlc
        have hfit : off + v.cells.size ≤ cells.size := by omega
        have hsp := arr_splice off v.cells cells hfit
        have hnew : All2 (ARel w G) (v.cells.zipIdx.foldl (fun cs (c, j) => cs.setIfInBounds (off + j) c) cells).toList (cs.take off ++ xs ++ cs.drop (off + size)) := by
          rw [hsp, hlx, hb.1]
          exact ((hc.take off).append hxr).append (hc.drop (off + size))
        obtain ⟨cells', hc1, hc2⟩ := fill_rel parts aparts _ _ cs' h3 hnew hf
        refine ⟨cells', ?_, hc2⟩
        unfold Instr.fill
        have hpl' : places.toArray[i]? = some (off, size) := by simpa using hpl
        simp only [hpl']
        rw [if_neg (by simp; omega)]
        exact hc1
      · cases hf
    · cases hf

theorem places_eq (fs : List Field) : (fs.mapM fun f => (tSize P f.type).map fun s => (f.offset, s)) = fs.mapM (fun f => (P.info? f.type).map fun i => (f.offset, i.size)) := by
  congr 1
  funext f
  simp [tSize, Function.comp_def]

theorem sound_build {t : TypeId} {z : Value} {ps : List (Nat × Nat)} {parts : Array (Nat × Value)} {aparts : List (Nat × AV)} {K : AV → Prop} (hz : tZero P t = some z) (hp : tPlaces P t = some ps)
    (hr : All2 (fun (p : Nat × Value) (q : Nat × AV) => p.1 = q.1 ∧ TRel w G p.2 q.2) parts.toList aparts) (h : aBuild (constCells z) ps aparts K) :
    ∃ r, (Instr.build t parts).run P w = .ok r w ∧ ∃ av, TRel w G r av ∧ K av := by
  unfold aBuild at h
  split at h
  · rename_i cs' hf
    obtain ⟨cells', h1, h2⟩ := fill_rel parts.toList aparts z.cells (constCells z) cs' hr (rel_cells z) hf
    refine ⟨.agg cells', run_build w t parts cells' ?_, .agg cs', ⟨cells', rfl, h2⟩, h⟩
    unfold Program.built
    unfold tZero at hz
    cases hi : P.info? t with
    | none => simp [hi] at hz
    | some it =>
      simp [hi] at hz
      unfold tPlaces at hp
      cases hu : P.underlying t with
      | none => simp [hu] at hp
      | some d =>
        cases d <;> simp only [hu, Option.bind_some] at hp <;> try (cases hp; done)
        rw [places_eq] at hp
        simp only [hz, hp]
        exact h1
  · exact h.elim

/-! ### Flat rows of data -/
theorem pd_rel {v : Value} {a d : AV} (h : ARel w G v a) (hd : a.pd = some d) : DRel w G.L v d := by
  cases a with
  | bool b => cases hd; cases h; exact .bool b
  | int k n => cases hd; cases h; exact .int k n
  | str s => cases hd; cases h; exact .str s
  | snil => cases hd; cases h; exact .slE _ _
  | sl es tok =>
    cases hd
    cases tok with
    | none => exact h
    | full => exact h.1
    | own id => exact h.1
  | _ => cases hd
theorem plain_rel : ∀ {vs : List Value} {as ds : List AV}, All2 (ARel w G) vs as → plain as = some ds → All2 (DRel w G.L) vs ds
  | [], [], ds, _, h => by cases h; trivial
  | v :: vs, a :: as, ds, hr, h => by
    unfold plain at h
    split at h
    · rename_i d ds' h1 h2
      cases h
      exact ⟨pd_rel hr.1 h1, plain_rel hr.2 h2⟩
    · cases h
theorem plain_len : ∀ {as ds : List AV}, plain as = some ds → ds.length = as.length
  | [], ds, h => by cases h; rfl
  | a :: as, ds, h => by
    unfold plain at h
    split at h
    · rename_i d ds' h1 h2
      cases h
      simp [plain_len h2]
    · cases h

theorem flat_len {size : Nat} : ∀ {es : List (List AV)}, (∀ c ∈ es, c.length = size) → es.flatten.length = es.length * size
  | [], _ => by simp
  | e :: es, h => by
    rw [List.flatten_cons, List.length_append, flat_len (fun c hc => h c (by simp [hc])), h e (by simp), List.length_cons, Nat.add_mul]
    omega
theorem flat_get {size : Nat} : ∀ {es : List (List AV)}, (∀ c ∈ es, c.length = size) → ∀ (i j : Nat) (hi : i < es.length) (hj : j < (es[i]).length), es.flatten[i * size + j]? = some (es[i])[j]
  | [], _, i, _, hi, _ => by simp at hi
  | e :: es, h, 0, j, hi, hj => by
    simp only [List.getElem_cons_zero] at hj ⊢
    rw [List.flatten_cons, List.getElem?_append_left (by omega)]
    simp [hj]
  | e :: es, h, i + 1, j, hi, hj => by
    simp only [List.getElem_cons_succ] at hj ⊢
    have he := h e (by simp)
    have := flat_get (es := es) (fun c hc => h c (by simp [hc])) i j (by simpa using hi) hj
    rw [List.flatten_cons, List.getElem?_append_right (by rw [he, Nat.add_mul]; omega), he]
    rw [show (i + 1) * size + j - size = i * size + j by rw [Nat.add_mul]; omega]
    exact this

/-- An immutable slice out of a flat row of cells. -/
theorem DRel.of_flat {L : Nat → Nat} {g size cap : Nat} {es : List (List AV)} {zs : List Value} (hsz : ∀ c ∈ es, c.length = size) (hne : es ≠ []) (hcap : es.length ≤ cap) (hL : es.length * size ≤ L g)
    (hr : All2 (DRel w L) zs es.flatten) (hc : ∀ j v, zs[j]? = some v → w.cell? ⟨g, j, none⟩ = some v) : DRel w L (.slice (some ⟨g, 0, none⟩) es.length cap) (.sl es .none) := by
  have hget : ∀ i j (hi : i < es.length) (hj : j < (es[i]).length), ∃ v, zs[i * size + j]? = some v ∧ DRel w L v (es[i])[j] := fun i j hi hj => hr.get (flat_get hsz i j hi hj)
  refine .sl g 0 cap size es (fun i j => zs.getD (i * size + j) undef) hne hcap (by omega) (fun i hi => hsz _ (List.getElem_mem hi)) (fun i j hi hj => ?_) (fun i j hi hj => ?_)
  · obtain ⟨v, h1, h2⟩ := hget i j hi hj
    simp only [Nat.zero_add, List.getD_eq_getElem?_getD, h1, Option.getD_some]
    exact hc _ _ h1
  · obtain ⟨v, h1, h2⟩ := hget i j hi hj
    simp only [List.getD_eq_getElem?_getD, h1, Option.getD_some]
    exact h2
/-- The cells of an immutable slice, as one row. -/
theorem DRel.flat {L : Nat → Nat} {v : Value} {es : List (List AV)} {size : Nat} (h : DRel w L v (.sl es .none)) (hne : es ≠ []) (hsz : ∀ c ∈ es, c.length = size) :
    ∃ b off cap zs, v = .slice (some ⟨b, off, none⟩) es.length cap ∧ zs.length = es.length * size ∧ All2 (DRel w L) zs es.flatten ∧ (∀ j u, zs[j]? = some u → w.cell? ⟨b, off + j, none⟩ = some u) ∧ off + es.length * size ≤ L b := by
  cases h with
  | slE a cap => exact absurd rfl hne
  | sl b off cap esz _ vs hne hcap hL hsz' hc hd =>
    have h0 : 0 < es.length := by cases es <;> simp_all
    have hesz : esz = size := by rw [← hsz' 0 h0]; exact hsz _ (List.getElem_mem h0)
    subst hesz
    have hfl := flat_len hsz
    -- position k of the row lies in element k / esz
    have hpos : ∀ k, k < es.length * esz → ∃ i j, ∃ (hi : i < es.length) (_ : j < (es[i]).length), k = i * esz + j := by
      intro k hk
      have hz : 0 < esz := by cases esz <;> simp_all
      refine ⟨k / esz, k % esz, ?_, ?_, ?_⟩
      · exact (Nat.div_lt_iff_lt_mul hz).2 hk
      · rw [hsz' _ _]; exact Nat.mod_lt _ hz
      · rw [Nat.mul_comm]; exact (Nat.div_add_mod k esz).symm
    refine ⟨b, off, cap, (List.range (es.length * esz)).map (fun k => vs (k / esz) (k % esz)), rfl, by simp, ?_, ?_, hL⟩
    · refine All2.of_get (by simp [hfl]) fun k x y hx hy => ?_
      have hk : k < es.length * esz := by
        have := (List.getElem?_eq_some_iff.1 hx).1
        simpa using this
      obtain ⟨i, j, hi, hj, rfl⟩ := hpos k hk
      have hj' : j < esz := by rw [← hsz' i hi]; exact hj
      rw [flat_get hsz i j hi hj] at hy
      cases hy
      simp only [List.getElem?_map, List.getElem?_range hk, Option.map_some, Option.some.injEq] at hx
      have hz : 0 < esz := by omega
      rw [show (i * esz + j) / esz = i by rw [Nat.mul_comm, Nat.mul_add_div hz, Nat.div_eq_of_lt hj']; omega, show (i * esz + j) % esz = j by rw [Nat.mul_comm, Nat.mul_add_mod, Nat.mod_eq_of_lt hj']] at hx
      rw [← hx]
      exact hd i j hi hj
    · intro k u hx
      have hk : k < es.length * esz := by
        have := (List.getElem?_eq_some_iff.1 hx).1
        simpa using this
      obtain ⟨i, j, hi, hj, rfl⟩ := hpos k hk
      have hj' : j < esz := by rw [← hsz' i hi]; exact hj
      simp only [List.getElem?_map, List.getElem?_range hk, Option.map_some, Option.some.injEq] at hx
      have hz : 0 < esz := by omega
      rw [show (i * esz + j) / esz = i by rw [Nat.mul_comm, Nat.mul_add_div hz, Nat.div_eq_of_lt hj']; omega, show (i * esz + j) % esz = j by rw [Nat.mul_comm, Nat.mul_add_mod, Nat.mod_eq_of_lt hj']] at hx
      rw [← hx, ← Nat.add_assoc]
      exact hc i j hi hj

end Go.Abs
