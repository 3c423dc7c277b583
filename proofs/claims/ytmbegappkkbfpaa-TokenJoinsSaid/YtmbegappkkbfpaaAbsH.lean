/- The abstract layer, part H: append; every operation. -/
import Derived.Test.YtmbegappkkbfpaaAbsG
namespace Go.Abs
open Go Go.RowKit

variable {P : Program} {B : Nat} {w : World} {G : Gh} {H : Heap}

/-- Appending nothing. -/
theorem run_append_zero {t t' ty e : TypeId} {a c : Option Addr} {n cap cap' : Nat} (he : tElem P t = some e) (he' : tElem P t' = some e) (hs : ∃ s, tSize P e = some s) (hk : n ≤ cap) :
    (Builtin.append_ #[t, t'] ty #[.slice a n cap, .slice c 0 cap']).run P w = .ok (.slice a n cap) w := by
  obtain ⟨s, hs⟩ := hs
  have hl : ∀ x, (loadCells x 0).run P w = .ok #[] w := fun x => by simpa using run_loadCells_list (P := P) w x [] (by simp)
  have hst : ∀ x, (storeCells x [] 0).run P w = .ok () w := fun x => rfl
  cases a <;> cases c <;> simp [Builtin.append_, run_und (und_elem he), run_und (und_elem he'), run_size hs, Builtin.lenOf, hk, Builtin.firstCells, hl, hst]

theorem ownsRow_form {v : Value} {e : TypeId} {size n : Nat} {xs : List Value} (h : w.ownsRow B e size v n xs) : ∃ a cap, v = .slice a n cap ∧ n ≤ cap := by
  rcases h.2 with ⟨rfl, rfl⟩ | ⟨g, cap, cur, rfl, h1, h2, h3, h4⟩
  · exact ⟨none, 0, rfl, Nat.le_refl _⟩
  · exact ⟨_, cap, rfl, h3⟩

/-- The cells of an owned row. -/
theorem ownsRow_cells {e : TypeId} {size n cap g : Nat} {xs : List Value} (h : w.ownsRow B e size (.slice (some ⟨g, 0, none⟩) n cap) n xs) :
    xs.length = n * size ∧ B ≤ g ∧ g < w.heap.size ∧ ∀ (j : Nat), j < n * size → w.cell? ⟨g, j, none⟩ = xs[j]? := by
  obtain ⟨h0, h1⟩ := h
  rcases h1 with ⟨h1, _⟩ | ⟨g', cap', cur, h1, h2, h3, h4, h5, h6, h7⟩
  · simp at h1
  · simp at h1
    obtain ⟨rfl, rfl⟩ := h1
    refine ⟨h0, h2, (Array.getElem?_eq_some_iff.1 h3).1, fun j hj => ?_⟩
    rw [← h7]
    simp only [World.cell?, h3]
    rw [List.getElem?_take_of_lt hj]
    simp

/-- An append of some elements to an owned row: in place, or into a new row. -/
theorem own_run {t ty e : TypeId} {i : TypeInfo} {z : Value} (ht : P.underlying t = some (.slice e)) (hi : P.info? e = some i) (hz : i.zero = some z) (hzs : z.cells.size = i.size) {v : Value} {n : Nat} {xs : List Value}
    (hown : w.ownsRow B e i.size v n xs) (a : Addr) (m c : Nat) (news : List Value) (hl : news.length = m * i.size) (hnews : ∀ j u, news[j]? = some u → w.cell? (a.add j) = some u) (h1 : ∀ u ∈ news, u.oneCell' = true)
    (hm : 0 < m) (h63 : n + m ≤ maxLen) (hbytes : (n + m) * i.bytes ≤ 140737488355328) (hbase : B ≤ w.heap.size) :
    ∃ v' w', (Builtin.append_ #[t, t] ty #[v, .slice (some a) m c]).run P w = .ok v' w' ∧ w'.ownsRow B e i.size v' (n + m) (xs ++ news) ∧
      ((∃ g, v.ownBlock = some g ∧ v'.ownBlock = some g ∧ w.grownBy w' (some g)) ∨ (v'.ownBlock = some w.heap.size ∧ w.grownBy w' none)) := by
  have hsmall : n + m ≤ 9223372036854775807 := by simp only [maxLen] at h63; omega
  have hlen : (xs ++ news).length = (n + m) * i.size := by rw [List.length_append, hown.1, hl, Nat.add_mul]
  have grown : ∀ (old : Nat), old < n + m →
      (w.drew.alloc (.cells (xs.toArray ++ news.toArray ++ Builtin.zeroCells z.cells (grownCap w (n + m) old e - (n + m))) e)).ownsRow B e i.size
        (.slice (some ⟨w.heap.size, 0, none⟩) (n + m) (grownCap w (n + m) old e)) (n + m) (xs ++ news) ∧
      w.grownBy (w.drew.alloc (.cells (xs.toArray ++ news.toArray ++ Builtin.zeroCells z.cells (grownCap w (n + m) old e - (n + m))) e)) none := by
    intro old ho
    have hge := grownCap_ge w (n + m) old e
    have hcm : grownCap w (n + m) old e ≤ maxLen := grownCap_le_maxLen w (n + m) old e h63
    refine ⟨⟨hlen, .inr ⟨w.heap.size, _, _, rfl, hbase, heap_alloc_new w.drew _, hge, hcm, ?_, ?_⟩⟩, ⟨rfl, rfl, rfl, by simp, fun k hk _ => heap_alloc_old w.drew _ k hk⟩⟩
    · simp only [Array.size_append, List.size_toArray, size_zeroCells, hzs, hown.1, hl, ← Nat.add_mul]
      congr 1
      omega
    · simp only [Array.toList_append, List.append_assoc]
      rw [← List.append_assoc, ← hlen]
      exact List.take_left
  rcases hown.2 with ⟨rfl, rfl⟩ | ⟨g, cap, cur, rfl, hbg, hg, hnc, hcm, hcs, htake⟩
  · have hx : xs = [] := List.eq_nil_of_length_eq_zero (by simpa using hown.1)
    subst hx
    have hr := run_append_nil (P := P) w t ty e i z ht hi hz a m c news hl hnews hm (by omega) (by have hb := hbytes; simp only [Nat.zero_add] at hb; omega)
    have hgr := grown 0 (by omega)
    simp only [Nat.zero_add, List.nil_append, Array.empty_append] at hgr ⊢
    exact ⟨_, _, hr, hgr.1, .inr ⟨rfl, hgr.2⟩⟩
  · by_cases hroom : n + m ≤ cap
    · have hfit : n * i.size + news.length ≤ cur.size := by rw [hl, hcs, ← Nat.add_mul]; exact Nat.mul_le_mul_right _ hroom
      have hr := run_append_room (P := P) w t ty e i ht hi g n cap cur hg a m c news hl hnews h1 hroom hfit
      refine ⟨_, _, hr, ⟨hlen, .inr ⟨g, cap, _, rfl, hbg, setRow_heap w g cur _ e _ hg, hroom, hcm, ?_, ?_⟩⟩, .inl ⟨g, rfl, rfl, ⟨rfl, rfl, rfl, by simp, fun k _ hk => setRow_other w g k _ (fun e => hk (by simp [e]))⟩⟩⟩
      · simp only [List.size_toArray, List.length_append, List.length_take, List.length_drop, Array.length_toList]
        omega
      · rw [htake, ← hlen]
        exact List.take_left
    · have holds : ∀ j u, xs[j]? = some u → w.cell? ((⟨g, 0, none⟩ : Addr).add j) = some u := hown.cells (g := g) rfl
      have hr := run_append_grow (P := P) w t ty e i z ht hi hz ⟨g, 0, none⟩ n cap xs hown.1 holds a m c news hl hnews (by omega) (by omega) (growslice_fits (by omega) hbytes)
      have hgr := grown cap (by omega)
      exact ⟨_, _, hr, hgr.1, .inr ⟨rfl, hgr.2⟩⟩

/-- What an append to an owned row leaves. -/
theorem own_step {e : TypeId} {size n m id : Nat} {v v' : Value} {w' : World} {xs news : List Value} {es ys : List (List AV)} (hH : HRel B w G H)
    (hHid : H[id]? = some (.perm e size n)) (hμ : G.μ[id]? = some (.own v size n)) (hown : w.ownsRow B e size v n xs) (hown' : w'.ownsRow B e size v' (n + m) (xs ++ news))
    (hcase : (∃ g, v.ownBlock = some g ∧ v'.ownBlock = some g ∧ w.grownBy w' (some g)) ∨ (v'.ownBlock = some w.heap.size ∧ w.grownBy w' none))
    (hm : ys.length = m) (hm0 : 0 < m) (hes : es.length = n) (hse : ∀ c ∈ es, c.length = size) (hsy : ∀ c ∈ ys, c.length = size)
    (hx : All2 (DRel w G.L) xs es.flatten) (hn : All2 (DRel w G.L) news ys.flatten) :
    ∃ G', Ext B w G w' G' ∧ HRel B w' G' (H.set id (.perm e size (n + m))) ∧ TRel w' G' v' (.sl (es ++ ys) (.own id)) := by
  obtain ⟨_, _, ⟨_, _⟩, hLown⟩ := hH.ok id _ _ hHid hμ
  obtain ⟨hl', hrow⟩ := hown'
  rcases hrow with ⟨hv, hz⟩ | ⟨g, cap, cur, hv, hBg, hg', hc1, hc2, hc3, hc4⟩
  · omega
  subst hv
  have hown' : w'.ownsRow B e size (.slice (some ⟨g, 0, none⟩) (n + m) cap) (n + m) (xs ++ news) := ⟨hl', .inr ⟨g, cap, cur, rfl, hBg, hg', hc1, hc2, hc3, hc4⟩⟩
  obtain ⟨_, _, hglt, hcell'⟩ := ownsRow_cells hown'
  have hcase : (v.ownBlock = some g ∧ w.grownBy w' (some g)) ∨ (g = w.heap.size ∧ w.grownBy w' none) := by
    rcases hcase with ⟨g0, h1, h2, h3⟩ | ⟨h1, h2⟩
    · simp [Value.ownBlock] at h2; subst h2; exact .inl ⟨h1, h3⟩
    · simp [Value.ownBlock] at h1; exact .inr ⟨h1, h2⟩
  have hB : ∀ b, v.ownBlock = some b → B ≤ b := fun b hb => by
    rcases hown.2 with ⟨rfl, _⟩ | ⟨g0, cap0, cur0, rfl, hB0, _⟩
    · simp [Value.ownBlock] at hb
    · simp [Value.ownBlock] at hb; omega
  have hLg : G.L g ≤ (n + m) * size := by
    rcases hcase with ⟨h, _⟩ | ⟨h, _⟩
    · rw [hLown g h]; exact Nat.mul_le_mul_right _ (by omega)
    · rw [hH.fresh g (by omega)]; exact Nat.zero_le _
  -- all other blocks are as they were
  have hsame : ∀ b, b < w.heap.size → b ≠ g → w'.heap[b]? = w.heap[b]? := by
    intro b hb hne
    rcases hcase with ⟨_, h⟩ | ⟨_, h⟩
    · exact h.block b hb (by simp [hne])
    · exact h.block b hb (by simp)
  have hsize : w.heap.size ≤ w'.heap.size := by rcases hcase with ⟨_, h⟩ | ⟨_, h⟩ <;> exact h.size
  have hoth : ∀ (id' : Nat) gi b, id' ≠ id → G.μ[id']? = some gi → gi.block = some b → b ≠ g := by
    intro id' gi b hne h1 h2 hbg
    subst hbg
    rcases hcase with ⟨h, _⟩ | ⟨h, _⟩
    · exact hne (hH.dist id' id gi _ b h1 hμ h2 (by simpa [GI.block] using h))
    · have := hH.lt id' gi b h1 h2; omega
  have hidlt : id < G.μ.length := (List.getElem?_eq_some_iff.1 hμ).1
  have he : Ext B w G w' ⟨fun b => if b = g then (n + m) * size else G.L b, G.μ.set id (.own (.slice (some ⟨g, 0, none⟩) (n + m) cap) size (n + m))⟩ := by
    refine ⟨?_, ?_, ?_, ?_⟩
    · have hb : ∀ k, k < B → w'.heap[k]? = w.heap[k]? := fun k hk => hsame k (Nat.lt_of_lt_of_le hk hH.base) (by
        intro hkg
        subst hkg
        rcases hcase with ⟨h, _⟩ | ⟨h, _⟩
        · have := hB k h; omega
        · have := hH.base; omega)
      rcases hcase with ⟨_, h⟩ | ⟨_, h⟩ <;> exact ⟨h.os, h.tape, h.output, h.size, hb⟩
    · intro b
      by_cases hb : b = g
      · subst hb; simpa using hLg
      · simp [hb]
    · intro b off hoff
      by_cases hbg : b = g
      · subst hbg
        rcases hcase with ⟨h, _⟩ | ⟨h, _⟩
        · rcases hown.2 with ⟨rfl, _⟩ | ⟨g0, cap0, cur0, rfl, hB0, hw0, _⟩
          · simp [Value.ownBlock] at h
          · simp [Value.ownBlock] at h
            subst h
            rw [hLown _ rfl] at hoff
            obtain ⟨hxl, _, _, hc0⟩ := ownsRow_cells hown
            rw [hc0 off hoff, hcell' off (Nat.lt_of_lt_of_le hoff (Nat.mul_le_mul_right _ (by omega))), List.getElem?_append_left (by omega)]
        · rw [hH.fresh b (by omega)] at hoff; omega
      · exact cell_block (hsame b (L_lt hH hoff) hbg)
    · intro id' gi h1
      by_cases hid : id' = id
      · subst hid
        rw [hμ] at h1
        cases h1
        exact ⟨_, List.getElem?_set_self hidlt, rfl, .inr (by omega)⟩
      · exact ⟨gi, by simp only []; rw [List.getElem?_set_ne (fun h => hid h.symm)]; exact h1, gi.le_refl⟩
  have hsplit : ∀ (id' : Nat) gi, (G.μ.set id (.own (.slice (some ⟨g, 0, none⟩) (n + m) cap) size (n + m)))[id']? = some gi →
      (id' = id ∧ gi = .own (.slice (some ⟨g, 0, none⟩) (n + m) cap) size (n + m)) ∨ (id' ≠ id ∧ G.μ[id']? = some gi) := by
    intro id' gi h
    by_cases hid : id' = id
    · subst hid
      rw [List.getElem?_set_self hidlt] at h
      cases h
      exact .inl ⟨rfl, rfl⟩
    · rw [List.getElem?_set_ne (fun h => hid h.symm)] at h
      exact .inr ⟨hid, h⟩
  refine ⟨_, he, ⟨by simp [hH.len], ?_, ?_, ?_, ?_, Nat.le_trans hH.base hsize⟩, ⟨?_, _, size, n + m, List.getElem?_set_self hidlt, by simp; omega, fun _ => ⟨rfl, fun c hc => ?_⟩⟩⟩
  · intro id' ab gi h1 h2
    rcases hsplit id' gi h2 with ⟨rfl, rfl⟩ | ⟨hid, h2⟩
    · have hlt : id' < H.length := by rw [← hH.len]; exact hidlt
      rw [List.getElem?_set_self hlt] at h1
      cases h1
      refine ⟨rfl, rfl, ⟨_, hown'⟩, fun b hb => ?_⟩
      simp [Value.ownBlock] at hb
      subst hb
      simp
    · rw [List.getElem?_set_ne (fun h => hid h.symm)] at h1
      refine (hH.ok id' ab gi h1 h2).keep he (fun b hb => ?_)
      have hne := hoth id' gi b hid h2 hb
      exact ⟨hsame b (hH.lt id' gi b h2 hb) hne, by simp [hne]⟩
  · intro i1 i2 gi1 gi2 b h1 h2 h3 h4
    rcases hsplit i1 gi1 h1 with ⟨e1, e2⟩ | ⟨hn1, k1⟩ <;> rcases hsplit i2 gi2 h2 with ⟨e3, e4⟩ | ⟨hn2, k2⟩
    · rw [e1, e3]
    · rw [e2] at h3
      simp [GI.block, Value.ownBlock] at h3
      exact absurd h3.symm (hoth i2 gi2 b hn2 k2 h4)
    · rw [e4] at h4
      simp [GI.block, Value.ownBlock] at h4
      exact absurd h4.symm (hoth i1 gi1 b hn1 k1 h3)
    · exact hH.dist i1 i2 gi1 gi2 b k1 k2 h3 h4
  · intro b hb
    have hne : b ≠ g := by intro h; subst h; omega
    simp [hne, hH.fresh b (by omega)]
  · intro i1 gi b h1 h2
    rcases hsplit i1 gi h1 with ⟨rfl, rfl⟩ | ⟨hn1, h1⟩
    · simp [GI.block, Value.ownBlock] at h2; omega
    · have := hH.lt i1 gi b h1 h2; omega
  · have hne : es ++ ys ≠ [] := by intro h; have := congrArg List.length h; rw [List.length_append, List.length_nil] at this; omega
    have hall : ∀ c ∈ es ++ ys, c.length = size := fun c hc => (List.mem_append.1 hc).elim (hse c) (hsy c)
    have hlen : (es ++ ys).length = n + m := by simp; omega
    have hfl := DRel.of_flat (w := w') (L := fun b => if b = g then (n + m) * size else G.L b) (g := g) (cap := cap) (zs := xs ++ news) hall hne (by omega) (by simp [hes, hm])
      (by rw [List.flatten_append]; exact (hx.append hn).mono fun _ _ => he.drel)
      (fun j u hj => by
        have hj' : j < (n + m) * size := by rw [← hl']; exact (List.getElem?_eq_some_iff.1 hj).1
        rw [hcell' j hj']; exact hj)
    rw [hlen] at hfl
    exact hfl
  · rcases List.mem_append.1 hc with h | h
    · exact hse c h
    · exact hsy c h

end Go.Abs
