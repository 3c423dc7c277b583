import Derived.Test.YtfpmdpldabopjaaGreatDoorA1
import Derived.Still
import Derived.Scope
import Derived.IntWalk
set_option linter.unusedSimpArgs false
namespace Go.Abs
open Go Go.RowKit

variable {P : Program} {B : Nat} {w : World} {G : Gh} {H : Heap}

theorem run_append_zero {t t' ty e : TypeId} {a c : Option Addr} {n cap cap' : Nat} (he : tElem P t = some e) (he' : tElem P t' = some e) (hs : ∃ s, tSize P e = some s) (hk : n ≤ cap) :
  (Builtin.append_ #[t, t'] ty #[.slice a n cap, .slice c 0 cap']).run P w = .ok (.slice a n cap) w := by
 obtain ⟨s, hs⟩ := hs
 have hl : ∀ x, (loadCells x 0).run P w = .ok #[] w := fun x => by simpa using run_loadCells_list (P := P) w x [] (by simp)
 have hst : ∀ x, (storeCells x [] 0).run P w = .ok () w := fun x => rfl
 cases a <;> cases c <;> simp [Builtin.append_, run_und (und_elem he), run_und (und_elem he'), run_size hs, Builtin.lenOf, hk, Builtin.firstCells, hl, hst]

theorem own_run {t ty e : TypeId} {i : TypeInfo} {z : Value} (ht : P.underlying t = some (.slice e)) (hi : P.info? e = some i) (hz : i.zero = some z) (hzs : z.cells.size = i.size) {v : Value} {n : Nat} {xs : List Value}
  (hown : w.ownsRow B e i.size v n xs) (a : Addr) (m c : Nat) (news : List Value) (hl : news.length = m * i.size) (hnews : ∀ j u, news[j]? = some u → w.cell? (a.add j) = some u) (h1 : ∀ u ∈ news, u.oneCell' = true)
  (hm : 0 < m) (h63 : n + m ≤ maxLen) (hbytes : (n + m) * i.bytes ≤ 140737488355328) (hbase : B ≤ w.heap.size) :
  ∃ v' w', (Builtin.append_ #[t, t] ty #[v, .slice (some a) m c]).run P w = .ok v' w' ∧ w'.ownsRow B e i.size v' (n + m) (xs ++ news) ∧
   ((∃ g, v.ownBlock = some g ∧ v'.ownBlock = some g ∧ w.grownBy w' (some g)) ∨ (v'.ownBlock = some w.heap.size ∧ w.grownBy w' none)) := by
 have hsmall : n + m ≤ 9223372036854775807 := by simp only [maxLen] at h63; omega
 have hlen : (xs ++ news).length = (n + m) * i.size := by rw [List.length_append, hown.1, hl, Nat.add_mul]
 have grown : ∀ (old : Nat), old < n + m →
   (w.drew.alloc (.cells (xs.toArray ++ news.toArray ++ Builtin.zeroCells z.cells (grownCap w (n + m) old e - (n + m))) e)).ownsRow B e i.size
    (.slice (some ⟨w.heap.size, 0, none⟩) (n + m) (grownCap w (n + m) old e)) (n + m) (xs ++ news) ∧
   w.grownBy (w.drew.alloc (.cells (xs.toArray ++ news.toArray ++ Builtin.zeroCells z.cells (grownCap w (n + m) old e - (n + m))) e)) none := by
  intro old ho
  have hge := grownCap_ge w (n + m) old e
  have hcm : grownCap w (n + m) old e ≤ maxLen := grownCap_le_maxLen w (n + m) old e h63
  refine ⟨⟨hlen, .inr ⟨w.heap.size, _, _, rfl, hbase, heap_alloc_new w.drew _, hge, hcm, ?_, ?_⟩⟩, ⟨rfl, rfl, rfl, by simp, fun k hk _ => heap_alloc_old w.drew _ k hk⟩⟩
  ·simp only [Array.size_append, List.size_toArray, size_zeroCells, hzs, hown.1, hl, ← Nat.add_mul]
   congr 1
   omega
  ·simp only [Array.toList_append, List.append_assoc]
   rw [← List.append_assoc, ← hlen]
   exact List.take_left
 rcases hown.2 with ⟨rfl, rfl⟩ | ⟨g, cap, cur, rfl, hbg, hg, hnc, hcm, hcs, htake⟩
 ·have hx : xs = [] := List.eq_nil_of_length_eq_zero (by simpa using hown.1)
  subst hx
  have hr := run_append_nil (P := P) w t ty e i z ht hi hz a m c news hl hnews hm (by omega) (by have hb := hbytes; simp only [Nat.zero_add] at hb; omega)
  have hgr := grown 0 (by omega)
  simp only [Nat.zero_add, List.nil_append, Array.empty_append] at hgr ⊢
  exact ⟨_, _, hr, hgr.1, .inr ⟨rfl, hgr.2⟩⟩
 ·by_cases hroom : n + m ≤ cap
  ·have hfit : n * i.size + news.length ≤ cur.size := by rw [hl, hcs, ← Nat.add_mul]; exact Nat.mul_le_mul_right _ hroom
   have hr := run_append_room (P := P) w t ty e i ht hi g n cap cur hg a m c news hl hnews h1 hroom hfit
   refine ⟨_, _, hr, ⟨hlen, .inr ⟨g, cap, _, rfl, hbg, setRow_heap w g cur _ e _ hg, hroom, hcm, ?_, ?_⟩⟩, .inl ⟨g, rfl, rfl, ⟨rfl, rfl, rfl, by simp, fun k _ hk => setRow_other w g k _ (fun e => hk (by simp [e]))⟩⟩⟩
   ·simp only [List.size_toArray, List.length_append, List.length_take, List.length_drop, Array.length_toList]
    omega
   ·rw [htake, ← hlen]
    exact List.take_left
  ·have holds : ∀ j u, xs[j]? = some u → w.cell? ((⟨g, 0, none⟩ : Addr).add j) = some u := hown.cells (g := g) rfl
   have hr := run_append_grow (P := P) w t ty e i z ht hi hz ⟨g, 0, none⟩ n cap xs hown.1 holds a m c news hl hnews (by omega) (by omega) (growslice_fits (by omega) hbytes)
   have hgr := grown cap (by omega)
   exact ⟨_, _, hr, hgr.1, .inr ⟨rfl, hgr.2⟩⟩

theorem full_run {t ty e : TypeId} {i : TypeInfo} {z : Value} (ht : P.underlying t = some (.slice e)) (hi : P.info? e = some i) (hz : i.zero = some z) (hzs : z.cells.size = i.size) {ad : Option Addr} {n : Nat} {xs : List Value}
  (hxl : xs.length = n * i.size) (hx : ∀ b, ad = some b → ∀ j u, xs[j]? = some u → w.cell? (b.add j) = some u) (hn : ad = none → n = 0) (a : Addr) (m c : Nat) (news : List Value) (hl : news.length = m * i.size) (hnews : ∀ j u, news[j]? = some u → w.cell? (a.add j) = some u)
  (hm : 0 < m) (h63 : n + m ≤ maxLen) (hbytes : (n + m) * i.bytes ≤ 140737488355328) (hbase : B ≤ w.heap.size) :
  ∃ v' w', (Builtin.append_ #[t, t] ty #[.slice ad n n, .slice (some a) m c]).run P w = .ok v' w' ∧ w'.ownsRow B e i.size v' (n + m) (xs ++ news) ∧ v'.ownBlock = some w.heap.size ∧ w.grownBy w' none := by
 have hsmall : n + m ≤ 9223372036854775807 := by simp only [maxLen] at h63; omega
 have hlen : (xs ++ news).length = (n + m) * i.size := by rw [List.length_append, hxl, hl, Nat.add_mul]
 have grown : ∀ (old : Nat), old < n + m →
   (w.drew.alloc (.cells (xs.toArray ++ news.toArray ++ Builtin.zeroCells z.cells (grownCap w (n + m) old e - (n + m))) e)).ownsRow B e i.size
    (.slice (some ⟨w.heap.size, 0, none⟩) (n + m) (grownCap w (n + m) old e)) (n + m) (xs ++ news) ∧
   w.grownBy (w.drew.alloc (.cells (xs.toArray ++ news.toArray ++ Builtin.zeroCells z.cells (grownCap w (n + m) old e - (n + m))) e)) none := by
  intro old ho
  have hge := grownCap_ge w (n + m) old e
  have hcm : grownCap w (n + m) old e ≤ maxLen := grownCap_le_maxLen w (n + m) old e h63
  refine ⟨⟨hlen, .inr ⟨w.heap.size, _, _, rfl, hbase, heap_alloc_new w.drew _, hge, hcm, ?_, ?_⟩⟩, ⟨rfl, rfl, rfl, by simp, fun k hk _ => heap_alloc_old w.drew _ k hk⟩⟩
  ·simp only [Array.size_append, List.size_toArray, size_zeroCells, hzs, hxl, hl, ← Nat.add_mul]
   congr 1
   omega
  ·simp only [Array.toList_append, List.append_assoc]
   rw [← List.append_assoc, ← hlen]
   exact List.take_left
 cases ad with
 | none =>
  obtain rfl := hn rfl
  have hx0 : xs = [] := List.eq_nil_of_length_eq_zero (by simpa using hxl)
  subst hx0
  have hr := run_append_nil (P := P) w t ty e i z ht hi hz a m c news hl hnews hm (by omega) (by have hb := hbytes; simp only [Nat.zero_add] at hb; omega)
  have hgr := grown 0 (by omega)
  simp only [Nat.zero_add, List.nil_append, Array.empty_append] at hgr ⊢
  exact ⟨_, _, hr, hgr.1, rfl, hgr.2⟩
 | some b =>
  have hr := run_append_grow (P := P) w t ty e i z ht hi hz b n n xs hxl (hx b rfl) a m c news hl hnews (by omega) (by omega) (growslice_fits (by omega) hbytes)
  have hgr := grown n (by omega)
  exact ⟨_, _, hr, hgr.1, rfl, hgr.2⟩
theorem own_step {e : TypeId} {size n m id : Nat} {v v' : Value} {w' : World} {xs news : List Value} {es ys : List (List AV)} (hH : HRel B w G H)
  (hHid : H[id]? = some (.perm e size n)) (hμ : G.μ[id]? = some (.own v size n)) (hown : w.ownsRow B e size v n xs) (hown' : w'.ownsRow B e size v' (n + m) (xs ++ news))
  (hcase : (∃ g, v.ownBlock = some g ∧ v'.ownBlock = some g ∧ w.grownBy w' (some g)) ∨ (v'.ownBlock = some w.heap.size ∧ w.grownBy w' none))
  (hm : ys.length = m) (hm0 : 0 < m) (hes : es.length = n) (hse : ∀ c ∈ es, c.length = size) (hsy : ∀ c ∈ ys, c.length = size)
  (hx : All2 (DRel w G.L) xs es.flatten) (hn : All2 (DRel w G.L) news ys.flatten) :
  ∃ G', Ext B w G w' G' ∧ HRel B w' G' (H.set id (.perm e size (n + m))) ∧ TRel w' G' v' (.sl (es ++ ys) (.own id)) := by
 obtain ⟨_, _, ⟨_, _⟩, hLown⟩ := hH.ok id _ _ hHid hμ
 obtain ⟨hl', hrow⟩ := hown'
 rcases hrow with ⟨hv, hz⟩ | ⟨g, cap, cur, hv, hBg, hg', hc1, hc2, hc3, hc4⟩
 ·omega
 subst hv
 have hown' : w'.ownsRow B e size (.slice (some ⟨g, 0, none⟩) (n + m) cap) (n + m) (xs ++ news) := ⟨hl', .inr ⟨g, cap, cur, rfl, hBg, hg', hc1, hc2, hc3, hc4⟩⟩
 obtain ⟨_, _, hglt, hcell'⟩ := ownsRow_cells hown'
 have hcase : (v.ownBlock = some g ∧ w.grownBy w' (some g)) ∨ (g = w.heap.size ∧ w.grownBy w' none) := by
  rcases hcase with ⟨g0, h1, h2, h3⟩ | ⟨h1, h2⟩
  ·simp [Value.ownBlock] at h2; subst h2; exact .inl ⟨h1, h3⟩
  ·simp [Value.ownBlock] at h1; exact .inr ⟨h1, h2⟩
 have hB : ∀ b, v.ownBlock = some b → B ≤ b := fun b hb => by
  rcases hown.2 with ⟨rfl, _⟩ | ⟨g0, cap0, cur0, rfl, hB0, _⟩
  ·simp [Value.ownBlock] at hb
  ·simp [Value.ownBlock] at hb; omega
 have hLg : G.L g ≤ (n + m) * size := by
  rcases hcase with ⟨h, _⟩ | ⟨h, _⟩
  ·rw [hLown g h]; exact Nat.mul_le_mul_right _ (by omega)
  ·rw [hH.fresh g (by omega)]; exact Nat.zero_le _
 -- all other blocks are as they were
 have hsame : ∀ b, b < w.heap.size → b ≠ g → w'.heap[b]? = w.heap[b]? := by
  intro b hb hne
  rcases hcase with ⟨_, h⟩ | ⟨_, h⟩
  ·exact h.block b hb (by simp [hne])
  ·exact h.block b hb (by simp)
 have hsize : w.heap.size ≤ w'.heap.size := by rcases hcase with ⟨_, h⟩ | ⟨_, h⟩ <;> exact h.size
 have hoth : ∀ (id' : Nat) gi b, id' ≠ id → G.μ[id']? = some gi → gi.block = some b → b ≠ g := by
  intro id' gi b hne h1 h2 hbg
  subst hbg
  rcases hcase with ⟨h, _⟩ | ⟨h, _⟩
  ·exact hne (hH.dist id' id gi _ b h1 hμ h2 (by simpa [GI.block] using h))
  ·have := hH.lt id' gi b h1 h2; omega
 have hidlt : id < G.μ.length := (List.getElem?_eq_some_iff.1 hμ).1
 have he : Ext B w G w' ⟨fun b => if b = g then (n + m) * size else G.L b, G.μ.set id (.own (.slice (some ⟨g, 0, none⟩) (n + m) cap) size (n + m))⟩ := by
  refine ⟨?_, ?_, ?_, ?_⟩
  ·have hb : ∀ k, k < B → w'.heap[k]? = w.heap[k]? := fun k hk => hsame k (Nat.lt_of_lt_of_le hk hH.base) (by
    intro hkg
    subst hkg
    rcases hcase with ⟨h, _⟩ | ⟨h, _⟩
    ·have := hB k h; omega
    ·have := hH.base; omega)
   rcases hcase with ⟨_, h⟩ | ⟨_, h⟩ <;> exact ⟨h.os, h.tape, h.output, h.size, hb⟩
  ·intro b
   by_cases hb : b = g
   ·subst hb; simpa using hLg
   ·simp [hb]
  ·intro b off hoff
   by_cases hbg : b = g
   ·subst hbg
    rcases hcase with ⟨h, _⟩ | ⟨h, _⟩
    ·rcases hown.2 with ⟨rfl, _⟩ | ⟨g0, cap0, cur0, rfl, hB0, hw0, _⟩
     ·simp [Value.ownBlock] at h
     ·simp [Value.ownBlock] at h
      subst h
      rw [hLown _ rfl] at hoff
      obtain ⟨hxl, _, _, hc0⟩ := ownsRow_cells hown
      rw [hc0 off hoff, hcell' off (Nat.lt_of_lt_of_le hoff (Nat.mul_le_mul_right _ (by omega))), List.getElem?_append_left (by omega)]
    ·rw [hH.fresh b (by omega)] at hoff; omega
   ·exact cell_block (hsame b (L_lt hH hoff) hbg)
  ·intro id' gi h1
   by_cases hid : id' = id
   ·subst hid
    rw [hμ] at h1
    cases h1
    exact ⟨_, List.getElem?_set_self hidlt, rfl, .inr (by omega)⟩
   ·exact ⟨gi, by simp only []; rw [List.getElem?_set_ne (fun h => hid h.symm)]; exact h1, gi.le_refl⟩
 have hsplit : ∀ (id' : Nat) gi, (G.μ.set id (.own (.slice (some ⟨g, 0, none⟩) (n + m) cap) size (n + m)))[id']? = some gi →
   (id' = id ∧ gi = .own (.slice (some ⟨g, 0, none⟩) (n + m) cap) size (n + m)) ∨ (id' ≠ id ∧ G.μ[id']? = some gi) := by
  intro id' gi h
  by_cases hid : id' = id
  ·subst hid
   rw [List.getElem?_set_self hidlt] at h
   cases h
   exact .inl ⟨rfl, rfl⟩
  ·rw [List.getElem?_set_ne (fun h => hid h.symm)] at h
   exact .inr ⟨hid, h⟩
 refine ⟨_, he, ⟨by simp [hH.len], ?_, ?_, ?_, ?_, Nat.le_trans hH.base hsize⟩, ⟨?_, _, size, n + m, List.getElem?_set_self hidlt, by simp; omega, fun _ => ⟨rfl, fun c hc => ?_⟩⟩⟩
 ·intro id' ab gi h1 h2
  rcases hsplit id' gi h2 with ⟨rfl, rfl⟩ | ⟨hid, h2⟩
  ·have hlt : id' < H.length := by rw [← hH.len]; exact hidlt
   rw [List.getElem?_set_self hlt] at h1
   cases h1
   refine ⟨rfl, rfl, ⟨_, hown'⟩, fun b hb => ?_⟩
   simp [Value.ownBlock] at hb
   subst hb
   simp
  ·rw [List.getElem?_set_ne (fun h => hid h.symm)] at h1
   refine (hH.ok id' ab gi h1 h2).keep he (fun b hb => ?_)
   have hne := hoth id' gi b hid h2 hb
   exact ⟨hsame b (hH.lt id' gi b h2 hb) hne, by simp [hne]⟩
 ·intro i1 i2 gi1 gi2 b h1 h2 h3 h4
  rcases hsplit i1 gi1 h1 with ⟨e1, e2⟩ | ⟨hn1, k1⟩ <;> rcases hsplit i2 gi2 h2 with ⟨e3, e4⟩ | ⟨hn2, k2⟩
  ·rw [e1, e3]
  ·rw [e2] at h3
   simp [GI.block, Value.ownBlock] at h3
   exact absurd h3.symm (hoth i2 gi2 b hn2 k2 h4)
  ·rw [e4] at h4
   simp [GI.block, Value.ownBlock] at h4
   exact absurd h4.symm (hoth i1 gi1 b hn1 k1 h3)
  ·exact hH.dist i1 i2 gi1 gi2 b k1 k2 h3 h4
 ·intro b hb
  have hne : b ≠ g := by intro h; subst h; omega
  simp [hne, hH.fresh b (by omega)]
 ·intro i1 gi b h1 h2
  rcases hsplit i1 gi h1 with ⟨rfl, rfl⟩ | ⟨hn1, h1⟩
  ·simp [GI.block, Value.ownBlock] at h2; omega
  ·have := hH.lt i1 gi b h1 h2; omega
 ·have hne : es ++ ys ≠ [] := by intro h; have := congrArg List.length h; rw [List.length_append, List.length_nil] at this; omega
  have hall : ∀ c ∈ es ++ ys, c.length = size := fun c hc => (List.mem_append.1 hc).elim (hse c) (hsy c)
  have hlen : (es ++ ys).length = n + m := by simp; omega
  have hfl := DRel.of_flat (w := w') (L := fun b => if b = g then (n + m) * size else G.L b) (g := g) (cap := cap) (zs := xs ++ news) hall hne (by omega) (by simp [hes, hm])
   (by rw [List.flatten_append]; exact (hx.append hn).mono fun _ _ => he.drel)
   (fun j u hj => by
    have hj' : j < (n + m) * size := by rw [← hl']; exact (List.getElem?_eq_some_iff.1 hj).1
    rw [hcell' j hj']; exact hj)
  rw [hlen] at hfl
  exact hfl
 ·rcases List.mem_append.1 hc with h | h
  ·exact hse c h
  ·exact hsy c h

theorem vec_step {e : TypeId} {size n m id : Nat} {v v' : Value} {w' : World} {xs news : List Value} {cs ds : List AV} (hH : HRel B w G H)
  (hHid : H[id]? = some (.vec e size n cs)) (hμ : G.μ[id]? = some (.own v size n)) (hown : w.ownsRow B e size v n xs) (hown' : w'.ownsRow B e size v' (n + m) (xs ++ news))
  (hcase : (∃ g, v.ownBlock = some g ∧ v'.ownBlock = some g ∧ w.grownBy w' (some g)) ∨ (v'.ownBlock = some w.heap.size ∧ w.grownBy w' none))
  (hm0 : 0 < m) (hx : All2 (ARel w G) xs cs) (hn : All2 (DRel w G.L) news ds) :
  ∃ G', Ext B w G w' G' ∧ HRel B w' G' (H.set id (.vec e size (n + m) (cs ++ ds))) ∧ TRel w' G' v' (.ov id (n + m)) := by
 obtain ⟨_, _, ⟨_, _, _⟩, hLown⟩ := hH.ok id _ _ hHid hμ
 obtain ⟨hl', hrow⟩ := hown'
 rcases hrow with ⟨hv, hz⟩ | ⟨g, cap, cur, hv, hBg, hg', hc1, hc2, hc3, hc4⟩
 ·omega
 subst hv
 have hown' : w'.ownsRow B e size (.slice (some ⟨g, 0, none⟩) (n + m) cap) (n + m) (xs ++ news) := ⟨hl', .inr ⟨g, cap, cur, rfl, hBg, hg', hc1, hc2, hc3, hc4⟩⟩
 obtain ⟨_, _, hglt, hcell'⟩ := ownsRow_cells hown'
 have hcase : (v.ownBlock = some g ∧ w.grownBy w' (some g)) ∨ (g = w.heap.size ∧ w.grownBy w' none) := by
  rcases hcase with ⟨g0, h1, h2, h3⟩ | ⟨h1, h2⟩
  ·simp [Value.ownBlock] at h2; subst h2; exact .inl ⟨h1, h3⟩
  ·simp [Value.ownBlock] at h1; exact .inr ⟨h1, h2⟩
 have hB : ∀ b, v.ownBlock = some b → B ≤ b := fun b hb => by
  rcases hown.2 with ⟨rfl, _⟩ | ⟨g0, cap0, cur0, rfl, hB0, _⟩
  ·simp [Value.ownBlock] at hb
  ·simp [Value.ownBlock] at hb; omega
 have hLg : G.L g = 0 := by
  rcases hcase with ⟨h, _⟩ | ⟨h, _⟩
  ·exact hLown g h
  ·exact hH.fresh g (by omega)
 have hsame : ∀ b, b < w.heap.size → b ≠ g → w'.heap[b]? = w.heap[b]? := by
  intro b hb hne
  rcases hcase with ⟨_, h⟩ | ⟨_, h⟩
  ·exact h.block b hb (by simp [hne])
  ·exact h.block b hb (by simp)
 have hsize : w.heap.size ≤ w'.heap.size := by rcases hcase with ⟨_, h⟩ | ⟨_, h⟩ <;> exact h.size
 have hoth : ∀ (id' : Nat) gi b, id' ≠ id → G.μ[id']? = some gi → gi.block = some b → b ≠ g := by
  intro id' gi b hne h1 h2 hbg
  subst hbg
  rcases hcase with ⟨h, _⟩ | ⟨h, _⟩
  ·exact hne (hH.dist id' id gi _ b h1 hμ h2 (by simpa [GI.block] using h))
  ·have := hH.lt id' gi b h1 h2; omega
 have hidlt : id < G.μ.length := (List.getElem?_eq_some_iff.1 hμ).1
 have he : Ext B w G w' ⟨G.L, G.μ.set id (.own (.slice (some ⟨g, 0, none⟩) (n + m) cap) size (n + m))⟩ := by
  refine ⟨?_, fun _ => Nat.le_refl _, ?_, ?_⟩
  ·have hb : ∀ k, k < B → w'.heap[k]? = w.heap[k]? := fun k hk => hsame k (Nat.lt_of_lt_of_le hk hH.base) (by
    intro hkg
    subst hkg
    rcases hcase with ⟨h, _⟩ | ⟨h, _⟩
    ·have := hB k h; omega
    ·have := hH.base; omega)
   rcases hcase with ⟨_, h⟩ | ⟨_, h⟩ <;> exact ⟨h.os, h.tape, h.output, h.size, hb⟩
  ·intro b off hoff
   by_cases hbg : b = g
   ·subst hbg; omega
   ·exact cell_block (hsame b (L_lt hH hoff) hbg)
  ·intro id' gi h1
   by_cases hid : id' = id
   ·subst hid
    rw [hμ] at h1
    cases h1
    exact ⟨_, List.getElem?_set_self hidlt, rfl, .inr (by omega)⟩
   ·exact ⟨gi, by simp only []; rw [List.getElem?_set_ne (fun h => hid h.symm)]; exact h1, gi.le_refl⟩
 have hsplit : ∀ (id' : Nat) gi, (G.μ.set id (.own (.slice (some ⟨g, 0, none⟩) (n + m) cap) size (n + m)))[id']? = some gi →
   (id' = id ∧ gi = .own (.slice (some ⟨g, 0, none⟩) (n + m) cap) size (n + m)) ∨ (id' ≠ id ∧ G.μ[id']? = some gi) := by
  intro id' gi h
  by_cases hid : id' = id
  ·subst hid
   rw [List.getElem?_set_self hidlt] at h
   cases h
   exact .inl ⟨rfl, rfl⟩
  ·rw [List.getElem?_set_ne (fun h => hid h.symm)] at h
   exact .inr ⟨hid, h⟩
 refine ⟨_, he, ⟨by simp [hH.len], ?_, ?_, ?_, ?_, Nat.le_trans hH.base hsize⟩, ⟨⟨_, _, rfl, fun _ => ⟨g, rfl⟩⟩, _, size, n + m, List.getElem?_set_self hidlt, Nat.le_refl _, fun _ => rfl⟩⟩
 ·intro id' ab gi h1 h2
  rcases hsplit id' gi h2 with ⟨rfl, rfl⟩ | ⟨hid, h2⟩
  ·have hlt : id' < H.length := by rw [← hH.len]; exact hidlt
   rw [List.getElem?_set_self hlt] at h1
   cases h1
   refine ⟨rfl, rfl, ⟨_, hown', (hx.mono fun _ _ => he.arel).append (hn.mono fun _ _ h => he.arel (ARel.of_b h.toB))⟩, fun b hb => ?_⟩
   simp [Value.ownBlock] at hb
   subst hb
   exact hLg
  ·rw [List.getElem?_set_ne (fun h => hid h.symm)] at h1
   refine (hH.ok id' ab gi h1 h2).keep he (fun b hb => ?_)
   have hne := hoth id' gi b hid h2 hb
   exact ⟨hsame b (hH.lt id' gi b h2 hb) hne, rfl⟩
 ·intro i1 i2 gi1 gi2 b h1 h2 h3 h4
  rcases hsplit i1 gi1 h1 with ⟨e1, e2⟩ | ⟨hn1, k1⟩ <;> rcases hsplit i2 gi2 h2 with ⟨e3, e4⟩ | ⟨hn2, k2⟩
  ·rw [e1, e3]
  ·rw [e2] at h3
   simp [GI.block, Value.ownBlock] at h3
   exact absurd h3.symm (hoth i2 gi2 b hn2 k2 h4)
  ·rw [e4] at h4
   simp [GI.block, Value.ownBlock] at h4
   exact absurd h4.symm (hoth i1 gi1 b hn1 k1 h3)
  ·exact hH.dist i1 i2 gi1 gi2 b k1 k2 h3 h4
 ·intro b hb
  exact hH.fresh b (by omega)
 ·intro i1 gi b h1 h2
  rcases hsplit i1 gi h1 with ⟨rfl, rfl⟩ | ⟨hn1, h1⟩
  ·simp [GI.block, Value.ownBlock] at h2; omega
  ·have := hH.lt i1 gi b h1 h2; omega

end Go.Abs
namespace Go.Abs
open Go Go.RowKit

variable {P : Program} {B : Nat} {w : World} {G : Gh} {H : Heap}

theorem HRel.newOwn (h : HRel B w G H) (e size : Nat) :
  Ext B w G w ⟨G.L, G.μ ++ [.own (.slice none 0 0) size 0]⟩ ∧ HRel B w ⟨G.L, G.μ ++ [.own (.slice none 0 0) size 0]⟩ (H ++ [.perm e size 0]) := by
 have he : Ext B w G w ⟨G.L, G.μ ++ [.own (.slice none 0 0) size 0]⟩ := ⟨Below.refl _ _, fun _ => Nat.le_refl _, fun _ _ _ => rfl, fun id gi hg => ⟨gi, by
  have : id < G.μ.length := (List.getElem?_eq_some_iff.1 hg).1
  simp only []
  rw [List.getElem?_append_left this]; exact hg, gi.le_refl⟩⟩
 have split : ∀ (id : Nat) gi, (G.μ ++ [.own (.slice none 0 0) size 0])[id]? = some gi → G.μ[id]? = some gi ∨ (id = G.μ.length ∧ gi = .own (.slice none 0 0) size 0) := by
  intro id gi hg
  by_cases hlt : id < G.μ.length
  ·rw [List.getElem?_append_left hlt] at hg; exact .inl hg
  ·have hlt2 := (List.getElem?_eq_some_iff.1 hg).1
   simp at hlt2
   have : id = G.μ.length := by omega
   subst this
   simp at hg
   exact .inr ⟨rfl, hg.symm⟩
 refine ⟨he, by simp [h.len], ?_, ?_, h.fresh, ?_, h.base⟩
 ·intro id ab gi h1 h2
  rcases split id gi h2 with h2 | ⟨rfl, rfl⟩
  ·have hlt : id < H.length := by rw [← h.len]; exact (List.getElem?_eq_some_iff.1 h2).1
   rw [List.getElem?_append_left hlt] at h1
   exact (h.ok id ab gi h1 h2).keep he (fun b hb => ⟨rfl, rfl⟩)
  ·rw [h.len] at h1
   simp at h1
   subst h1
   exact ⟨rfl, rfl, ⟨[], World.ownsRow_nil w B e size⟩, fun b hb => by simp [Value.ownBlock] at hb⟩
 ·intro id id' gi gi' b h1 h2 h3 h4
  rcases split id gi h1 with k1 | ⟨e1, e2⟩ <;> rcases split id' gi' h2 with k2 | ⟨e3, e4⟩
  ·exact h.dist id id' gi gi' b k1 k2 h3 h4
  ·rw [e4] at h4; simp [GI.block, Value.ownBlock] at h4
  ·rw [e2] at h3; simp [GI.block, Value.ownBlock] at h3
  ·rw [e1, e3]
 ·intro id gi b h1 h2
  rcases split id gi h1 with k1 | ⟨e1, e2⟩
  ·exact h.lt id gi b k1 h2
  ·rw [e2] at h2; simp [GI.block, Value.ownBlock] at h2

theorem drel_one {v : Value} {a : AV} (h : DRel w G.L v a) : v.oneCell' = true := by cases h <;> rfl

theorem xs_rel {e size n : Nat} {v : Value} {xs : List Value} {es : List (List AV)} (hown : w.ownsRow B e size v n xs) (hd : DRel w G.L v (.sl es .none)) (hes : es.length = n) (hsz : ∀ c ∈ es, c.length = size) : All2 (DRel w G.L) xs es.flatten := by
 by_cases hne : es = []
 ·subst hne
  simp at hes
  subst hes
  have : xs = [] := List.eq_nil_of_length_eq_zero (by simpa using hown.1)
  rw [this]
  trivial
 ·obtain ⟨b, off, cap, zs, hv, hl, hr, hc, _⟩ := hd.flat hne hsz
  have hoff : off = 0 := by
   rcases hown.2 with ⟨h1, _⟩ | ⟨g, cap', cur, h1, _⟩
   ·rw [hv] at h1; simp at h1
   ·rw [hv] at h1; simp at h1; exact h1.1.2
  subst hoff
  rw [hv, hes] at hown
  obtain ⟨hxl, _, _, hcx⟩ := ownsRow_cells hown
  have : xs = zs := by
   apply List.ext_getElem?
   intro j
   by_cases hj : j < n * size
   ·have hz : j < zs.length := by rw [hl, hes]; exact hj
    have := hc j zs[j] (by simp [hz])
    rw [Nat.zero_add] at this
    rw [← hcx j hj, this]
    simp [hz]
   ·rw [List.getElem?_eq_none (by omega), List.getElem?_eq_none (by rw [hl, hes]; omega)]
  rw [this]
  exact hr

theorem sound_append {t e ty : TypeId} {size bytes : Nat} {z : Value} {vx vy : Value} {x y : AV} {K : AV → Heap → Prop} (hH : HRel B w G H) (he : tElem P t = some e) (hn : tSize P e = some size) (hby : tBytes P e = some bytes)
  (hz : tZero P e = some z) (hzl : (constCells z).length = size) (hx : TRel w G vx x) (hy : TRel w G vy y) (h : aAppend e size bytes x y H K) :
  OpOK P B w G K (((do pure (.value (← Builtin.append_ #[t, t] ty #[vx, vy]))) : Sem Next).run P w) := by
 obtain ⟨ys, hdy, hsy, h⟩ : ∃ ys, DRel w G.L vy (.sl ys .none) ∧ (∀ c ∈ ys, c.length = size) ∧ aAppTo e size bytes x ys H K := by
  unfold aAppend aSrc at h
  split at h
  ·rename_i ys tok
   exact ⟨ys, sl_drel hy, h.1, h.2⟩
  ·cases hy
   exact ⟨[], .slE _ _, h.1, h.2⟩
  ·exact h.elim
 have hzr := rel_cells (w := w) (G := G) z
 have hzs : z.cells.size = size := by have := hzr.length; simp at this; omega
 -- the general step, for a right that is there already
 have main : ∀ (G0 : Gh) (H0 : Heap) (id : Nat) (es : List (List AV)) (v : Value), Ext B w G w G0 → HRel B w G0 H0 → H0[id]? = some (.perm e size es.length) → G0.μ[id]? = some (.own v size es.length) → DRel w G.L v (.sl es .none) →
   (∀ c ∈ es, c.length = size) → vx = v → (es.length + ys.length) * bytes ≤ 140737488355328 → es.length + ys.length ≤ 9223372036854775807 → K (.sl (es ++ ys) (.own id)) (H0.set id (.perm e size (es.length + ys.length))) →
   OpOK P B w G K (((do pure (.value (← Builtin.append_ #[t, t] ty #[vx, vy]))) : Sem Next).run P w) := by
  intro G0 H0 id es v hE hH0 hid hμ hdx hsx hvx hb1 hb2 hk
  subst hvx
  obtain ⟨_, _, ⟨xs, hown⟩, _⟩ := hH0.ok id _ _ hid hμ
  by_cases hys : ys = []
  ·subst hys
   obtain ⟨ay, capy, rfl, _⟩ := hdy.slice_form
   obtain ⟨ax, capx, rfl, hle⟩ := ownsRow_form hown
   have hrun := run_append_zero (P := P) (w := w) (ty := ty) (a := ax) (c := ay) (cap' := capy) he he ⟨size, hn⟩ hle
   simp only [List.length_nil]
   rw [Sem.run_bind, hrun]
   refine ⟨.sl es (.own id), G0, H0, hE, hH0, ⟨hE.drel hdx, _, size, es.length, hμ, Nat.le_refl _, fun _ => ⟨rfl, hsx⟩⟩, ?_⟩
   have : H0.set id (.perm e size (es.length + 0)) = H0 := by
    apply List.ext_getElem?
    intro k
    by_cases hk : k = id
    ·subst hk
     rw [List.getElem?_set_self (List.getElem?_eq_some_iff.1 hid).1]
     exact hid.symm
    ·rw [List.getElem?_set_ne (fun h => hk h.symm)]
   rw [List.length_nil, this] at hk
   simpa using hk
  ·obtain ⟨b, off, capy, news, hvy, hln, hrn, hcn, _⟩ := hdy.flat hys hsy
   subst hvy
   have hm0 : 0 < ys.length := by cases ys <;> simp_all
   unfold tSize at hn
   unfold tBytes at hby
   unfold tZero at hz
   cases hi : P.info? e with
   | none => simp [hi] at hn
   | some i =>
    simp [hi] at hn hby hz
    subst hn
    subst hby
    have hone : ∀ u ∈ news, u.oneCell' = true := fun u hu => by
     obtain ⟨j, hj⟩ := List.mem_iff_getElem?.1 hu
     obtain ⟨c, _, h2⟩ := hrn.get' hj
     exact drel_one h2
    obtain ⟨v', w', hrun, hown', hcase⟩ := own_run (P := P) (ty := ty) (und_elem he) hi hz hzs hown ⟨b, off, none⟩ ys.length capy news hln (fun j u hj => by rw [add_lit]; exact hcn j u hj) hone hm0 (by simp only [maxLen]; omega) hb1 hH0.base
    obtain ⟨G', hE', hH', hT⟩ := own_step hH0 hid hμ hown hown' hcase rfl hm0 rfl hsx hsy (xs_rel hown (hE.drel hdx) rfl hsx) (hrn.mono fun _ _ => hE.drel)
    rw [Sem.run_bind, hrun]
    exact ⟨_, G', _, hE.trans hE', hH', hT, hk⟩
 unfold aAppTo at h
 split at h
 ·cases hx
  obtain ⟨hE, hH0⟩ := hH.newOwn e size
  have hid : (H ++ [.perm e size 0])[H.length]? = some (.perm e size ([] : List (List AV)).length) := by simp
  refine main _ _ H.length [] _ hE hH0 hid (by rw [← hH.len]; simp) (.slE _ _) (by simp) rfl (by simpa using h.1.1) (by simpa using h.1.2) ?_
  simpa using h.2
 ·rename_i es id _
  obtain ⟨h1, ⟨h2, h3⟩, hk⟩ := h
  obtain ⟨hd, v', s', n', hμ, hle, heq⟩ := hx
  have hok := hH.ok id _ _ h1 hμ
  obtain ⟨hss, hnn, _⟩ := hok
  subst hnn
  subst hss
  obtain ⟨hvv, hsx⟩ := heq rfl
  subst hvv
  exact main G H id es _ (Ext.refl _ _ _) hH h1 hμ hd hsx rfl h2 h3 hk
 ·rename_i id n _
  split at h
  ·rename_i e' s' n' cs hid
   obtain ⟨⟨⟨rfl, rfl, rfl⟩, hb1, hb2⟩, hk⟩ := h
   obtain ⟨hsl, v', s0, n0, hμ, hle, heq⟩ := hx
   obtain ⟨rfl, rfl, ⟨xs, hown, hrx⟩, _⟩ := hH.ok id _ _ hid hμ
   obtain rfl := heq rfl
   by_cases hys : ys = []
   ·subst hys
    obtain ⟨ay, capy, rfl, _⟩ := hdy.slice_form
    obtain ⟨ax, capx, rfl, hle⟩ := ownsRow_form hown
    have hrun := run_append_zero (P := P) (w := w) (ty := ty) (a := ax) (c := ay) (cap' := capy) he he ⟨_, hn⟩ hle
    simp only [List.length_nil]
    rw [Sem.run_bind, hrun]
    refine ⟨.ov id n', G, H, Ext.refl _ _ _, hH, ⟨hsl, _, _, n', hμ, Nat.le_refl _, fun _ => rfl⟩, ?_⟩
    have : H.set id (.vec e' s' n' cs) = H := by
     apply List.ext_getElem?
     intro k
     by_cases hk : k = id
     ·subst hk
      rw [List.getElem?_set_self (List.getElem?_eq_some_iff.1 hid).1]
      exact hid.symm
     ·rw [List.getElem?_set_ne (fun h => hk h.symm)]
    simp only [List.length_nil, Nat.add_zero, List.flatten_nil, List.append_nil, this] at hk
    exact hk
   ·obtain ⟨b, off, capy, news, hvy, hln, hrn, hcn, _⟩ := hdy.flat hys hsy
    subst hvy
    have hm0 : 0 < ys.length := by cases ys <;> simp_all
    unfold tSize at hn
    unfold tBytes at hby
    unfold tZero at hz
    cases hi : P.info? e' with
    | none => simp [hi] at hn
    | some i =>
     simp [hi] at hn hby hz
     subst hn
     subst hby
     have hone : ∀ u ∈ news, u.oneCell' = true := fun u hu => by
      obtain ⟨j, hj⟩ := List.mem_iff_getElem?.1 hu
      obtain ⟨c, _, h2⟩ := hrn.get' hj
      exact drel_one h2
     obtain ⟨v2, w', hrun, hown', hcase⟩ := own_run (P := P) (ty := ty) (und_elem he) hi hz hzs hown ⟨b, off, none⟩ ys.length capy news hln (fun j u hj => by rw [add_lit]; exact hcn j u hj) hone hm0 (by simp only [maxLen]; omega) hb1 hH.base
     obtain ⟨G', hE', hH', hT⟩ := vec_step hH hid hμ hown hown' hcase hm0 hrx hrn
     rw [Sem.run_bind, hrun]
     exact ⟨_, G', _, hE', hH', hT, hk⟩
  ·exact h.elim
 ·rename_i es _
  obtain ⟨⟨hm0, hsx, hb1, hb2⟩, hk⟩ := h
  obtain ⟨hdx, ax, rfl⟩ := hx
  have hys : ys ≠ [] := fun h => by rw [h] at hm0; simp at hm0
  obtain ⟨b, off, capy, news, hvy, hln, hrn, hcn, _⟩ := hdy.flat hys hsy
  subst hvy
  unfold tSize at hn
  unfold tBytes at hby
  unfold tZero at hz
  cases hi : P.info? e with
  | none => simp [hi] at hn
  | some i =>
   simp [hi] at hn hby hz
   subst hn
   subst hby
   obtain ⟨xs, hxl, hrx, hxc, hx0⟩ : ∃ xs : List Value, xs.length = es.length * i.size ∧ All2 (DRel w G.L) xs es.flatten ∧ (∀ b, ax = some b → ∀ j u, xs[j]? = some u → w.cell? (b.add j) = some u) ∧ (ax = none → es.length = 0) := by
    by_cases hne : es = []
    ·subst hne
     exact ⟨[], by simp, trivial, fun b hb j u hj => by simp at hj, fun _ => rfl⟩
    ·obtain ⟨b2, off2, cap2, xs, hv2, hxl, hrx, hxc, _⟩ := hdx.flat hne hsx
     injection hv2 with e1 e2 e3
     subst e1
     refine ⟨xs, hxl, hrx, fun b hb j u hj => ?_, fun h => by cases h⟩
     injection hb with hb
     subst hb
     rw [add_lit]
     exact hxc j u hj
   obtain ⟨v', w', hrun, hown', hblk, hgr⟩ := full_run (P := P) (ty := ty) (und_elem he) hi hz hzs hxl hxc hx0 ⟨b, off, none⟩ ys.length capy news hln (fun j u hj => by rw [add_lit]; exact hcn j u hj) hm0 (by simp only [maxLen]; omega) hb1 hH.base
   obtain ⟨hE, hH0⟩ := hH.newOwn e i.size
   have hid : (H ++ [.perm e i.size 0])[H.length]? = some (.perm e i.size 0) := by simp
   obtain ⟨G', hE', hH', hT⟩ := own_step (es := []) (ys := es ++ ys) (xs := []) (news := xs ++ news) (m := es.length + ys.length) (v' := v') (w' := w') hH0 hid (by rw [← hH.len]; simp) (World.ownsRow_nil w B e i.size)
    (by simpa using hown') (.inr ⟨hblk, hgr⟩) (by simp) (by omega) rfl (by simp) (fun c hc => by
     rcases List.mem_append.1 hc with hc | hc
     ·exact hsx c hc
     ·exact hsy c hc) trivial (by rw [List.flatten_append]; exact (hrx.append hrn).mono fun _ _ => hE.drel)
   rw [Sem.run_bind, hrun]
   refine ⟨_, G', _, hE.trans hE', hH', hT, ?_⟩
   simpa using hk
 ·exact h.elim

theorem isB_rel {v : Value} {a : AV} (h : TRel w G v a) (hb : a.isB = true) : BRel w G v a := by
 cases a <;> first | exact h | (simp [AV.isB] at hb; done)
theorem isB_rels : ∀ {vs : List Value} {as : List AV}, All2 (TRel w G) vs as → as.all AV.isB = true → All2 (BRel w G) vs as
 | [], [], _, _ => trivial
 | v :: vs, a :: as, h, hb => by
  simp only [List.all_cons, Bool.and_eq_true] at hb
  exact ⟨isB_rel h.1 hb.1, isB_rels h.2 hb.2⟩


theorem of_pure {s : Sem Value} {K : AV → Heap → Prop} (hH : HRel B w G H) (h : ∃ r, s.run P w = .ok r w ∧ ∃ av, TRel w G r av ∧ K av H) : OpOK P B w G K (((do pure (.value (← s))) : Sem Next).run P w) := by
 obtain ⟨r, h1, av, h2, h3⟩ := h
 rw [Sem.run_bind, h1]
 exact ⟨av, G, H, Ext.refl _ _ _, hH, h2, h3⟩

theorem opt_rels {a : Act} {F : List AV} (hF : FRel w G a.tmps F) (x : Option Operand) : All2 (TRel w G) (x.map a.eval).toList (x.map (ev F)).toList := by
 cases x with
 | none => trivial
 | some x => exact ⟨ev_rel hF x, trivial⟩

theorem part_rels {a : Act} {F : List AV} (hF : FRel w G a.tmps F) (ps : List (Nat × Operand)) :
  All2 (fun (p : Nat × Value) (q : Nat × AV) => p.1 = q.1 ∧ TRel w G p.2 q.2) (ps.map fun (i, x) => (i, a.eval x)) (ps.map fun p => (p.1, ev F p.2)) := by
 induction ps with
 | nil => trivial
 | cons p ps ih => exact ⟨⟨rfl, ev_rel hF p.2⟩, ih⟩

theorem run_callFunc {f : FuncId} {vs : Array Value} (h : callable P f = true) : (callFunc f vs).run P w = .ok (.enter f vs) w := by
 unfold callable at h
 cases hf : P.funcs[f]? with
 | none => simp [hf] at h
 | some fn =>
  simp only [hf, Bool.and_eq_true, Bool.not_eq_true'] at h
  obtain ⟨h1, h2⟩ := h
  have h3 : fn.body.isNone = false := by cases hb : fn.body <;> simp_all
  simp only [callFunc, Sem.run_bind, run_program, Result.andThen_ok, hf, h1, h3, Bool.false_eq_true, if_false, Sem.run_pure]

theorem sound_call {c : Call} {ty : TypeId} {a : Act} {F : List AV} {fo : Operand} {K : AV → Heap → Prop} (hH : HRel B w G H) (hF : FRel w G a.tmps F) (hc : c.callee = .value fo)
  (h : aCallV P (ev F fo) (c.args.toList.map (ev F)) H K) : OpOK P B w G K (((do let d ← resolve a.eval c ty; invoke d.target d.args) : Sem Next).run P w) := by
 have hf := ev_rel hF fo
 unfold aCallV at h
 split at h
 ·rename_i f caps hfe
  rw [hfe] at hf
  obtain ⟨cs, hfv, hcaps⟩ := hf
  split at h
  ·rename_i hcall
   have hrun : ((do let d ← resolve a.eval c ty; invoke d.target d.args) : Sem Next).run P w = .ok (.enter f (c.args.map a.eval ++ cs)) w := by
    simp only [resolve, hc, hfv, Deferred.ofValue, Sem.run_bind, Sem.run_pure, Result.andThen_ok, invoke, Array.empty_append]
    exact run_callFunc hcall
   rw [hrun]
   refine ⟨rfl, h B w G _ hH ?_⟩
   have h1 := ev_rels hF c.args.toList
   have h2 : All2 (TRel w G) cs.toList caps := hcaps.mono fun _ _ hb => TRel.of_v (VRel.of_a (ARel.of_b hb))
   simpa using h1.append h2
  ·exact h.elim
 ·exact h.elim

theorem arr1 {α : Type} {xs : Array α} {x : α} (h : xs.toList = [x]) : xs = #[x] := by cases xs; simp_all
theorem arr2 {α : Type} {xs : Array α} {x y : α} (h : xs.toList = [x, y]) : xs = #[x, y] := by cases xs; simp_all

theorem sound_builtin {c : Call} {ty : TypeId} {a : Act} {F : List AV} {b : Builtin} {K : AV → Heap → Prop} (hH : HRel B w G H) (hF : FRel w G a.tmps F) (hc : c.callee = .builtin b)
  (h : aBuiltin P b c F H K) : OpOK P B w G K (((do let d ← resolve a.eval c ty; invoke d.target d.args) : Sem Next).run P w) := by
 cases b <;> simp only [aBuiltin] at h <;> (try exact h.elim)
 case append =>
  split at h
  ·rename_i x y t t' hargs htypes
   split at h
   ·rename_i e size bytes z he hs hb hz htt
    simp only [beq_iff_eq] at htt
    subst htt
    split at h
    ·rename_i hq
     simp only [Bool.and_eq_true, decide_eq_true_eq, beq_iff_eq] at hq
     simp only [he, Option.bind_some] at hs hz hb
     have h1 := arr2 hargs
     have h2 := arr2 htypes
     have hrun : ((do let d ← resolve a.eval c ty; invoke d.target d.args) : Sem Next).run P w = ((do pure (.value (← Builtin.append_ #[t, t] ty #[a.eval x, a.eval y]))) : Sem Next).run P w := by
      simp only [resolve, hc, h1, h2, List.map_toArray, List.map_cons, List.map_nil, Sem.run_bind, Sem.run_pure, Result.andThen_ok, invoke, builtin]
     rw [hrun]
     exact sound_append hH he hs hb hz hq.2 (ev_rel hF x) (ev_rel hF y) h
    ·exact h.elim
   ·exact h.elim
  ·exact h.elim
 case len =>
  split at h
  ·rename_i x t hargs htypes
   split at h
   ·rename_i u hu
    have h1 := arr1 hargs
    have h2 := arr1 htypes
    have hrun : ((do let d ← resolve a.eval c ty; invoke d.target d.args) : Sem Next).run P w = ((do pure (.value (← Builtin.len_ #[t] ty #[a.eval x]))) : Sem Next).run P w := by
     simp only [resolve, hc, h1, h2, List.map_toArray, List.map_cons, List.map_nil, Sem.run_bind, Sem.run_pure, Result.andThen_ok, invoke, builtin]
    rw [hrun]
    exact of_pure hH (sound_len (ev_rel hF x) hu h)
   ·exact h.elim
  ·exact h.elim

theorem op0_sound {o : Oper} {a : Act} {F : List AV} {K : AV → Heap → Prop} (hH : HRel B w G H) (hF : FRel w G a.tmps F) (h : aop0 P o F H K) : OpOK P B w G K ((execOp a.eval o).run P w) := by
 obtain ⟨dst, op, type, pos, after, guard⟩ := o
 unfold aop0 at h
 simp only [] at h
 cases op <;> (try simp only [] at h) <;> (try exact h.elim) <;> simp only [execOp]
 case move x => exact OpOK.same hH (ev_rel hF x) h
 case assign x => exact OpOK.same hH (ev_rel hF x) h
 case pick c x y =>
  unfold aPick at h
  split at h
  ·rename_i t ht
   have hc := ev_rel hF c
   rw [ht] at hc
   have hc : a.eval c = .bool t := hc
   have hrun : ((do pure (.value (if ← asBool (a.eval c) then a.eval x else a.eval y))) : Sem Next).run P w = .ok (.value (if t = true then a.eval x else a.eval y)) w := by
    rw [hc]; cases t <;> rfl
   rw [hrun]
   refine OpOK.same hH ?_ h
   cases t
   ·exact ev_rel hF y
   ·exact ev_rel hF x
  ·exact h.elim
 case alloc t =>
  split at h
  ·rename_i z hz
   exact sound_alloc hH hz h
  ·exact h.elim
 case box t x => exact sound_box hH (ev_rel hF x) h
 case build t parts =>
  split at h
  ·rename_i z ps hz hp
   exact of_pure hH (sound_build hz hp (by simpa using part_rels hF parts.toList) h)
  ·exact h.elim
 case buildSlice t len parts =>
  split at h
  ·rename_i size z hs hz
   split at h
   ·rename_i hb
    simp only [Bool.and_eq_true, decide_eq_true_eq, beq_iff_eq] at hb
    cases he : tElem P t with
    | none => simp [he] at hs
    | some e =>
     simp only [he, Option.bind_some] at hs hz
     exact sound_buildS hH he hs hz hb.1.1 hb.1.2 hb.2 (by simpa using part_rels hF parts.toList) h
   ·exact h.elim
  ·exact h.elim
 case load t x =>
  split at h
  ·rename_i g n hg hn
   obtain ⟨u, h1, av, h2, h3⟩ := sound_load hH (ev_rel hF x) hg hn h
   exact of_pure hH ⟨u, h1, av, h2, h3⟩
  ·exact h.elim
 case store t x y =>
  split at h
  ·rename_i n hn
   obtain ⟨w', H', h1, h2, h3, h4⟩ := sound_store hH (ev_rel hF x) (ev_rel hF y) hn h
   have hrun : ((do Instr.storeAt t (a.eval x) (a.eval y); pure .skip) : Sem Next).run P w = .ok .skip w' := by rw [Sem.run_bind, h1]; rfl
   rw [hrun]
   exact ⟨G, H', h2, h3, h4⟩
  ·exact h.elim
 case nilCheck x =>
  have hx := ev_rel hF x
  rw [aNil_def] at h
  split at h
  ·rename_i id off hid
   rw [hid] at hx h
   obtain ⟨b, hμ, hv⟩ := hx
   rw [hv]
   exact OpOK.same hH (av := .ptr id off) ⟨b, hμ, rfl⟩ h
  ·rename_i cs hid
   rw [hid] at hx h
   obtain ⟨b, off, hv, hc⟩ := hx
   rw [hv]
   exact OpOK.same hH (av := .view cs) ⟨b, off, rfl, hc⟩ h
  ·rename_i f cs hid
   rw [hid] at hx h
   obtain ⟨vs, hv, hc⟩ := hx
   rw [hv]
   exact OpOK.same hH (av := .fn f cs) ⟨vs, rfl, hc⟩ h
  ·rename_i id m off hid
   rw [hid] at hx h
   obtain ⟨⟨b, o, hv⟩, hr⟩ := hx
   rw [hv] at hr ⊢
   exact OpOK.same hH (av := .vp id m off) ⟨⟨b, o, rfl⟩, hr⟩ h
  ·exact h.elim
 case binOp op t x y yt =>
  split at h
  ·rename_i hy
   exact of_pure hH (sound_nilCmp (ev_rel hF x) hy h)
  ·exact of_pure hH (sound_bin (ev_rel hF x) (ev_rel hF y) h)
 case unOp op t x => exact of_pure hH (sound_un (ev_rel hF x) h)
 case convert s t x =>
  have hspec : ∀ k, cvK P s t = some k → (match k with
    | .ints k => (∃ j, P.underlying s = some (.int j)) ∧ P.underlying t = some (.int k)
    | .strs => P.underlying s = some .string ∧ P.underlying t = some .string
    | .bytes => ∃ e, P.underlying s = some (.slice e) ∧ P.underlying t = some .string ∧ tU8 P e = true) := by
   intro k hk
   unfold cvK at hk
   split at hk
   ·rename_i hs
    split at hk
    ·rename_i ht; cases hk; exact ⟨⟨_, hs⟩, ht⟩
    ·cases hk
   ·rename_i hs
    split at hk
    ·rename_i ht; cases hk; exact ⟨hs, ht⟩
    ·cases hk
   ·rename_i hs
    split at hk
    ·rename_i ht
     split at hk
     ·rename_i he; cases hk; exact ⟨_, hs, ht, he⟩
     ·cases hk
    ·cases hk
   ·cases hk
  split at h
  ·rename_i k hk
   obtain ⟨⟨j, hs⟩, ht⟩ := hspec _ hk
   exact of_pure hH (sound_conv (ev_rel hF x) hs ht h)
  ·rename_i hk
   obtain ⟨hs, ht⟩ := hspec _ hk
   exact of_pure hH (sound_convS (ev_rel hF x) hs ht h)
  ·rename_i hk
   obtain ⟨e, hs, ht, he⟩ := hspec _ hk
   exact of_pure hH (sound_convB (ev_rel hF x) hs ht he h)
  ·exact h.elim
 case makeFunc fn first caps =>
  cases fn <;> simp only [] at h <;> (try exact h.elim)
  rename_i f
  split at h
  ·rename_i hfirst
   obtain ⟨hb, hk⟩ := h
   have hf0 : first = #[] := by cases first; simp_all
   subst hf0
   have hrun : ((do pure (.value (← Instr.makeFunc (.func f) (Array.map a.eval #[]) (caps.map a.eval)))) : Sem Next).run P w = .ok (.value (.func (.func f) #[] (caps.map a.eval))) w := by simp [Instr.makeFunc]
   rw [hrun]
   refine OpOK.same hH (av := .fn f (caps.toList.map (ev F))) ⟨_, rfl, ?_⟩ hk
   have := isB_rels (ev_rels hF caps.toList) hb
   simpa using this
  ·exact h.elim
 case makeSlice t l c =>
  split at h
  ·rename_i size bytes z hs hb hz
   split at h
   ·rename_i hq
    simp only [Bool.and_eq_true, decide_eq_true_eq, beq_iff_eq] at hq
    cases he : tElem P t with
    | none => simp [he] at hs
    | some e =>
     simp only [he, Option.bind_some] at hs hz hb
     exact sound_make hH he hs hb hz hq.1 hq.2 (ev_rel hF l) (ev_rel hF c) h
   ·exact h.elim
  ·exact h.elim
 case slice t x lo hi mx =>
  cases mx <;> simp only [] at h <;> (try exact h.elim)
  split at h
  ·rename_i ht
   exact of_pure hH (sound_slice (ev_rel hF x) (opt_rels hF lo) (opt_rels hF hi) ht (by omega) h)
  ·rename_i ht
   split at h
   ·rename_i size hs
    exact of_pure hH (sound_slice (ev_rel hF x) (opt_rels hF lo) (opt_rels hF hi) ht (fun _ => hs) h)
   ·exact h.elim
  ·exact h.elim
 case fieldAddr s x i =>
  split at h
  ·rename_i f hf
   split at h
   ·rename_i n hn
    exact of_pure hH (sound_fld (ev_rel hF x) hf hn h)
   ·exact h.elim
  ·exact h.elim
 case field s x i =>
  split at h
  ·rename_i f hf
   split at h
   ·rename_i g n hg hn
    exact of_pure hH (sound_fldV (ev_rel hF x) hf hg hn h)
   ·exact h.elim
  ·exact h.elim
 case indexAddr t x i =>
  split at h
  ·rename_i size hs
   cases he : tElem P t with
   | none => simp [he] at hs
   | some e =>
    simp only [he, Option.bind_some] at hs
    exact of_pure hH (sound_idxA (ev_rel hF x) (ev_rel hF i) he hs h)
  ·exact h.elim
 case index t x i =>
  split at h
  ·rename_i ht
   exact of_pure hH (sound_idxS (ev_rel hF x) (ev_rel hF i) ht h)
  ·exact h.elim
 case extract x i => exact of_pure hH (sound_ext (ev_rel hF x) h)
 case call c =>
  split at h
  ·rename_i fo hc
   exact sound_call hH hF hc h
  ·rename_i b hc
   exact sound_builtin hH hF hc h
  ·exact h.elim

theorem opM_sound {o : Oper} {a : Act} {F : List AV} {K : AV → Heap → Prop} (hH : HRel B w G H) (hF : FRel w G a.tmps F) (h : aopM P o.op F H K) : OpOK P B w G K ((execOp a.eval o).run P w) := by
 obtain ⟨dst, op, type, pos, after, guard⟩ := o
 unfold aopM at h
 simp only [] at h
 cases op <;> (try simp only [] at h) <;> (try exact h.elim) <;> simp only [execOp]
 case makeMap t r =>
  split at h
  ·exact sound_mkmap hH h
  ·exact h.elim
 case lookup t x i ok =>
  split at h
  ·rename_i z hz
   cases he : tMapS P t with
   | none => simp [he] at hz
   | some e =>
    simp only [he, Option.bind_some] at hz
    exact of_pure hH (sound_lkp hH he hz (ev_rel hF x) (ev_rel hF i) h)
  ·exact h.elim
 case mapUpdate t m k x =>
  split at h
  ·rename_i e he
   obtain ⟨w', H', h1, h2, h3, h4⟩ := sound_mupd hH he (ev_rel hF m) (ev_rel hF k) (ev_rel hF x) h
   have hrun : ((do Instr.mapUpdate t (a.eval m) (a.eval k) (a.eval x); pure .skip) : Sem Next).run P w = .ok .skip w' := by rw [Sem.run_bind, h1]; rfl
   rw [hrun]
   exact ⟨G, H', h2, h3, h4⟩
  ·exact h.elim
 case insert t m k x =>
  split at h
  ·rename_i e he
   obtain ⟨w', H', h1, h2, h3, h4⟩ := sound_mupd hH he (ev_rel hF m) (ev_rel hF k) (ev_rel hF x) h
   have hrun : ((do Instr.mapUpdate t (a.eval m) (a.eval k) (a.eval x); pure .skip) : Sem Next).run P w = .ok .skip w' := by rw [Sem.run_bind, h1]; rfl
   rw [hrun]
   exact ⟨G, H', h2, h3, h4⟩
  ·exact h.elim
theorem op_sound {o : Oper} {a : Act} {F : List AV} {K : AV → Heap → Prop} (hH : HRel B w G H) (hF : FRel w G a.tmps F) (h : aop P o F H K) : OpOK P B w G K ((execOp a.eval o).run P w) := by
 unfold aop at h
 split at h
 ·exact opM_sound hH hF h
 ·exact op0_sound hH hF h

end Go.Abs
namespace Go.Abs
open Go Go.RowKit

variable {wc : WM} {P : Program} {B : Nat} {w : World} {G : Gh} {H : Heap}

theorem FRel.put {a : Act} {F : List AV} {d : Option Tmp} {v : Value} {av : AV} (hF : FRel w G a.tmps F) (hv : TRel w G v av) : FRel w G (a.put d v).tmps (putF F d av) := by
 cases d with
 | none => exact hF
 | some d =>
  unfold FRel at *
  simp only [Act.put, putF, Array.toList_setIfInBounds]
  exact All2.set d hF hv
theorem FRel.ext {w' : World} {G' : Gh} {tm : Array Value} {F : List AV} (hF : FRel w G tm F) (he : Ext B w G w' G') : FRel w' G' tm F := All2.mono (fun _ _ => he.trel) hF

theorem frel_get {tm : Array Value} {F : List AV} {d : Nat} {x : AV} (hF : FRel w G tm F) (h : F.getD d .unk = x) (hx : x ≠ .unk) : ∃ v, tm[d]? = some v ∧ TRel w G v x := by
 rw [List.getD_eq_getElem?_getD] at h
 cases hd : F[d]? with
 | none => rw [hd] at h; exact absurd h.symm hx
 | some y =>
  rw [hd] at h
  simp at h
  subst h
  obtain ⟨v, h1, h2⟩ := All2.get hF hd
  exact ⟨v, by simpa using h1, h2⟩

theorem wanted_bool {ops : Array Oper} {o : Oper} {a : Act} {F : List AV} {j d : Nat} {want b : Bool} (hF : FRel w G a.tmps F) (hg : o.guard = some (j, want)) (hd : (ops[j]?).bind (·.dst) = some d)
  (hb : F.getD d .unk = .bool b) : Region.wanted o (yielded ops a.tmps) = (b == want) := by
 obtain ⟨v, h1, h2⟩ := frel_get hF hb (by simp)
 have h2 : v = .bool b := h2
 subst h2
 simp [Region.wanted, hg, yielded, hd, h1]
theorem wanted_tup {ops : Array Oper} {o : Oper} {a : Act} {F : List AV} {j d : Nat} {want : Bool} (hF : FRel w G a.tmps F) (hg : o.guard = some (j, want)) (hd : (ops[j]?).bind (·.dst) = some d)
  (hb : F.getD d .unk = .tup []) : Region.wanted o (yielded ops a.tmps) = false := by
 obtain ⟨v, h1, h2⟩ := frel_get hF hb (by simp)
 obtain ⟨vs, rfl, _⟩ := h2
 simp [Region.wanted, hg, yielded, hd, h1]

theorem undef_rel : TRel w G undef (.tup []) := ⟨#[], rfl, trivial⟩

theorem oper_of_ok {o : Oper} {a : Act} {F : List AV} {K : AV → Heap → Prop} {K' : Act → World → Prop} {Q : Exit → Act → World → Prop} (hF : FRel w G a.tmps F)
  (h : OpOK P B w G K ((execOp a.eval o).run P w))
  (hK : ∀ v av w' G' H', Ext B w G w' G' → HRel B w' G' H' → TRel w' G' v av → K av H' → K' (a.put o.dst v) w') : o.wp P a w K' Q := by
 unfold Oper.wp
 generalize (execOp a.eval o).run P w = r at *
 cases r with
 | halt x w' => cases x <;> exact h.elim
 | ok n w' =>
  cases n <;> simp only [OpOK] at h <;> simp only [Oper.upon]
  case value v =>
   obtain ⟨av, G', H', h1, h2, h3, h4⟩ := h
   exact hK v av w' G' H' h1 h2 h3 h4
  case skip =>
   obtain ⟨G', H', h1, h2, h4⟩ := h
   exact hK undef (.tup []) w' G' H' h1 h2 undef_rel h4
  case enter f vs =>
   obtain ⟨rfl, hc⟩ := h
   refine hc.mono fun e w'' he => ?_
   obtain ⟨v, r, H', G', rfl, h1, h2, h3, h4⟩ := he
   exact hK v r w'' G' H' h1 h2 h3 h4

theorem HRel.newB (h : HRel B w G H) (vs : Array Value) (t : TypeId) (cs : List AV) (hc : All2 (ARel w G) vs.toList cs) :
  Ext B w G (w.alloc (.cells vs t)) ⟨G.L, G.μ ++ [.blk w.heap.size]⟩ ∧ HRel B (w.alloc (.cells vs t)) ⟨G.L, G.μ ++ [.blk w.heap.size]⟩ (H ++ [.bld t cs]) := by
 obtain ⟨he, hH⟩ := h.new vs t cs hc
 refine ⟨he, by simpa using hH.len, fun id ab gi h1 h2 => ?_, hH.dist, hH.fresh, hH.lt, hH.base⟩
 by_cases hlt : id < H.length
 ·rw [List.getElem?_append_left hlt] at h1
  exact hH.ok id ab gi (by rw [List.getElem?_append_left hlt]; exact h1) h2
 ·have hlt2 := (List.getElem?_eq_some_iff.1 h1).1
  simp at hlt2
  obtain rfl : id = H.length := by omega
  simp at h1
  subst h1
  have hg : gi = .blk w.heap.size := by
   simp only [] at h2
   rw [← h.len] at h2
   simpa using h2.symm
  subst hg
  exact ⟨h.base, h.fresh _ (Nat.le_refl _), vs, alloc_new _, hc.mono fun _ _ => he.arel⟩
theorem opO_sound {o : Oper} {a : Act} {F : List AV} {K : AV → Heap → Prop} (hH : HRel B w G H) (hF : FRel w G a.tmps F) (h : aopO P o F H K) : OpOK P B w G K ((execOp a.eval o).run P w) := by
 unfold aopO at h
 split at h
 ·rename_i t hop
  split at h
  ·split at h
   ·rename_i z hz
    obtain ⟨he, hH'⟩ := hH.newB z.cells t (constCells z) (rel_cells z)
    have hrun : (execOp a.eval o).run P w = .ok (.value (.pointer (some ⟨w.heap.size, 0, none⟩))) (w.alloc (.cells z.cells t)) := by
     obtain ⟨dst, op, type, pos, after, guard⟩ := o
     simp only [] at hop
     subst hop
     simp [execOp, Instr.alloc, run_zero hz, newVar, newRow, World.alloc_eq]
    rw [hrun]
    refine ⟨.ptr H.length 0, _, _, he, hH', ⟨w.heap.size, ?_, rfl⟩, h⟩
    rw [← hH.len]; simp
   ·exact h.elim
  ·exact op_sound hH hF h
 ·exact op_sound hH hF h

theorem runOps_sound {ops : Array Oper} {K : List AV → Heap → Prop} {Q : Exit → Act → World → Prop} {w0 : World} {G0 : Gh}
  (hQ : ∀ a w G F H, Ext B w0 G0 w G → HRel B w G H → FRel w G a.tmps F → a.defers = [] → K F H → Q .normal a w) :
  ∀ (l : List Oper) (F : List AV) (H : Heap) (a : Act) (w : World) (G : Gh), Ext B w0 G0 w G → HRel B w G H → FRel w G a.tmps F → a.defers = [] → runOps P ops l K F H → wpList P ops Q l a w
 | [], F, H, a, w, G, hE, hH, hF, hd, h => hQ a w G F H hE hH hF hd h
 | o :: l, F, H, a, w, G, hE, hH, hF, hd, h => by
  have go : ∀ (K' : Act → World → Prop), (∀ a w, wpList P ops Q l a w → K' a w) → aopO P o F H (fun v H' => runOps P ops l K (putF F o.dst v) H') → o.wp P a w K' Q := fun K' hK' hop =>
   oper_of_ok hF (opO_sound hH hF hop) fun v av w' G' H' h1 h2 h3 h4 =>
    hK' _ _ (runOps_sound hQ l _ _ _ _ G' (hE.trans h1) h2 ((hF.ext h1).put h3) (by cases hdst : o.dst <;> simpa [Act.put, hdst] using hd) h4)
  have skip : ∀ (K' : Act → World → Prop), (∀ a w, wpList P ops Q l a w → K' a w) → runOps P ops l K (putF F o.dst (.tup [])) H → K' (a.put o.dst undef) w := fun K' hK' hop =>
   hK' _ _ (runOps_sound hQ l _ _ _ _ G hE hH (hF.put undef_rel) (by cases hdst : o.dst <;> simpa [Act.put, hdst] using hd) hop)
  refine wpList_step fun K' hK' => ?_
  unfold runOps at h
  split at h
  ·rename_i hg
   rw [if_pos (by simp [Region.wanted, hg])]
   exact go K' hK' h
  ·rename_i j want hg
   split at h
   ·rename_i d hd'
    unfold aGuardJ aGuard at h
    split at h
    ·rename_i b hb
     rw [wanted_bool hF hg hd' hb]
     unfold aIf at h
     split at h
     ·rename_i hw
      rw [if_pos hw]
      exact go K' hK' h
     ·rename_i hw
      rw [if_neg hw]
      exact skip K' hK' h
    ·rename_i hb
     rw [wanted_tup hF hg hd' hb, if_neg (by simp)]
     exact skip K' hK' h
    ·exact h.elim
   ·exact h.elim


theorem aop0_congr {o : Oper} {F F' : List AV} {K : AV → Heap → Prop} (h : ∀ x ∈ o.op.operands, ev F x = ev F' x) : aop0 P o F H K = aop0 P o F' H K := by
 obtain ⟨dst, op, type, pos, after, guard⟩ := o
 have pairs : ∀ ps : Array (Nat × Operand), (∀ x ∈ ps.toList.map (·.2), ev F x = ev F' x) → (ps.toList.map fun p => (p.1, ev F p.2)) = (ps.toList.map fun p => (p.1, ev F' p.2)) := fun ps hp =>
  List.map_congr_left fun p hm => by rw [hp p.2 (List.mem_map.2 ⟨p, hm, rfl⟩)]
 cases op <;> simp only [Op.operands] at h <;> simp only [aop0]
 case build t ps => rw [pairs ps (by simpa using h)]
 case buildSlice t n ps => rw [pairs ps (by simpa using h)]
 case makeFunc fn first caps =>
  cases fn <;> simp only []
  rw [List.map_congr_left (l := caps.toList) (fun x hx => h x (Array.mem_append.2 (.inr (by simpa using hx))))]
 case slice t x lo hi mx =>
  cases mx <;> simp only []
  have hx := h x (by simp)
  have hlo : lo.map (ev F) = lo.map (ev F') := by cases lo <;> simp_all
  have hhi : hi.map (ev F) = hi.map (ev F') := by cases hi <;> simp_all
  rw [hx, hlo, hhi]
 case call c =>
  cases hc : c.callee with
  | value f =>
   have hf := h f (by simp [Call.operands, hc])
   have ha : c.args.toList.map (ev F) = c.args.toList.map (ev F') := List.map_congr_left fun x hx => h x (by simp [Call.operands, hc]; exact .inr (by simpa using hx))
   simp only [hf, ha]
  | builtin b =>
   have ha : ∀ x ∈ c.args.toList, ev F x = ev F' x := fun x hx => h x (by simp [Call.operands, hc]; simpa using hx)
   cases b <;> simp only [aBuiltin]
   all_goals
    split
    ·rename_i hargs _
     rw [hargs] at ha
     simp only [List.mem_cons, List.not_mem_nil, or_false, forall_eq_or_imp, forall_eq] at ha
     simp only [ha]
    ·rfl
  | invoke r m => rfl
 all_goals (first | rfl | (simp_all; done))

theorem aopM_congr {o : Oper} {F F' : List AV} {K : AV → Heap → Prop} (h : ∀ x ∈ o.op.operands, ev F x = ev F' x) : aopM P o.op F H K = aopM P o.op F' H K := by
 obtain ⟨dst, op, type, pos, after, guard⟩ := o
 cases op <;> simp only [Op.operands] at h <;> simp only [aopM]
 all_goals (first | rfl | (simp_all; done))
theorem aop_congr {o : Oper} {F F' : List AV} {K : AV → Heap → Prop} (h : ∀ x ∈ o.op.operands, ev F x = ev F' x) : aop P o F H K = aop P o F' H K := by
 unfold aop
 rw [aopM_congr h, aop0_congr h]
theorem aopD_congr {o : Oper} {F F' : List AV} {K : AV → Heap → Prop} (h : ∀ x ∈ o.op.operands, ev F x = ev F' x) : aopD P o F H K = aopD P o F' H K := by
 unfold aopD
 split
 ·rename_i t a hop
  rw [h a (by rw [hop]; simp [Op.operands])]
 ·exact aop_congr h
theorem aopD_aop {o : Oper} {F : List AV} {K : AV → Heap → Prop} (h : aopD P o F H K) : aop P o F H K := by
 obtain ⟨dst, op, type, pos, after, guard⟩ := o
 unfold aopD at h
 cases op <;> (try simp only [] at h) <;> (try exact h)
 simp only [aop, isM, aop0]
 split at h
 ·rename_i g n hg hn
  unfold aLoadC at h
  split at h
  ·exact h.elim
  ·exact h
 ·exact h.elim

theorem opF_heap {o : Oper} (ho : opF o.op = true) {F : List AV} {r : AV} {H H' : Heap} (h : aopD P o F H fun v H2 => v = r ∧ H2 = H) : aopD P o F H' fun v H2 => v = r ∧ H2 = H' := by
 obtain ⟨dst, op, type, pos, after, guard⟩ := o
 cases op <;> simp only [opF, Bool.false_eq_true] at ho <;> simp only [aopD, aop, isM, aop0, and_true] at h ⊢
 all_goals first
  | exact h
  | skip
 case call c =>
  cases hc : c.callee with
  | value f => simp [hc] at ho
  | invoke r m => simp [hc] at ho
  | builtin b =>
   cases b <;> simp [hc] at ho
   simpa [hc, aBuiltin] using h
 case makeFunc fn first caps =>
  cases fn <;> simp only [] at h ⊢ <;> try exact h
 case slice t x lo hi mx =>
  cases mx <;> simp only [] at h ⊢ <;> exact h

theorem opW_det {o : Oper} (ho : opW .n o.op = true) {F : List AV} {H : Heap} {K : AV → Heap → Prop} (h : aopD P o F H K) : ∃ v H', (aopD P o F H fun v2 H2 => v2 = v ∧ H2 = H') ∧ K v H' := by
 obtain ⟨dst, op, type, pos, after, guard⟩ := o
 cases op <;> simp only [opW, Bool.false_eq_true] at ho <;> simp only [aopD, aop, isM, aop0, aopM] at h ⊢
 case alloc t =>
  split at h
  ·exact ⟨_, _, ⟨rfl, rfl⟩, h⟩
  ·exact h.elim
 case box t x =>
  unfold aBox at h ⊢
  split at h
  ·exact ⟨_, _, ⟨rfl, rfl⟩, h⟩
  ·exact h.elim
 case store t x y =>
  split at h
  ·simp only [aStore_def] at h ⊢
   split at h
   ·split at h
    ·exact ⟨_, _, ⟨h.1, rfl, rfl⟩, h.2⟩
    ·exact h.elim
   ·split at h
    ·exact ⟨_, _, ⟨h.1, rfl, rfl⟩, h.2⟩
    ·exact h.elim
   ·exact h.elim
  ·exact h.elim
 case makeSlice t l c =>
  split at h
  ·split at h
   ·unfold aMake at h ⊢
    split at h
    ·exact ⟨_, _, ⟨h.1, rfl, rfl⟩, h.2⟩
    ·exact h.elim
   ·exact h.elim
  ·exact h.elim
 case makeMap t r =>
  split at h
  ·exact ⟨_, _, ⟨rfl, rfl⟩, h⟩
  ·exact h.elim
 case mapUpdate t m k x =>
  split at h
  ·unfold aMUpd at h ⊢
   split at h
   ·split at h
    ·split at h
     ·exact h.elim
     ·exact ⟨_, _, ⟨rfl, rfl⟩, h⟩
    ·exact h.elim
   ·exact h.elim
  ·exact h.elim
 case insert t m k x =>
  split at h
  ·unfold aMUpd at h ⊢
   split at h
   ·split at h
    ·split at h
     ·exact h.elim
     ·exact ⟨_, _, ⟨rfl, rfl⟩, h⟩
    ·exact h.elim
   ·exact h.elim
  ·exact h.elim
 case call c =>
  cases hc : c.callee with
  | value f => simp [hc, WM.on] at ho
  | invoke r m => simp [hc] at ho
  | builtin b =>
   cases b <;> simp [hc] at ho
   simp only [hc, aBuiltin] at h ⊢
   split at h
   ·split at h
    ·split at h
     ·unfold aAppend aSrc at h ⊢
      split at h
      ·unfold aAppTo at h ⊢
       obtain ⟨h1, h2⟩ := h
       split at h2
       ·exact ⟨_, _, ⟨h1, h2.1, rfl, rfl⟩, h2.2⟩
       ·exact ⟨_, _, ⟨h1, h2.1, h2.2.1, rfl, rfl⟩, h2.2.2⟩
       ·split at h2
        ·exact ⟨_, _, ⟨h1, h2.1, rfl, rfl⟩, h2.2⟩
        ·exact h2.elim
       ·exact ⟨_, _, ⟨h1, h2.1, rfl, rfl⟩, h2.2⟩
       ·exact h2.elim
      ·unfold aAppTo at h ⊢
       obtain ⟨h1, h2⟩ := h
       split at h2
       ·exact ⟨_, _, ⟨h1, h2.1, rfl, rfl⟩, h2.2⟩
       ·exact ⟨_, _, ⟨h1, h2.1, h2.2.1, rfl, rfl⟩, h2.2.2⟩
       ·split at h2
        ·exact ⟨_, _, ⟨h1, h2.1, rfl, rfl⟩, h2.2⟩
        ·exact h2.elim
       ·exact ⟨_, _, ⟨h1, h2.1, rfl, rfl⟩, h2.2⟩
       ·exact h2.elim
      ·exact h.elim
     ·exact h.elim
    ·exact h.elim
   ·exact h.elim

def TrOK (P : Program) (ops : Array Oper) (H : Heap) (F : List AV) (o : Oper) (r : AV) (H' : Heap) : Prop :=
 match o.guard with
 | none => aopD P o F H fun v H2 => v = r ∧ H2 = H'
 | some (j, want) => ∃ d, (ops[j]?).bind (·.dst) = some d ∧
   ((∃ b, F.getD d .unk = .bool b ∧ (b == want) = true ∧ aopD P o F H fun v H2 => v = r ∧ H2 = H') ∨
    (∃ b, F.getD d .unk = .bool b ∧ (b == want) = false ∧ r = .tup [] ∧ H' = H) ∨ (F.getD d .unk = .tup [] ∧ r = .tup [] ∧ H' = H))

theorem TrOK.congr {ops : Array Oper} {F F' : List AV} {o : Oper} {r : AV} {H' : Heap} (h : ∀ s ∈ opReads ops o, F.getD s .unk = F'.getD s .unk) (ht : TrOK P ops H F o r H') : TrOK P ops H F' o r H' := by
 have hev : ∀ x ∈ o.op.operands, ev F x = ev F' x := fun x hx => by
  cases x with
  | tmp t => exact h t (by simp only [opReads, List.mem_append, List.mem_filterMap]; exact .inl ⟨.tmp t, by simpa using hx, rfl⟩)
  | _ => rfl
 have hop : (aopD P o F H fun v H2 => v = r ∧ H2 = H') = aopD P o F' H fun v H2 => v = r ∧ H2 = H' := aopD_congr hev
 unfold TrOK at *
 split at ht
 ·rw [← hop]; exact ht
 ·rename_i j want hg
  obtain ⟨d, hd, ht⟩ := ht
  have hs := h d (by simp [opReads, hg, hd])
  refine ⟨d, hd, ?_⟩
  rw [← hs, ← hop]
  exact ht

theorem TrOK.free {ops : Array Oper} {F : List AV} {o : Oper} {r : AV} {H H' : Heap} (ho : opF o.op = true) (ht : TrOK P ops H F o r H) : TrOK P ops H' F o r H' := by
 unfold TrOK at *
 split at ht
 ·exact opF_heap ho ht
 ·obtain ⟨d, hd, ht⟩ := ht
  refine ⟨d, hd, ?_⟩
  rcases ht with ⟨b, h1, h2, h3⟩ | ⟨b, h1, h2, h3, _⟩ | ⟨h1, h2, _⟩
  ·exact .inl ⟨b, h1, h2, opF_heap ho h3⟩
  ·exact .inr (.inl ⟨b, h1, h2, h3, rfl⟩)
  ·exact .inr (.inr ⟨h1, h2, rfl⟩)

inductive TrL (wc : WM) (P : Program) (ops : Array Oper) : List Oper → List AV → Heap → List AV → List Heap → List AV → Heap → Prop
 | nil (F : List AV) (H : Heap) : TrL wc P ops [] F H [] [] F H
 | cons {o : Oper} {os : List Oper} {F rs Fn : List AV} {r : AV} {H H' Hn : Heap} {hs : List Heap} (h : TrOK P ops H F o r H') (hw : opW wc o.op = false → H' = H) (hx : opC wc o.op = true → ∀ J, TrOK P ops (H ++ J) F o r (H ++ J)) (hgr : opG wc o.op = true → GrowA H H') (t : TrL wc P ops os (putF F o.dst r) H' rs hs Fn Hn) : TrL wc P ops (o :: os) F H (r :: rs) (H' :: hs) Fn Hn

theorem det_of {o : Oper} {gr : Bool} (ho : opW wc o.op = true) (hg : wc = .n → gr = false) {F : List AV} {H : Heap} {K : AV → Heap → Prop} (h : aDet wc gr H (aopD P o F H) K) : ∃ v H', (aopD P o F H fun v2 H2 => v2 = v ∧ H2 = H') ∧ (gr = true → GrowA H H') ∧ K v H' := by
 cases wc with
 | n =>
  obtain ⟨v, H', h1, h2⟩ := opW_det ho h
  exact ⟨v, H', h1, (fun h => by rw [hg rfl] at h; cases h), h2⟩
 | w => exact h
 | g => exact h
 | c => exact h
theorem opG_n (op : Op) : opG .n op = false := by
 cases op <;> try rfl
 rename_i c
 cases hc : c.callee <;> simp [opG, hc, WM.gr]
theorem opG_W {op : Op} (h : opW wc op = false) : opG wc op = false := by
 cases op <;> try rfl
 rename_i c
 cases hc : c.callee with
 | value f => cases wc <;> simp [opW, opG, hc, WM.on, WM.gr] at h ⊢
 | builtin b => simp [opG, hc]
 | invoke r m => simp [opG, hc]
theorem opC_W {op : Op} (h : opC wc op = true) : opW wc op = false := by
 cases op <;> simp only [opC, Bool.false_eq_true] at h
 rename_i c
 cases hc : c.callee with
 | value f => simpa [opW, hc] using h
 | builtin b => simp [hc] at h
 | invoke r m => simp [hc] at h
theorem runD_trace {ops : Array Oper} {K : List AV → Heap → Prop} : ∀ (l : List Oper) (F : List AV) (H : Heap), runD wc P ops l K F H → ∃ rs hs Fn Hn, TrL wc P ops l F H rs hs Fn Hn ∧ K Fn Hn
 | [], F, H, h => ⟨[], [], F, H, .nil F H, h⟩
 | o :: l, F, H, h => by
  unfold runD at h
  have noC : ∀ {p : Prop}, opC wc o.op = false → opC wc o.op = true → p := fun h1 h2 => by rw [h1] at h2; cases h2
  have noG : ∀ {p : Prop}, opW wc o.op = false → opG wc o.op = true → p := fun h1 h2 => by rw [opG_W h1] at h2; cases h2
  have noW : ∀ {p : Prop}, opW wc o.op = true → opC wc o.op = true → p := fun h1 h2 => by rw [opC_W h2] at h1; cases h1
  split at h
  ·rename_i hg
   split at h
   ·rename_i hw
    split at h
    ·rename_i hc
     obtain ⟨r, h1, h2⟩ := h
     obtain ⟨rs, hs, Fn, Hn, h3, h4⟩ := runD_trace l _ _ h2
     exact ⟨r :: rs, H :: hs, Fn, Hn, .cons (by unfold TrOK; rw [hg]; exact h1) (fun _ => rfl) (noC hc) (noG hw) h3, h4⟩
    ·rename_i hc
     obtain ⟨r, h1, h2⟩ := h
     obtain ⟨rs, hs, Fn, Hn, h3, h4⟩ := runD_trace l _ _ h2
     have hx : ∀ J, TrOK P ops (H ++ J) F o r (H ++ J) := fun J => by unfold TrOK; rw [hg]; exact h1 J
     exact ⟨r :: rs, H :: hs, Fn, Hn, .cons (by have := hx []; rwa [List.append_nil] at this) (fun _ => rfl) (fun _ => hx) (noG hw) h3, h4⟩
   ·rename_i hw
    obtain ⟨r, H', h1, hgr, h2⟩ := det_of hw (fun e => by rw [e]; exact opG_n _) h
    obtain ⟨rs, hs, Fn, Hn, h3, h4⟩ := runD_trace l _ _ h2
    exact ⟨r :: rs, H' :: hs, Fn, Hn, .cons (by unfold TrOK; rw [hg]; exact h1) (fun h0 => by rw [hw] at h0; cases h0) (noW hw) hgr h3, h4⟩
  ·rename_i j want hg
   split at h
   ·rename_i d hd
    have yes : ∀ b, F.getD d .unk = .bool b → (b == want) = true → ∀ {H1 H2 : Heap} {r : AV}, (aopD P o F H1 fun v H3 => v = r ∧ H3 = H2) → TrOK P ops H1 F o r H2 := fun b hb hwb _ _ _ h1 => by
     unfold TrOK; rw [hg]; exact ⟨d, hd, .inl ⟨b, hb, hwb, h1⟩⟩
    have no : ∀ b, F.getD d .unk = .bool b → (b == want) = false → ∀ H1 : Heap, TrOK P ops H1 F o (.tup []) H1 := fun b hb hwb H1 => by
     unfold TrOK; rw [hg]; exact ⟨d, hd, .inr (.inl ⟨b, hb, hwb, rfl, rfl⟩)⟩
    have nil : F.getD d .unk = .tup [] → ∀ H1 : Heap, TrOK P ops H1 F o (.tup []) H1 := fun hb H1 => by
     unfold TrOK; rw [hg]; exact ⟨d, hd, .inr (.inr ⟨hb, rfl, rfl⟩)⟩
    split at h
    ·rename_i hw
     split at h
     ·rename_i hc
      unfold aGuardJ aGuard at h
      split at h
      ·rename_i b hb
       unfold aIf at h
       split at h
       ·rename_i hwb
        obtain ⟨r, h1, h2⟩ := h
        obtain ⟨rs, hs, Fn, Hn, h3, h4⟩ := runD_trace l _ _ h2
        exact ⟨r :: rs, H :: hs, Fn, Hn, .cons (yes b hb hwb h1) (fun _ => rfl) (noC hc) (noG hw) h3, h4⟩
       ·rename_i hwb
        obtain ⟨rs, hs, Fn, Hn, h3, h4⟩ := runD_trace l _ _ h
        exact ⟨.tup [] :: rs, H :: hs, Fn, Hn, .cons (no b hb (by simpa using hwb) H) (fun _ => rfl) (noC hc) (noG hw) h3, h4⟩
      ·rename_i hb
       obtain ⟨rs, hs, Fn, Hn, h3, h4⟩ := runD_trace l _ _ h
       exact ⟨.tup [] :: rs, H :: hs, Fn, Hn, .cons (nil hb H) (fun _ => rfl) (noC hc) (noG hw) h3, h4⟩
      ·exact h.elim
     ·rename_i hc
      unfold aGuardJ aGuard at h
      split at h
      ·rename_i b hb
       unfold aIf at h
       split at h
       ·rename_i hwb
        obtain ⟨r, h1, h2⟩ := h
        obtain ⟨rs, hs, Fn, Hn, h3, h4⟩ := runD_trace l _ _ h2
        have hx : ∀ J, TrOK P ops (H ++ J) F o r (H ++ J) := fun J => yes b hb hwb (h1 J)
        exact ⟨r :: rs, H :: hs, Fn, Hn, .cons (by have := hx []; rwa [List.append_nil] at this) (fun _ => rfl) (fun _ => hx) (noG hw) h3, h4⟩
       ·rename_i hwb
        obtain ⟨rs, hs, Fn, Hn, h3, h4⟩ := runD_trace l _ _ h
        exact ⟨.tup [] :: rs, H :: hs, Fn, Hn, .cons (no b hb (by simpa using hwb) H) (fun _ => rfl) (fun _ J => no b hb (by simpa using hwb) _) (noG hw) h3, h4⟩
      ·rename_i hb
       obtain ⟨rs, hs, Fn, Hn, h3, h4⟩ := runD_trace l _ _ h
       exact ⟨.tup [] :: rs, H :: hs, Fn, Hn, .cons (nil hb H) (fun _ => rfl) (fun _ J => nil hb _) (noG hw) h3, h4⟩
      ·exact h.elim
    ·rename_i hw
     unfold aGuardJ aGuard at h
     split at h
     ·rename_i b hb
      unfold aIf at h
      split at h
      ·rename_i hwb
       obtain ⟨r, H', h1, hgr, h2⟩ := det_of hw (fun e => by rw [e]; exact opG_n _) h
       obtain ⟨rs, hs, Fn, Hn, h3, h4⟩ := runD_trace l _ _ h2
       exact ⟨r :: rs, H' :: hs, Fn, Hn, .cons (yes b hb hwb h1) (fun h0 => by rw [hw] at h0; cases h0) (noW hw) hgr h3, h4⟩
      ·rename_i hwb
       obtain ⟨rs, hs, Fn, Hn, h3, h4⟩ := runD_trace l _ _ h
       exact ⟨.tup [] :: rs, H :: hs, Fn, Hn, .cons (no b hb (by simpa using hwb) H) (fun _ => rfl) (noW hw) (fun _ => .inl rfl) h3, h4⟩
     ·rename_i hb
      obtain ⟨rs, hs, Fn, Hn, h3, h4⟩ := runD_trace l _ _ h
      exact ⟨.tup [] :: rs, H :: hs, Fn, Hn, .cons (nil hb H) (fun _ => rfl) (noW hw) (fun _ => .inl rfl) h3, h4⟩
     ·exact h.elim
   ·exact h.elim

def frk : List Oper → List AV → List AV → Nat → List AV
 | _, _, F, 0 => F
 | o :: os, r :: rs, F, i + 1 => frk os rs (putF F o.dst r) i
 | _, _, F, _ => F
def hpk : List Heap → Heap → Nat → Heap
 | _, H, 0 => H
 | h :: hs, _, i + 1 => hpk hs h i
 | [], H, _ => H

theorem TrL.at {ops : Array Oper} {l : List Oper} {F rs Fn : List AV} {H Hn : Heap} {hs : List Heap} (h : TrL wc P ops l F H rs hs Fn Hn) : rs.length = l.length ∧ frk l rs F l.length = Fn ∧ hpk hs H l.length = Hn ∧
  ∀ (i : Nat) o, l[i]? = some o → ∃ r, rs[i]? = some r ∧ TrOK P ops (hpk hs H i) (frk l rs F i) o r (hpk hs H (i + 1)) ∧ frk l rs F (i + 1) = putF (frk l rs F i) o.dst r ∧ (opW wc o.op = false → hpk hs H (i + 1) = hpk hs H i) ∧ (opC wc o.op = true → ∀ J, TrOK P ops (hpk hs H i ++ J) (frk l rs F i) o r (hpk hs H i ++ J)) ∧ (opG wc o.op = true → GrowA (hpk hs H i) (hpk hs H (i + 1))) := by
 induction h with
 | nil F H => exact ⟨rfl, rfl, rfl, fun i o h => by simp at h⟩
 | cons h hw hx hgr t ih =>
  obtain ⟨h1, h2, h2', h3⟩ := ih
  refine ⟨by simp [h1], by simpa [frk] using h2, by simpa [hpk] using h2', fun i o' ho => ?_⟩
  cases i with
  | zero =>
   simp at ho
   subst ho
   rename_i os F rs Fn r H H' Hn hs
   have e1 : hpk (H' :: hs) H 1 = H' := by cases hs <;> rfl
   refine ⟨_, rfl, ?_, by simp [frk], fun h0 => ?_, fun h0 => hx h0, fun h0 => ?_⟩
   ·rw [Nat.zero_add, e1]; exact h
   ·rw [Nat.zero_add, e1]; exact hw h0
   ·rw [Nat.zero_add, e1]; exact hgr h0
  | succ i =>
   obtain ⟨r, h4, h5, h6, h7, h8, h9⟩ := h3 i o' (by simpa using ho)
   exact ⟨r, by simpa using h4, by simpa [hpk, frk] using h5, by simpa [frk] using h6, by simpa [hpk] using h7, by simpa [hpk, frk] using h8, by simpa [hpk] using h9⟩

def Grow (H H' : Heap) : Prop := H' = H ∨ (∃ x, H' = H ++ [x]) ∨ ∃ (id : Nat) (a b : AB), H[id]? = some a ∧ (∀ cs, a ≠ .cells cs) ∧ H' = H.set id b
theorem GrowA.grow {H H' : Heap} (h : GrowA H H') : Grow H H' := by
 rcases h with h | ⟨e, s, n, h⟩ | h | h
 ·exact .inl h
 ·exact .inr (.inl ⟨_, h⟩)
 ·obtain ⟨id, e, s, n, n', h1, h2⟩ := h
  exact .inr (.inr ⟨id, _, _, h1, (fun _ h => by cases h), h2⟩)
 ·obtain ⟨id, e, s, n, n', cs, cs', h1, h2⟩ := h
  exact .inr (.inr ⟨id, _, _, h1, (fun _ h => by cases h), h2⟩)
theorem Grow.cells {H H' : Heap} (h : Grow H H') {id : Nat} {cs : List AV} (hc : H[id]? = some (.cells cs)) : H'[id]? = some (.cells cs) := by
 have hlt : id < H.length := (List.getElem?_eq_some_iff.1 hc).1
 rcases h with rfl | ⟨x, rfl⟩ | ⟨id', a, b, h1, h2, rfl⟩
 ·exact hc
 ·rw [List.getElem?_append_left hlt]; exact hc
 ·by_cases he : id = id'
  ·subst he; rw [hc] at h1; cases h1; exact (h2 _ rfl).elim
  ·rw [List.getElem?_set_ne (fun h => he h.symm)]; exact hc
theorem GrowA.cells {H H' : Heap} (h : GrowA H H') {id : Nat} {cs : List AV} (hc : H'[id]? = some (.cells cs)) : H[id]? = some (.cells cs) := by
 rcases h with rfl | ⟨e, s, n, rfl⟩ | ⟨id', e, s, n, n', h1, rfl⟩ | ⟨id', e, s, n, n', cs1, cs2, h1, rfl⟩
 ·exact hc
 ·by_cases hlt : id < H.length
  ·rwa [List.getElem?_append_left hlt] at hc
  ·have hlt2 := (List.getElem?_eq_some_iff.1 hc).1
   simp at hlt2
   have : id = H.length := by omega
   subst this
   simp at hc
 ·by_cases he : id = id'
  ·subst he
   rw [List.getElem?_set_self (List.getElem?_eq_some_iff.1 h1).1] at hc
   cases hc
  ·rwa [List.getElem?_set_ne (fun h => he h.symm)] at hc
 ·by_cases he : id = id'
  ·subst he
   rw [List.getElem?_set_self (List.getElem?_eq_some_iff.1 h1).1] at hc
   cases hc
  ·rwa [List.getElem?_set_ne (fun h => he h.symm)] at hc
theorem load_of {o : Oper} (hl : opL o.op = true) {F : List AV} {H H' : Heap} {r : AV} (hc : ∀ (id : Nat) (cs : List AV), H[id]? = some (AB.cells cs) → H'[id]? = some (AB.cells cs)) (h : aopD P o F H fun v H2 => v = r ∧ H2 = H) : aopD P o F H' fun v H2 => v = r ∧ H2 = H' := by
 obtain ⟨dst, op, type, pos, after, guard⟩ := o
 cases op <;> simp only [opL, Bool.false_eq_true] at hl
 simp only [aopD, and_true] at h ⊢
 split at h
 ·unfold aLoadC at h ⊢
  split at h
  ·exact h.elim
  rename_i hvp
  simp only [aLoad_def] at h ⊢
  split at h
  ·split at h
   ·rename_i hcs
    rw [hc _ _ hcs]
    exact h
   ·exact h.elim
  ·exact h
  ·rename_i hev
   exact (hvp _ _ _ hev).elim
  ·exact h.elim
 ·exact h.elim
theorem TrOK.load {ops : Array Oper} {F : List AV} {o : Oper} {r : AV} {H H' : Heap} (hl : opL o.op = true) (hc : ∀ (id : Nat) (cs : List AV), H[id]? = some (AB.cells cs) → H'[id]? = some (AB.cells cs)) (ht : TrOK P ops H F o r H) : TrOK P ops H' F o r H' := by
 unfold TrOK at *
 split at ht
 ·exact load_of hl hc ht
 ·obtain ⟨d, hd, ht⟩ := ht
  refine ⟨d, hd, ?_⟩
  rcases ht with ⟨b, h1, h2, h3⟩ | ⟨b, h1, h2, h3, _⟩ | ⟨h1, h2, _⟩
  ·exact .inl ⟨b, h1, h2, load_of hl hc h3⟩
  ·exact .inr (.inl ⟨b, h1, h2, h3, rfl⟩)
  ·exact .inr (.inr ⟨h1, h2, rfl⟩)
theorem grow_of {o : Oper} (ho : opN o.op = true) {F : List AV} {H H' : Heap} {r : AV} (h : aopD P o F H fun v H2 => v = r ∧ H2 = H') : Grow H H' := by
 obtain ⟨dst, op, type, pos, after, guard⟩ := o
 cases op <;> simp only [opN, Bool.false_eq_true] at ho <;> simp only [aopD, aop, isM, aop0, aopM] at h
 case alloc t =>
  split at h
  ·exact .inr (.inl ⟨_, h.2.symm⟩)
  ·exact h.elim
 case box t x =>
  unfold aBox at h
  split at h
  ·exact .inr (.inl ⟨_, h.2.symm⟩)
  ·exact h.elim
 case makeSlice t l c =>
  split at h
  ·split at h
   ·unfold aMake at h
    split at h
    ·exact .inr (.inl ⟨_, h.2.2.symm⟩)
    ·exact h.elim
   ·exact h.elim
  ·exact h.elim
 case makeMap t r =>
  split at h
  ·exact .inr (.inl ⟨_, h.2.symm⟩)
  ·exact h.elim
theorem growA_of {o : Oper} (ho : opA .n o.op = true) {F : List AV} {H H' : Heap} {r : AV} (h : aopD P o F H fun v H2 => v = r ∧ H2 = H') : GrowA H H' := by
 obtain ⟨dst, op, type, pos, after, guard⟩ := o
 cases op <;> simp only [opA, WM.gr, Bool.false_eq_true] at ho <;> simp only [aopD, aop, isM, aop0] at h
 rename_i c
 cases hc : c.callee with
 | value f => simp [hc] at ho
 | invoke r m => simp [hc] at ho
 | builtin b =>
  cases b <;> simp [hc] at ho
  simp only [hc, aBuiltin] at h
  have key : ∀ {e size bytes : Nat} {x : AV} {ys : List (List AV)}, (aAppTo e size bytes x ys H fun v H2 => v = r ∧ H2 = H') → GrowA H H' := by
   intro e size bytes x ys h2
   unfold aAppTo at h2
   split at h2
   ·exact .inr (.inl ⟨_, _, _, h2.2.2.symm⟩)
   ·rename_i es id
    exact .inr (.inr (.inl ⟨id, e, size, es.length, _, h2.1, h2.2.2.2.symm⟩))
   ·split at h2
    ·rename_i hid
     obtain ⟨⟨⟨rfl, rfl, rfl⟩, _⟩, _, he⟩ := h2
     exact .inr (.inr (.inr ⟨_, _, _, _, _, _, _, hid, he.symm⟩))
    ·exact h2.elim
   ·exact .inr (.inl ⟨_, _, _, h2.2.2.symm⟩)
   ·exact h2.elim
  split at h
  ·split at h
   ·split at h
    ·unfold aAppend aSrc at h
     split at h
     ·exact key h.2
     ·exact key h.2
     ·exact h.elim
    ·exact h.elim
   ·exact h.elim
  ·exact h.elim
theorem TrOK.growN {ops : Array Oper} {F : List AV} {o : Oper} {r : AV} {H H' : Heap} (ho : opN o.op = true) (ht : TrOK P ops H F o r H') : Grow H H' := by
 unfold TrOK at ht
 split at ht
 ·exact grow_of ho ht
 ·obtain ⟨d, hd, ht⟩ := ht
  rcases ht with ⟨b, h1, h2, h3⟩ | ⟨b, h1, h2, h3, h4⟩ | ⟨h1, h2, h4⟩
  ·exact grow_of ho h3
  ·exact .inl h4
  ·exact .inl h4
theorem TrOK.growA {ops : Array Oper} {F : List AV} {o : Oper} {r : AV} {H H' : Heap} (ho : opA .n o.op = true) (ht : TrOK P ops H F o r H') : GrowA H H' := by
 unfold TrOK at ht
 split at ht
 ·exact growA_of ho ht
 ·obtain ⟨d, hd, ht⟩ := ht
  rcases ht with ⟨b, h1, h2, h3⟩ | ⟨b, h1, h2, h3, h4⟩ | ⟨h1, h2, h4⟩
  ·exact growA_of ho h3
  ·exact .inl h4
  ·exact .inl h4

end Go.Abs
namespace Go.Abs
open Go Go.RowKit

variable {wc : WM} {P : Program} {B : Nat} {w : World} {G : Gh} {H : Heap}

structure Ord (ops : Array Oper) : Prop where
 edge : ∀ (i : Nat) o, ops[i]? = some o → ∀ e ∈ o.after, Region.binds .any e = true → e.on < i
 dst : ∀ (i j : Nat) oi oj d, ops[i]? = some oi → ops[j]? = some oj → i ≠ j → oj.dst = some d → oi.dst ≠ some d
 before : ∀ (i j : Nat) oi oj d, ops[i]? = some oi → ops[j]? = some oj → j < i → oj.dst = some d → d ∈ opReads ops oi → ∃ e ∈ oi.after, Region.binds .any e = true ∧ e.on = j
 behind : ∀ (i j : Nat) oi oj d, ops[i]? = some oi → ops[j]? = some oj → i < j → oj.dst = some d → d ∈ opReads ops oi → ∃ e ∈ oj.after, Region.binds .any e = true ∧ e.on = i

theorem hasEdge_spec {o : Oper} {j : Nat} (h : hasEdge o j = true) : ∃ e ∈ o.after, Region.binds .any e = true ∧ e.on = j := by
 unfold hasEdge at h
 rw [Array.any_eq_true'] at h
 obtain ⟨e, he, hb⟩ := h
 simp only [Bool.and_eq_true, beq_iff_eq] at hb
 exact ⟨e, he, hb⟩

theorem ord_of {ops : Array Oper} (h : ordOk ops = true) : Ord ops := by
 unfold ordOk at h
 rw [List.all_eq_true] at h
 have mem : ∀ (i : Nat) o, ops[i]? = some o → (o, i) ∈ ops.toList.zipIdx := fun i o ho => by
  rw [List.mem_zipIdx_iff_getElem?]
  simpa using ho
 have all : ∀ (i j : Nat) oi oj, ops[i]? = some oi → ops[j]? = some oj → ordPair ops i j oi oj = true := fun i j oi oj hi hj => by
  have h1 := h _ (mem i oi hi)
  simp only [Bool.and_eq_true] at h1
  exact List.all_eq_true.1 h1.2 _ (mem j oj hj)
 have pair : ∀ (i j : Nat) oi oj d, ops[i]? = some oi → ops[j]? = some oj → i ≠ j → oj.dst = some d → oi.dst ≠ some d ∧ (d ∈ opReads ops oi → (if j < i then hasEdge oi j else hasEdge oj i) = true) := by
  intro i j oi oj d hi hj hne hd
  have h1 := all i j oi oj hi hj
  unfold ordPair at h1
  simp only [hd, Bool.or_eq_true, beq_iff_eq, hne, false_or, Bool.and_eq_true, bne_iff_ne, Bool.not_eq_true', List.contains_eq_mem, decide_eq_false_iff_not] at h1
  exact ⟨h1.1, fun hm => h1.2.resolve_left (fun h => h hm)⟩
 refine ⟨fun i o ho e he hb => ?_, fun i j oi oj d hi hj hne hd => (pair i j oi oj d hi hj hne hd).1, fun i j oi oj d hi hj hlt hd hm => ?_, fun i j oi oj d hi hj hlt hd hm => ?_⟩
 ·have h1 := h _ (mem i o ho)
  simp only [Bool.and_eq_true] at h1
  have h2 := Array.all_eq_true'.1 h1.1 e he
  simpa [hb] using h2
 ·have := (pair i j oi oj d hi hj (by omega) hd).2 hm
  rw [if_pos hlt] at this
  exact hasEdge_spec this
 ·have := (pair i j oi oj d hi hj (by omega) hd).2 hm
  rw [if_neg (by omega)] at this
  exact hasEdge_spec this

structure FlRel (ops : Array Oper) (F0 rs : List AV) (S : Nat → Bool) (F : List AV) : Prop where
 len : F.length = F0.length
 done : ∀ (i : Nat) o s r, ops[i]? = some o → o.dst = some s → S i = true → rs[i]? = some r → s < F0.length → F[s]? = some r
 rest : ∀ s : Nat, (∀ (i : Nat) o, ops[i]? = some o → o.dst = some s → S i = false) → F[s]? = F0[s]?

theorem FlRel.step {ops : Array Oper} {F0 rs F : List AV} {S : Nat → Bool} {i : Nat} {o : Oper} {r : AV} (hO : Ord ops) (h : FlRel ops F0 rs S F) (ho : ops[i]? = some o) (hr : rs[i]? = some r) :
  FlRel ops F0 rs (fun k => if k = i then true else S k) (putF F o.dst r) := by
 refine ⟨by cases hd : o.dst <;> simp [putF, h.len], fun k ok s x hk hs hS hx hlt => ?_, fun s hs => ?_⟩
 ·by_cases hki : k = i
  ·subst hki
   rw [ho] at hk
   cases hk
   rw [hr] at hx
   cases hx
   simp only [putF, hs]
   exact List.getElem?_set_self (by rw [h.len]; exact hlt)
  ·simp only [hki, if_false] at hS
   have h1 := h.done k ok s x hk hs hS hx hlt
   cases hd : o.dst with
   | none => exact h1
   | some d =>
    have hne : d ≠ s := fun he => hO.dst i k o ok s ho hk (fun h => hki h.symm) hs (by rw [hd, he])
    simp only [putF]
    rw [List.getElem?_set_ne hne]
    exact h1
 ·have hi := hs i o ho
  have hns : o.dst ≠ some s := fun hd => by have := hi hd; simp at this
  have h1 := h.rest s (fun k ok hk hks => by
   have := hs k ok hk hks
   by_cases hki : k = i
   ·subst hki; simp at this
   ·simpa [hki] using this)
  cases hd : o.dst with
  | none => exact h1
  | some d =>
   have hne : d ≠ s := fun he => hns (by rw [hd, he])
   simp only [putF]
   rw [List.getElem?_set_ne hne]
   exact h1

theorem FlRel.same {ops : Array Oper} {F0 rs F F' : List AV} {S : Nat → Bool} (hr : rs.length = ops.size) (h : FlRel ops F0 rs S F) (h' : FlRel ops F0 rs S F') : F = F' := by
 apply List.ext_getElem?
 intro s
 by_cases hw : ∃ (i : Nat) (o : Oper), ops[i]? = some o ∧ o.dst = some s ∧ S i = true
 ·obtain ⟨i, o, h1, h2, h3⟩ := hw
  by_cases hlt : s < F0.length
  ·have hi : i < rs.length := by rw [hr]; exact (Array.getElem?_eq_some_iff.1 h1).1
   rw [h.done i o s rs[i] h1 h2 h3 (by simp [hi]) hlt, h'.done i o s rs[i] h1 h2 h3 (by simp [hi]) hlt]
  ·rw [List.getElem?_eq_none (by rw [h.len]; omega), List.getElem?_eq_none (by rw [h'.len]; omega)]
 ·have hn : ∀ (i : Nat) o, ops[i]? = some o → o.dst = some s → S i = false := fun i o h1 h2 => by
   cases hS : S i with
   | false => rfl
   | true => exact absurd ⟨i, o, h1, h2, hS⟩ hw
  rw [h.rest s hn, h'.rest s hn]

theorem FlRel.congr {ops : Array Oper} {F0 rs F : List AV} {S S' : Nat → Bool} (h : FlRel ops F0 rs S F) (hS : ∀ i, i < ops.size → S i = S' i) : FlRel ops F0 rs S' F :=
 ⟨h.len, fun i o s r ho hs hSi => h.done i o s r ho hs (by rw [hS i (Array.getElem?_eq_some_iff.1 ho).1]; exact hSi),
  fun s hs => h.rest s fun i o ho hd => by rw [hS i (Array.getElem?_eq_some_iff.1 ho).1]; exact hs i o ho hd⟩

theorem frk_rel {ops : Array Oper} {F0 rs Fn : List AV} {Hn : Heap} {hs : List Heap} (hO : Ord ops) (ht : TrL wc P ops ops.toList F0 H rs hs Fn Hn) : ∀ i, i ≤ ops.size → FlRel ops F0 rs (fun k => decide (k < i)) (frk ops.toList rs F0 i)
 | 0, _ => by
  have : frk ops.toList rs F0 0 = F0 := by unfold frk; cases ops.toList <;> rfl
  rw [this]
  exact ⟨rfl, fun i o s r _ _ hS => by simp at hS, fun s _ => rfl⟩
 | i + 1, hi => by
  obtain ⟨hl, _, _, hat⟩ := ht.at
  have ho : ops.toList[i]? = some ops[i] := by simp [show i < ops.size by omega]
  obtain ⟨r, h1, _, h3, _, _⟩ := hat i _ ho
  rw [h3]
  refine (FlRel.step hO (frk_rel hO ht i (by omega)) (i := i) (o := ops[i]) (by simp [show i < ops.size by omega]) h1).congr fun k _ => ?_
  by_cases hk : k = i
  ·subst hk; simp
  ·simp [hk]
   omega

theorem reads_same {ops : Array Oper} {F0 rs F F' : List AV} {S : Nat → Bool} {i : Nat} {o : Oper} (hO : Ord ops) (hr : rs.length = ops.size) (h : FlRel ops F0 rs S F) (h' : FlRel ops F0 rs (fun k => decide (k < i)) F')
  (ho : ops[i]? = some o) (hi : S i = false) (hready : ∀ e ∈ o.after, Region.binds .any e = true → S e.on = true)
  (hclosed : ∀ (j : Nat) oj, ops[j]? = some oj → S j = true → ∀ e ∈ oj.after, Region.binds .any e = true → S e.on = true) : ∀ s ∈ opReads ops o, F.getD s .unk = F'.getD s .unk := by
 intro s hs
 have key : F[s]? = F'[s]? := by
  by_cases hw : ∃ (j : Nat) (oj : Oper), ops[j]? = some oj ∧ oj.dst = some s ∧ j ≠ i
  ·obtain ⟨j, oj, hj, hd, hne⟩ := hw
   have uniq : ∀ (k : Nat) ok, ops[k]? = some ok → ok.dst = some s → k = j := fun k ok hk hks => by
    by_cases hkj : k = j
    ·exact hkj
    ·exact absurd hks (hO.dst k j ok oj s hk hj hkj hd)
   by_cases hlt : j < i
   ·obtain ⟨e, he, hb, hon⟩ := hO.before i j o oj s ho hj hlt hd hs
    have hSj := hready e he hb
    rw [hon] at hSj
    by_cases hsl : s < F0.length
    ·have hjl : j < rs.length := by rw [hr]; exact (Array.getElem?_eq_some_iff.1 hj).1
     rw [h.done j oj s rs[j] hj hd hSj (by simp [hjl]) hsl, h'.done j oj s rs[j] hj hd (by simpa using hlt) (by simp [hjl]) hsl]
    ·rw [List.getElem?_eq_none (by rw [h.len]; omega), List.getElem?_eq_none (by rw [h'.len]; omega)]
   ·obtain ⟨e, he, hb, hon⟩ := hO.behind i j o oj s ho hj (by omega) hd hs
    have hSj : S j = false := by
     cases hSj : S j with
     | false => rfl
     | true =>
      have := hclosed j oj hj hSj e he hb
      rw [hon, hi] at this
      cases this
    rw [h.rest s (fun k ok hk hks => by rw [uniq k ok hk hks]; exact hSj), h'.rest s (fun k ok hk hks => by rw [uniq k ok hk hks]; simpa using hlt)]
  ·have hno : ∀ (k : Nat) ok, ops[k]? = some ok → ok.dst = some s → k = i := fun k ok hk hks => by
    by_cases hki : k = i
    ·exact hki
    ·exact absurd ⟨k, ok, hk, hks, hki⟩ hw
   rw [h.rest s (fun k ok hk hks => by rw [hno k ok hk hks]; exact hi), h'.rest s (fun k ok hk hks => by rw [hno k ok hk hks]; simp)]
 rw [List.getD_eq_getElem?_getD, List.getD_eq_getElem?_getD, key]

inductive Anc (ops : Array Oper) : Nat → Nat → Prop
 | one {j i : Nat} {o : Oper} {e : Edge} (ho : ops[j]? = some o) (he : e ∈ o.after) (hb : Region.binds .any e = true) (hi : e.on = i) : Anc ops j i
 | more {j k i : Nat} {o : Oper} {e : Edge} (ho : ops[j]? = some o) (he : e ∈ o.after) (hb : Region.binds .any e = true) (hk : e.on = k) (h : Anc ops k i) : Anc ops j i

theorem Anc.closed {ops : Array Oper} {S : Nat → Bool} (hc : ∀ (j : Nat) oj, ops[j]? = some oj → S j = true → ∀ e ∈ oj.after, Region.binds .any e = true → S e.on = true) {j i : Nat} (h : Anc ops j i) : S j = true → S i = true := by
 induction h with
 | one ho he hb hi => intro hj; rw [← hi]; exact hc _ _ ho hj _ he hb
 | more ho he hb hk h ih => intro hj; exact ih (by rw [← hk]; exact hc _ _ ho hj _ he hb)
theorem Anc.ready {ops : Array Oper} {S : Nat → Bool} (hc : ∀ (j : Nat) oj, ops[j]? = some oj → S j = true → ∀ e ∈ oj.after, Region.binds .any e = true → S e.on = true) {j i : Nat} {o : Oper} (ho : ops[j]? = some o)
  (hr : ∀ e ∈ o.after, Region.binds .any e = true → S e.on = true) (h : Anc ops j i) : S i = true := by
 cases h with
 | one ho' he hb hi => rw [ho] at ho'; cases ho'; rw [← hi]; exact hr _ he hb
 | more ho' he hb hk h => rw [ho] at ho'; cases ho'; exact h.closed hc (by rw [← hk]; exact hr _ he hb)

theorem ancMask_spec (ms : List Nat) : ∀ (es : List Edge) (m i : Nat), Nat.testBit (ancMask ms es m) i = true → Nat.testBit m i = true ∨ ∃ e ∈ es, Region.binds .any e = true ∧ (e.on = i ∨ Nat.testBit (ms.getD e.on 0) i = true)
 | [], m, i, h => .inl h
 | e :: es, m, i, h => by
  unfold ancMask at h
  rcases ancMask_spec ms es _ i h with h1 | ⟨e', he', hb, hc⟩
  ·cases hb : Region.binds .any e with
   | false => rw [hb] at h1; exact .inl h1
   | true =>
    rw [hb] at h1
    simp only [Nat.testBit_or, Bool.or_eq_true, Nat.one_shiftLeft, Nat.testBit_two_pow, decide_eq_true_eq] at h1
    rcases h1 with (h1 | h1) | h1
    ·exact .inl h1
    ·exact .inr ⟨e, by simp, hb, .inl h1⟩
    ·exact .inr ⟨e, by simp, hb, .inr h1⟩
  ·exact .inr ⟨e', by simp [he'], hb, hc⟩
theorem ancs_spec {ops : Array Oper} : ∀ (l : List Oper) (ms : List Nat), ops.toList.drop ms.length = l → (∀ j i, Nat.testBit (ms.getD j 0) i = true → Anc ops j i) →
  (∀ (j : Nat), (∃ o, ops[j]? = some o) → ∀ e ∈ (ops[j]?.map (·.after)).getD #[], Region.binds .any e = true → e.on < j) → ∀ j i, Nat.testBit ((ancs l ms).getD j 0) i = true → Anc ops j i
 | [], ms, _, h, _, j, i => h j i
 | o :: l, ms, hd, h, he, j, i => by
  have ho : ops[ms.length]? = some o := by
   have := congrArg (fun x => x[0]?) hd
   simpa using this
  unfold ancs
  refine ancs_spec l (ms ++ [ancMask ms o.after.toList 0]) ?_ ?_ he j i
  ·rw [List.length_append, List.length_singleton, ← List.drop_drop, hd]
   rfl
  ·intro j i hb
   by_cases hj : j < ms.length
   ·rw [List.getD_eq_getElem?_getD, List.getElem?_append_left hj, ← List.getD_eq_getElem?_getD] at hb
    exact h j i hb
   ·by_cases hj2 : j = ms.length
    ·subst hj2
     rw [List.getD_eq_getElem?_getD, List.getElem?_append_right (Nat.le_refl _)] at hb
     simp only [Nat.sub_self, List.getElem?_cons_zero, Option.getD_some] at hb
     rcases ancMask_spec ms _ _ _ hb with h1 | ⟨e, hee, hbe, hc⟩
     ·simp at h1
     ·have hee' : e ∈ o.after := by simpa using hee
      rcases hc with hc | hc
      ·exact .one ho hee' hbe hc
      ·exact .more ho hee' hbe rfl (h _ _ hc)
    ·rw [List.getD_eq_getElem?_getD, List.getElem?_eq_none (by simp; omega)] at hb
     simp at hb
theorem ordW_spec {ops : Array Oper} (hO : Ord ops) (h : ordW wc ops = true) {i j : Nat} {oi oj : Oper} (hi : ops[i]? = some oi) (hj : ops[j]? = some oj) (hlt : j < i) (hw : opW wc oi.op = true ∨ opW wc oj.op = true) (fi : opF oi.op = false) (fj : opF oj.op = false) (hu : okU wc oj.op oi.op = false) : Anc ops i j := by
 unfold ordW at h
 have mem : ∀ (i : Nat) o, ops[i]? = some o → (o, i) ∈ ops.toList.zipIdx := fun i o ho => by
  rw [List.mem_zipIdx_iff_getElem?]
  simpa using ho
 split at h
 ·rename_i hn
  rw [List.any_eq_false] at hn
  have hmi : oi ∈ ops.toList := List.mem_iff_getElem?.2 ⟨i, by simpa using hi⟩
  have hmj : oj ∈ ops.toList := List.mem_iff_getElem?.2 ⟨j, by simpa using hj⟩
  rcases hw with hw | hw
  ·exact absurd hw (hn _ hmi)
  ·exact absurd hw (hn _ hmj)
 ·have h1 := List.all_eq_true.1 (List.all_eq_true.1 h _ (mem i oi hi)) _ (mem j oj hj)
  have hw' : (opW wc oi.op || opW wc oj.op) = true := by rcases hw with hw | hw <;> simp [hw]
  simp only [hw', fi, fj, hu, hlt, decide_true, Bool.not_true, Bool.false_or] at h1
  refine ancs_spec ops.toList [] rfl (fun j i hb => by simp at hb) ?_ i j h1
  intro j ⟨o, ho⟩ e he hb
  rw [ho] at he
  exact hO.edge j o ho e (by simpa using he) hb

end Go.Abs
namespace Go.Abs
open Go Go.RowKit
variable {P : Program} {B : Nat} {w : World} {G : Gh} {H : Heap}
theorem andAll_mem {α : Type} {p : α → Prop} : ∀ {l : List α}, andAll l p → ∀ i ∈ l, p i
 | [], _, i, hi => by cases hi
 | [j], h, i, hi => by simp at hi; subst hi; exact h
 | j :: k :: l, h, i, hi => by
  rcases List.mem_cons.1 hi with rfl | hi
  ·exact h.1
  ·exact andAll_mem h.2 i hi
theorem wpOp_bare {ops : Array Oper} {Q : Exit → Act → World → Prop} {i : Nat} {o : Oper} {a : Act} {K : Act → World → Prop} (ho : ops[i]? = some o) (hg : o.guard = none) : wpOp P ops Q i K a w = (o.wp P a w K Q ∨ (o.asks P a w ∧ LetsOut Q)) := by
 unfold wpOp
 simp only [ho]
 rw [if_pos (by simp [Region.wanted, hg])]
theorem runT_sound {ops : Array Oper} {K : List AV → Heap → Prop} {Q : Exit → Act → World → Prop} {w0 : World} {G0 : Gh}
  (hQ : ∀ a w G F H, Ext B w0 G0 w G → HRel B w G H → FRel w G a.tmps F → a.defers = [] → K F H → Q .normal a w) :
  ∀ (n : Nat) (listed : Array Bool) (a : Act) (w : World) (G : Gh) (F : List AV) (H : Heap), Ext B w0 G0 w G → HRel B w G H → FRel w G a.tmps F → a.defers = [] → runT P ops K n listed F H → wpAny P .any ops Q n listed a w := by
 intro n
 induction n with
 | zero =>
  intro listed a w G F H hE hH hF hd h
  unfold runT at h
  split at h
  ·rename_i hr
   exact ⟨hr, hQ a w G F H hE hH hF hd h⟩
  ·exact h.elim
 | succ n ih =>
  intro listed a w G F H hE hH hF hd h
  unfold runT at h
  split at h
  ·rename_i hr
   exact ⟨fun _ => hQ a w G F H hE hH hF hd h, fun i hi => by rw [hr] at hi; cases hi⟩
  ·rename_i i is hr
   refine ⟨fun h0 => (by rw [hr] at h0; cases h0), fun j hj => ?_⟩
   rw [hr] at hj
   have h1 := andAll_mem h j hj
   split at h1
   ·rename_i o ho
    split at h1
    ·rename_i hg
     rw [wpOp_bare ho hg]
     refine .inl (oper_of_ok hF (op_sound hH hF h1) fun v av w' G' H' k1 k2 k3 k4 => ?_)
     have hput : (a.put o.dst v).defers = [] := by cases hdst : o.dst <;> simpa [Act.put] using hd
     exact ih _ _ w' G' _ H' (hE.trans k1) k2 ((hF.ext k1).put k3) hput k4
    ·exact h1.elim
   ·exact h1.elim
def tailQ (T : Act → World → Prop) (Q : Exit → Act → World → Prop) : Exit → Act → World → Prop
 | .normal, a, w => T a w
 | e, a, w => Q e a w
theorem lets_tail {T : Act → World → Prop} {Q : Exit → Act → World → Prop} (h : LetsOut (tailQ T Q)) : LetsOut Q := h
theorem oper_tail {o : Oper} {a : Act} {T : Act → World → Prop} {Q : Exit → Act → World → Prop} {K K' : Act → World → Prop} (hk : ∀ a w, K a w → K' a w) (h : o.wp P a w K (tailQ T Q)) : o.wp P a w K' Q := by
 have h := Oper.wp_mono hk h
 unfold Oper.wp at *
 generalize (execOp a.eval o).run P w = r at *
 cases r with
 | ok n w' =>
  cases n <;> simp only [Oper.upon] at h ⊢ <;>
   first
    | exact h
    | exact Calls.mono h (fun e w'' he => by cases e <;> first | exact he | exact lets_tail he)
 | halt x w' => cases x <;> simp only [Oper.upon] at h ⊢ <;> exact h
theorem wpAny_split {ops pre : Array Oper} {m t : Nat} {Q : Exit → Act → World → Prop} (hm : m + t = ops.size) (hpre : pre = preOps ops m) (hdep : tailDep ops m = true) (hedge : ∀ (i : Nat) o, pre[i]? = some o → ∀ e ∈ o.after, Region.binds .any e = true → e.on < i) :
  ∀ (n : Nat) (listed : Array Bool) (a : Act) (w : World), listed.size = m → listed.toList.count false = n → wpAny P .any pre (tailQ (wpAny P .any ops Q t (tailL m t)) Q) n listed a w →
   wpAny P .any ops Q (n + t) (listed ++ (List.replicate t false).toArray) a w := by
 have hps : pre.size = m := by rw [hpre]; simp [preOps]; omega
 have same : ∀ i, i < m → pre[i]? = ops[i]? := fun i hi => by rw [hpre]; simp [preOps, hi]
 obtain ⟨hd1, hd2⟩ : (∀ o ∈ ops.toList.drop m, ∀ i, i < m → hasEdge o i = true) ∧ ∀ o ∈ ops.toList, o.guard = none := by
  unfold tailDep at hdep
  rw [Bool.and_eq_true, List.all_eq_true, List.all_eq_true] at hdep
  refine ⟨fun o ho i hi => ?_, fun o ho => by simpa using hdep.2 o ho⟩
  have := hdep.1 o ho
  rw [List.all_eq_true] at this
  exact this i (List.mem_range.2 hi)
 have bare : ∀ (i : Nat) (o : Oper), ops[i]? = some o → o.guard = none := fun i o ho => hd2 o (List.mem_iff_getElem?.2 ⟨i, by simpa using ho⟩)
 intro n
 induction n with
 | zero =>
  intro listed a w hsz hc h
  have hall : listed = (List.replicate m true).toArray := by
   have h1 : ∀ b ∈ listed.toList, b = true := fun b hb => by
    cases b with
    | true => rfl
    | false => have := List.count_pos_iff.2 hb; omega
   have h2 : listed.toList = List.replicate m true := by rw [← hsz, ← Array.length_toList]; exact List.eq_replicate_of_mem h1
   rw [← Array.toArray_toList (xs := listed), h2]
  obtain ⟨_, h2⟩ := h
  have : listed ++ (List.replicate t false).toArray = tailL m t := by rw [hall]; simp [tailL]
  rw [this, Nat.zero_add]
  exact h2
 | succ n ih =>
  intro listed a w hsz hc h
  have gl : ∀ (i : Nat) (d : Bool), i < m → (listed ++ (List.replicate t false).toArray).getD i d = listed.getD i d := fun i d hi => by
   simp [Array.getElem?_append, hsz, hi]
  -- some operation of the first part is open
  obtain ⟨k, hk, hkf⟩ : ∃ k, k < m ∧ listed.getD k true = false := by
   have : false ∈ listed.toList := List.count_pos_iff.1 (by omega)
   obtain ⟨k, hk⟩ := List.mem_iff_getElem?.1 this
   have hlt : k < listed.size := by have := (List.getElem?_eq_some_iff.1 hk).1; simpa using this
   refine ⟨k, by omega, ?_⟩
   have hk' : listed[k]? = some false := by simpa using hk
   simp [hk']
  have ready : ∀ i, i ∈ Region.ready .any ops (listed ++ (List.replicate t false).toArray) → i < m ∧ i ∈ Region.ready .any pre listed := fun i hi => by
   obtain ⟨h1, o, ho, he⟩ := mem_ready.1 hi
   by_cases him : i < m
   ·rw [gl i true him] at h1
    refine ⟨him, mem_ready.2 ⟨h1, o, by rw [same i him]; exact ho, fun e hem hb => ?_⟩⟩
    have hlt := hedge i o (by rw [same i him]; exact ho) e hem hb
    have := he e hem hb
    rwa [gl e.on false (by omega)] at this
   ·have hmem : o ∈ ops.toList.drop m := List.mem_iff_getElem?.2 ⟨i - m, by rw [List.getElem?_drop, show m + (i - m) = i by omega]; simpa using ho⟩
    obtain ⟨e, hem, hb, hon⟩ := hasEdge_spec (hd1 o hmem k hk)
    have := he e hem hb
    rw [hon, gl k false hk] at this
    have hkf2 : listed.getD k false = false := by
     have hlt : k < listed.size := by omega
     simp [hlt] at hkf ⊢
     exact hkf
    rw [hkf2] at this
    cases this
  have some_ready : Region.ready .any ops (listed ++ (List.replicate t false).toArray) ≠ [] := by
   intro hr
   have all : ∀ i, i < m → listed.getD i false = true := by
    intro i
    induction i using Nat.strongRecOn with
    | _ i ihi =>
     intro hi
     cases hS : listed.getD i false with
     | true => rfl
     | false =>
      have hio : i < ops.size := by omega
      have ho : ops[i]? = some ops[i] := by simp [hio]
      have : i ∈ Region.ready .any ops (listed ++ (List.replicate t false).toArray) := by
       rw [mem_ready]
       refine ⟨?_, ops[i], ho, fun e he hb => ?_⟩
       ·rw [gl i true hi]
        have hlt : i < listed.size := by omega
        simp [hlt] at hS ⊢
        exact hS
       ·have hlt := hedge i ops[i] (by rw [same i hi]; exact ho) e he hb
        rw [gl e.on false (by omega)]
        exact ihi e.on hlt (by omega)
      rw [hr] at this
      cases this
   have h1 := all k hk
   have hlt : k < listed.size := by omega
   simp [hlt] at hkf h1
   rw [h1] at hkf
   cases hkf
  rw [show n + 1 + t = (n + t) + 1 by omega]
  refine ⟨fun h0 => absurd h0 some_ready, fun i hi => ?_⟩
  obtain ⟨him, hir⟩ := ready i hi
  have h1 := h.2 i hir
  obtain ⟨hf1, o, ho, _⟩ := mem_ready.1 hir
  have ho' : ops[i]? = some o := by rw [← same i him]; exact ho
  have hg := bare i o ho'
  rw [wpOp_bare ho hg] at h1
  rw [wpOp_bare ho' hg]
  have hset : (listed ++ (List.replicate t false).toArray).setIfInBounds i true = listed.setIfInBounds i true ++ (List.replicate t false).toArray := by
   rw [Array.setIfInBounds_append_left (by omega)]
  have hcount : (listed.setIfInBounds i true).toList.count false = n := by
   have hil : i < listed.size := by omega
   have hf : listed.toList[i]'(by simpa using hil) = false := by
    simp [hil] at hf1
    simpa using hf1
   rw [Array.toList_setIfInBounds, List.count_set (by simpa using hil), hf]
   simp only [beq_self_eq_true, if_true, Bool.true_eq_false, beq_iff_eq, if_false]
   omega
  rcases h1 with h1 | ⟨h1, h2⟩
  ·refine .inl (oper_tail (fun a w hk => ?_) h1)
   rw [hset]
   exact ih _ a w (by simpa using hsz) hcount hk
  ·exact .inr ⟨h1, lets_tail h2⟩
end Go.Abs
namespace Go.Abs
open Go Go.RowKit

variable {wc : WM} {P : Program} {B : Nat} {w : World} {G : Gh} {H : Heap}

def inS (listed : Array Bool) (i : Nat) : Bool := listed.getD i false

theorem inS_set {listed : Array Bool} {i : Nat} (hi : i < listed.size) (k : Nat) : inS (listed.setIfInBounds i true) k = if k = i then true else inS listed k := by
 unfold inS
 by_cases hk : k = i
 ·subst hk; simp [hi]
 ·simp [hk, Array.getElem?_setIfInBounds_ne (fun h => hk h.symm)]

theorem inS_rep (n i : Nat) : inS (Array.replicate n false) i = false := by
 unfold inS
 rw [Array.getD_eq_getD_getElem?, Array.getElem?_replicate]
 split <;> rfl

theorem opW_F {op : Op} (h : opW wc op = true) : opF op = false := by
 cases op <;> simp only [opW, Bool.false_eq_true] at h <;> simp only [opF]
 rename_i c
 cases hc : c.callee with
 | builtin b => cases b <;> simp [hc] at h ⊢
 | value f => rfl
 | invoke r m => simp [hc] at h
theorem opW_L {op : Op} (h : opW wc op = true) : opL op = false ∧ opC wc op = false := by
 cases op <;> simp only [opW, Bool.false_eq_true] at h <;> first | exact ⟨rfl, rfl⟩ | skip
 rename_i c
 refine ⟨rfl, ?_⟩
 cases hc : c.callee with
 | builtin b => cases b <;> simp [hc] at h <;> simp [opC, hc]
 | value f => simpa [opC, hc] using h
 | invoke r m => simp [hc] at h
theorem opV_W {op : Op} (h : opV op = true) : opW wc op = true ∧ opL op = false ∧ opC wc op = false ∧ opA wc op = false ∧ opF op = false := by
 cases op <;> simp only [opV, Bool.false_eq_true] at h <;> exact ⟨rfl, rfl, rfl, rfl, rfl⟩
theorem opL_W {op : Op} (h : opL op = true) : opW wc op = false ∧ opF op = false ∧ opA wc op = false ∧ opC wc op = false ∧ opV op = false := by
 cases op <;> simp only [opL, Bool.false_eq_true] at h <;> exact ⟨rfl, rfl, rfl, rfl, rfl⟩
theorem opC_L {op : Op} (h : opC wc op = true) : opW wc op = false ∧ opF op = false ∧ opL op = false ∧ opV op = false := by
 cases op <;> simp only [opC, Bool.false_eq_true] at h
 rename_i c
 cases hc : c.callee with
 | value f => exact ⟨by simpa [opW, hc] using h, by simp [opF, hc], rfl, rfl⟩
 | builtin b => simp [hc] at h
 | invoke r m => simp [hc] at h
theorem sound_fill {t : TypeId} {z : Value} {id : Nat} {K : AV → Heap → Prop} (hH : HRel B w G H) (hz : tZero P t = some z) (hid : H[id]? = some .gap) (h : K (.ptr id 0) (H.set id (.cells (constCells z)))) :
  OpOK P B w G K (((do pure (.value (← Instr.alloc t true (.tuple #[])))) : Sem Next).run P w) := by
 obtain ⟨he, hH'⟩ := hH.fill hid z.cells t (constCells z) (rel_cells z)
 have hrun : ((do pure (.value (← Instr.alloc t true (.tuple #[])))) : Sem Next).run P w = .ok (.value (.pointer (some ⟨w.heap.size, 0, none⟩))) (w.alloc (.cells z.cells t)) := by
  simp [Instr.alloc, run_zero hz, newVar, newRow, World.alloc_eq]
 rw [hrun]
 refine ⟨.ptr id 0, _, _, he, hH', ⟨w.heap.size, ?_, rfl⟩, h⟩
 exact List.getElem?_set_self (by rw [hH.len]; exact (List.getElem?_eq_some_iff.1 hid).1)

def HpOK (wc : WM) (ops : Array Oper) (S : Nat → Bool) (p : Nat) : Prop := ∀ (i : Nat) o, ops[i]? = some o → opW wc o.op = true → (S i = true ↔ i < p)
def AtOK (wc : WM) (P : Program) (ops : Array Oper) (F0 rs : List AV) (hs : List Heap) (H : Heap) : Prop :=
 ∀ (i : Nat) o, ops.toList[i]? = some o → ∃ r, rs[i]? = some r ∧ TrOK P ops (hpk hs H i) (frk ops.toList rs F0 i) o r (hpk hs H (i + 1)) ∧ frk ops.toList rs F0 (i + 1) = putF (frk ops.toList rs F0 i) o.dst r ∧
  (opW wc o.op = false → hpk hs H (i + 1) = hpk hs H i) ∧ (opC wc o.op = true → ∀ J, TrOK P ops (hpk hs H i ++ J) (frk ops.toList rs F0 i) o r (hpk hs H i ++ J)) ∧ (opG wc o.op = true → GrowA (hpk hs H i) (hpk hs H (i + 1)))

theorem hp_same {ops : Array Oper} {hs : List Heap} {F0 rs : List AV} (hat : AtOK wc P ops F0 rs hs H)
  {p : Nat} : ∀ (q : Nat), p ≤ q → q ≤ ops.size → (∀ (i : Nat) o, ops[i]? = some o → opW wc o.op = true → p ≤ i → i < q → False) → hpk hs H q = hpk hs H p
 | 0, hp, _, _ => by rw [Nat.le_zero.1 hp]
 | q + 1, hp, hq, hn => by
  by_cases he : p = q + 1
  ·rw [he]
  ·have ho : ops[q]? = some ops[q] := by simp [show q < ops.size by omega]
   obtain ⟨r, _, _, _, h4, _⟩ := hat q ops[q] (by simp)
   have hw : opW wc (ops[q]).op = false := by
    cases hw : opW wc (ops[q]).op with
    | false => rfl
    | true => exact (hn q _ ho hw (by omega) (by omega)).elim
   rw [h4 hw]
   exact hp_same hat q (by omega) (by omega) (fun i o h1 h2 h3 h4 => hn i o h1 h2 h3 (by omega))
theorem opA_or {op : Op} (h : opA wc op = true) : opA .n op = true ∨ opG wc op = true := by
 cases op <;> simp only [opA, Bool.false_eq_true] at h
 rename_i c
 cases hc : c.callee with
 | value f => right; simpa [opG, hc] using h
 | builtin b => left; cases b <;> simp [opA, hc] at h ⊢
 | invoke r m => simp [hc] at h
theorem TrOK.growW {ops : Array Oper} {F : List AV} {o : Oper} {r : AV} {H H' : Heap} (ht : TrOK P ops H F o r H') (hg : opG wc o.op = true → GrowA H H') (ho : opA wc o.op = true) : GrowA H H' := by
 rcases opA_or ho with h | h
 ·exact ht.growA h
 ·exact hg h
theorem hp_up {ops : Array Oper} {hs : List Heap} {F0 rs : List AV} (hat : AtOK wc P ops F0 rs hs H) {i : Nat} : ∀ (q : Nat), i ≤ q → q ≤ ops.size → (∀ (k : Nat) o, ops[k]? = some o → opW wc o.op = true → i ≤ k → k < q → opA wc o.op = true ∨ opN o.op = true) →
  ∀ (id : Nat) (cs : List AV), (hpk hs H i)[id]? = some (AB.cells cs) → (hpk hs H q)[id]? = some (AB.cells cs)
 | 0, h1, _, _, id, cs, hc => by rw [Nat.le_zero.1 h1] at hc; exact hc
 | q + 1, h1, h2, hn, id, cs, hc => by
  by_cases he : i = q + 1
  ·rw [← he]; exact hc
  ·have hq : ops[q]? = some ops[q] := by simp [show q < ops.size by omega]
   obtain ⟨rq, _, htq, _, hnq, _, hgq⟩ := hat q ops[q] (by simp)
   have h3 := hp_up hat q (by omega) (by omega) (fun k o a b c d => hn k o a b c (by omega)) id cs hc
   cases hwq : opW wc (ops[q]).op with
   | false => rw [hnq hwq]; exact h3
   | true =>
    rcases hn q _ hq hwq (by omega) (by omega) with ha | ha
    ·exact (htq.growW hgq ha).grow.cells h3
    ·exact (htq.growN ha).cells h3
theorem hp_down {ops : Array Oper} {hs : List Heap} {F0 rs : List AV} (hat : AtOK wc P ops F0 rs hs H) {p : Nat} : ∀ (q : Nat), p ≤ q → q ≤ ops.size → (∀ (k : Nat) o, ops[k]? = some o → opW wc o.op = true → p ≤ k → k < q → opA wc o.op = true) →
  ∀ (id : Nat) (cs : List AV), (hpk hs H q)[id]? = some (AB.cells cs) → (hpk hs H p)[id]? = some (AB.cells cs)
 | 0, h1, _, _, id, cs, hc => by rw [Nat.le_zero.1 h1]; exact hc
 | q + 1, h1, h2, hn, id, cs, hc => by
  by_cases he : p = q + 1
  ·rw [he]; exact hc
  ·have hq : ops[q]? = some ops[q] := by simp [show q < ops.size by omega]
   obtain ⟨rq, _, htq, _, hnq, _, hgq⟩ := hat q ops[q] (by simp)
   refine hp_down hat q (by omega) (by omega) (fun k o a b c d => hn k o a b c (by omega)) id cs ?_
   cases hwq : opW wc (ops[q]).op with
   | false => rw [hnq hwq] at hc; exact hc
   | true => exact (htq.growW hgq (hn q _ hq hwq (by omega) (by omega))).cells hc

structure VB (ops : Array Oper) (a b : Nat) : Prop where
 le : a ≤ b
 fit : b ≤ ops.size
 iff : ∀ (i : Nat) o, ops[i]? = some o → (opV o.op = true ↔ a ≤ i ∧ i < b)
 bare : ∀ (i : Nat) o, ops[i]? = some o → opV o.op = true → o.guard = none
theorem ordV_spec {ops : Array Oper} (h : ordV ops = true) : ∃ a b, VB ops a b := by
 unfold ordV at h
 have mem : ∀ (i : Nat) o, ops[i]? = some o → (o, i) ∈ ops.toList.zipIdx := fun i o ho => by
  rw [List.mem_zipIdx_iff_getElem?]
  simpa using ho
 split at h
 ·rename_i hn
  rw [List.any_eq_false] at hn
  have no : ∀ (i : Nat) o, ops[i]? = some o → opV o.op = true → False := fun i o ho hv => hn o (List.mem_iff_getElem?.2 ⟨i, by simpa using ho⟩) hv
  exact ⟨0, 0, Nat.le_refl _, Nat.zero_le _, fun i o ho => ⟨fun hv => (no i o ho hv).elim, fun hc => by omega⟩, fun i o ho hv => (no i o ho hv).elim⟩
 ·rename_i hn
  generalize ops.toList.findIdx (fun o => opV o.op) = a at h
  generalize ops.toList.countP (fun o => opV o.op) = k at h
  have key : ∀ (i : Nat) o, ops[i]? = some o → (opV o.op = true ↔ a ≤ i ∧ i < a + k) ∧ (opV o.op = true → o.guard = none) := fun i o ho => by
   have := List.all_eq_true.1 h _ (mem i o ho)
   simp only [Bool.and_eq_true, beq_iff_eq, Bool.or_eq_true, Bool.not_eq_true', Option.isNone_iff_eq_none] at this
   refine ⟨?_, fun hv => (this.2.resolve_left (by simp [hv]))⟩
   rw [this.1]
   simp
  by_cases hfit : a + k ≤ ops.size
  ·exact ⟨a, a + k, by omega, hfit, fun i o ho => (key i o ho).1, fun i o ho => (key i o ho).2⟩
  ·by_cases ha : a ≤ ops.size
   ·refine ⟨a, ops.size, ha, Nat.le_refl _, fun i o ho => ?_, fun i o ho => (key i o ho).2⟩
    have hi : i < ops.size := (Array.getElem?_eq_some_iff.1 ho).1
    rw [(key i o ho).1]
    constructor <;> rintro ⟨_, _⟩ <;> constructor <;> omega
   ·refine ⟨0, 0, Nat.le_refl _, Nat.zero_le _, fun i o ho => ?_, fun i o ho => (key i o ho).2⟩
    have hi : i < ops.size := (Array.getElem?_eq_some_iff.1 ho).1
    rw [(key i o ho).1]
    constructor <;> rintro ⟨_, _⟩ <;> omega

def zOf (hs : List Heap) (H : Heap) (j : Nat) : List AV := match (hpk hs H (j + 1))[(hpk hs H j).length]? with | some (.cells cs) => cs | _ => []
theorem new_at {ops : Array Oper} {hs : List Heap} {F0 rs : List AV} {a b : Nat} (hat : AtOK wc P ops F0 rs hs H) (hV : VB ops a b) {j : Nat} (h1 : a ≤ j) (h2 : j < b) :
  ∃ o t z, ops[j]? = some o ∧ o.op = .alloc t ∧ tZero P t = some z ∧ zOf hs H j = constCells z ∧ hpk hs H (j + 1) = hpk hs H j ++ [.cells (zOf hs H j)] ∧ rs[j]? = some (.ptr (hpk hs H j).length 0) := by
 have hj : j < ops.size := by have := hV.fit; omega
 have ho : ops[j]? = some ops[j] := by simp [hj]
 have hv := (hV.iff j _ ho).2 ⟨h1, h2⟩
 obtain ⟨r, hr, htr, _⟩ := hat j ops[j] (by simp)
 unfold TrOK at htr
 rw [hV.bare j _ ho hv] at htr
 simp only [] at htr
 have hop : ∃ t, (ops[j]).op = .alloc t := by
  revert hv
  cases (ops[j]).op <;> simp [opV]
 obtain ⟨t, hop⟩ := hop
 simp only [aopD, aop, aop0, hop, isM] at htr
 split at htr
 ·rename_i z hz
  obtain ⟨e1, e2⟩ := htr
  have hzo : zOf hs H j = constCells z := by unfold zOf; rw [← e2]; simp
  exact ⟨ops[j], t, z, ho, hop, hz, hzo, by rw [hzo]; exact e2.symm, by rw [hr, ← e1]⟩
 ·exact htr.elim
def gaps (hs : List Heap) (H : Heap) (a b : Nat) (S : Nat → Bool) : Heap := (List.range (b - a)).map fun q => if S (a + q) = true then AB.cells (zOf hs H (a + q)) else .gap
theorem hpk_news {ops : Array Oper} {hs : List Heap} {F0 rs : List AV} {a b : Nat} (hat : AtOK wc P ops F0 rs hs H) (hV : VB ops a b) : ∀ m, a + m ≤ b → hpk hs H (a + m) = hpk hs H a ++ (List.range m).map fun q => AB.cells (zOf hs H (a + q))
 | 0, _ => by simp
 | m + 1, hm => by
  obtain ⟨o, t, z, _, _, _, _, h1, _⟩ := new_at hat hV (j := a + m) (by omega) (by omega)
  rw [show a + (m + 1) = a + m + 1 by omega, h1, hpk_news hat hV m (by omega), List.range_succ, List.map_append, List.append_assoc]
  rfl
theorem gaps_all {ops : Array Oper} {hs : List Heap} {F0 rs : List AV} {a b : Nat} (hat : AtOK wc P ops F0 rs hs H) (hV : VB ops a b) {S : Nat → Bool} (h : ∀ j, a ≤ j → j < b → S j = true) : hpk hs H a ++ gaps hs H a b S = hpk hs H b := by
 have := hpk_news hat hV (b - a) (by have := hV.le; omega)
 rw [show a + (b - a) = b by have := hV.le; omega] at this
 rw [this]
 congr 1
 apply List.map_congr_left
 intro q hq
 rw [if_pos (h (a + q) (by omega) (by have := List.mem_range.1 hq; omega))]
theorem gaps_none {hs : List Heap} {a b : Nat} {S : Nat → Bool} (h : ∀ j, a ≤ j → j < b → S j = false) : gaps hs H a b S = List.replicate (b - a) .gap := by
 apply List.ext_getElem?
 intro q
 unfold gaps
 rw [List.getElem?_map]
 by_cases hq : q < b - a
 ·rw [List.getElem?_range hq, List.getElem?_replicate, if_pos hq]
  simp [h (a + q) (by omega) (by omega)]
 ·rw [List.getElem?_eq_none (by simp; omega), List.getElem?_eq_none (by simp; omega)]
  rfl
theorem gaps_set {hs : List Heap} {a b i : Nat} {S : Nat → Bool} (h1 : a ≤ i) (h2 : i < b) : (gaps hs H a b S).set (i - a) (.cells (zOf hs H i)) = gaps hs H a b (fun k => if k = i then true else S k) := by
 apply List.ext_getElem?
 intro q
 by_cases hq : q = i - a
 ·subst hq
  rw [List.getElem?_set_self (by simp [gaps]; omega)]
  unfold gaps
  rw [List.getElem?_map, List.getElem?_range (by omega)]
  simp [show a + (i - a) = i by omega]
 ·rw [List.getElem?_set_ne (fun h => hq h.symm)]
  unfold gaps
  rw [List.getElem?_map, List.getElem?_map]
  by_cases hq2 : q < b - a
  ·rw [List.getElem?_range hq2]
   simp [show a + q ≠ i by omega]
  ·rw [List.getElem?_eq_none (by simp; omega)]
   rfl
theorem gaps_get {hs : List Heap} {a b i : Nat} {S : Nat → Bool} (h1 : a ≤ i) (h2 : i < b) (h : S i = false) : (gaps hs H a b S)[i - a]? = some .gap := by
 unfold gaps
 rw [List.getElem?_map, List.getElem?_range (by omega)]
 simp [show a + (i - a) = i by omega, h]

def StOK (wc : WM) (ops : Array Oper) (hs : List Heap) (H : Heap) (a b : Nat) (S : Nat → Bool) (Hc : Heap) : Prop :=
 (∃ p, p ≤ ops.size ∧ HpOK wc ops S p ∧ Hc = hpk hs H p ∧ ((∀ j, a ≤ j → j < b → S j = false) ∨ (∀ j, a ≤ j → j < b → S j = true))) ∨
 ((∀ (k : Nat) o, ops[k]? = some o → opW wc o.op = true → k < a → S k = true) ∧ (∀ (k : Nat) o, ops[k]? = some o → opW wc o.op = true → b ≤ k → S k = false) ∧
   (∃ j, a ≤ j ∧ j < b ∧ S j = true) ∧ (∃ j, a ≤ j ∧ j < b ∧ S j = false) ∧ Hc = hpk hs H a ++ gaps hs H a b S)

theorem StOK.congr {ops : Array Oper} {hs : List Heap} {a b : Nat} {S S' : Nat → Bool} {Hc : Heap} (hV : VB ops a b) (h : StOK wc ops hs H a b S Hc) (he : ∀ i, i < ops.size → S i = S' i) : StOK wc ops hs H a b S' Hc := by
 have hfit := hV.fit
 rcases h with ⟨p, h1, h2, h3, h4⟩ | ⟨h1, h2, ⟨j, hj1, hj2, hj3⟩, ⟨k, hk1, hk2, hk3⟩, h5⟩
 ·refine .inl ⟨p, h1, fun i o ho hw => by rw [← he i (Array.getElem?_eq_some_iff.1 ho).1]; exact h2 i o ho hw, h3, ?_⟩
  rcases h4 with h4 | h4
  ·exact .inl fun j a b => by rw [← he j (by omega)]; exact h4 j a b
  ·exact .inr fun j a b => by rw [← he j (by omega)]; exact h4 j a b
 ·refine .inr ⟨fun k o ho hw hk => by rw [← he k (Array.getElem?_eq_some_iff.1 ho).1]; exact h1 k o ho hw hk, fun k o ho hw hk => by rw [← he k (Array.getElem?_eq_some_iff.1 ho).1]; exact h2 k o ho hw hk,
   ⟨j, hj1, hj2, by rw [← he j (by omega)]; exact hj3⟩, ⟨k, hk1, hk2, by rw [← he k (by omega)]; exact hk3⟩, ?_⟩
  rw [h5]
  congr 1
  apply List.map_congr_left
  intro q hq
  rw [he (a + q) (by have := List.mem_range.1 hq; omega)]

section
variable {ops : Array Oper} {F0 rs F : List AV} {hs : List Heap} {S : Nat → Bool} {i : Nat} {o : Oper} {r : AV} {a b : Nat} {Hc : Heap}
theorem StOK.step (hO : Ord ops) (hW : ordW wc ops = true) (hV : VB ops a b) (hat : AtOK wc P ops F0 rs hs H) (hst : StOK wc ops hs H a b S Hc)
  (hcl : ∀ (j : Nat) oj, ops[j]? = some oj → S j = true → ∀ e ∈ oj.after, Region.binds .any e = true → S e.on = true)
  (ho : ops[i]? = some o) (hSi : S i = false) (hedge : ∀ e ∈ o.after, Region.binds .any e = true → S e.on = true) (hr : rs[i]? = some r)
  (hreads : ∀ s ∈ opReads ops o, (frk ops.toList rs F0 i).getD s .unk = F.getD s .unk) (hnv : opV o.op = false) :
  ∃ Hc', StOK wc ops hs H a b (fun k => if k = i then true else S k) Hc' ∧ TrOK P ops Hc F o r Hc' := by
 have hin : i < ops.size := (Array.getElem?_eq_some_iff.1 ho).1
 have hfit := hV.fit
 have hle := hV.le
 obtain ⟨r', hr', htr, _, hnw, hxx, _⟩ := hat i o (by simpa using ho)
 rw [hr] at hr'
 cases hr'
 have htr' : TrOK P ops (hpk hs H i) F o r (hpk hs H (i + 1)) := htr.congr hreads
 have hx : opC wc o.op = true → ∀ J, TrOK P ops (hpk hs H i ++ J) F o r (hpk hs H i ++ J) := fun hc J => (hxx hc J).congr hreads
 have hni : ¬ (a ≤ i ∧ i < b) := fun h => by have := (hV.iff i o ho).2 h; rw [hnv] at this; cases this
 have isNew : ∀ {k : Nat}, a ≤ k → k < b → ∃ ok, ops[k]? = some ok ∧ opV ok.op = true := fun {k} h1 h2 => by
  have hk : ops[k]? = some ops[k] := by simp [show k < ops.size by omega]
  exact ⟨_, hk, (hV.iff k _ hk).2 ⟨h1, h2⟩⟩
 have notV : ∀ {k : Nat} {ok : Oper}, ops[k]? = some ok → ¬ (a ≤ k ∧ k < b) → opV ok.op = false := fun {k ok} hk hn => by
  cases hv : opV ok.op with
  | false => rfl
  | true => exact (hn ((hV.iff k ok hk).1 hv)).elim
 have uf : ∀ {q p : Op}, opL q = false → opL p = false → (opC wc q = false ∨ opV p = false) → (opV q = false ∨ opV p = false) → okU wc q p = false := fun h1 h2 h3 h4 => by
  unfold okU
  rw [h1, h2]
  rcases h3 with h3 | h3 <;> rcases h4 with h4 | h4 <;> simp [h3, h4]
 -- what writes before it is done, what writes behind it is not
 have before : opF o.op = false → ∀ (k : Nat) ok, ops[k]? = some ok → opW wc ok.op = true → k < i → okU wc ok.op o.op = false → S k = true := fun hf k ok hk hw hlt hu =>
  (ordW_spec hO hW ho hk hlt (.inr hw) hf (opW_F hw) hu).ready hcl ho hedge
 have behind : opF o.op = false → ∀ (k : Nat) ok, ops[k]? = some ok → opW wc ok.op = true → i < k → okU wc o.op ok.op = false → S k = false := fun hf k ok hk hw hlt hu => by
  cases hS : S k with
  | false => rfl
  | true =>
   have := (ordW_spec hO hW hk ho hlt (.inl hw) (opW_F hw) hf hu).closed hcl hS
   rw [hSi] at this
   cases this
 have keepS : ∀ Hc0, opW wc o.op = false → StOK wc ops hs H a b S Hc0 → StOK wc ops hs H a b (fun k => if k = i then true else S k) Hc0 := by
  intro Hc0 hw h
  have other : ∀ (k : Nat) ok, ops[k]? = some ok → opW wc ok.op = true → k ≠ i := fun k ok hk hwk hki => by
   subst hki; rw [ho] at hk; cases hk; rw [hw] at hwk; cases hwk
  have otherV : ∀ j, a ≤ j → j < b → j ≠ i := fun j h1 h2 hji => by subst hji; exact hni ⟨h1, h2⟩
  rcases h with ⟨p, h1, h2, h3, h4⟩ | ⟨h1, h2, ⟨j, hj1, hj2, hj3⟩, ⟨k, hk1, hk2, hk3⟩, h5⟩
  ·refine .inl ⟨p, h1, fun k ok hk hwk => by simp only [other k ok hk hwk, if_false]; exact h2 k ok hk hwk, h3, ?_⟩
   rcases h4 with h4 | h4
   ·exact .inl fun j x y => by simp only [otherV j x y, if_false]; exact h4 j x y
   ·exact .inr fun j x y => by simp only [otherV j x y, if_false]; exact h4 j x y
  ·refine .inr ⟨fun k ok hk hwk hka => by simp only [other k ok hk hwk, if_false]; exact h1 k ok hk hwk hka, fun k ok hk hwk hka => by simp only [other k ok hk hwk, if_false]; exact h2 k ok hk hwk hka,
    ⟨j, hj1, hj2, by simp only [otherV j hj1 hj2, if_false]; exact hj3⟩, ⟨k, hk1, hk2, by simp only [otherV k hk1 hk2, if_false]; exact hk3⟩, ?_⟩
   rw [h5]
   congr 1
   apply List.map_congr_left
   intro q hq
   have := List.mem_range.1 hq
   simp only [otherV (a + q) (by omega) (by omega), if_false]
 cases hf : opF o.op with
 | true =>
  have hw : opW wc o.op = false := by
   cases hw : opW wc o.op with
   | false => rfl
   | true => rw [opW_F hw] at hf; cases hf
  rw [hnw hw] at htr'
  exact ⟨Hc, keepS Hc hw hst, htr'.free hf⟩
 | false =>
 rcases hst with ⟨p, hp, hpo, rfl, hph⟩ | hII
 ·-- the heap of the text
  have stay : StOK wc ops hs H a b S (hpk hs H p) := .inl ⟨p, hp, hpo, rfl, hph⟩
  cases hl : opL o.op with
  | true =>
   obtain ⟨hw, _, hoa, hoc, _⟩ := opL_W hl
   rw [hnw hw] at htr'
   refine ⟨hpk hs H p, keepS _ hw stay, htr'.load hl ?_⟩
   by_cases hpi : p ≤ i
   ·refine hp_down hat i hpi (by omega) (fun k ok hk hwk hle hlt => ?_)
    cases hu : okU wc ok.op o.op with
    | true =>
     obtain ⟨h1, h2⟩ := opW_L hwk
     simp only [okU, h1, h2, hnv, hl, Bool.false_and, Bool.false_or, Bool.and_false, Bool.or_false, Bool.and_true] at hu
     exact hu
    | false =>
     have := (hpo k ok hk hwk).1 (before hf k ok hk hwk hlt hu)
     omega
   ·refine hp_up hat p (by omega) hp (fun k ok hk hwk hle hlt => ?_)
    have hSk := (hpo k ok hk hwk).2 hlt
    have hki : k ≠ i := by rintro rfl; rw [hSi] at hSk; cases hSk
    cases hu : okU wc o.op ok.op with
    | true =>
     obtain ⟨h1, h2⟩ := opW_L hwk
     simp only [okU, hl, h1, hoa, hoc, hnv, Bool.false_and, Bool.false_or, Bool.and_false, Bool.or_false, Bool.true_and, Bool.or_eq_true] at hu
     exact hu
    | false =>
     have := behind hf k ok hk hwk (by omega) hu
     rw [this] at hSk
     cases hSk
  | false =>
   cases hc : opC wc o.op with
   | true =>
    obtain ⟨hw, _, _, _⟩ := opC_L hc
    have below : ∀ (k : Nat) ok, ops[k]? = some ok → opW wc ok.op = true → k < i → k < p := fun k ok hk hwk hlt =>
     (hpo k ok hk hwk).1 (before hf k ok hk hwk hlt (uf (opW_L hwk).1 hl (.inl (opW_L hwk).2) (.inr hnv)))
    have above : ∀ (k : Nat) ok, ops[k]? = some ok → opW wc ok.op = true → i < k → ¬ (a ≤ k ∧ k < b) → ¬ k < p := fun k ok hk hwk hlt hn hkp => by
     have := behind hf k ok hk hwk hlt (uf hl (opW_L hwk).1 (.inr (notV hk hn)) (.inl hnv))
     rw [(hpo k ok hk hwk).2 hkp] at this
     cases this
    refine ⟨hpk hs H p, keepS _ hw stay, ?_⟩
    have same : (∀ (k : Nat) ok, ops[k]? = some ok → opW wc ok.op = true → i ≤ k → k < p → False) → TrOK P ops (hpk hs H p) F o r (hpk hs H p) := fun hno => by
     have e : hpk hs H p = hpk hs H i := by
      by_cases hpi : p ≤ i
      ·exact (hp_same hat i hpi (by omega) (fun k ok hk hwk h1 h2 => by have := below k ok hk hwk h2; omega)).symm
      ·exact hp_same hat p (by omega) hp hno
     rw [hnw hw] at htr'
     rw [e]
     exact htr'
    have selfW : ∀ (k : Nat) ok, ops[k]? = some ok → opW wc ok.op = true → k ≠ i := fun k ok hk hwk hki => by
     subst hki; rw [ho] at hk; cases hk; rw [hw] at hwk; cases hwk
    rcases hph with hno | hall
    ·refine same fun k ok hk hwk h1 h2 => ?_
     have hki := selfW k ok hk hwk
     by_cases hkn : a ≤ k ∧ k < b
     ·have := hno k hkn.1 hkn.2
      rw [(hpo k ok hk hwk).2 h2] at this
      cases this
     ·exact above k ok hk hwk (by omega) hkn h2
    ·by_cases hia : i < a
     ·by_cases hab : a = b
      ·refine same fun k ok hk hwk h1 h2 => ?_
       exact above k ok hk hwk (by have := selfW k ok hk hwk; omega) (by omega) h2
      ·-- all new variables are there
       obtain ⟨on, hon, hvn⟩ := isNew (k := b - 1) (by omega) (by omega)
       have hbp : b ≤ p := by
        have := (hpo (b - 1) on hon (opV_W hvn).1).1 (hall (b - 1) (by omega) (by omega))
        omega
       have e1 : hpk hs H a = hpk hs H i := hp_same hat a (by omega) (by omega) (fun k ok hk hwk h1 h2 => by
        have hki := selfW k ok hk hwk
        exact above k ok hk hwk (by omega) (by omega) (by omega))
       have e2 : hpk hs H p = hpk hs H b := hp_same hat p hbp hp (fun k ok hk hwk h1 h2 => above k ok hk hwk (by omega) (by omega) h2)
       rw [e2, ← gaps_all hat hV hall, e1]
       exact hx hc _
     ·refine same fun k ok hk hwk h1 h2 => ?_
      exact above k ok hk hwk (by have := selfW k ok hk hwk; omega) (by omega) h2
   | false =>
    have below : ∀ (k : Nat) ok, ops[k]? = some ok → opW wc ok.op = true → k < i → k < p := fun k ok hk hwk hlt =>
     (hpo k ok hk hwk).1 (before hf k ok hk hwk hlt (uf (opW_L hwk).1 hl (.inl (opW_L hwk).2) (.inr hnv)))
    have above : ∀ (k : Nat) ok, ops[k]? = some ok → opW wc ok.op = true → i ≤ k → ¬ k < p := fun k ok hk hwk hle hkp => by
     have hSk := (hpo k ok hk hwk).2 hkp
     by_cases hki : k = i
     ·subst hki; rw [hSi] at hSk; cases hSk
     ·have := behind hf k ok hk hwk (by omega) (uf hl (opW_L hwk).1 (.inl hc) (.inl hnv))
      rw [hSk] at this
      cases this
    have e : hpk hs H p = hpk hs H i := by
     by_cases hpi : p ≤ i
     ·exact (hp_same hat i hpi (by omega) (fun k ok hk hwk h1 h2 => by have := below k ok hk hwk h2; omega)).symm
     ·exact hp_same hat p (by omega) hp (fun k ok hk hwk h1 h2 => above k ok hk hwk h1 h2)
    cases hw : opW wc o.op with
    | false =>
     rw [hnw hw] at htr'
     exact ⟨hpk hs H p, keepS _ hw stay, by rw [e]; exact htr'⟩
    | true =>
     refine ⟨hpk hs H (i + 1), .inl ⟨i + 1, by omega, fun k ok hk hwk => ?_, rfl, ?_⟩, by rw [e]; exact htr'⟩
     ·by_cases hki : k = i
      ·subst hki; simp
      ·simp only [hki, if_false]
       rw [hpo k ok hk hwk]
       constructor
       ·intro hkp
        by_cases hik : i ≤ k
        ·exact (above k ok hk hwk hik hkp).elim
        ·omega
       ·intro hki2
        exact below k ok hk hwk (by omega)
     ·rcases hph with hno | hall
      ·exact .inl fun j x y => by
        have : j ≠ i := fun h => hni ⟨by omega, by omega⟩
        simp only [this, if_false]
        exact hno j x y
      ·exact .inr fun j x y => by
        have : j ≠ i := fun h => hni ⟨by omega, by omega⟩
        simp only [this, if_false]
        exact hall j x y
 ·-- some of the new variables are there
  obtain ⟨h1, h2, ⟨j0, hj1, hj2, hj3⟩, ⟨j1, hk1, hk2, hk3⟩, h5⟩ := hII
  obtain ⟨o0, ho0, hv0⟩ := isNew hj1 hj2
  obtain ⟨o1, ho1, hv1⟩ := isNew hk1 hk2
  have hia : i < a := by
   by_cases hia : i < a
   ·exact hia
   ·have := before hf j1 o1 ho1 (opV_W hv1).1 (by omega) (by
     obtain ⟨_, x1, x2, x3, _⟩ := opV_W (wc := wc) hv1
     unfold okU
     simp [x1, x2, x3, hnv])
    rw [hk3] at this
    cases this
  have early : okU wc o.op o0.op = true := by
   cases hu : okU wc o.op o0.op with
   | true => rfl
   | false =>
    have := behind hf j0 o0 ho0 (opV_W hv0).1 (by omega) hu
    rw [hj3] at this
    cases this
  have stay : StOK wc ops hs H a b S Hc := .inr ⟨h1, h2, ⟨j0, hj1, hj2, hj3⟩, ⟨j1, hk1, hk2, hk3⟩, h5⟩
  subst h5
  cases hl : opL o.op with
  | true =>
   obtain ⟨hw, _, hoa, hoc, _⟩ := opL_W hl
   rw [hnw hw] at htr'
   refine ⟨_, keepS _ hw stay, htr'.load hl fun id cs hcs => ?_⟩
   have := hp_up hat a (by omega) (by omega) (fun k ok hk hwk hle hlt => by
    have hSk := h1 k ok hk hwk hlt
    have hki : k ≠ i := by rintro rfl; rw [hSi] at hSk; cases hSk
    cases hu : okU wc o.op ok.op with
    | true =>
     obtain ⟨x1, x2⟩ := opW_L hwk
     simp only [okU, hl, x1, hoa, hoc, hnv, Bool.false_and, Bool.false_or, Bool.and_false, Bool.or_false, Bool.true_and, Bool.or_eq_true] at hu
     exact hu
    | false =>
     have := behind hf k ok hk hwk (by omega) hu
     rw [this] at hSk
     cases hSk) id cs hcs
   rw [List.getElem?_append_left (List.getElem?_eq_some_iff.1 this).1]
   exact this
  | false =>
   have hc : opC wc o.op = true := by
    unfold okU at early
    simp only [hl, hnv, (opV_W (wc := wc) hv0).2.1, Bool.false_and, Bool.and_false, Bool.false_or, Bool.or_false, Bool.and_eq_true] at early
    exact early.1
   obtain ⟨hw, _, _, _⟩ := opC_L hc
   have e1 : hpk hs H a = hpk hs H i := hp_same hat a (by omega) (by omega) (fun k ok hk hwk hle hlt => by
    have hSk := h1 k ok hk hwk hlt
    have hki : k ≠ i := by rintro rfl; rw [hSi] at hSk; cases hSk
    have := behind hf k ok hk hwk (by omega) (uf hl (opW_L hwk).1 (.inr (notV hk (by omega))) (.inl hnv))
    rw [this] at hSk
    cases hSk)
   refine ⟨_, keepS _ hw stay, ?_⟩
   rw [e1]
   exact hx hc _
end

theorem drawn_any {ops : Array Oper} {F0 rs Fn : List AV} {hs : List Heap} {Hn : Heap} {K : List AV → Heap → Prop} {Q : Exit → Act → World → Prop} {w0 : World} {G0 : Gh} {va vb : Nat} (hO : Ord ops) (hW : ordW wc ops = true) (hV : VB ops va vb) (ht : TrL wc P ops ops.toList F0 H rs hs Fn Hn) (hK : K Fn Hn)
  (hQ : ∀ a w G F H, Ext B w0 G0 w G → HRel B w G H → FRel w G a.tmps F → a.defers = [] → K F H → Q .normal a w) :
  ∀ (fuel : Nat) (listed : Array Bool) (a : Act) (w : World) (G : Gh) (F : List AV) (Hc : Heap), StOK wc ops hs H va vb (inS listed) Hc → listed.size = ops.size → listed.toList.count false ≤ fuel →
   (∀ (j : Nat) oj, ops[j]? = some oj → inS listed j = true → ∀ e ∈ oj.after, Region.binds .any e = true → inS listed e.on = true) →
   Ext B w0 G0 w G → HRel B w G Hc → FlRel ops F0 rs (inS listed) F → FRel w G a.tmps F → a.defers = [] → wpAny P .any ops Q fuel listed a w := by
 obtain ⟨hlen, hfn, hhn, hat0⟩ := ht.at
 have hat : AtOK wc P ops F0 rs hs H := hat0
 have hlen' : rs.length = ops.size := by simpa using hlen
 have hfit := hV.fit
 -- nothing is ready only at the end
 have fin : ∀ (listed : Array Bool) (a : Act) (w : World) (G : Gh) (F : List AV) (Hc : Heap), StOK wc ops hs H va vb (inS listed) Hc → listed.size = ops.size → Ext B w0 G0 w G → HRel B w G Hc → FlRel ops F0 rs (inS listed) F → FRel w G a.tmps F → a.defers = [] →
   Region.ready .any ops listed = [] → Q .normal a w := by
  intro listed a w G F Hc hst hsz hE hH hFl hF hd hr
  have all : ∀ i, i < ops.size → inS listed i = true := by
   intro i
   induction i using Nat.strongRecOn with
   | _ i ih =>
    intro hi
    cases hS : inS listed i with
    | true => rfl
    | false =>
     have : i ∈ Region.ready .any ops listed := by
      rw [mem_ready]
      refine ⟨?_, ops[i], by simp [hi], fun e he hb => ?_⟩
      ·have hi' : i < listed.size := by omega
       simpa [inS, hi'] using hS
      ·have hlt := hO.edge i ops[i] (by simp [hi]) e he hb
       exact ih e.on hlt (by omega)
     rw [hr] at this
     cases this
  have h1 : FlRel ops F0 rs (fun k => decide (k < ops.size)) F := hFl.congr fun i hi => by rw [all i hi]; simp [hi]
  have h2 := frk_rel hO ht ops.size (Nat.le_refl _)
  have : F = Fn := by
   rw [FlRel.same hlen' h1 h2, ← hfn]
   simp
  rw [this] at hF
  have hHn : Hc = Hn := by
   rcases hst with ⟨p, hp, hpo, rfl, _⟩ | ⟨_, _, _, ⟨j, hj1, hj2, hj3⟩, _⟩
   ·rw [← hhn, Array.length_toList]
    exact (hp_same hat ops.size hp (Nat.le_refl _) (fun i o h1 h2 h3 h4 => by
     have := (hpo i o h1 h2).1 (all i h4)
     omega)).symm
   ·rw [all j (by omega)] at hj3
    cases hj3
  rw [hHn] at hH
  exact hQ a w G Fn Hn hE hH hF hd hK
 intro fuel
 induction fuel with
 | zero =>
  intro listed a w G F Hc hst hsz hc hcl hE hH hFl hF hd
  have hr : Region.ready .any ops listed = [] := by
   cases hr : Region.ready .any ops listed with
   | nil => rfl
   | cons i is =>
    have hi : i ∈ Region.ready .any ops listed := by rw [hr]; simp
    obtain ⟨h1, o, ho, _⟩ := mem_ready.1 hi
    have hi' : i < listed.size := by rw [hsz]; exact (Array.getElem?_eq_some_iff.1 ho).1
    have hf : listed[i] = false := by simpa [hi'] using h1
    have : false ∈ listed.toList := by
     rw [← hf]
     simp
    have := List.count_pos_iff.2 this
    omega
  exact ⟨hr, fin listed a w G F Hc hst hsz hE hH hFl hF hd hr⟩
 | succ fuel ih =>
  intro listed a w G F Hc hst hsz hc hcl hE hH hFl hF hd
  refine ⟨fin listed a w G F Hc hst hsz hE hH hFl hF hd, fun i hi => ?_⟩
  obtain ⟨h1, o, ho, hedge⟩ := mem_ready.1 hi
  have hin : i < ops.size := (Array.getElem?_eq_some_iff.1 ho).1
  have hi' : i < listed.size := by omega
  have hSi : inS listed i = false := by
   have : listed[i] = false := by simpa [hi'] using h1
   simp [inS, hi', this]
  obtain ⟨r, hr, _⟩ := hat i o (by simpa using ho)
  have hreads := reads_same hO hlen' hFl (frk_rel hO ht i (by omega)) ho hSi hedge hcl
  -- what comes behind it
  have next : ∀ (a' : Act) (w' : World) (G' : Gh) (Hc' : Heap), StOK wc ops hs H va vb (fun k => if k = i then true else inS listed k) Hc' → Ext B w0 G0 w' G' → HRel B w' G' Hc' → FRel w' G' a'.tmps (putF F o.dst r) → a'.defers = [] → wpAny P .any ops Q fuel (listed.setIfInBounds i true) a' w' := by
   intro a' w' G' Hc' hst' hE' hH' hF' hd'
   refine ih _ a' w' G' (putF F o.dst r) Hc' (hst'.congr hV fun k _ => (inS_set hi' k).symm) (by simpa using hsz) ?_ ?_ hE' hH' ?_ hF' hd'
   ·have hf : listed.toList[i]'(by simpa using hi') = false := by
     have : listed[i] = false := by simpa [hi'] using h1
     simpa using this
    rw [Array.toList_setIfInBounds, List.count_set (by simpa using hi')]
    rw [hf]
    simp only [beq_self_eq_true, if_true, Bool.true_eq_false, beq_iff_eq, if_false]
    omega
   ·intro j oj hj hSj e he hb
    rw [inS_set hi'] at hSj ⊢
    by_cases hji : j = i
    ·subst hji
     rw [ho] at hj
     cases hj
     have := hedge e he hb
     by_cases hei : e.on = j
     ·simp [hei]
     ·simp only [hei, if_false]; exact this
    ·simp only [hji, if_false] at hSj
     have := hcl j oj hj hSj e he hb
     by_cases hei : e.on = i
     ·simp [hei]
     ·simp only [hei, if_false]; exact this
   ·exact (FlRel.step hO hFl ho hr).congr fun k _ => (inS_set hi' k).symm
  unfold wpOp
  simp only [ho]
  have hput : ∀ v, (a.put o.dst v).defers = [] := fun v => by cases hdst : o.dst <;> simpa [Act.put] using hd
  cases hv : opV o.op with
  | true =>
   -- a new variable
   have hab := (hV.iff i o ho).1 hv
   obtain ⟨hw, hnl, hnc, hna, hnf⟩ := opV_W (wc := wc) hv
   have hg := hV.bare i o ho hv
   rw [if_pos (by simp [Region.wanted, hg])]
   refine .inl ?_
   obtain ⟨o', t, z, ho', hop, hz, hzo, hnext, hr'⟩ := new_at hat hV hab.1 hab.2
   rw [ho] at ho'
   cases ho'
   rw [hr] at hr'
   cases hr'
   have hlen_i : (hpk hs H i).length = (hpk hs H va).length + (i - va) := by
    have := hpk_news hat hV (i - va) (by omega)
    rw [show va + (i - va) = i by omega] at this
    rw [this]
    simp
   -- the writing ones before the new variables are done, those behind are not
   have early : ∀ (k : Nat) ok, ops[k]? = some ok → opW wc ok.op = true → k < va → inS listed k = true := fun k ok hk hwk hlt => by
    have hnvk : opV ok.op = false := by
     cases hvk : opV ok.op with
     | false => rfl
     | true => have := (hV.iff k ok hk).1 hvk; omega
    exact (ordW_spec hO hW ho hk (by omega) (.inr hwk) hnf (opW_F hwk) (by unfold okU; simp [(opW_L hwk).1, (opW_L hwk).2, hnvk, hnl])).ready hcl ho hedge
   have late : ∀ (k : Nat) ok, ops[k]? = some ok → opW wc ok.op = true → vb ≤ k → inS listed k = false := fun k ok hk hwk hle => by
    have hnvk : opV ok.op = false := by
     cases hvk : opV ok.op with
     | false => rfl
     | true => have := (hV.iff k ok hk).1 hvk; omega
    cases hS : inS listed k with
    | false => rfl
    | true =>
     have := (ordW_spec hO hW hk ho (by omega) (.inl hwk) (opW_F hwk) hnf (by unfold okU; simp [(opW_L hwk).1, hnl, hnc, hna, hnvk])).closed hcl hS
     rw [hSi] at this
     cases this
   -- the heap with places for the new variables
   have hplaces : ∃ G1, Ext B w G w G1 ∧ HRel B w G1 (hpk hs H va ++ gaps hs H va vb (inS listed)) := by
    rcases hst with ⟨p, hp, hpo, rfl, hph⟩ | ⟨_, _, _, _, rfl⟩
    ·have hno : ∀ j, va ≤ j → j < vb → inS listed j = false := by
      rcases hph with h | h
      ·exact h
      ·have := h i hab.1 hab.2
       rw [hSi] at this
       cases this
     have e : hpk hs H p = hpk hs H va := by
      by_cases hpa : p ≤ va
      ·exact (hp_same hat va hpa (by omega) (fun k ok hk hwk h1 h2 => by
        have := (hpo k ok hk hwk).1 (early k ok hk hwk h2)
        omega)).symm
      ·refine hp_same hat p (by omega) hp (fun k ok hk hwk h1 h2 => ?_)
       have hSk := (hpo k ok hk hwk).2 h2
       by_cases hkb : k < vb
       ·rw [hno k h1 hkb] at hSk; cases hSk
       ·rw [late k ok hk hwk (by omega)] at hSk; cases hSk
     rw [e] at hH
     rw [gaps_none hno]
     obtain ⟨h1, h2⟩ := hH.keepGaps (vb - va)
     exact ⟨_, h1, h2⟩
    ·exact ⟨G, Ext.refl _ _ _, hH⟩
   obtain ⟨G1, hE1, hH1⟩ := hplaces
   have hgap : (hpk hs H va ++ gaps hs H va vb (inS listed))[(hpk hs H va).length + (i - va)]? = some .gap := by
    rw [List.getElem?_append_right (by omega), Nat.add_sub_cancel_left]
    exact gaps_get hab.1 hab.2 hSi
   have hset : (hpk hs H va ++ gaps hs H va vb (inS listed)).set ((hpk hs H va).length + (i - va)) (.cells (constCells z)) = hpk hs H va ++ gaps hs H va vb (fun k => if k = i then true else inS listed k) := by
    rw [List.set_append_right _ _ (by omega), Nat.add_sub_cancel_left, ← hzo, gaps_set hab.1 hab.2]
   have hst' : StOK wc ops hs H va vb (fun k => if k = i then true else inS listed k) (hpk hs H va ++ gaps hs H va vb (fun k => if k = i then true else inS listed k)) := by
    by_cases hall : ∀ j, va ≤ j → j < vb → (if j = i then true else inS listed j) = true
    ·refine .inl ⟨vb, by omega, fun k ok hk hwk => ?_, gaps_all hat hV hall, .inr hall⟩
     by_cases hki : k = i
     ·subst hki; simp [hab.2]
     ·simp only [hki, if_false]
      by_cases hkv : k < vb
      ·simp only [hkv, iff_true]
       by_cases hka : va ≤ k
       ·have := hall k hka hkv
        simpa [hki] using this
       ·exact early k ok hk hwk (by omega)
      ·simp only [hkv, iff_false]
       rw [late k ok hk hwk (by omega)]
       simp
    ·have hsome : ∃ j, va ≤ j ∧ j < vb ∧ (if j = i then true else inS listed j) = false := by
      apply Classical.byContradiction
      intro hno
      apply hall
      intro j h1 h2
      cases hS : (if j = i then true else inS listed j) with
      | true => rfl
      | false => exact (hno ⟨j, h1, h2, hS⟩).elim
     refine .inr ⟨fun k ok hk hwk hka => ?_, fun k ok hk hwk hkb => ?_, ⟨i, hab.1, hab.2, by simp⟩, hsome, rfl⟩
     ·have hki : k ≠ i := by omega
      simp only [hki, if_false]
      exact early k ok hk hwk hka
     ·have hki : k ≠ i := by omega
      simp only [hki, if_false]
      exact late k ok hk hwk hkb
   have hrun : (execOp a.eval o).run P w = (((do pure (.value (← Instr.alloc t true (.tuple #[])))) : Sem Next)).run P w := by
    obtain ⟨dst, op, type, pos, after, guard⟩ := o
    simp only at hop
    subst hop
    rfl
   refine oper_of_ok (hF.ext hE1) (K := fun v H' => v = .ptr (hpk hs H i).length 0 ∧ H' = hpk hs H va ++ gaps hs H va vb (fun k => if k = i then true else inS listed k)) (by
    rw [hrun]
    exact sound_fill hH1 hz hgap ⟨by rw [hlen_i], hset⟩) fun v av w' G' H' k1 k2 k3 k4 => ?_
   obtain ⟨rfl, rfl⟩ := k4
   exact next _ w' G' _ hst' ((hE.trans hE1).trans k1) k2 (((hF.ext hE1).ext k1).put k3) (hput v)
  | false =>
   obtain ⟨Hc', hst', htr'⟩ := StOK.step (F := F) hO hW hV hat hst hcl ho hSi hedge hr (fun s hs => (hreads s hs).symm) hv
   have run : (aopD P o F Hc fun v H' => v = r ∧ H' = Hc') → o.wp P a w (wpAny P .any ops Q fuel (listed.setIfInBounds i true)) Q := fun hop =>
    oper_of_ok hF (op_sound hH hF (aopD_aop hop)) fun v av w' G' H' k1 k2 k3 k4 => by
     obtain ⟨rfl, rfl⟩ := k4
     exact next _ w' G' _ hst' (hE.trans k1) k2 ((hF.ext k1).put k3) (hput v)
   have skip : r = .tup [] → Hc' = Hc → wpAny P .any ops Q fuel (listed.setIfInBounds i true) (a.put o.dst undef) w := fun hr0 he => by
    subst hr0
    subst he
    exact next _ w G _ hst' hE hH (hF.put undef_rel) (hput _)
   unfold TrOK at htr'
   split at htr'
   ·rename_i hg
    rw [if_pos (by simp [Region.wanted, hg])]
    exact .inl (run htr')
   ·rename_i j want hg
    obtain ⟨d, hdd, hcase⟩ := htr'
    rcases hcase with ⟨b, hb, hw, hop⟩ | ⟨b, hb, hw, hr0, he⟩ | ⟨hb, hr0, he⟩
    ·rw [wanted_bool hF hg hdd hb, if_pos hw]
     exact .inl (run hop)
    ·rw [wanted_bool hF hg hdd hb, if_neg (by simp [hw])]
     exact skip hr0 he
    ·rw [wanted_tup hF hg hdd hb, if_neg (by simp)]
     exact skip hr0 he

theorem Post.of {w0 : World} {G0 : Gh} {Q : AExit → List AV → Heap → Prop} {a : Act} {F : List AV} {e : AExit} (hE : Ext B w0 G0 w G) (hH : HRel B w G H) (hF : FRel w G a.tmps F) (hd : a.defers = []) (h : Q e F H) : Post B w0 G0 Q e.toExit a w :=
 ⟨F, H, G, e, rfl, hE, hH, hF, hd, h⟩

theorem mask_rel : ∀ (m : List Bool) {tm : List Value} {F : List AV}, All2 (TRel w G) tm F → All2 (TRel w G) tm (mask m F)
 | [], tm, F, h => by unfold mask; exact h
 | b :: m, [], [], h => by cases b <;> trivial
 | true :: m, v :: tm, a :: F, h => ⟨h.1, mask_rel m h.2⟩
 | false :: m, v :: tm, a :: F, h => ⟨trivial, mask_rel m h.2⟩

theorem nxt_sound (m : List Bool) {y : Code} {Q : AExit → List AV → Heap → Prop} {now : List AV → Heap → Prop} {F : List AV} {H : Heap} (h : nxt m P y Q now F H) (hn : now F H → AWp P y Q F H) : AWp P y Q F H := by
 cases m with
 | nil => exact hn h
 | cons b ms => exact fun B w G a hH hF hd => h B w G a hH (mask_rel _ hF) hd
theorem awp_sound {M : Nat → List Bool} : ∀ (c : Code) (Q : AExit → List AV → Heap → Prop) (F : List AV) (H : Heap), awp P M c Q F H → AWp P c Q F H := by
 intro c
 induction c with
 | skip => intro Q F H h B w G a hH hF hd; exact wp_skip (Post.of (e := .normal) (Ext.refl _ _ _) hH hF hd h)
 | label l => intro Q F H h B w G a hH hF hd; exact wp_label (Post.of (e := .normal) (Ext.refl _ _ _) hH hF hd h)
 | region id ops draw =>
  intro Q F H h B w G a hH hF hd
  cases draw with
  | false =>
   refine wp_region_list ?_
   exact runOps_sound (K := Q .normal) (fun a w G F H h1 h2 h3 h4 h5 => Post.of (e := .normal) h1 h2 h3 h4 h5) ops.toList F H a w G (Ext.refl _ _ _) hH hF hd h
  | true =>
   have main : ∀ wc : WM, (match ordOk ops && ordW wc ops && ordV ops && P.follows .mixedOrders with
     | true => runD wc P ops ops.toList (Q .normal) F H
     | false => False) → (Code.region id ops true).wp P (Post B w G Q) a w := by
    intro wc h
    split at h
    ·rename_i hb
     simp only [Bool.and_eq_true] at hb
     obtain ⟨⟨⟨hord, hwr⟩, hvr⟩, hm⟩ := hb
     obtain ⟨rs, hs, Fn, Hn, ht, hK⟩ := runD_trace ops.toList F H h
     obtain ⟨va, vb, hV⟩ := ordV_spec hvr
     refine wp_region_any hm ?_
     refine drawn_any (ord_of hord) hwr hV ht (K := Q .normal) hK (w0 := w) (G0 := G) (fun a w G F H h1 h2 h3 h4 h5 => Post.of (e := .normal) h1 h2 h3 h4 h5) ops.size _ a _ G F H (.inl ⟨0, Nat.zero_le _, fun k ok _ _ => by rw [inS_rep]; simp, by cases hs <;> rfl, .inl fun j _ _ => inS_rep _ _⟩) (by simp) (by simp) ?_ (Ext.drew B w G _) (hH.drew _) ?_ ?_ hd
     ·intro j oj _ hj
      rw [inS_rep] at hj
      cases hj
     ·refine ⟨rfl, fun i o s r _ _ hS => ?_, fun s _ => rfl⟩
      rw [inS_rep] at hS
      cases hS
     ·exact hF.ext (Ext.drew B w G _)
    ·exact h.elim
   simp only [awp] at h
   split at h
   ·exact main .n h
   ·exact main .w h
   ·exact main .g h
   ·exact main .c h
   ·rename_i l _
    split at h
    ·rename_i hb
     simp only [Bool.and_eq_true, decide_eq_true_eq] at hb
     obtain ⟨⟨⟨⟨⟨hord, hwr⟩, hvr⟩, hm⟩, hdep⟩, hle⟩ := hb
     have hsz : ops.size - l.length + l.length = ops.size := by omega
     generalize hpre : preOps ops (ops.size - l.length) = pre at *
     have hps : pre.size = ops.size - l.length := by rw [← hpre]; simp [preOps]
     obtain ⟨rs, hs, Fn, Hn, ht, hK⟩ := runD_trace pre.toList F H h
     obtain ⟨va, vb, hV⟩ := ordV_spec hvr
     refine wp_region_any hm ?_
     have key := drawn_any (ord_of hord) hwr hV ht (K := runT P ops (Q .normal) l.length (tailL (ops.size - l.length) l.length)) hK (Q := tailQ (wpAny P .any ops (Post B w G Q) l.length (tailL (ops.size - l.length) l.length)) (Post B w G Q)) (w0 := w) (G0 := G)
      (fun a w G F H h1 h2 h3 h4 h5 => runT_sound (fun a w G F H h1 h2 h3 h4 h5 => Post.of (e := .normal) h1 h2 h3 h4 h5) _ _ a w G F H h1 h2 h3 h4 h5)
      pre.size (Array.replicate pre.size false) a { w with drawn := w.drawn + 1 } G F H (.inl ⟨0, Nat.zero_le _, fun k ok _ _ => by rw [inS_rep]; simp, by cases hs <;> rfl, .inl fun j _ _ => inS_rep _ _⟩) (by simp) (by simp) (fun j oj _ hj => by rw [inS_rep] at hj; cases hj) (Ext.drew B w G _) (hH.drew _)
      ⟨rfl, fun i o s r _ _ hS => (by rw [inS_rep] at hS; cases hS), fun s _ => rfl⟩ (hF.ext (Ext.drew B w G _)) hd
     have := wpAny_split hsz hpre.symm hdep (ord_of hord).edge pre.size (Array.replicate pre.size false) a _ (by simp [hps]) (by simp) key
     have e : Array.replicate pre.size false ++ (List.replicate l.length false).toArray = Array.replicate ops.size false := by
      apply Array.toList_inj.1
      simp [hps, List.replicate_append_replicate, hsz]
     rw [e, hps, hsz] at this
     exact this
    ·exact h.elim
 | seq x y ihx ihy =>
  intro Q F H h B w G a hH hF hd
  refine wp_seq (wp_mono (ihx _ F H h B w G a hH hF hd) fun e a' w' hp => ?_)
  obtain ⟨F', H', G', e', rfl, h1, h2, h3, h4, h5⟩ := hp
  cases e' with
  | normal =>
   have h6 : AWp P y Q F' H' := by
    exact nxt_sound _ h5 (ihy Q F' H')
   refine wp_mono (h6 B w' G' a' h2 h3 h4) fun e a'' w'' hp => ?_
   obtain ⟨F'', H'', G'', e'', rfl, k1, k2, k3, k4, k5⟩ := hp
   exact ⟨F'', H'', G'', e'', rfl, h1.trans k1, k2, k3, k4, k5⟩
  | exit id => exact Post.of (e := .exit id) h1 h2 h3 h4 h5
  | ret => exact Post.of (e := .ret) h1 h2 h3 h4 h5
 | scope c ih =>
  intro Q F H h B w G a hH hF hd
  refine wp_scope_straight (wp_mono (ih Q F H h B w G a hH hF hd) fun e a' w' hp => ?_)
  obtain ⟨F', H', G', e', rfl, h1, h2, h3, h4, h5⟩ := hp
  cases e' with
  | normal => exact Post.of (e := .normal) h1 h2 h3 h4 h5
  | exit id => exact Post.of (e := .exit id) h1 h2 h3 h4 h5
  | ret => exact Post.of (e := .ret) h1 h2 h3 h4 h5
 | cond c x y ihx ihy =>
  intro Q F H h B w G a hH hF hd
  simp only [awp, aTest] at h
  split at h
  ·rename_i t ht
   have hc := ev_rel hF c
   rw [ht] at hc
   have hc : a.eval c = .bool t := hc
   unfold aIf at h
   refine wp_cond hc ?_
   cases t with
   | true => exact ihx Q F H (by simpa using h) B w G a hH hF hd
   | false => exact ihy Q F H (by simpa using h) B w G a hH hF hd
  ·exact h.elim
 | block id c ih =>
  intro Q F H h B w G a hH hF hd
  refine wp_block (wp_mono (ih _ F H h B w G a hH hF hd) fun e a' w' hp => ?_)
  obtain ⟨F', H', G', e', rfl, h1, h2, h3, h4, h5⟩ := hp
  cases e' with
  | normal => exact Post.of (e := .normal) h1 h2 h3 h4 h5
  | ret => exact Post.of (e := .ret) h1 h2 h3 h4 h5
  | exit id' =>
   simp only [AExit.toExit, Exit.inBlock]
   simp only [blkQ] at h5
   split at h5
   ·rename_i hid
    rw [if_pos (by simpa using hid)]
    exact Post.of (e := .normal) h1 h2 h3 h4 h5
   ·rename_i hid
    rw [if_neg (by simpa using hid)]
    exact Post.of (e := .exit id') h1 h2 h3 h4 h5
 | loop c ih =>
  intro Q F H h B w G a hH hF hd
  exact h B w G a hH (mask_rel _ hF) hd
 | ret => intro Q F H h B w G a hH hF hd; exact wp_ret (Post.of (e := .ret) (Ext.refl _ _ _) hH hF hd h)
 | exit id => intro Q F H h B w G a hH hF hd; exact wp_exit (Post.of (e := .exit id) (Ext.refl _ _ _) hH hF hd h)
 | _ => intro Q F H h; exact h.elim

end Go.Abs
namespace Go.Abs
open Go Go.RowKit

variable {P : Program} {B : Nat} {w : World} {G : Gh} {H : Heap}

def AV.scB (n : Nat) : AV → Bool
 | .ptr id _ => decide (id < n)
 | .ms id _ _ _ => decide (id < n)
 | .ov id _ => decide (id < n)
 | .vp id _ _ => decide (id < n)
 | .map id => decide (id < n)
 | .sl _ (.own id) => decide (id < n)
 | _ => true
def AV.scA (n : Nat) : AV → Bool
 | .fn _ caps => caps.all (AV.scB n)
 | a => a.scB n
def AV.scV (n : Nat) : AV → Bool
 | .agg cs => cs.all (AV.scA n)
 | a => a.scA n
def AV.sc (n : Nat) : AV → Bool
 | .tup vs => vs.all (AV.scV n)
 | a => a.scV n
def AB.sc (n : Nat) : AB → Bool
 | .cells cs => cs.all (AV.scA n)
 | .map kvs => kvs.all fun p => p.2.scV n
 | .bld _ cs => cs.all (AV.scA n)
 | .vec _ _ _ cs => cs.all (AV.scA n)
 | _ => true
def HSc (H : Heap) : Prop := ∀ b ∈ H, b.sc H.length = true

theorem lt_of_μ {id : Nat} {gi : GI} (h : G.μ[id]? = some gi) : id < G.μ.length := (List.getElem?_eq_some_iff.1 h).1

theorem BRel.sc {v : Value} {a : AV} (h : BRel w G v a) : a.scB G.μ.length = true := by
 cases a with
 | ptr id off => obtain ⟨b, h1, _⟩ := h; simpa [AV.scB] using lt_of_μ h1
 | ms id off len cap => obtain ⟨b, h1, _⟩ := h; simpa [AV.scB] using lt_of_μ h1
 | ov id n => obtain ⟨_, v', s, n', h1, _⟩ := h; simpa [AV.scB] using lt_of_μ h1
 | vp id n off => obtain ⟨_, v', s, n', h1, _⟩ := h; simpa [AV.scB] using lt_of_μ h1
 | map id => obtain ⟨b, h1, _⟩ := h; simpa [AV.scB] using lt_of_μ h1
 | sl es tok =>
  cases tok with
  | own id => obtain ⟨_, v', s, n, h1, _⟩ := h; simpa [AV.scB] using lt_of_μ h1
  | none => rfl
  | full => rfl
 | _ => rfl
theorem All2.all_of {R : Value → AV → Prop} {p : AV → Bool} (hp : ∀ v a, R v a → p a = true) : ∀ {vs : List Value} {as : List AV}, All2 R vs as → as.all p = true
 | [], [], _ => rfl
 | _ :: _, _ :: _, h => by simp only [List.all_cons, Bool.and_eq_true]; exact ⟨hp _ _ h.1, All2.all_of hp h.2⟩
theorem ARel.sc {v : Value} {a : AV} (h : ARel w G v a) : a.scA G.μ.length = true := by
 have hb : ∀ {x : AV}, BRel w G v x → x.scB G.μ.length = true := fun h => h.sc
 cases a with
 | fn f caps => obtain ⟨vs, _, h2⟩ := h; exact All2.all_of (fun v a (h : BRel w G v a) => h.sc) h2
 | unk => exact hb (x := .unk) h
 | bool b => exact hb (x := .bool b) h
 | int k n => exact hb (x := .int k n) h
 | str s => exact hb (x := .str s) h
 | nilp => exact hb (x := .nilp) h
 | ptr i o => exact hb (x := .ptr i o) h
 | view cs => exact hb (x := .view cs) h
 | snil => exact hb (x := .snil) h
 | sl es t => exact hb (x := .sl es t) h
 | ms i o l c => exact hb (x := .ms i o l c) h
 | ov i n => exact hb (x := .ov i n) h
 | vp i n o => exact hb (x := .vp i n o) h
 | map i => exact hb (x := .map i) h
 | nilfn => exact hb (x := .nilfn) h
 | nili => exact hb (x := .nili) h
 | ifc => exact hb (x := .ifc) h
 | agg cs => exact hb (x := .agg cs) h
 | tup vs => exact hb (x := .tup vs) h
theorem VRel.sc {v : Value} {a : AV} (h : VRel w G v a) : a.scV G.μ.length = true := by
 have ha : ∀ {x : AV}, ARel w G v x → x.scA G.μ.length = true := fun h => h.sc
 cases a with
 | agg cs => obtain ⟨vs, _, h2⟩ := h; exact All2.all_of (fun v a (h : ARel w G v a) => h.sc) h2
 | fn f caps => exact ha (x := .fn f caps) h
 | unk => rfl
 | bool b => rfl
 | int k n => rfl
 | str s => rfl
 | nilp => rfl
 | ptr i o => exact ha (x := .ptr i o) h
 | view cs => rfl
 | snil => rfl
 | sl es t => exact ha (x := .sl es t) h
 | ms i o l c => exact ha (x := .ms i o l c) h
 | ov i n => exact ha (x := .ov i n) h
 | vp i n o => exact ha (x := .vp i n o) h
 | map i => exact ha (x := .map i) h
 | nilfn => rfl
 | nili => rfl
 | ifc => rfl
 | tup vs => exact ha (x := .tup vs) h
theorem ERel.sc {e : MapEntry} {p : List UInt8 × AV} (h : ERel w G e p) : p.2.scV G.μ.length = true := h.2.sc
theorem All2.all_ents {p : AV → Bool} {R : MapEntry → List UInt8 × AV → Prop} (hp : ∀ v a, R v a → p a.2 = true) : ∀ {vs : List MapEntry} {as : List (List UInt8 × AV)}, All2 R vs as → (as.all fun a => p a.2) = true
 | [], [], _ => rfl
 | _ :: _, _ :: _, h => by simp only [List.all_cons, Bool.and_eq_true]; exact ⟨hp _ _ h.1, All2.all_ents hp h.2⟩
theorem HRel.sc (h : HRel B w G H) : HSc H := by
 intro ab hab
 obtain ⟨id, hid⟩ := List.mem_iff_getElem?.1 hab
 have hlt : id < G.μ.length := by rw [h.len]; exact (List.getElem?_eq_some_iff.1 hid).1
 have hok := h.ok id ab _ hid (List.getElem?_eq_getElem hlt)
 cases ab with
 | cells cs =>
  cases hg : G.μ[id] with
  | blk b =>
   rw [hg] at hok
   obtain ⟨_, _, vs, e, _, h2⟩ := hok
   have := All2.all_of (fun v a (h : ARel w G v a) => h.sc) h2
   rw [h.len] at this
   exact this
  | own v s n => rw [hg] at hok; exact hok.elim
  | gap => rw [hg] at hok; exact hok.elim
 | vec e s n cs =>
  cases hg : G.μ[id] with
  | blk b => rw [hg] at hok; exact hok.elim
  | own v s n =>
   rw [hg] at hok
   obtain ⟨_, _, ⟨xs, _, h2⟩, _⟩ := hok
   have := All2.all_of (fun v a (h : ARel w G v a) => h.sc) h2
   rw [h.len] at this
   exact this
  | gap => rw [hg] at hok; exact hok.elim
 | bld t cs =>
  cases hg : G.μ[id] with
  | blk b =>
   rw [hg] at hok
   obtain ⟨_, _, vs, _, h2⟩ := hok
   have := All2.all_of (fun v a (h : ARel w G v a) => h.sc) h2
   rw [h.len] at this
   exact this
  | own v s n => rw [hg] at hok; exact hok.elim
  | gap => rw [hg] at hok; exact hok.elim
 | map kvs =>
  cases hg : G.μ[id] with
  | blk b =>
   rw [hg] at hok
   obtain ⟨_, _, es, clk, _, h2⟩ := hok
   have := All2.all_ents (p := AV.scV G.μ.length) (fun v a (h : ERel w G v a) => h.sc) h2
   rw [h.len] at this
   exact this
  | own v s n => rw [hg] at hok; exact hok.elim
  | gap => rw [hg] at hok; exact hok.elim
 | perm e s n => rfl
 | gap => rfl
 | dead => rfl
 | fact φ => rfl

def Gh.cut (G : Gh) (w : World) (n : Nat) : Gh :=
 ⟨fun b => if (G.μ.drop n).any (fun gi => gi.block == some b) = true then (match w.heap[b]? with | some (.cells c _ _) => c.size | _ => 0) else G.L b, G.μ.take n⟩

theorem cut_ids {n id : Nat} (h : id < n) : (G.cut w n).μ[id]? = G.μ[id]? := by simp [Gh.cut, h]
theorem cut_ids' {n id : Nat} {gi : GI} (h : (G.cut w n).μ[id]? = some gi) : id < n ∧ G.μ[id]? = some gi := by
 simp only [Gh.cut, List.getElem?_take] at h
 split at h
 ·rename_i hlt; exact ⟨hlt, h⟩
 ·cases h
theorem cut_dropped {n b : Nat} : ((G.μ.drop n).any (fun gi => gi.block == some b) = true) ↔ ∃ id gi, n ≤ id ∧ G.μ[id]? = some gi ∧ gi.block = some b := by
 rw [List.any_eq_true]
 constructor
 ·rintro ⟨gi, h1, h2⟩
  obtain ⟨k, hk⟩ := List.mem_iff_getElem?.1 h1
  rw [List.getElem?_drop] at hk
  exact ⟨n + k, gi, by omega, hk, by simpa using h2⟩
 ·rintro ⟨id, gi, h1, h2, h3⟩
  refine ⟨gi, List.mem_iff_getElem?.2 ⟨id - n, ?_⟩, by simp [h3]⟩
  rw [List.getElem?_drop, show n + (id - n) = id by omega]
  exact h2

theorem cut_lev (h : HRel B w G H) (n b : Nat) : G.L b ≤ (G.cut w n).L b := by
 simp only [Gh.cut]
 split
 ·rename_i hd
  obtain ⟨id, gi, _, hid, hb0⟩ := cut_dropped.1 hd
  have hlt : id < H.length := by rw [← h.len]; exact lt_of_μ hid
  have hok := h.ok id _ _ (List.getElem?_eq_getElem hlt) hid
  cases gi with
  | gap => cases hb0
  | blk x =>
   simp [GI.block] at hb0
   subst hb0
   cases hb : H[id] with
   | cells cs => rw [hb] at hok; rw [hok.2.1]; exact Nat.zero_le _
   | perm e s n => rw [hb] at hok; exact hok.elim
   | map kvs => rw [hb] at hok; rw [hok.2.1]; exact Nat.zero_le _
   | bld t cs => rw [hb] at hok; rw [hok.2.1]; exact Nat.zero_le _
   | vec e s n cs => rw [hb] at hok; exact hok.elim
   | gap => rw [hb] at hok; exact hok.elim
   | dead => rw [hb] at hok; exact hok.elim
   | fact φ => rw [hb] at hok; exact hok.elim
  | own v s n =>
   simp only [GI.block] at hb0
   have big : ∀ {e m : Nat} {xs : List Value}, w.ownsRow B e s v m xs → m * s ≤ (match w.heap[b]? with | some (.cells c _ _) => c.size | _ => 0) := by
    rintro e m xs ⟨hl, h1 | ⟨g, cap, cur, rfl, h1, h2, h3, h4, h5, h6⟩⟩
    ·rw [h1.1] at hb0; cases hb0
    ·simp [Value.ownBlock] at hb0
     subst hb0
     rw [h2]
     simp only [h5]
     exact Nat.mul_le_mul_right _ h3
   cases hb : H[id] with
   | perm e s' n' =>
    rw [hb] at hok
    obtain ⟨rfl, rfl, ⟨xs, hx⟩, hL⟩ := hok
    rw [hL b hb0]
    exact big hx
   | vec e s' n' cs =>
    rw [hb] at hok
    obtain ⟨rfl, rfl, _, hL⟩ := hok
    rw [hL b hb0]
    exact Nat.zero_le _
   | cells cs => rw [hb] at hok; exact hok.elim
   | map kvs => rw [hb] at hok; exact hok.elim
   | bld t cs => rw [hb] at hok; exact hok.elim
   | gap => rw [hb] at hok; exact hok.elim
   | fact φ => rw [hb] at hok; exact hok.elim
   | dead =>
    rw [hb] at hok
    obtain ⟨vs, e, fr, h1, h2⟩ := hok b hb0
    rw [h1]
    exact h2
 ·exact Nat.le_refl _


theorem cut_keep (h : HRel B w G H) {n id : Nat} {gi : GI} {b : Nat} (hn : id < n) (hid : G.μ[id]? = some gi) (hb : gi.block = some b) : (G.cut w n).L b = G.L b := by
 simp only [Gh.cut]
 split
 ·rename_i hd
  obtain ⟨id', gi', h1, h2, h3⟩ := cut_dropped.1 hd
  have := h.dist id id' gi _ b hid h2 hb h3
  omega
 ·rfl

theorem cut_ext (h : HRel B w G H) {w0 : World} {G0 : Gh} {n : Nat} (hE : Ext B w0 G0 w G) (hn : G0.μ.length ≤ n) : Ext B w0 G0 w (G.cut w n) :=
 ⟨hE.below, fun b => Nat.le_trans (hE.lev b) (cut_lev h n b), hE.cell, fun id gi hg => by
  obtain ⟨g', h1, h2⟩ := hE.ids id gi hg
  exact ⟨g', by rw [cut_ids (Nat.lt_of_lt_of_le (lt_of_μ hg) hn)]; exact h1, h2⟩⟩

theorem cut_drel (h : HRel B w G H) {n : Nat} {v : Value} {a : AV} (hd : DRel w G.L v a) : DRel w (G.cut w n).L v a := hd.mono (fun b => cut_lev h n b) (fun _ _ _ => rfl)
theorem cut_brel (h : HRel B w G H) {n : Nat} {v : Value} {a : AV} (hr : BRel w G v a) (hs : a.scB n = true) : BRel w (G.cut w n) v a := by
 cases a with
 | ptr id off => obtain ⟨b, h1, h2⟩ := hr; simp [AV.scB] at hs; exact ⟨b, by rw [cut_ids hs]; exact h1, h2⟩
 | ms id off len cap => obtain ⟨b, h1, h2⟩ := hr; simp [AV.scB] at hs; exact ⟨b, by rw [cut_ids hs]; exact h1, h2⟩
 | map id => obtain ⟨b, h1, h2⟩ := hr; simp [AV.scB] at hs; exact ⟨b, by rw [cut_ids hs]; exact h1, h2⟩
 | ov id m => obtain ⟨h0, v', s, m', h1, h2⟩ := hr; simp [AV.scB] at hs; exact ⟨h0, v', s, m', by rw [cut_ids hs]; exact h1, h2⟩
 | vp id m off => obtain ⟨h0, v', s, m', h1, h2⟩ := hr; simp [AV.scB] at hs; exact ⟨h0, v', s, m', by rw [cut_ids hs]; exact h1, h2⟩
 | view cs => obtain ⟨b, off, h1, h2⟩ := hr; exact ⟨b, off, h1, h2.mono (fun b => cut_lev h n b) (fun _ _ _ => rfl)⟩
 | sl es tok =>
  cases tok with
  | none => exact cut_drel h hr
  | full => exact ⟨cut_drel h hr.1, hr.2⟩
  | own id =>
   obtain ⟨h1, v', s, m, h2, h3⟩ := hr
   simp [AV.scB] at hs
   exact ⟨cut_drel h h1, v', s, m, by rw [cut_ids hs]; exact h2, h3⟩
 | _ => exact hr
theorem cut_all {R R' : Value → AV → Prop} {p : AV → Bool} (hp : ∀ v a, R v a → p a = true → R' v a) : ∀ {vs : List Value} {as : List AV}, All2 R vs as → as.all p = true → All2 R' vs as
 | [], [], _, _ => trivial
 | _ :: _, _ :: _, h, hs => by
  simp only [List.all_cons, Bool.and_eq_true] at hs
  exact ⟨hp _ _ h.1 hs.1, cut_all hp h.2 hs.2⟩
theorem cut_arel (h : HRel B w G H) {n : Nat} {v : Value} {a : AV} (hr : ARel w G v a) (hs : a.scA n = true) : ARel w (G.cut w n) v a := by
 cases a with
 | fn f caps => obtain ⟨vs, h1, h2⟩ := hr; exact ⟨vs, h1, cut_all (p := AV.scB n) (fun _ _ => cut_brel h) h2 hs⟩
 | _ => exact ARel.of_b (cut_brel h hr hs)
theorem cut_vrel (h : HRel B w G H) {n : Nat} {v : Value} {a : AV} (hr : VRel w G v a) (hs : a.scV n = true) : VRel w (G.cut w n) v a := by
 cases a with
 | agg cs => obtain ⟨vs, h1, h2⟩ := hr; exact ⟨vs, h1, cut_all (p := AV.scA n) (fun _ _ => cut_arel h) h2 hs⟩
 | _ => exact VRel.of_a (cut_arel h hr hs)
theorem cut_trel (h : HRel B w G H) {n : Nat} {v : Value} {a : AV} (hr : TRel w G v a) (hs : a.sc n = true) : TRel w (G.cut w n) v a := by
 cases a with
 | tup cs => obtain ⟨vs, h1, h2⟩ := hr; exact ⟨vs, h1, cut_all (p := AV.scV n) (fun _ _ => cut_vrel h) h2 hs⟩
 | _ => exact TRel.of_v (cut_vrel h hr hs)

theorem cut_ents {G' : Gh} {p : AV → Bool} (hp : ∀ v a, VRel w G v a → p a = true → VRel w G' v a) : ∀ {es : List MapEntry} {kvs : List (List UInt8 × AV)}, All2 (ERel w G) es kvs → (kvs.all fun a => p a.2) = true → All2 (ERel w G') es kvs
 | [], [], _, _ => trivial
 | _ :: _, _ :: _, h, hs => by
  simp only [List.all_cons, Bool.and_eq_true] at hs
  exact ⟨⟨h.1.1, hp _ _ h.1.2 hs.1⟩, cut_ents hp h.2 hs.2⟩
theorem HRel.cut {J : Heap} (h : HRel B w G (H ++ J)) (hs : HSc H) : HRel B w (G.cut w H.length) H := by
 refine ⟨?_, ?_, ?_, ?_, ?_, h.base⟩
 ·have := h.len
  simp [Gh.cut] at this ⊢
  omega
 ·intro id ab gi h1 h2
  obtain ⟨hlt, h2⟩ := cut_ids' h2
  have hok := h.ok id ab gi (by rw [List.getElem?_append_left hlt]; exact h1) h2
  have hsc := hs ab (List.mem_iff_getElem?.2 ⟨id, h1⟩)
  cases ab with
  | cells cs =>
   cases gi with
   | blk b =>
    obtain ⟨k1, k2, vs, e, k3, k4⟩ := hok
    exact ⟨k1, by rw [cut_keep h hlt h2 rfl]; exact k2, vs, e, k3, cut_all (p := AV.scA H.length) (fun _ _ => cut_arel h) k4 hsc⟩
   | own v s n => exact hok.elim
   | gap => exact hok.elim
  | perm e s n =>
   cases gi with
   | blk b => exact hok.elim
   | gap => exact hok.elim
   | own v s' n' =>
    obtain ⟨k1, k2, k3, k4⟩ := hok
    exact ⟨k1, k2, k3, fun b hb => by rw [cut_keep h hlt h2 (by simpa [GI.block] using hb)]; exact k4 b hb⟩
  | vec e s n cs =>
   cases gi with
   | blk b => exact hok.elim
   | gap => exact hok.elim
   | own v s' n' =>
    obtain ⟨k1, k2, ⟨xs, k3, k5⟩, k4⟩ := hok
    exact ⟨k1, k2, ⟨xs, k3, cut_all (p := AV.scA H.length) (fun _ _ => cut_arel h) k5 hsc⟩, fun b hb => by rw [cut_keep h hlt h2 (by simpa [GI.block] using hb)]; exact k4 b hb⟩
  | map kvs =>
   cases gi with
   | blk b =>
    obtain ⟨k1, k2, es, clk, k3, k4⟩ := hok
    exact ⟨k1, by rw [cut_keep h hlt h2 rfl]; exact k2, es, clk, k3, cut_ents (fun _ _ h1 h2 => cut_vrel h h1 h2) k4 hsc⟩
   | own v s n => exact hok.elim
   | gap => exact hok.elim
  | gap =>
   cases gi with
   | blk b => exact hok.elim
   | own v s n => exact hok.elim
   | gap => trivial
  | fact φ =>
   cases gi with
   | blk b => exact hok.elim
   | own v s n => exact hok.elim
   | gap => exact hok
  | dead =>
   cases gi with
   | blk b => exact hok.elim
   | own v s n => exact fun b hb => by rw [cut_keep h hlt h2 (by simpa [GI.block] using hb)]; exact hok b hb
   | gap => exact hok.elim
  | bld t cs =>
   cases gi with
   | blk b =>
    obtain ⟨k1, k2, vs, k3, k4⟩ := hok
    exact ⟨k1, by rw [cut_keep h hlt h2 rfl]; exact k2, vs, k3, cut_all (p := AV.scA H.length) (fun _ _ => cut_arel h) k4 hsc⟩
   | own v s n => exact hok.elim
   | gap => exact hok.elim
 ·intro id id' gi gi' b h1 h2
  exact h.dist id id' gi gi' b (cut_ids' h1).2 (cut_ids' h2).2
 ·intro b hb
  simp only [Gh.cut]
  split
  ·rename_i hd
   obtain ⟨id, gi, _, hid, hgb⟩ := cut_dropped.1 hd
   have := h.lt id _ b hid hgb
   omega
  ·exact h.fresh b hb
 ·intro id gi b h1 h2
  exact h.lt id gi b (cut_ids' h1).2 h2

inductive WkA : AV → AV → Prop
 | refl (a : AV) : WkA a a
 | sl (es : List (List AV)) (t : Tok) : WkA (.sl es t) (.sl es .none)
 | snil : WkA .snil (.sl [] .none)
inductive WkV : AV → AV → Prop
 | unk (a : AV) : WkV a .unk
 | atom {a b : AV} (h : WkA a b) : WkV a b
 | agg {cs ds : List AV} (h : All2 WkA cs ds) : WkV (.agg cs) (.agg ds)
theorem WkA.arel {v : Value} {a b : AV} (h : WkA a b) (hr : ARel w G v a) : ARel w G v b := by
 cases h with
 | refl => exact hr
 | sl es t => cases t with
  | none => exact hr
  | full => exact hr.1
  | own id => exact hr.1
 | snil => cases hr; exact .slE _ _
theorem All2.wk {as bs : List AV} (h : All2 WkA as bs) : ∀ {vs : List Value}, All2 (ARel w G) vs as → All2 (ARel w G) vs bs := by
 induction as generalizing bs with
 | nil =>
  intro vs hr
  cases bs with
  | nil => exact hr
  | cons b bs => exact h.elim
 | cons a as ih =>
  intro vs hr
  cases bs with
  | nil => exact h.elim
  | cons b bs =>
   cases vs with
   | nil => exact hr.elim
   | cons v vs => exact ⟨h.1.arel hr.1, ih h.2 hr.2⟩
theorem WkV.trel {v : Value} {a b : AV} (h : WkV a b) (hr : TRel w G v a) : TRel w G v b := by
 cases h with
 | unk => trivial
 | atom h =>
  cases h with
  | refl => exact hr
  | sl es t => exact TRel.of_v (VRel.of_a (WkA.arel (.sl es t) hr))
  | snil => exact TRel.of_v (VRel.of_a (WkA.arel .snil hr))
 | agg h =>
  obtain ⟨vs, h1, h2⟩ := hr
  exact ⟨vs, h1, h.wk h2⟩
theorem wk_all {as bs : List AV} (h : All2 WkV as bs) : ∀ {vs : List Value}, All2 (TRel w G) vs as → All2 (TRel w G) vs bs := by
 induction as generalizing bs with
 | nil =>
  intro vs hr
  cases bs with
  | nil => exact hr
  | cons b bs => exact h.elim
 | cons a as ih =>
  intro vs hr
  cases bs with
  | nil => exact h.elim
  | cons b bs =>
   cases vs with
   | nil => exact hr.elim
   | cons v vs => exact ⟨h.1.trel hr.1, ih h.2 hr.2⟩

theorem ACalls.mono {f : FuncId} {args : List AV} {K K' : AV → Heap → Prop} (h : ACalls P f args H K) (hk : ∀ r H', K r H' → K' r H') : ACalls P f args H K' :=
 fun B w G vs hH hv => (h B w G vs hH hv).mono fun _ _ ⟨v, r, H', G', h1, h2, h3, h4, h5⟩ => ⟨v, r, H', G', h1, h2, h3, h4, hk _ _ h5⟩
theorem ACalls.wk {f : FuncId} {args args' : List AV} {K : AV → Heap → Prop} (h : ACalls P f args' H K) (ha : All2 WkV args args') : ACalls P f args H K :=
 fun B w G vs hH hv => h B w G vs hH (wk_all ha hv)

def Back (n0 : Nat) (Inv : List AV → Heap → Prop) (F : List AV) (H : Heap) : Prop :=
 ∃ F2 H2 J, H = H2 ++ J ∧ n0 ≤ H2.length ∧ HSc H2 ∧ All2 WkV F F2 ∧ F2.all (AV.sc H2.length) = true ∧ Inv F2 H2

theorem TRel.sc {v : Value} {a : AV} (h : TRel w G v a) : a.sc G.μ.length = true := by
 have ha : ∀ {x : AV}, VRel w G v x → x.scV G.μ.length = true := fun h => h.sc
 cases a with
 | tup vs => obtain ⟨us, _, h2⟩ := h; exact All2.all_of (fun v a (h : VRel w G v a) => h.sc) h2
 | agg cs => exact ha (x := .agg cs) h
 | fn f caps => exact ha (x := .fn f caps) h
 | unk => rfl
 | bool b => rfl
 | int k n => rfl
 | str s => rfl
 | nilp => rfl
 | ptr i o => exact ha (x := .ptr i o) h
 | view cs => rfl
 | snil => rfl
 | sl es t => exact ha (x := .sl es t) h
 | ms i o l c => exact ha (x := .ms i o l c) h
 | ov i n => exact ha (x := .ov i n) h
 | vp i n o => exact ha (x := .vp i n o) h
 | map i => exact ha (x := .map i) h
 | nilfn => rfl
 | nili => rfl
 | ifc => rfl
theorem FRel.sc {tm : Array Value} {F : List AV} (hH : HRel B w G H) (h : FRel w G tm F) : F.all (AV.sc H.length) = true := by
 rw [← hH.len]
 exact All2.all_of (fun v a (h : TRel w G v a) => h.sc) h

theorem aloop {M : Nat → List Bool} {c : Code} {Q : AExit → List AV → Heap → Prop} {F : List AV} (m : List Bool) (Inv : Nat → List AV → Heap → Prop) (n : Nat) (h0 : HSc H → F.all (AV.sc H.length) = true → Inv n F H)
  (round : ∀ n F H', Inv n F H' → HSc H' → H.length ≤ H'.length → F.all (AV.sc H'.length) = true → awp P M c (roundQ m (fun F'' H'' => ∃ n', n' < n ∧ Back H.length (Inv n') F'' H'') Q) F H') : ALoop P c Q F H := by
 intro B w G a hH hF hd b k cs
 have key : ∀ n (a' : Act) (w' : World) (G' : Gh) (F' : List AV) (H' : Heap), Ext B w G w' G' → HRel B w' G' H' → FRel w' G' a'.tmps F' → a'.defers = [] → H.length ≤ H'.length → Inv n F' H' →
   ∃ e a'' w'', Post B w G Q e a'' w'' ∧ Arrives P (lone (b.at a' (.code c :: .inLoop c :: k)) cs w') b k cs e a'' w'' := by
  intro n
  induction n using Nat.strongRecOn with
  | _ n ih =>
   intro a' w' G' F' H' hE hH' hF' hd' hlen hI
   obtain ⟨e, a₁, w₁, hq, harr⟩ := awp_sound c _ F' H' (round n F' H' hI hH'.sc hlen (FRel.sc hH' hF')) B w' G' a' hH' hF' hd' b (.inLoop c :: k) cs
   obtain ⟨F1, H1, G1, e1, rfl, k1, k2, k3, k4, k5⟩ := hq
   cases e1 with
   | normal =>
    obtain ⟨n', hlt, F2, H2, J, hJ, hn0, hsc, hwk, hsF, hI2⟩ := k5
    subst hJ
    have hE2 : Ext B w G w₁ (G1.cut w₁ H2.length) := cut_ext k2 (hE.trans k1) (by rw [hH.len]; exact hn0)
    have hF2 : FRel w₁ (G1.cut w₁ H2.length) a₁.tmps F2 := cut_all (p := AV.sc H2.length) (fun _ _ => cut_trel k2) (wk_all hwk (mask_rel m k3)) hsF
    obtain ⟨e₂, a₂, w₂, hq₂, harr₂⟩ := ih n' hlt a₁ w₁ _ F2 H2 hE2 (k2.cut hsc) hF2 k4 hn0 hI2
    exact ⟨e₂, a₂, w₂, hq₂, .of_steps (Steps.trans harr (.one step_inLoop)) harr₂⟩
   | exit id => exact ⟨_, a₁, w₁, ⟨F1, H1, G1, .exit id, rfl, hE.trans k1, k2, k3, k4, k5⟩, .pass (x := .inLoop c) rfl (fun _ _ => .inl (by simp [AExit.toExit])) harr⟩
   | ret => exact ⟨_, a₁, w₁, ⟨F1, H1, G1, .ret, rfl, hE.trans k1, k2, k3, k4, k5⟩, .pass (x := .inLoop c) rfl (fun _ _ => .inl (by simp [AExit.toExit])) harr⟩
 obtain ⟨e, a', w', hq, harr⟩ := key n a w G F H (Ext.refl _ _ _) hH hF hd (Nat.le_refl _) (h0 hH.sc (FRel.sc hH hF))
 exact ⟨e, a', w', hq, .of_steps (.one step_loop) harr⟩

theorem wk_refl : ∀ F : List AV, All2 WkV F F
 | [] => trivial
 | a :: F => ⟨.atom (.refl a), wk_refl F⟩
theorem Back.same {n0 : Nat} {Inv : List AV → Heap → Prop} {F : List AV} {J : Heap} (hn : n0 ≤ H.length) (hsc : HSc H) (hs : F.all (AV.sc H.length) = true) (h : Inv F H) : Back n0 Inv F (H ++ J) :=
 ⟨F, H, J, rfl, hn, hsc, wk_refl F, hs, h⟩

def AV.isV : AV → Bool
 | .tup _ => false
 | _ => true
def aRes (P : Program) : List ResultVar → List AV → Heap → (List AV → Prop) → Prop
 | [], _, _, K => K []
 | .tmp t :: rs, F, H, K => aRes P rs F H fun vs => K (F.getD t .unk :: vs)
 | .cell a t :: rs, F, H, K => (match tAgg P t, tSize P t with
  | some g, some n => aLoad g n (F.getD a .unk) H fun v => aRes P rs F H fun vs => K (v :: vs)
  | _, _ => False)
def aRet (vs : List AV) (K : AV → Prop) : Prop :=
 match vs with
 | [v] => K v
 | vs => vs.all AV.isV = true ∧ K (.tup vs)
def retQ (P : Program) (rs : List ResultVar) (K : AV → Heap → Prop) (e : AExit) (F : List AV) (H : Heap) : Prop :=
 match e with
 | .exit _ => False
 | _ => aRes P rs F H fun vs => aRet vs (K · H)

theorem isV_rel {v : Value} {a : AV} (h : TRel w G v a) (hv : a.isV = true) : VRel w G v a := by
 cases a <;> first | exact h | (simp [AV.isV] at hv; done)

def resOf (tm : Array Value) : ResultVar → Sem Value
 | .tmp t => pure (tm.getD t undef)
 | .cell a t => do loadVar t (← asAddr (tm.getD a undef))
theorem results_eq (fn : Func) (tm : Array Value) : results fn tm = (do
  let vs ← fn.results.mapM (resOf tm)
  pure (if h : vs.size = 1 then vs[0] else .tuple vs)) := by
 unfold results
 congr 1

theorem run_res {tm : Array Value} {F : List AV} (hH : HRel B w G H) (hF : FRel w G tm F) : ∀ (rs : List ResultVar) (K : List AV → Prop), aRes P rs F H K →
  ∃ vs as, (rs.mapM (m := Sem) (resOf tm)).run P w = .ok vs w ∧ All2 (TRel w G) vs as ∧ K as
 | [], K, h => ⟨[], [], by simp, trivial, h⟩
 | .tmp t :: rs, K, h => by
  obtain ⟨vs, as, h1, h2, h3⟩ := run_res hH hF rs _ h
  have ht := ev_rel (a := ⟨tm, []⟩) hF (.tmp t)
  exact ⟨tm.getD t undef :: vs, F.getD t .unk :: as, by simp only [List.mapM_cons, Sem.run_bind, resOf, Sem.run_pure, Result.andThen_ok, h1], ⟨ht, h2⟩, h3⟩
 | .cell a t :: rs, K, h => by
  unfold aRes at h
  split at h
  ·rename_i g n hg hn
   have ht := ev_rel (a := ⟨tm, []⟩) hF (.tmp a)
   have ht : TRel w G (tm.getD a undef) (F.getD a .unk) := ht
   obtain ⟨u, h1, av, h2, h3⟩ := sound_load (K := fun v _ => aRes P rs F H fun vs => K (v :: vs)) hH ht hg hn h
   obtain ⟨vs, as, k1, k2, k3⟩ := run_res hH hF rs _ h3
   refine ⟨u :: vs, av :: as, ?_, ⟨h2, k2⟩, k3⟩
   have hld : (resOf tm (.cell a t)).run P w = .ok u w := by
    have hsa : ∃ x, tm.getD a undef = .pointer (some x) := by
     rw [aLoad_def] at h
     split at h
     ·rename_i hx; rw [hx] at ht; obtain ⟨b, _, hb⟩ := ht; exact ⟨_, hb⟩
     ·rename_i hx; rw [hx] at ht; obtain ⟨b, off, hb, _⟩ := ht; exact ⟨_, hb⟩
     ·rename_i hx; rw [hx] at ht; obtain ⟨⟨b, off, hb⟩, _⟩ := ht; exact ⟨_, hb⟩
     ·exact h.elim
    obtain ⟨x, hx⟩ := hsa
    show ((do loadVar t (← asAddr (tm.getD a undef))) : Sem Value).run P w = .ok u w
    rw [hx] at h1 ⊢
    simpa [Instr.loadAt, Instr.sureAddr, asAddr] using h1
   simp only [List.mapM_cons, Sem.run_bind, hld, Result.andThen_ok, k1, Sem.run_pure]
  ·exact h.elim

theorem acalls_body {M : Nat → List Bool} {f : FuncId} {fn : Func} {c : Code} {args : List AV} {K : AV → Heap → Prop} (hf : P.funcs[f]? = some fn) (hb : fn.body = some c)
  (h : HSc H → awp P M c (retQ P fn.results.toList K) (args ++ List.replicate (fn.ntmps - args.length) .unk) H) : ACalls P f args H K := by
 intro B w G vs hH hv
 refine calls_of_wp hf hb ?_
 have hF : FRel w G (vs ++ Array.replicate (fn.ntmps - vs.size) undef) (args ++ List.replicate (fn.ntmps - args.length) .unk) := by
  unfold FRel
  have hl : vs.size = args.length := by simpa using hv.length
  rw [hl]
  simpa using hv.append (All2.replicate (R := TRel w G) (a := undef) (b := .unk) trivial (fn.ntmps - args.length))
 refine wp_mono (awp_sound c _ _ H (h hH.sc) B w G ⟨_, []⟩ hH hF rfl) fun e a' w' hp => ?_
 obtain ⟨F', H', G', e', rfl, h1, h2, h3, h4, h5⟩ := hp
 have fin : (aRes P fn.results.toList F' H' fun vs => aRet vs (K · H')) → ∃ v, (results fn a'.tmps).run P w' = .ok v w' ∧ ∃ v' r H'' G'', Ending.returned v = .returned v' ∧ Ext B w G w' G'' ∧ HRel B w' G'' H'' ∧ TRel w' G'' v' r ∧ K r H'' := by
  intro h5
  obtain ⟨us, as, k1, k2, k3⟩ := run_res h2 h3 fn.results.toList _ h5
  have hres : (results fn a'.tmps).run P w' = .ok (if hh : us.toArray.size = 1 then us.toArray[0] else .tuple us.toArray) w' := by
   rw [results_eq, Sem.run_bind, Array.mapM_eq_mapM_toList, Sem.run_map, k1]
   rfl
  refine ⟨_, hres, (if hh : us.toArray.size = 1 then us.toArray[0] else .tuple us.toArray), ?_⟩
  have hl := k2.length
  unfold aRet at k3
  split at k3
  ·rename_i r
   match us, hl, k2, hres with
   | [u], _, k2, _ => exact ⟨r, H', G', rfl, h1, h2, by simpa using k2.1, k3⟩
  ·rename_i hne
   refine ⟨.tup as, H', G', rfl, h1, h2, ?_, k3.2⟩
   have hsz : ¬ us.toArray.size = 1 := by
    intro hs
    have : as.length = 1 := by rw [← hl]; simpa using hs
    match as, this with
    | [x], _ => exact hne x rfl
   rw [dif_neg hsz]
   exact ⟨us.toArray, rfl, cut_all (p := AV.isV) (fun _ _ => isV_rel) k2 k3.1⟩
 cases e' with
 | normal => exact ⟨h4, fin h5⟩
 | ret => exact ⟨h4, fin h5⟩
 | exit id => exact h5.elim

end Go.Abs
namespace Go.Abs
open Go Go.RowKit

variable {P : Program} {B : Nat} {w : World} {G : Gh} {H : Heap}

theorem DRel.of_flat_at {L : Nat → Nat} {g off size cap : Nat} {es : List (List AV)} {zs : List Value} (hsz : ∀ c ∈ es, c.length = size) (hne : es ≠ []) (hcap : es.length ≤ cap) (hL : off + es.length * size ≤ L g)
  (hr : All2 (DRel w L) zs es.flatten) (hc : ∀ j v, zs[j]? = some v → w.cell? ⟨g, off + j, none⟩ = some v) : DRel w L (.slice (some ⟨g, off, none⟩) es.length cap) (.sl es .none) := by
 have hget : ∀ i j (hi : i < es.length) (hj : j < (es[i]).length), ∃ v, zs[i * size + j]? = some v ∧ DRel w L v (es[i])[j] := fun i j hi hj => hr.get (flat_get hsz i j hi hj)
 refine .sl g off cap size es (fun i j => zs.getD (i * size + j) undef) hne hcap hL (fun i hi => hsz _ (List.getElem_mem hi)) (fun i j hi hj => ?_) (fun i j hi hj => ?_)
 ·obtain ⟨v, h1, h2⟩ := hget i j hi hj
  simp only [List.getD_eq_getElem?_getD, h1, Option.getD_some, Nat.add_assoc]
  exact hc _ _ h1
 ·obtain ⟨v, h1, h2⟩ := hget i j hi hj
  simp only [List.getD_eq_getElem?_getD, h1, Option.getD_some]
  exact h2

inductive OutV (H : Heap) (n : Nat) : AV → AV → Prop
 | wk {a b : AV} (h : WkV a b) (hv : b.isV = true) (hs : b.scV n = true) : OutV H n a b
 | frz (id off len cap size : Nat) (cs : List AV) (es : List (List AV)) (hid : n ≤ id) (hH : H[id]? = some (.cells cs)) (hfit : off + len * size ≤ cs.length)
   (hp : plain ((cs.drop off).take (len * size)) = some es.flatten) (hlen : es.length = len) (hsz : ∀ c ∈ es, c.length = size) (hcap : len ≤ cap) : OutV H n (.ms id off len cap) (.sl es .none)
 | vfz (id e size m : Nat) (cs : List AV) (es : List (List AV)) (hid : n ≤ id) (hH : H[id]? = some (.vec e size m cs)) (hp : plain cs = some es.flatten) (hlen : es.length = m) (hsz : ∀ c ∈ es, c.length = size) : OutV H n (.ov id m) (.sl es .none)
inductive OutT (H : Heap) (n : Nat) : AV → AV → Prop
 | one {a b : AV} (h : OutV H n a b) : OutT H n a b
 | tup {as bs : List AV} (h : All2 (OutV H n) as bs) : OutT H n (.tup as) (.tup bs)

theorem isV_sc {n : Nat} {b : AV} (hv : b.isV = true) (hs : b.scV n = true) : b.sc n = true := by
 cases b <;> first | exact hs | (simp [AV.isV] at hv; done)

theorem OutV.vrel (hH : HRel B w G H) {n : Nat} {v : Value} {a b : AV} (h : OutV H n a b) (hr : TRel w G v a) : VRel w (G.cut w n) v b := by
 cases h with
 | wk h hv hs => exact isV_rel (cut_trel hH (h.trel hr) (isV_sc hv hs)) hv
 | frz id off len cap size cs es hid hHid hfit hp hlen hsz hcap =>
  obtain ⟨b, hμ, rfl⟩ := hr
  have hok := hH.ok id _ _ hHid hμ
  obtain ⟨_, _, vs, e, hw, hcs⟩ := hok
  subst hlen
  show DRel w (G.cut w n).L _ _
  by_cases hne : es = []
  ·subst hne; exact .slE _ _
  ·have hl := hcs.length
   have hd := plain_rel ((hcs.drop off).take (es.length * size)) hp
   refine DRel.of_flat_at (zs := (vs.toList.drop off).take (es.length * size)) hsz hne hcap ?_ (hd.mono fun _ _ => cut_drel hH) ?_
   ·have : (G.cut w n).L b = vs.size := by
     simp only [Gh.cut]
     rw [if_pos (cut_dropped.2 ⟨id, _, hid, hμ, rfl⟩), hw]
    rw [this]
    simp at hl
    omega
   ·intro j u hj
    rw [List.getElem?_take] at hj
    split at hj
    ·simp only [World.cell?, hw]
     simpa using hj
    ·cases hj
 | vfz id e size m cs es hid hHid hp hlen hsz =>
  obtain ⟨⟨a, cap0, rfl, _⟩, v', s0, n', hμ, _, heq⟩ := hr
  obtain ⟨rfl, rfl, ⟨xs, hown, hcs⟩, _⟩ := hH.ok id _ _ hHid hμ
  obtain rfl := heq rfl
  subst hlen
  show DRel w (G.cut w n).L _ _
  by_cases hne : es = []
  ·subst hne; exact .slE _ _
  ·have hown2 := hown
   obtain ⟨hl, hrow⟩ := hown2
   rcases hrow with ⟨h1, h2⟩ | ⟨g, cap, cur, h1, h2, h3, h4, h5, h6, h7⟩
   ·cases es <;> simp_all
   ·simp at h1
    obtain ⟨rfl, rfl⟩ := h1
    obtain ⟨_, _, _, hcell⟩ := ownsRow_cells hown
    refine DRel.of_flat_at (zs := xs) hsz hne h4 ?_ ((plain_rel hcs hp).mono fun _ _ => cut_drel hH) ?_
    ·have : (G.cut w n).L g = cur.size := by
      simp only [Gh.cut]
      rw [if_pos (cut_dropped.2 ⟨id, _, hid, hμ, rfl⟩), h3]
     rw [this, h6, Nat.zero_add]
     exact Nat.mul_le_mul_right _ h4
    ·intro j u hj
     rw [Nat.zero_add, hcell j (by rw [← hl]; exact (List.getElem?_eq_some_iff.1 hj).1)]
     exact hj

theorem out_all (hH : HRel B w G H) {n : Nat} {as bs : List AV} (h : All2 (OutV H n) as bs) : ∀ {vs : List Value}, All2 (VRel w G) vs as → All2 (VRel w (G.cut w n)) vs bs := by
 induction as generalizing bs with
 | nil =>
  intro vs hr
  cases bs with
  | nil => cases vs <;> first | trivial | exact hr.elim
  | cons b bs => exact h.elim
 | cons a as ih =>
  intro vs hr
  cases bs with
  | nil => exact h.elim
  | cons b bs =>
   cases vs with
   | nil => exact hr.elim
   | cons v vs => exact ⟨h.1.vrel hH (TRel.of_v hr.1), ih h.2 hr.2⟩

def Out (n : Nat) (K : AV → Heap → Prop) (r : AV) (H' : Heap) : Prop := ∃ r2 H2 J, H' = H2 ++ J ∧ n ≤ H2.length ∧ HSc H2 ∧ OutT H' H2.length r r2 ∧ K r2 H2

theorem ACalls.out {f : FuncId} {args : List AV} {K : AV → Heap → Prop} (h : ACalls P f args H (Out H.length K)) : ACalls P f args H K := by
 intro B w G vs hH hv
 refine (h B w G vs hH hv).mono fun e w' ⟨v, r, H', G', h1, h2, h3, h4, h5⟩ => ?_
 obtain ⟨r2, H2, J, hJ, hn, hsc, ho, hk⟩ := h5
 subst hJ
 refine ⟨v, r2, H2, G'.cut w' H2.length, h1, cut_ext h3 h2 (by rw [hH.len]; exact hn), h3.cut hsc, ?_, hk⟩
 cases ho with
 | one ho => exact TRel.of_v (ho.vrel h3 h4)
 | tup ho =>
  obtain ⟨us, hu, hr⟩ := h4
  exact ⟨us, hu, out_all h3 ho hr⟩

theorem Out.same {n : Nat} {K : AV → Heap → Prop} {r : AV} {J : Heap} (hn : n = H.length) (hsc : HSc H) (hv : r.isV = true) (hr : r.scV H.length = true) (h : K r H) : Out n K r (H ++ J) :=
 ⟨r, H, J, rfl, by omega, hsc, .one (.wk (.atom (.refl r)) hv hr), h⟩

theorem ALoop.own {c : Code} {Q : AExit → List AV → Heap → Prop} {F : List AV} (i e size : Nat) (hi : F[i]? = some .snil)
  (h : ALoop P c Q (F.set i (.sl [] (.own H.length))) (H ++ [.perm e size 0])) : ALoop P c Q F H := by
 intro B w G a hH hF hd
 obtain ⟨hE, hH'⟩ := hH.newOwn e size
 have hF' : FRel w ⟨G.L, G.μ ++ [.own (.slice none 0 0) size 0]⟩ a.tmps (F.set i (.sl [] (.own H.length))) := by
  unfold FRel
  obtain ⟨v, h1, h2⟩ := All2.get hF hi
  have h2 : v = .slice none 0 0 := h2
  subst h2
  have hset : a.tmps.toList = a.tmps.toList.set i (.slice none 0 0) := by
   apply List.ext_getElem?
   intro k
   by_cases hk : k = i
   ·subst hk; rw [List.getElem?_set_self (List.getElem?_eq_some_iff.1 h1).1]; exact h1
   ·rw [List.getElem?_set_ne (fun h => hk h.symm)]
  rw [hset]
  refine All2.set i (hF.ext hE) ?_
  refine ⟨.slE _ _, .slice none 0 0, size, 0, ?_, Nat.le_refl _, fun _ => ⟨rfl, by simp⟩⟩
  rw [← hH.len]
  simp
 refine wp_mono (h B w _ a hH' hF' hd) fun e a' w' hp => ?_
 obtain ⟨F'', H'', G'', e'', rfl, k1, k2, k3, k4, k5⟩ := hp
 exact ⟨F'', H'', G'', e'', rfl, hE.trans k1, k2, k3, k4, k5⟩

def lev0 (w : World) (b : Nat) : Nat := match w.heap[b]? with | some (.cells c _ _) => c.size | _ => 0
def G0 (w : World) : Gh := ⟨lev0 w, []⟩

theorem hrel0 (w : World) : HRel w.heap.size w (G0 w) [] :=
 ⟨rfl, fun _ _ _ h => by simp at h, fun _ _ _ _ _ h => by simp [G0] at h, fun b hb => by simp [G0, lev0, Array.getElem?_eq_none hb], fun _ _ _ h => by simp [G0] at h, Nat.le_refl _⟩

end Go.Abs
namespace Go.Abs
open Go Go.RowKit

section
variable {H : Heap} {K : AV → Heap → Prop} {k : AV → Prop}
@[simp] theorem aIf_true (p q : Prop) : aIf true p q = p := propext Iff.rfl
@[simp] theorem aIf_false (p q : Prop) : aIf false p q = q := propext Iff.rfl
theorem aTest_bool (b : Bool) (p q : Prop) : aTest (.bool b) p q = (if b = true then p else q) := rfl
@[simp] theorem aTest_t (p q : Prop) : aTest (.bool true) p q = p := propext Iff.rfl
@[simp] theorem aTest_f (p q : Prop) : aTest (.bool false) p q = q := propext Iff.rfl
@[simp] theorem aPick_t (x y : AV) : aPick (.bool true) x y k = k x := propext Iff.rfl
@[simp] theorem aPick_f (x y : AV) : aPick (.bool false) x y k = k y := propext Iff.rfl
@[simp] theorem aGuard_tt (p q : Prop) : aGuard (.bool true) true p q = p := propext Iff.rfl
@[simp] theorem aGuard_ff (p q : Prop) : aGuard (.bool false) false p q = p := propext Iff.rfl
@[simp] theorem aGuard_tf (p q : Prop) : aGuard (.bool true) false p q = q := propext Iff.rfl
@[simp] theorem aGuard_ft (p q : Prop) : aGuard (.bool false) true p q = q := propext Iff.rfl
@[simp] theorem aGuard_tup (want : Bool) (p q : Prop) : aGuard (.tup []) want p q = q := propext Iff.rfl
@[simp] theorem aGuardJ_tt (p : (AV → Heap → Prop) → Prop) (J : AV → Heap → Prop) : aGuardJ (.bool true) true H p J = p J := propext Iff.rfl
@[simp] theorem aGuardJ_ff (p : (AV → Heap → Prop) → Prop) (J : AV → Heap → Prop) : aGuardJ (.bool false) false H p J = p J := propext Iff.rfl
@[simp] theorem aGuardJ_tf (p : (AV → Heap → Prop) → Prop) (J : AV → Heap → Prop) : aGuardJ (.bool true) false H p J = J (.tup []) H := propext Iff.rfl
@[simp] theorem aGuardJ_ft (p : (AV → Heap → Prop) → Prop) (J : AV → Heap → Prop) : aGuardJ (.bool false) true H p J = J (.tup []) H := propext Iff.rfl
@[simp] theorem aGuardJ_tup (want : Bool) (p : (AV → Heap → Prop) → Prop) (J : AV → Heap → Prop) : aGuardJ (.tup []) want H p J = J (.tup []) H := propext Iff.rfl
@[simp] theorem cs_agg (cs : List AV) : (AV.agg cs).cs? = some cs := rfl
@[simp] theorem cs_int (j : IntKind) (n : Int) : (AV.int j n).cs? = some [.int j n] := rfl
@[simp] theorem cs_bool (b : Bool) : (AV.bool b).cs? = some [.bool b] := rfl
@[simp] theorem cs_str (s : List UInt8) : (AV.str s).cs? = some [.str s] := rfl
@[simp] theorem cs_sl (es : List (List AV)) (t : Tok) : (AV.sl es t).cs? = some [.sl es t] := rfl
@[simp] theorem cs_snil : (AV.snil).cs? = some [.snil] := rfl
@[simp] theorem cs_ptr (i o : Nat) : (AV.ptr i o).cs? = some [.ptr i o] := rfl
@[simp] theorem cs_ms (i o l c : Nat) : (AV.ms i o l c).cs? = some [.ms i o l c] := rfl
@[simp] theorem cs_fn (f : Nat) (c : List AV) : (AV.fn f c).cs? = some [.fn f c] := rfl
@[simp] theorem cs_nilp : (AV.nilp).cs? = some [.nilp] := rfl
@[simp] theorem cs_nili : (AV.nili).cs? = some [.nili] := rfl
@[simp] theorem cs_ov (i n : Nat) : (AV.ov i n).cs? = some [.ov i n] := rfl
@[simp] theorem cs_vp (i n o : Nat) : (AV.vp i n o).cs? = some [.vp i n o] := rfl
@[simp] theorem cs_nilfn : (AV.nilfn).cs? = some [.nilfn] := rfl
@[simp] theorem aNew_eq (cs : List AV) : aNew cs H K = K (.ptr H.length 0) (H ++ [.cells cs]) := propext Iff.rfl
@[simp] theorem aBox_agg (cs : List AV) : aBox (.agg cs) H K = K (.ptr H.length 0) (H ++ [.cells cs]) := propext Iff.rfl
@[simp] theorem aBox_int (j : IntKind) (n : Int) : aBox (.int j n) H K = K (.ptr H.length 0) (H ++ [.cells [.int j n]]) := propext Iff.rfl
@[simp] theorem aBox_str (s : List UInt8) : aBox (.str s) H K = K (.ptr H.length 0) (H ++ [.cells [.str s]]) := propext Iff.rfl
@[simp] theorem aBox_bool (b : Bool) : aBox (.bool b) H K = K (.ptr H.length 0) (H ++ [.cells [.bool b]]) := propext Iff.rfl
@[simp] theorem aBox_sl (es : List (List AV)) (t : Tok) : aBox (.sl es t) H K = K (.ptr H.length 0) (H ++ [.cells [.sl es t]]) := propext Iff.rfl
@[simp] theorem aCells_agg (n off : Nat) (cs : List AV) : aCells true n off cs k = (off + n ≤ cs.length ∧ k (.agg ((cs.drop off).take n))) := propext Iff.rfl
@[simp] theorem aCells_cons0 (n : Nat) (c : AV) (cs : List AV) : aCells false n 0 (c :: cs) k = k c := propext Iff.rfl
@[simp] theorem aCells_cons (n i : Nat) (c : AV) (cs : List AV) : aCells false n (i + 1) (c :: cs) k = aCells false n i cs k := by simp [aCells]
@[simp] theorem aLoad_view (g : Bool) (n : Nat) (cs : List AV) : aLoad g n (.view cs) H k = aCells g n 0 cs k := propext Iff.rfl
def aLoadB (g : Bool) (n off : Nat) (b : Option AB) (k : AV → Prop) : Prop :=
 match b with
 | some (.cells cs) => aCells g n off cs k
 | _ => False
@[simp] theorem aLoadB_some (g : Bool) (n off : Nat) (cs : List AV) : aLoadB g n off (some (.cells cs)) k = aCells g n off cs k := propext Iff.rfl
@[simp] theorem aLoad_ptr (g : Bool) (n id off : Nat) : aLoad g n (.ptr id off) H k = aLoadB g n off H[id]? k := by
 rw [aLoad_def]; rfl
def aStoreB (n off id : Nat) (xs : Option (List AV)) (b : Option AB) (H : Heap) (K : Heap → Prop) : Prop :=
 match xs, b with
 | some xs, some (.cells cs) => (xs.length = n ∧ off + n ≤ cs.length ∧ xs.all AV.known = true) ∧ K (H.set id (.cells (cs.take off ++ xs ++ cs.drop (off + n))))
 | _, _ => False
@[simp] theorem aStoreB_some {K' : Heap → Prop} (n off id : Nat) (xs cs : List AV) : aStoreB n off id (some xs) (some (.cells cs)) H K' = ((xs.length = n ∧ off + n ≤ cs.length ∧ xs.all AV.known = true) ∧ K' (H.set id (.cells (cs.take off ++ xs ++ cs.drop (off + n))))) := propext Iff.rfl
@[simp] theorem aStore_ptr {K' : Heap → Prop} (n id off : Nat) (x : AV) : aStore n (.ptr id off) x H K' = aStoreB n off id x.cs? H[id]? H K' := by
 cases hx : x.cs? with
 | none => simp [aStore_def, aStoreB, hx]
 | some xs => cases hb : H[id]? with
  | none => simp [aStore_def, aStoreB, hx, hb]
  | some b => cases b <;> simp [aStore_def, aStoreB, hx, hb]
def aLoadV (g : Bool) (n m off : Nat) (b : Option AB) (k : AV → Prop) : Prop :=
 match b with
 | some (.vec _ _ m' cs) => m' = m ∧ aCells g n off cs k
 | _ => False
@[simp] theorem aLoadV_some (g : Bool) (n m off e s m' : Nat) (cs : List AV) : aLoadV g n m off (some (.vec e s m' cs)) k = (m' = m ∧ aCells g n off cs k) := propext Iff.rfl
@[simp] theorem aLoad_vp (g : Bool) (n id m off : Nat) : aLoad g n (.vp id m off) H k = aLoadV g n m off H[id]? k := by
 rw [aLoad_def]; rfl
def aStoreV (n m off id : Nat) (xs : Option (List AV)) (b : Option AB) (H : Heap) (K' : Heap → Prop) : Prop :=
 match xs, b with
 | some xs, some (.vec e s m' cs) => (m' = m ∧ xs.length = n ∧ off + n ≤ cs.length ∧ xs.all AV.known = true) ∧ K' (H.set id (.vec e s m' (cs.take off ++ xs ++ cs.drop (off + n))))
 | _, _ => False
@[simp] theorem aStoreV_some {K' : Heap → Prop} (n m off id e s m' : Nat) (xs cs : List AV) : aStoreV n m off id (some xs) (some (.vec e s m' cs)) H K' = ((m' = m ∧ xs.length = n ∧ off + n ≤ cs.length ∧ xs.all AV.known = true) ∧ K' (H.set id (.vec e s m' (cs.take off ++ xs ++ cs.drop (off + n))))) := propext Iff.rfl
@[simp] theorem aStore_vp {K' : Heap → Prop} (n id m off : Nat) (x : AV) : aStore n (.vp id m off) x H K' = aStoreV n m off id x.cs? H[id]? H K' := by
 cases hx : x.cs? with
 | none => simp [aStore_def, aStoreV, hx]
 | some xs => cases hb : H[id]? with
  | none => simp [aStore_def, aStoreV, hx, hb]
  | some b => cases b <;> simp [aStore_def, aStoreV, hx, hb]
def aAppV (e size bytes n id : Nat) (ys : List (List AV)) (b : Option AB) (H : Heap) (K : AV → Heap → Prop) : Prop :=
 match b with
 | some (.vec e' s' n' cs) => ((e' = e ∧ s' = size ∧ n' = n) ∧ (n + ys.length) * bytes ≤ 140737488355328 ∧ n + ys.length ≤ 9223372036854775807) ∧ K (.ov id (n + ys.length)) (H.set id (.vec e size (n + ys.length) (cs ++ ys.flatten)))
 | _ => False
@[simp] theorem aAppV_some (e size bytes n id e' s' n' : Nat) (ys : List (List AV)) (cs : List AV) : aAppV e size bytes n id ys (some (.vec e' s' n' cs)) H K = (((e' = e ∧ s' = size ∧ n' = n) ∧ (n + ys.length) * bytes ≤ 140737488355328 ∧ n + ys.length ≤ 9223372036854775807) ∧ K (.ov id (n + ys.length)) (H.set id (.vec e size (n + ys.length) (cs ++ ys.flatten)))) := propext Iff.rfl
@[simp] theorem aAppTo_ov (e size bytes id n : Nat) (ys : List (List AV)) : aAppTo e size bytes (.ov id n) ys H K = aAppV e size bytes n id ys H[id]? H K := by
 unfold aAppTo aAppV; rfl
@[simp] theorem aIdxA_ov (esz id m : Nat) (j : IntKind) (n : Int) : aIdxA esz (.ov id m) (.int j n) k = ((0 ≤ n ∧ n < m) ∧ k (.vp id m (n.toNat * esz))) := aIdxA_def ..
@[simp] theorem aLen_ov (id n : Nat) : aLen 1 (.ov id n) k = k (.int .i64 n) := propext Iff.rfl
@[simp] theorem aFld_vp (off i m o : Nat) : aFld off (.vp i m o) k = k (.vp i m (o + off)) := propext Iff.rfl
@[simp] theorem aNil_vp (i m o : Nat) : aNil (.vp i m o) k = k (.vp i m o) := propext Iff.rfl
@[simp] theorem aBox_ov (i n : Nat) : aBox (.ov i n) H K = K (.ptr H.length 0) (H ++ [.cells [.ov i n]]) := propext Iff.rfl
@[simp] theorem known_ov (i n : Nat) : (AV.ov i n).known = true := rfl
@[simp] theorem scA_ov (m i n : Nat) : (AV.ov i n).scA m = decide (i < m) := rfl
@[simp] theorem aNil_ptr (i o : Nat) : aNil (.ptr i o) k = k (.ptr i o) := propext Iff.rfl
@[simp] theorem aNil_view (cs : List AV) : aNil (.view cs) k = k (.view cs) := propext Iff.rfl
@[simp] theorem aNil_fn (f : Nat) (c : List AV) : aNil (.fn f c) k = k (.fn f c) := propext Iff.rfl
@[simp] theorem aFld_ptr (off i o : Nat) : aFld off (.ptr i o) k = k (.ptr i (o + off)) := propext Iff.rfl
@[simp] theorem aFld_view (off : Nat) (cs : List AV) : aFld off (.view cs) k = (off ≤ cs.length ∧ k (.view (cs.drop off))) := aFld_def ..
@[simp] theorem aFldV_agg (g : Bool) (n off : Nat) (cs : List AV) : aFldV g n off (.agg cs) k = aCells g n off cs k := propext Iff.rfl
@[simp] theorem aIdxA_sl (esz : Nat) (es : List (List AV)) (t : Tok) (j : IntKind) (n : Int) : aIdxA esz (.sl es t) (.int j n) k = ((0 ≤ n ∧ n < es.length) ∧ ((es.getD n.toNat []).length = esz ∧ k (.view (es.getD n.toNat [])))) := aIdxA_def ..
@[simp] theorem aIdxA_ms (esz id off len cap : Nat) (j : IntKind) (n : Int) : aIdxA esz (.ms id off len cap) (.int j n) k = ((0 ≤ n ∧ n < len) ∧ k (.ptr id (off + n.toNat * esz))) := aIdxA_def ..
@[simp] theorem aIdxS_str (s : List UInt8) (j : IntKind) (n : Int) : aIdxS (.str s) (.int j n) k = ((0 ≤ n ∧ n < s.length) ∧ k (.int .u8 (s.getD n.toNat 0).toNat)) := propext Iff.rfl
@[simp] theorem aLen_str (s : List UInt8) : aLen 0 (.str s) k = k (.int .i64 s.length) := propext Iff.rfl
@[simp] theorem aLen_sl (es : List (List AV)) (t : Tok) : aLen 1 (.sl es t) k = k (.int .i64 es.length) := propext Iff.rfl
@[simp] theorem aLen_snil : aLen 1 .snil k = k (.int .i64 0) := propext Iff.rfl
@[simp] theorem aLen_ms (i o l c : Nat) : aLen 1 (.ms i o l c) k = k (.int .i64 l) := propext Iff.rfl
@[simp] theorem aBound_none (d : Nat) (q : Nat → Prop) : aBound none d q = q d := propext Iff.rfl
@[simp] theorem aBound_int (j : IntKind) (n : Int) (d : Nat) (q : Nat → Prop) : aBound (some (.int j n)) d q = (0 ≤ n ∧ q n.toNat) := propext Iff.rfl
@[simp] theorem aSlice_str (s : List UInt8) (lo hi : Option AV) : aSlice 0 0 (.str s) lo hi k = aBound hi s.length fun h => aBound lo 0 fun l => (l ≤ h ∧ h ≤ s.length) ∧ k (.str ((s.take h).drop l)) := propext Iff.rfl
@[simp] theorem aSlice_sl (esz : Nat) (es : List (List AV)) (t : Tok) (lo hi : Option AV) : aSlice 1 esz (.sl es t) lo hi k = aBound hi es.length fun h => aBound lo 0 fun l => (l ≤ h ∧ h ≤ es.length ∧ ∀ c ∈ es, c.length = esz) ∧ k (.sl ((es.take h).drop l) .none) := propext Iff.rfl
@[simp] theorem aAdd_int (b : Bool) (j : IntKind) (m n : Int) : aBin .add b (.int j m) (.int j n) k = k (.int j (j.wrap (m + n))) := by simp [aBin_def]
@[simp] theorem aSub_int (b : Bool) (j : IntKind) (m n : Int) : aBin .sub b (.int j m) (.int j n) k = k (.int j (j.wrap (m - n))) := by simp [aBin_def]
@[simp] theorem aMul_int (b : Bool) (j : IntKind) (m n : Int) : aBin .mul b (.int j m) (.int j n) k = k (.int j (j.wrap (m * n))) := by simp [aBin_def]
@[simp] theorem aEql_int (b : Bool) (j : IntKind) (m n : Int) : aBin .eql b (.int j m) (.int j n) k = k (.bool (m == n)) := by simp [aBin_def]
@[simp] theorem aNeq_int (b : Bool) (j : IntKind) (m n : Int) : aBin .neq b (.int j m) (.int j n) k = k (.bool (m != n)) := by simp [aBin_def]
@[simp] theorem aLss_int (b : Bool) (j : IntKind) (m n : Int) : aBin .lss b (.int j m) (.int j n) k = k (.bool (decide (m < n))) := by simp [aBin_def]
@[simp] theorem aLeq_int (b : Bool) (j : IntKind) (m n : Int) : aBin .leq b (.int j m) (.int j n) k = k (.bool (decide (m ≤ n))) := by simp [aBin_def]
@[simp] theorem aGtr_int (b : Bool) (j : IntKind) (m n : Int) : aBin .gtr b (.int j m) (.int j n) k = k (.bool (decide (m > n))) := by simp [aBin_def]
@[simp] theorem aGeq_int (b : Bool) (j : IntKind) (m n : Int) : aBin .geq b (.int j m) (.int j n) k = k (.bool (decide (m ≥ n))) := by simp [aBin_def]
@[simp] theorem aEql_str (b : Bool) (s t : List UInt8) : aBin .eql b (.str s) (.str t) k = k (.bool (s == t)) := propext Iff.rfl
@[simp] theorem aNeq_str (b : Bool) (s t : List UInt8) : aBin .neq b (.str s) (.str t) k = k (.bool (!(s == t))) := rfl
@[simp] theorem aAdd_str (b : Bool) (s t : List UInt8) : aBin .add b (.str s) (.str t) k = (s.length + t.length ≤ 9223372036854775807 ∧ k (.str (s ++ t))) := aBin_def ..
@[simp] theorem aEql_bool (m n : Bool) : aBin .eql true (.bool m) (.bool n) k = k (.bool (m == n)) := by simp [aBin_def]
@[simp] theorem aNeq_bool (m n : Bool) : aBin .neq true (.bool m) (.bool n) k = k (.bool (!(m == n))) := by simp [aBin_def]
@[simp] theorem aNot_bool (b : Bool) : aUn .not (.bool b) k = k (.bool (!b)) := rfl
@[simp] theorem aNeg_int (j : IntKind) (n : Int) : aUn .neg (.int j n) k = k (.int j (j.wrap (0 - n))) := rfl
@[simp] theorem aConv_int (j i : IntKind) (n : Int) : aConv j (.int i n) k = k (.int j (j.wrap n)) := propext Iff.rfl
@[simp] theorem aConvS_str (s : List UInt8) : aConvS (.str s) k = k (.str s) := propext Iff.rfl
@[simp] theorem aExt_0 (v : AV) (vs : List AV) : aExt (.tup (v :: vs)) 0 k = k v := propext Iff.rfl
@[simp] theorem aExt_s (v : AV) (vs : List AV) (i : Nat) : aExt (.tup (v :: vs)) (i + 1) k = aExt (.tup vs) i k := by simp [aExt]
@[simp] theorem aClos_eq (f : Nat) (caps : List AV) : aClos f caps k = (caps.all AV.isB = true ∧ k (.fn f caps)) := propext Iff.rfl
@[simp] theorem aRet_one (v : AV) : aRet [v] k = k v := propext Iff.rfl
@[simp] theorem aRet_two (v u : AV) (vs : List AV) : aRet (v :: u :: vs) k = ((v :: u :: vs).all AV.isV = true ∧ k (.tup (v :: u :: vs))) := propext Iff.rfl
end


section
variable {H : Heap} {K : AV → Heap → Prop} {k : AV → Prop} {kh : Heap → Prop}
@[simp] theorem cs_map (i : Nat) : (AV.map i).cs? = some [.map i] := rfl
@[simp] theorem aMkMap_eq : aMkMap H K = K (.map H.length) (H ++ [.map []]) := propext Iff.rfl
def aLkpB (zero : AV) (ok : Bool) (s : List UInt8) (b : Option AB) (k : AV → Prop) : Prop :=
 match b with
 | some (.map kvs) => k (match ok with
   | true => .tup [(mget kvs s).getD zero, .bool (mget kvs s).isSome]
   | false => (mget kvs s).getD zero)
 | _ => False
@[simp] theorem aLkp_map (z : AV) (ok : Bool) (id : Nat) (s : List UInt8) : aLkp z ok (.map id) (.str s) H k = aLkpB z ok s H[id]? k := by unfold aLkp aLkpB; rfl
@[simp] theorem aLkpB_f (z : AV) (s : List UInt8) (kvs : List (List UInt8 × AV)) : aLkpB z false s (some (.map kvs)) k = k ((mget kvs s).getD z) := propext Iff.rfl
@[simp] theorem aLkpB_t (z : AV) (s : List UInt8) (kvs : List (List UInt8 × AV)) : aLkpB z true s (some (.map kvs)) k = k (.tup [(mget kvs s).getD z, .bool (mget kvs s).isSome]) := propext Iff.rfl
def aMUpdB (id : Nat) (s : List UInt8) (x : AV) (b : Option AB) (H : Heap) (kh : Heap → Prop) : Prop :=
 match b with
 | some (.map kvs) => (match x with
   | .tup _ => False
   | x => kh (H.set id (.map (mput kvs s x))))
 | _ => False
@[simp] theorem aMUpd_map (id : Nat) (s : List UInt8) (x : AV) : aMUpd (.map id) (.str s) x H kh = aMUpdB id s x H[id]? H kh := by unfold aMUpd aMUpdB; rfl
@[simp] theorem aMUpdB_bool (id : Nat) (s : List UInt8) (b : Bool) (kvs : List (List UInt8 × AV)) : aMUpdB id s (.bool b) (some (.map kvs)) H kh = kh (H.set id (.map (mput kvs s (.bool b)))) := propext Iff.rfl
@[simp] theorem aMUpdB_int (id : Nat) (s : List UInt8) (j : IntKind) (n : Int) (kvs : List (List UInt8 × AV)) : aMUpdB id s (.int j n) (some (.map kvs)) H kh = kh (H.set id (.map (mput kvs s (.int j n)))) := propext Iff.rfl
@[congr] theorem aMkMap_cg {H' : Heap} (hH : H = H') : aMkMap H K = aMkMap H' K := by rw [hH]
@[congr] theorem aLkp_cg {H' : Heap} {z : AV} {ok : Bool} {m m' x x' : AV} (hm : m = m') (hx : x = x') (hH : H = H') : aLkp z ok m x H k = aLkp z ok m' x' H' k := by rw [hm, hx, hH]
@[congr] theorem aLkpB_cg {z : AV} {ok : Bool} {s s' : List UInt8} {b b' : Option AB} (hs : s = s') (hb : b = b') : aLkpB z ok s b k = aLkpB z ok s' b' k := by rw [hs, hb]
@[congr] theorem aMUpd_cg {H' : Heap} {m m' y y' x x' : AV} (hm : m = m') (hy : y = y') (hx : x = x') (hH : H = H') : aMUpd m y x H kh = aMUpd m' y' x' H' kh := by rw [hm, hy, hx, hH]
@[congr] theorem aMUpdB_cg {H' : Heap} {id id' : Nat} {s s' : List UInt8} {x x' : AV} {b b' : Option AB} (hi : id = id') (hs : s = s') (hx : x = x') (hb : b = b') (hH : H = H') : aMUpdB id s x b H kh = aMUpdB id' s' x' b' H' kh := by rw [hi, hs, hx, hb, hH]
end

section
variable {H H' : Heap} {K : AV → Heap → Prop} {k : AV → Prop} {kh : Heap → Prop}
@[congr] theorem aIf_cg {b b' : Bool} {p q : Prop} (h : b = b') : aIf b p q = aIf b' p q := by rw [h]
@[congr] theorem aTest_cg {c c' : AV} {p q : Prop} (h : c = c') : aTest c p q = aTest c' p q := by rw [h]
@[congr] theorem aGuard_cg {c c' : AV} {w : Bool} {p q : Prop} (h : c = c') : aGuard c w p q = aGuard c' w p q := by rw [h]
@[congr] theorem aGuardJ_cg {c c' : AV} {w : Bool} {p : (AV → Heap → Prop) → Prop} {J : AV → Heap → Prop} (h : c = c') (hH : H = H') : aGuardJ c w H p J = aGuardJ c' w H' p J := by rw [h, hH]
@[congr] theorem aPick_cg {c c' a a' b b' : AV} (h : c = c') (ha : a = a') (hb : b = b') : aPick c a b k = aPick c' a' b' k := by rw [h, ha, hb]
@[congr] theorem aBox_cg {x x' : AV} (h : x = x') (hH : H = H') : aBox x H K = aBox x' H' K := by rw [h, hH]
@[congr] theorem aNew_cg {x x' : List AV} (h : x = x') (hH : H = H') : aNew x H K = aNew x' H' K := by rw [h, hH]
@[congr] theorem aCells_cg {g : Bool} {n n' o o' : Nat} {c c' : List AV} (hn : n = n') (ho : o = o') (hc : c = c') : aCells g n o c k = aCells g n' o' c' k := by rw [hn, ho, hc]
@[congr] theorem aLoad_cg {g : Bool} {n : Nat} {x x' : AV} (h : x = x') (hH : H = H') : aLoad g n x H k = aLoad g n x' H' k := by rw [h, hH]
@[congr] theorem aLoadB_cg {g : Bool} {n o o' : Nat} {b b' : Option AB} (ho : o = o') (h : b = b') : aLoadB g n o b k = aLoadB g n o' b' k := by rw [h, ho]
@[congr] theorem aStore_cg {n : Nat} {a a' x x' : AV} (ha : a = a') (h : x = x') (hH : H = H') : aStore n a x H kh = aStore n a' x' H' kh := by rw [ha, h, hH]
@[congr] theorem aStoreB_cg {n o o' i i' : Nat} {x x' : Option (List AV)} {b b' : Option AB} (ho : o = o') (hi : i = i') (h : x = x') (hb : b = b') (hH : H = H') : aStoreB n o i x b H kh = aStoreB n o' i' x' b' H' kh := by rw [ho, hi, h, hb, hH]
@[congr] theorem aFld_cg {n : Nat} {x x' : AV} (h : x = x') : aFld n x k = aFld n x' k := by rw [h]
@[congr] theorem aFldV_cg {g : Bool} {n o : Nat} {x x' : AV} (h : x = x') : aFldV g n o x k = aFldV g n o x' k := by rw [h]
@[congr] theorem aIdxA_cg {n : Nat} {x x' i i' : AV} (h : x = x') (hi : i = i') : aIdxA n x i k = aIdxA n x' i' k := by rw [h, hi]
@[congr] theorem aIdxS_cg {x x' i i' : AV} (h : x = x') (hi : i = i') : aIdxS x i k = aIdxS x' i' k := by rw [h, hi]
@[congr] theorem aLen_cg {u : Nat} {x x' : AV} (h : x = x') : aLen u x k = aLen u x' k := by rw [h]
@[congr] theorem aBound_cg {x x' : Option AV} {d d' : Nat} {q : Nat → Prop} (h : x = x') (hd : d = d') : aBound x d q = aBound x' d' q := by rw [h, hd]
@[congr] theorem aSlice_cg {u e : Nat} {x x' : AV} {l l' h h' : Option AV} (hx : x = x') (hl : l = l') (hh : h = h') : aSlice u e x l h k = aSlice u e x' l' h' k := by rw [hx, hl, hh]
@[congr] theorem aBin_cg {o : BinOp} {b : Bool} {x x' y y' : AV} (h : x = x') (hy : y = y') : aBin o b x y k = aBin o b x' y' k := by rw [h, hy]
@[congr] theorem aUn_cg {o : UnOp} {x x' : AV} (h : x = x') : aUn o x k = aUn o x' k := by rw [h]
@[congr] theorem aConv_cg {o : IntKind} {x x' : AV} (h : x = x') : aConv o x k = aConv o x' k := by rw [h]
@[congr] theorem aConvS_cg {x x' : AV} (h : x = x') : aConvS x k = aConvS x' k := by rw [h]
@[congr] theorem aExt_cg {x x' : AV} {i : Nat} (h : x = x') : aExt x i k = aExt x' i k := by rw [h]
@[congr] theorem aClos_cg {f : Nat} {x x' : List AV} (h : x = x') : aClos f x k = aClos f x' k := by rw [h]
@[congr] theorem aNil_cg {x x' : AV} (h : x = x') : aNil x k = aNil x' k := by rw [h]
@[congr] theorem aBuild_cg {z : List AV} {p : List (Nat × Nat)} {x x' : List (Nat × AV)} (h : x = x') : aBuild z p x k = aBuild z p x' k := by rw [h]
@[congr] theorem aBuildS_cg {e : Nat} {z : List AV} {l : Nat} {x x' : List (Nat × AV)} (h : x = x') : aBuildS e z l x k = aBuildS e z l x' k := by rw [h]
@[congr] theorem aMake_cg {b : Nat} {z : List AV} {l l' c c' : AV} (h : l = l') (hc : c = c') (hH : H = H') : aMake b z l c H K = aMake b z l' c' H' K := by rw [h, hc, hH]
@[congr] theorem aAppend_cg {e s b : Nat} {x x' y y' : AV} (h : x = x') (hy : y = y') (hH : H = H') : aAppend e s b x y H K = aAppend e s b x' y' H' K := by rw [h, hy, hH]
@[congr] theorem aAppTo_cg {e s b : Nat} {x x' : AV} {y y' : List (List AV)} (h : x = x') (hy : y = y') (hH : H = H') : aAppTo e s b x y H K = aAppTo e s b x' y' H' K := by rw [h, hy, hH]
@[congr] theorem aSrc_cg {x x' : AV} {q : List (List AV) → Prop} (h : x = x') : aSrc x q = aSrc x' q := by rw [h]
@[congr] theorem ACalls_cg {P : Program} {f : FuncId} {x x' : List AV} (h : x = x') (hH : H = H') : ACalls P f x H K = ACalls P f x' H' K := by rw [h, hH]
@[congr] theorem aCallV_cg {P : Program} {g g' : AV} {x x' : List AV} (hg : g = g') (h : x = x') (hH : H = H') : aCallV P g x H K = aCallV P g' x' H' K := by rw [hg, h, hH]
@[congr] theorem aPure_cg {p : (AV → Heap → Prop) → Prop} : aPure H p k = aPure H p k := rfl
@[congr] theorem Out_cg {n : Nat} {r r' : AV} (hr : r = r') (hH : H = H') : Out n K r H = Out n K r' H' := by rw [hr, hH]
end
section
variable {H : Heap} {k : AV → Prop}
theorem pure_of {p : (AV → Prop) → Prop} (h : ∀ q : AV → Prop, p q ↔ ∃ v, p (fun u => u = v) ∧ q v) : aPure H (fun K' => p fun v => K' v H) k = p k := by
 unfold aPure
 rw [eq_iff_iff, h k]
 simp only [and_true]
@[simp] theorem aPure_id (x : AV) : aPure H (fun K' => K' x H) k = k x := by simp [aPure]
theorem cells_det (g : Bool) (n o : Nat) (cs : List AV) (q : AV → Prop) : aCells g n o cs q ↔ ∃ v, aCells g n o cs (fun u => u = v) ∧ q v := by
 unfold aCells
 split
 ·constructor
  ·rintro ⟨h1, h2⟩; exact ⟨_, ⟨h1, rfl⟩, h2⟩
  ·rintro ⟨v, ⟨h1, rfl⟩, h2⟩; exact ⟨h1, h2⟩
 ·split <;> simp
theorem and_det {a : Prop} {p : Prop} {p' : AV → Prop} {q : AV → Prop} (h : p ↔ ∃ v, p' v ∧ q v) : (a ∧ p) ↔ ∃ v, (a ∧ p' v) ∧ q v := by
 constructor
 ·rintro ⟨h1, h2⟩; obtain ⟨v, h3, h4⟩ := h.1 h2; exact ⟨v, ⟨h1, h3⟩, h4⟩
 ·rintro ⟨v, ⟨h1, h3⟩, h4⟩; exact ⟨h1, h.2 ⟨v, h3, h4⟩⟩
@[simp] theorem aPure_load (g : Bool) (n : Nat) (a : AV) : aPure H (fun K' => aLoad g n a H fun v => K' v H) k = aLoad g n a H k := pure_of (p := fun q => aLoad g n a H q) fun q => by
 unfold aLoad
 split
 ·exact cells_det _ _ _ _ q
 ·simp
@[simp] theorem aLoadC_ptr (g : Bool) (n id off : Nat) : aLoadC g n (.ptr id off) H k = aLoad g n (.ptr id off) H k := propext Iff.rfl
@[simp] theorem aLoadC_view (g : Bool) (n : Nat) (cs : List AV) : aLoadC g n (.view cs) H k = aLoad g n (.view cs) H k := propext Iff.rfl
@[simp] theorem aPure_loadC (g : Bool) (n : Nat) (a : AV) : aPure H (fun K' => aLoadC g n a H fun v => K' v H) k = aLoadC g n a H k := pure_of (p := fun q => aLoadC g n a H q) fun q => by
 unfold aLoadC
 split
 ·simp
 unfold aLoad
 split
 ·exact cells_det _ _ _ _ q
 ·simp
@[simp] theorem aPure_nilCmp (b : Bool) (o : BinOp) (x : AV) : aPure H (fun K' => aNilCmp b o x fun v => K' v H) k = aNilCmp b o x k := pure_of (p := fun q => aNilCmp b o x q) fun q => by
 unfold aNilCmp
 refine and_det ?_
 split
 ·split <;> simp
 ·split <;> simp
 ·simp
@[simp] theorem aNilCmp_nili_neq : aNilCmp true .neq .nili k = k (.bool false) := by simp [aNilCmp]
@[simp] theorem aNilCmp_ifc_neq : aNilCmp true .neq .ifc k = k (.bool true) := by simp [aNilCmp]
@[simp] theorem aNilCmp_nili_eql : aNilCmp true .eql .nili k = k (.bool true) := by simp [aNilCmp]
@[simp] theorem aNilCmp_ifc_eql : aNilCmp true .eql .ifc k = k (.bool false) := by simp [aNilCmp]
@[simp] theorem aPure_pick (c a b : AV) : aPure H (fun K' => aPick c a b fun v => K' v H) k = aPick c a b k := pure_of (p := fun q => aPick c a b q) fun q => by
 unfold aPick; split <;> simp
@[simp] theorem aPure_fld (o : Nat) (a : AV) : aPure H (fun K' => aFld o a fun v => K' v H) k = aFld o a k := pure_of (p := fun q => aFld o a q) fun q => by
 unfold aFld; split <;> simp
@[simp] theorem aPure_fldV (g : Bool) (n o : Nat) (a : AV) : aPure H (fun K' => aFldV g n o a fun v => K' v H) k = aFldV g n o a k := pure_of (p := fun q => aFldV g n o a q) fun q => by
 unfold aFldV
 split
 ·exact cells_det _ _ _ _ q
 ·simp
@[simp] theorem aPure_idxA (n : Nat) (x i : AV) : aPure H (fun K' => aIdxA n x i fun v => K' v H) k = aIdxA n x i k := pure_of (p := fun q => aIdxA n x i q) fun q => by
 unfold aIdxA; split <;> simp
@[simp] theorem aPure_idxS (x i : AV) : aPure H (fun K' => aIdxS x i fun v => K' v H) k = aIdxS x i k := pure_of (p := fun q => aIdxS x i q) fun q => by
 unfold aIdxS
 split
 ·constructor
  ·rintro ⟨h1, h2⟩; exact ⟨_, ⟨h1, rfl⟩, h2⟩
  ·rintro ⟨v, ⟨h1, rfl⟩, h2⟩; exact ⟨h1, h2⟩
 ·simp
@[simp] theorem aPure_len (u : Nat) (x : AV) : aPure H (fun K' => aLen u x fun v => K' v H) k = aLen u x k := pure_of (p := fun q => aLen u x q) fun q => by
 unfold aLen; split <;> simp
@[simp] theorem aPure_un (o : UnOp) (x : AV) : aPure H (fun K' => aUn o x fun v => K' v H) k = aUn o x k := pure_of (p := fun q => aUn o x q) fun q => by
 unfold aUn; split <;> simp
@[simp] theorem aPure_conv (o : IntKind) (x : AV) : aPure H (fun K' => aConv o x fun v => K' v H) k = aConv o x k := pure_of (p := fun q => aConv o x q) fun q => by
 unfold aConv; split <;> simp
@[simp] theorem aPure_convS (x : AV) : aPure H (fun K' => aConvS x fun v => K' v H) k = aConvS x k := pure_of (p := fun q => aConvS x q) fun q => by
 unfold aConvS; split <;> simp
@[simp] theorem aPure_convB (x : AV) : aPure H (fun K' => aConvB x fun v => K' v H) k = aConvB x k := pure_of (p := fun q => aConvB x q) fun q => by
 unfold aConvB
 split
 ·split <;> simp
 ·simp
 ·simp
@[simp] theorem aPure_nil (x : AV) : aPure H (fun K' => aNil x fun v => K' v H) k = aNil x k := pure_of (p := fun q => aNil x q) fun q => by
 unfold aNil; split <;> simp
@[simp] theorem aPure_ext (x : AV) (i : Nat) : aPure H (fun K' => aExt x i fun v => K' v H) k = aExt x i k := pure_of (p := fun q => aExt x i q) fun q => by
 unfold aExt
 split
 ·split <;> simp
 ·simp
@[simp] theorem aPure_build (z : List AV) (ps : List (Nat × Nat)) (x : List (Nat × AV)) : aPure H (fun K' => aBuild z ps x fun v => K' v H) k = aBuild z ps x k := pure_of (p := fun q => aBuild z ps x q) fun q => by
 unfold aBuild; split <;> simp
@[simp] theorem aPure_buildS (e : Nat) (z : List AV) (l : Nat) (x : List (Nat × AV)) : aPure H (fun K' => aBuildS e z l x fun v => K' v H) k = aBuildS e z l x k := pure_of (p := fun q => aBuildS e z l x q) fun q => by
 unfold aBuildS
 split
 ·split <;> simp
 ·simp
@[simp] theorem aPure_bin (o : BinOp) (b : Bool) (x y : AV) : aPure H (fun K' => aBin o b x y fun v => K' v H) k = aBin o b x y k := pure_of (p := fun q => aBin o b x y q) fun q => by
 unfold aBin; split <;> simp
@[simp] theorem aPure_clos (f : Nat) (x : List AV) : aPure H (fun K' => aClos f x fun v => K' v H) k = aClos f x k := pure_of (p := fun q => aClos f x q) fun q => by
 unfold aClos
 constructor
 ·rintro ⟨h1, h2⟩; exact ⟨_, ⟨h1, rfl⟩, h2⟩
 ·rintro ⟨v, ⟨h1, rfl⟩, h2⟩; exact ⟨h1, h2⟩
end
@[simp] theorem get_len (A l : Heap) : (A ++ l)[A.length]? = l[0]? := by rw [List.getElem?_append_right (Nat.le_refl _)]; simp
@[simp] theorem get_len_add (A l : Heap) (k : Nat) : (A ++ l)[A.length + k]? = l[k]? := by rw [List.getElem?_append_right (by omega)]; congr 1; omega
@[simp] theorem set_len (A l : Heap) (x : AB) : (A ++ l).set A.length x = A ++ l.set 0 x := by rw [List.set_append_right _ _ (Nat.le_refl _)]; simp
@[simp] theorem set_len_add (A l : Heap) (k : Nat) (x : AB) : (A ++ l).set (A.length + k) x = A ++ l.set k x := by rw [List.set_append_right _ _ (by omega)]; congr 2; omega
@[simp] theorem get_set_len (A l : Heap) (i : Nat) (y : AB) : (A.set i y ++ l)[A.length]? = l[0]? := by have := get_len (A.set i y) l; rwa [List.length_set] at this
@[simp] theorem get_set_len_add (A l : Heap) (i : Nat) (y : AB) (k : Nat) : (A.set i y ++ l)[A.length + k]? = l[k]? := by have := get_len_add (A.set i y) l k; rwa [List.length_set] at this
@[simp] theorem set_set_len (A l : Heap) (i : Nat) (x y : AB) : (A.set i y ++ l).set A.length x = A.set i y ++ l.set 0 x := by have := set_len (A.set i y) l x; rwa [List.length_set] at this
@[simp] theorem set_set_len_add (A l : Heap) (i : Nat) (y : AB) (k : Nat) (x : AB) : (A.set i y ++ l).set (A.length + k) x = A.set i y ++ l.set k x := by have := set_len_add (A.set i y) l k x; rwa [List.length_set] at this
theorem app_get {H J : Heap} {id : Nat} {b : AB} (h : H[id]? = some b) : (H ++ J)[id]? = some b := by
 rw [List.getElem?_append_left (List.getElem?_eq_some_iff.1 h).1]; exact h
theorem lt_get {H : Heap} {id : Nat} {b : AB} (h : H[id]? = some b) : id < H.length := (List.getElem?_eq_some_iff.1 h).1
theorem app_set {H J : Heap} {id : Nat} {b : AB} (x : AB) (h : H[id]? = some b) : (H ++ J).set id x = H.set id x ++ J := List.set_append_left _ _ (lt_get h)
theorem set_get {H : Heap} {id : Nat} {b : AB} (x : AB) (h : H[id]? = some b) : (H.set id x)[id]? = some x := List.getElem?_set_self (lt_get h)

theorem wrap_in {n : Int} (h1 : -9223372036854775808 ≤ n) (h2 : n ≤ 9223372036854775807) : IntKind.i64.wrap n = n := IntWalk.i64_in n ⟨h1, h2⟩

theorem HSc.set {H : Heap} {id : Nat} {b : AB} (h : HSc H) (hb : b.sc H.length = true) : HSc (H.set id b) := by
 intro x hx
 rw [List.length_set]
 rcases List.mem_or_eq_of_mem_set hx with h1 | h1
 ·exact h x h1
 ·rw [h1]; exact hb
theorem sc_mono {n m : Nat} (h : n ≤ m) : ∀ {a : AV}, a.sc n = true → a.sc m = true := by
 have hB : ∀ {a : AV}, a.scB n = true → a.scB m = true := by
  intro a ha
  cases a with
  | sl es t => cases t <;> simp_all [AV.scB]; omega
  | _ => simp_all [AV.scB] <;> omega
 have hA : ∀ {a : AV}, a.scA n = true → a.scA m = true := by
  intro a ha
  cases a with
  | fn f caps => simp only [AV.scA, List.all_eq_true] at ha ⊢; exact fun x hx => hB (ha x hx)
  | _ => simp only [AV.scA] at ha ⊢; exact hB ha
 have hV : ∀ {a : AV}, a.scV n = true → a.scV m = true := by
  intro a ha
  cases a with
  | agg caps => simp only [AV.scV, List.all_eq_true] at ha ⊢; exact fun x hx => hA (ha x hx)
  | _ => simp only [AV.scV] at ha ⊢; exact hA ha
 intro a ha
 cases a with
 | tup caps => simp only [AV.sc, List.all_eq_true] at ha ⊢; exact fun x hx => hV (ha x hx)
 | _ => simp only [AV.sc] at ha ⊢; exact hV ha
theorem Back.here {n0 : Nat} {Inv : List AV → Heap → Prop} {F : List AV} {H : Heap} (hn : n0 ≤ H.length) (hsc : HSc H) (hs : F.all (AV.sc H.length) = true) (h : Inv F H) : Back n0 Inv F H := by
 have := Back.same (J := []) hn hsc hs h
 simpa using this
theorem scA_mono {n m : Nat} (h : n ≤ m) {a : AV} (ha : a.scA n = true) : a.scA m = true := by
 cases a with
 | agg cs => rfl
 | tup vs => rfl
 | fn f caps => exact sc_mono h (a := .fn f caps) ha
 | sl es t => exact sc_mono h (a := .sl es t) ha
 | ptr i o => exact sc_mono h (a := .ptr i o) ha
 | ms i o l c => exact sc_mono h (a := .ms i o l c) ha
 | ov i n => exact sc_mono h (a := .ov i n) ha
 | vp i n o => exact sc_mono h (a := .vp i n o) ha
 | map i => exact sc_mono h (a := .map i) ha
 | _ => rfl
theorem scV_mono {n m : Nat} (h : n ≤ m) {a : AV} (ha : a.scV n = true) : a.scV m = true := by
 cases a with
 | tup vs => rfl
 | agg cs => exact sc_mono h (a := .agg cs) ha
 | fn f caps => exact sc_mono h (a := .fn f caps) ha
 | sl es t => exact sc_mono h (a := .sl es t) ha
 | ptr i o => exact sc_mono h (a := .ptr i o) ha
 | ms i o l c => exact sc_mono h (a := .ms i o l c) ha
 | ov i n => exact sc_mono h (a := .ov i n) ha
 | vp i n o => exact sc_mono h (a := .vp i n o) ha
 | map i => exact sc_mono h (a := .map i) ha
 | _ => rfl
theorem ABsc_mono {n m : Nat} (h : n ≤ m) {b : AB} (hb : b.sc n = true) : b.sc m = true := by
 cases b with
 | cells cs => simp only [AB.sc, List.all_eq_true] at hb ⊢; exact fun x hx => scA_mono h (hb x hx)
 | perm e s n => rfl
 | gap => rfl
 | dead => rfl
 | fact φ => rfl
 | map kvs => simp only [AB.sc, List.all_eq_true] at hb ⊢; exact fun x hx => scV_mono h (hb x hx)
 | bld t cs => simp only [AB.sc, List.all_eq_true] at hb ⊢; exact fun x hx => scA_mono h (hb x hx)
 | vec e s n cs => simp only [AB.sc, List.all_eq_true] at hb ⊢; exact fun x hx => scA_mono h (hb x hx)
theorem HSc.append {A J : Heap} (hA : HSc A) (hJ : J.all (AB.sc (A.length + J.length)) = true) : HSc (A ++ J) := by
 intro x hx
 rw [List.length_append]
 rcases List.mem_append.1 hx with h1 | h1
 ·exact ABsc_mono (by omega) (hA x h1)
 ·exact List.all_eq_true.1 hJ x h1
end Go.Abs
namespace Go.Abs
open Go
abbrev Kt := AV → Heap → Prop
abbrev Lt := List AV → Heap → Prop
def ux : Nat → List AV → List AV
 | 0, l => l
 | n + 1, l => .unk :: ux n l
@[simp] theorem ux_all (m n : Nat) (l : List AV) : (ux n l).all (AV.sc m) = l.all (AV.sc m) := by
 induction n with
 | zero => rfl
 | succ n ih => rw [ux, List.all_cons, ih]; rfl
def rl : Bool → List Nat → List Bool
 | _, [] => []
 | b, n :: l => List.replicate n b ++ rl (!b) l
end Go.Abs
