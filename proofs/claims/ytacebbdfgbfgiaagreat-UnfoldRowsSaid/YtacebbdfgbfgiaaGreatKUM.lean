import Derived.Test.YtacebbdfgbfgiaaGreatAbsO3
import Derived.Shelf.SlSortCmp.NoneTotal
import Derived.Test.YtacebbdfgbfgiaaGreatProg
import Derived.Test.YtacebbdfgbfgiaaGreatKNum
import Derived.KernelRfl
import Derived.Test.YtacebbdfgbfgiaaGreatKUB
set_option linter.unusedSimpArgs false
set_option linter.unusedVariables false
namespace Go.Abs
open Go Go.RowKit
open Go.Sort (grow putRow putCells mapBlock onCells ahead SWO PermIn SortedIn Holds)
open Go.Proofs (sortWorld ltOf CmpLays1)
variable {P : Program} {B : Nat} {w : World} {G : Gh} {H : zaa}
theorem zvg {W w' : World} (hd : W.drawn ≤ w'.drawn) (hb : Below W.heap.size W w') : ∃ q os, w' = grow (W.drewN q) os := by
 refine ⟨w'.drawn - W.drawn, w'.heap.extract W.heap.size w'.heap.size, ?_⟩
 obtain ⟨h1, h2, h3, h4, h5⟩ := hb
 obtain ⟨heap, tape, drawn, os, output⟩ := W
 obtain ⟨heap', tape', drawn', os', output'⟩ := w'
 simp only at *
 subst h1 h2 h3
 have e1 : heap' = heap ++ heap'.extract heap.size heap'.size := by
  refine Array.ext_getElem? fun i => ?_
  by_cases hi : i < heap.size
  ·rw [Array.getElem?_append_left hi, h5 i hi]
  ·rw [Array.getElem?_append_right (by omega), Array.getElem?_extract]
   by_cases h : i < heap'.size
   ·rw [if_pos (by omega), show heap.size + (i - heap.size) = i by omega]
   ·rw [if_neg (by omega), Array.getElem?_eq_none (by omega)]
 have e2 : drawn' = drawn + (drawn' - drawn) := by omega
 simp only [grow, World.drewN]
 rw [← e1, ← e2]
theorem HRel.alone (h : HRel B w G H) (o : Obj) : Ext B w G (w.alloc o) G ∧ HRel B (w.alloc o) G H := by
 have he := Ext.alloc h o G.L (fun _ _ => rfl) []
 simp only [List.append_nil] at he
 refine ⟨he, h.keep he rfl (fun id gi b h1 h2 => ⟨zen (h.lt id gi b h1 h2), rfl⟩) (fun b hb => ?_)⟩
 rw [zct] at hb
 exact h.fresh b (by omega)
theorem HRel.grown : ∀ (os : List Obj) {w : World}, HRel B w G H → Ext B w G (grow w os.toArray) G ∧ HRel B (grow w os.toArray) G H
 | [], w, h => by
  have : grow w #[] = w := by simp [grow]
  rw [show ([] : List Obj).toArray = #[] from rfl, this]
  exact ⟨Ext.refl _ _ _, h⟩
 | o :: l, w, h => by
  obtain ⟨h1, h2⟩ := h.alone o
  obtain ⟨h3, h4⟩ := HRel.grown l h2
  have : grow w (o :: l).toArray = grow (w.alloc o) l.toArray := by
   rw [Go.Sort.alloc_eq_grow, Go.Sort.grow_grow]
   simp
  rw [this]
  exact ⟨h1.trans h3, h4⟩
theorem zvZ {α : Type} [Inhabited α] (vals : α → Value) (d : Array α) (cur : Array Value) (h : d.size ≤ cur.size) : (putCells vals 0 d cur).toList.take d.size = d.toList.map vals := by
 refine List.ext_getElem (by simp [putCells]; omega) fun i h1 h2 => ?_
 simp at h2
 simp [putCells, h2]
theorem HRel.sorted {α : Type} [Inhabited α] (h : HRel B w G H) {id e n g cap : Nat} {cs cs' : List AV} (hH : H[id]? = some (.vec e 1 n cs)) (hμ : G.μ[id]? = some (.own (.slice (some ⟨g, 0, none⟩) n cap) 1 n))
  (vals : α → Value) (d : Array α) (hd : d.size = n) (hc : All2 (ARel w G) (d.toList.map vals) cs') (m : Nat) (os : Array Obj) :
  Ext B w G (sortWorld vals w g 0 m d os) G ∧ HRel B (sortWorld vals w g 0 m d os) G (H.set id (.vec e 1 n cs')) := by
 obtain ⟨_, _, ⟨xs, ⟨hxl, ho⟩, hxc⟩, hL0⟩ := h.ok id _ _ hH hμ
 rcases ho with ⟨h1, _⟩ | ⟨g', cap', cur, h1, hB, hw, hcap, hcm, hsz, htk⟩
 ·cases h1
 cases h1
 have h1 := h.storeV (cur' := putCells vals 0 d cur) (xs' := d.toList.map vals) hH hμ hw hB hcap hcm (by simp [putCells, hsz]) (by rw [Nat.mul_one, ← hd]; exact zvZ vals d cur (by omega)) (by simp [hd]) hc
 obtain ⟨hE1, hR1⟩ := h1
 have hE2 := Ext.drew B (w.setRow g (putCells vals 0 d cur)) G ((w.setRow g (putCells vals 0 d cur)).drawn + m) (Nat.le_add_right _ _)
 have hR2 := hR1.drew ((w.setRow g (putCells vals 0 d cur)).drawn + m) (Nat.le_add_right _ _)
 obtain ⟨hE3, hR3⟩ := HRel.grown os.toList hR2
 have heq : sortWorld vals w g 0 m d os = grow { w.setRow g (putCells vals 0 d cur) with drawn := (w.setRow g (putCells vals 0 d cur)).drawn + m } os.toList.toArray := by
  have hh : w.heap.modify g (onCells (putCells vals 0 d)) = (w.setRow g (putCells vals 0 d cur)).heap := by
   unfold World.setRow
   refine Array.ext_getElem? fun i => ?_
   simp only [Array.getElem?_modify]
   by_cases hi : g = i
   ·subst hi
    simp [hw, onCells]
   ·simp [hi]
  have e : sortWorld vals w g 0 m d os = grow { w with heap := w.heap.modify g (onCells (putCells vals 0 d)), drawn := w.drawn + m } os := rfl
  rw [e, hh, Array.toArray_toList]
  rfl
 rw [heq]
 exact ⟨(hE1.trans hE2).trans hE3, hR3⟩
def Lx (w : World) (G : Gh) (blk b : Nat) : Nat := if b = blk then 0 else max (G.L b) (zbA w b)
def Rd (H : zaa) (id0 : Nat) (a : AV) (row : List (List AV)) : Prop :=
 a = .sl row .none ∨
 (∃ id off len cap size cs, a = .ms id off len cap ∧ H[id]? = some (.cells cs) ∧ off + len * size ≤ cs.length ∧ zaB ((cs.drop off).take (len * size)) = some row.flatten ∧ row.length = len ∧ (∀ c ∈ row, c.length = size) ∧ len ≤ cap) ∨
 (∃ id e size m cs, a = .ov id m ∧ id ≠ id0 ∧ H[id]? = some (.vec e size m cs) ∧ zaB cs = some row.flatten ∧ row.length = m ∧ ∀ c ∈ row, c.length = size)
theorem Rd.rel (h : HRel B w G H) {id e n g cap : Nat} {cs : List AV} (hH : H[id]? = some (.vec e 1 n cs)) (hμ : G.μ[id]? = some (.own (.slice (some ⟨g, 0, none⟩) n cap) 1 n)) {a : AV} {row : List (List AV)} (hr : Rd H id a row) {v : Value} (hv : ARel w G v a) :
  DRel w (Lx w G g) v (.sl row .none) := by
 obtain ⟨_, _, _, hL0⟩ := h.ok id _ _ hH hμ
 have hLg : G.L g = 0 := hL0 g rfl
 have hlev : ∀ b, G.L b ≤ Lx w G g b := fun b => by
  unfold Lx
  split
  ·rename_i hb; rw [hb, hLg]; exact Nat.le_refl _
  ·exact Nat.le_max_left _ _
 have hmono : ∀ {v : Value} {a : AV}, DRel w G.L v a → DRel w (Lx w G g) v a := fun h => h.mono hlev fun _ _ _ => rfl
 rcases hr with rfl | ⟨i2, off, len, cap2, size, cs2, rfl, hH2, hfit, hp, hlen, hsz, hcap⟩ | ⟨i2, e2, size, m, cs2, rfl, hne, hH2, hp, hlen, hsz⟩
 ·exact hmono hv
 ·obtain ⟨b, hb, rfl⟩ := hv
  obtain ⟨_, _, vs, _, hw, hcs⟩ := h.ok i2 _ _ hH2 hb
  have hbg : b ≠ g := fun hbg => by
   have := h.dist i2 id _ _ b hb hμ rfl (by rw [hbg]; rfl)
   subst this
   rw [hH] at hH2
   cases hH2
  subst hlen
  by_cases hes : row = []
  ·subst hes; exact .slE _ _
  ·have hl := hcs.length
   refine DRel.of_flat_at (zs := (vs.toList.drop off).take (row.length * size)) hsz hes hcap ?_ ((zcI ((hcs.drop off).take _) hp).mono fun _ _ => hmono) ?_
   ·unfold Lx
    rw [if_neg hbg]
    refine Nat.le_trans ?_ (Nat.le_max_right _ _)
    simp [zbA, hw]
    simp at hl
    omega
   ·intro j u hj
    rw [List.getElem?_take] at hj
    split at hj
    ·simp only [World.cell?, hw]
     simpa using hj
    ·cases hj
 ·obtain ⟨⟨a, cap0, rfl, _⟩, v', s0, n', hμ2, _, heq⟩ := hv
  obtain ⟨rfl, rfl, ⟨xs, hown, hcs⟩, _⟩ := h.ok i2 _ _ hH2 hμ2
  obtain rfl := heq rfl
  subst hlen
  by_cases hes : row = []
  ·subst hes; exact .slE _ _
  ·have hown2 := hown
   obtain ⟨hl, hrow⟩ := hown2
   rcases hrow with ⟨h1, h2⟩ | ⟨g2, cap2, cur, h1, h2, h3, h4, h5, h6, h7⟩
   ·cases row <;> simp_all
   ·simp at h1
    obtain ⟨rfl, rfl⟩ := h1
    obtain ⟨_, _, _, hcell⟩ := zcH hown
    have hbg : g2 ≠ g := fun hbg => hne (h.dist i2 id _ _ g2 hμ2 hμ rfl (by rw [hbg]; rfl))
    refine DRel.of_flat_at (zs := xs) hsz hes h4 ?_ ((zcI hcs hp).mono fun _ _ => hmono) ?_
    ·unfold Lx
     rw [if_neg hbg]
     refine Nat.le_trans ?_ (Nat.le_max_right _ _)
     simp only [zbA, h3, h6, Nat.zero_add]
     exact Nat.mul_le_mul_right _ h4
    ·intro j u hj
     rw [Nat.zero_add, hcell j (by rw [← hl]; exact (List.getElem?_eq_some_iff.1 hj).1)]
     exact hj
theorem zo4 {α : Type} (d : Array α) {k : Nat} (h : d.size = k) : d.extract 0 k = d := by subst h; exact Array.extract_size
theorem zvG (n : Nat) : ((Array.ofFn fun i : Fin n => i).toList.map Fin.val) = List.range n :=
 List.ext_getElem (by simp) fun i h1 h2 => by simp only [List.getElem_map, Array.getElem_toList, Array.getElem_ofFn, List.getElem_range]
theorem zwF {α : Type} [Inhabited α] (vals : α → Value) (w : World) (g m : Nat) (d : Array α) (os : Array Obj) : w.heap.size ≤ (sortWorld vals w g 0 m d os).heap.size := by
 unfold sortWorld
 simp [grow]
theorem zwE {α : Type} [Inhabited α] (vals : α → Value) (w : World) (g m : Nat) (d : Array α) (os : Array Obj) (a : Addr) (h1 : a.block ≠ g) (h2 : a.block < w.heap.size) : (sortWorld vals w g 0 m d os).cell? a = w.cell? a := by
 unfold sortWorld
 rw [Go.Sort.cell?_grow _ _ _ (by rw [Go.Sort.size_putRow]; exact h2), Go.Sort.cell?_putRow_other vals _ g 0 d a (Or.inl h1)]
 rfl
theorem zwG (h : HRel B w G H) {n g f : Nat} {vals : Fin n → Value} [Inhabited (Fin n)] {rows : Nat → List (List AV)} {cf : Nat → Nat → Int} (hd : ∀ i : Fin n, DRel w (Lx w G g) (vals i) (.sl (rows i) .none))
  (hcmp : ∀ i j, i < n → j < n → ACalls P f [.sl (rows i) .none, .sl (rows j) .none] [] fun r _ => r = .int .i64 (cf i j)) : CmpLays1 P f #[] vals (fun i j => cf i j) g 0 n w := by
 intro m os dk hdk x y
 have hL : ∀ b, (sortWorld vals w g 0 m dk os).heap.size ≤ b → Lx w G g b = 0 := fun b hb => by
  have := zwF vals w g m dk os
  unfold Lx
  split
  ·rfl
  ·rw [h.fresh b (by omega)]
   simp only [zbA]
   rw [Array.getElem?_eq_none (by omega)]
   rfl
 have hmono : ∀ {v : Value} {a : AV}, DRel w (Lx w G g) v a → DRel (sortWorld vals w g 0 m dk os) (Lx w G g) v a := fun hx => hx.mono (fun _ => Nat.le_refl _) fun b off ho => by
  refine zwE vals w g m dk os ⟨b, off, none⟩ ?_ ?_
  ·intro hb
   have hb : b = g := hb
   simp [Lx, hb] at ho
  ·show b < w.heap.size
   refine Nat.lt_of_not_le fun hb => ?_
   unfold Lx at ho
   split at ho
   ·omega
   ·rw [h.fresh b (by omega)] at ho
    simp only [zbA] at ho
    rw [Array.getElem?_eq_none (by omega)] at ho
    simp at ho
 refine (hcmp x y x.2 y.2 (sortWorld vals w g 0 m dk os).heap.size (sortWorld vals w g 0 m dk os) ⟨Lx w G g, []⟩ #[vals x, vals y]
  ⟨rfl, fun _ _ _ h => by simp at h, fun _ _ _ _ _ h => by simp at h, hL, fun _ _ _ h => by simp at h, Nat.le_refl _⟩ ⟨hmono (hd x), hmono (hd y), trivial⟩).mono ?_
 rintro e w' ⟨v, r, H', G', rfl, h2, _, h4, rfl⟩
 have h4 : v = .int .i64 (cf x y) := h4
 subst h4
 exact ⟨rfl, zvg h2.dr h2.below⟩
theorem ACalls.sortFunc {ρ : Go.Shelf.Ren} (L : Go.Proofs.SlLaysF.n6 P ρ) {id e n f : Nat} {cs : List AV} (hH : H[id]? = some (.vec e 1 n cs)) (hn : n < 4611686018427387904) (rows : Nat → List (List AV)) (cf : Nat → Nat → Int)
  (hrd : ∀ i (h : i < cs.length), Rd H id cs[i] (rows i)) (eg : ∀ args w, (callFunc f args).run P w = .ok (.enter f args) w)
  (hcmp : ∀ i j, i < n → j < n → ACalls P f [.sl (rows i) .none, .sl (rows j) .none] [] fun r _ => r = .int .i64 (cf i j))
  (hO1 : ∀ i, i < n → ¬ cf i i < 0) (hO2 : ∀ i j k, i < n → j < n → k < n → cf i j < 0 → cf j k < 0 → cf i k < 0) (hO3 : ∀ i j k, i < n → j < n → k < n → ¬ cf i j < 0 → ¬ cf j k < 0 → ¬ cf i k < 0)
  {K : Kt} (hK : ∀ p : List Nat, p.Perm (List.range n) → (∀ a b (ha : a < p.length) (hb : b < p.length), a < b → ¬ cf p[b] p[a] < 0) → K (.tup []) (H.set id (.vec e 1 n (p.map fun i => cs.getD i .unk)))) :
  ACalls P (ρ.f 6) [.ov id n, .fn f []] H K := by
 rintro B w G ⟨vs⟩ hR hv
 match vs, hv with
 | [v1, v2], ⟨h1, h2, _⟩ =>
 obtain ⟨⟨a0, cap0, rfl, _⟩, v', s0, n', hμ, hle, heq⟩ := h1
 obtain ⟨ws, rfl, hws⟩ := h2
 have hws : ws = #[] := by
  cases hwl : ws.toList with
  | nil => exact Array.toList_inj.1 hwl
  | cons x l => rw [hwl] at hws; exact hws.elim
 subst hws
 obtain ⟨rfl, rfl, ⟨xs, hown, hcs⟩, hL0⟩ := hR.ok id _ _ hH hμ
 obtain rfl := heq rfl
 have hxl := hown.1
 have hcl := hcs.length
 rw [Nat.mul_one] at hxl
 match n, hxl, hH, hn, hcmp, hO1, hO2, hO3, hK, hμ, hown with
 | 0, hxl, hH, hn, hcmp, hO1, hO2, hO3, hK, hμ, hown =>
  refine (Go.Proofs.AnyF.slices_SortFunc_none (P := P) (ρ := ρ) { L with } a0 cap0 _ w).mono ?_
  rintro e' w' ⟨rfl, rfl⟩
  have hc : cs = [] := by
   cases cs with
   | nil => rfl
   | cons x l => simp at hcl; omega
  subst hc
  have := hK [] (by simp) (by simp)
  refine ⟨_, .tup [], _, G, rfl, Ext.refl _ _ _, ?_, ⟨#[], rfl, trivial⟩, this⟩
  have hs : H.set id (.vec e 1 0 []) = H := by
   refine List.ext_getElem? fun i => ?_
   rw [List.getElem?_set]
   split
   ·rename_i hi; subst hi; rw [if_pos (List.getElem?_eq_some_iff.1 hH).1, hH]
   ·rfl
  simpa [hs] using hR
 | n + 1, hxl, hH, hn, hcmp, hO1, hO2, hO3, hK, hμ, hown =>
  obtain ⟨_, ho⟩ := hown
  rcases ho with ⟨h1, h0⟩ | ⟨g, cap, cur, h1, hB, hw, hcap, hcm, hsz, htk⟩
  ·omega
  cases h1
  have hwl : g < w.heap.size := (Array.getElem?_eq_some_iff.1 hw).1
  let vals : Fin (n + 1) → Value := fun i => xs[i.1]'(by rw [hxl]; exact i.2)
  have hval : ∀ i : Fin (n + 1), ARel w G (vals i) (cs[i.1]'(by rw [← hcl, hxl]; exact i.2)) := fun i => by
   obtain ⟨x, hx, hr⟩ := All2.get hcs (List.getElem?_eq_getElem (by rw [← hcl, hxl]; exact i.2 : i.1 < cs.length))
   rw [List.getElem?_eq_getElem (by rw [hxl]; exact i.2)] at hx
   cases hx
   exact hr
  have hdr : ∀ i : Fin (n + 1), DRel w (Lx w G g) (vals i) (.sl (rows i) .none) := fun i => (hrd i.1 (by rw [← hcl, hxl]; exact i.2)).rel hR hH hμ (hval i)
  have hone : Go.Proofs.OneCell vals := fun i => by
   have := hdr i
   generalize vals i = v at *
   generalize rows i.1 = r at *
   cases this <;> rfl
  have hlays := zwG (P := P) (f := f) (n := n + 1) hR hdr hcmp
  let d : Array (Fin (n + 1)) := Array.ofFn fun i => i
  have hds : d.size = n + 1 := by simp [d]
  have hholds : Holds vals w g 0 d := by
   intro j hj
   rw [hds] at hj
   have hc : cur[j]? = some (vals ⟨j, hj⟩) := by
    have : xs[j]? = some (vals ⟨j, hj⟩) := List.getElem?_eq_getElem _
    rw [← htk, Nat.mul_one, List.getElem?_take, if_pos hj] at this
    simpa using this
   refine ⟨?_, ?_⟩
   ·rw [Nat.zero_add]
    have hdj : d[j]! = ⟨j, hj⟩ := by
     rw [getElem!_pos d j (by rw [hds]; exact hj)]
     simp [d]
    rw [hdj]
    simp [World.cell?, hw, hc]
   ·simp [World.frozen?, hw]
  have hO : SWO (ltOf fun i j : Fin (n + 1) => cf i j) := ⟨fun x => by simp only [ltOf, decide_eq_false_iff_not]; exact hO1 x x.2,
   fun x y z h1 h2 => by simp only [ltOf, decide_eq_true_eq] at *; exact hO2 x y z x.2 y.2 z.2 h1 h2,
   fun x y z h1 h2 => by simp only [ltOf, decide_eq_false_iff_not] at *; exact hO3 x y z x.2 y.2 z.2 h1 h2⟩
  have hmain := Go.Proofs.Any.slices_SortFunc (P := P) (ρ := ρ) L vals hone (fun i j => cf i j) hO f #[] g 0 cap0 d w eg (by rw [hds]; exact hlays) hholds hwl (by rw [hds]; exact hn)
  rw [hds] at hmain
  refine hmain.mono ?_
  rintro e' w' ⟨rfl, d', m, os, hp, hsrt, rfl⟩
  obtain ⟨hp1, _, hp3⟩ := hp
  have hds' : d'.size = n + 1 := hp1.trans hds
  have hpm : (d'.toList.map Fin.val).Perm (List.range (n + 1)) := by
   have h1 : d'.toList.Perm d.toList := by
    have e1 : (d'.extract 0 (n + 1)) = d' := zo4 d' hds'
    have e2 : (d.extract 0 (n + 1)) = d := zo4 d hds
    rwa [e1, e2] at hp3
   exact (h1.map Fin.val).trans (List.Perm.of_eq (zvG _))
  have hS := hR.sorted hH hμ vals d' hds' (cs' := (d'.toList.map Fin.val).map fun i => cs.getD i .unk) (All2.of_get (by simp) fun i x y hx hy => by
   simp only [List.map_map, List.getElem?_map, Option.map_eq_some_iff] at hx hy
   obtain ⟨k, hk, rfl⟩ := hx
   obtain ⟨k', hk', rfl⟩ := hy
   rw [hk] at hk'
   cases hk'
   have hlt : k.1 < cs.length := by rw [← hcl, hxl]; exact k.2
   have := hval k
   simp only [Function.comp_def, List.getD_eq_getElem?_getD, List.getElem?_eq_getElem hlt, Option.getD_some]
   exact this) m os
  refine ⟨_, .tup [], _, G, rfl, hS.1, hS.2, ⟨#[], rfl, trivial⟩, hK _ hpm fun a b ha hb hab => ?_⟩
  simp only [List.length_map, Array.length_toList] at ha hb
  have := hsrt a b (Nat.zero_le _) hab (by omega)
  rw [getElem!_pos d' a ha, getElem!_pos d' b hb] at this
  simp only [ltOf, decide_eq_false_iff_not] at this
  simpa using this
end Go.Abs
namespace Go.Proofs.YtacebbdfgbfgiaaGreat
open Go Go.Shelf Go.Abs
def zxz : Go.Shelf.Ren := ⟨fun | 6 => 32 | 15 => 57 | 14 => 56 | 28 => 80 | 29 => 81 | 20 => 72 | 21 => 73 | 22 => 74 | 23 => 75 | 24 => 76 | 25 => 77 | 26 => 78 | 27 => 79 | 46 => 98 | 47 => 99 | 48 => 100 | 49 => 101 | 50 => 102 | 57 => 115 | n => n, fun | 22 => 31 | 24 => 26 | 25 => 41 | 3 => 3 | 39 => 82 | 0 => 0 | 53 => 107 | 55 => 109 | 4 => 4 | 46 => 101 | 45 => 100 | 50 => 92 | 5 => 5 | 9 => 9 | 66 => 119 | 70 => 54 | 76 => 144 | 77 => 145 | n => n, fun | n => n⟩
theorem zxy : Go.Proofs.SlLaysF.n6 tP zxz := {
 mixed := by kernel_rfl
 f6 := ⟨Tryz.f32.name, by decide, Tryz.func32.trans (congrArg some (by kernel_rfl))⟩
 f14 := ⟨Tryz.f56.name, by decide, Tryz.func56.trans (congrArg some (by kernel_rfl))⟩
 f15 := Tryz.func57.trans (congrArg some (by kernel_rfl))
 f20 := ⟨Tryz.f72.name, by decide, Tryz.func72.trans (congrArg some (by kernel_rfl))⟩
 f21 := ⟨Tryz.f73.name, by decide, Tryz.func73.trans (congrArg some (by kernel_rfl))⟩
 f22 := ⟨Tryz.f74.name, by decide, Tryz.func74.trans (congrArg some (by kernel_rfl))⟩
 f23 := ⟨Tryz.f75.name, by decide, Tryz.func75.trans (congrArg some (by kernel_rfl))⟩
 f24 := ⟨Tryz.f76.name, by decide, Tryz.func76.trans (congrArg some (by kernel_rfl))⟩
 f25 := ⟨Tryz.f77.name, by decide, Tryz.func77.trans (congrArg some (by kernel_rfl))⟩
 f26 := ⟨Tryz.f78.name, by decide, Tryz.func78.trans (congrArg some (by kernel_rfl))⟩
 f27 := ⟨Tryz.f79.name, by decide, Tryz.func79.trans (congrArg some (by kernel_rfl))⟩
 f28 := Tryz.func80.trans (congrArg some (by kernel_rfl))
 f29 := Tryz.func81.trans (congrArg some (by kernel_rfl))
 f46 := ⟨Tryz.f98.name, by decide, Tryz.func98.trans (congrArg some (by kernel_rfl))⟩
 f47 := Tryz.func99.trans (congrArg some (by kernel_rfl))
 f48 := Tryz.func100.trans (congrArg some (by kernel_rfl))
 f49 := ⟨Tryz.f101.name, by decide, Tryz.func101.trans (congrArg some (by kernel_rfl))⟩
 f50 := ⟨Tryz.f102.name, by decide, Tryz.func102.trans (congrArg some (by kernel_rfl))⟩
 f57 := ⟨Tryz.f115.name, by decide, Tryz.func115.trans (congrArg some (by kernel_rfl))⟩
 t0 := Tryz.underlying0
 a0 := Tryz.isAgg0
 z0 := Tryz.sizeOf0
 v0 := Tryz.zeroValue0
 t3 := Tryz.underlying3
 a3 := Tryz.isAgg3
 z3 := Tryz.sizeOf3
 v3 := Tryz.zeroValue3
 t4 := Tryz.underlying4
 a4 := Tryz.isAgg4
 z4 := Tryz.sizeOf4
 v4 := Tryz.zeroValue4
 t5 := Tryz.underlying5
 a5 := Tryz.isAgg5
 z5 := Tryz.sizeOf5
 v5 := Tryz.zeroValue5
 t9 := Tryz.underlying9
 a9 := Tryz.isAgg9
 z9 := Tryz.sizeOf9
 v9 := Tryz.zeroValue9
 t22 := Tryz.underlying31
 a22 := Tryz.isAgg31
 z22 := Tryz.sizeOf31
 v22 := Tryz.zeroValue31
 a24 := Tryz.isAgg26
 z24 := Tryz.sizeOf26
 t25 := Tryz.underlying41
 a25 := Tryz.isAgg41
 z25 := Tryz.sizeOf41
 v25 := Tryz.zeroValue41
 t39 := Tryz.underlying82
 a39 := Tryz.isAgg82
 z39 := Tryz.sizeOf82
 v39 := Tryz.zeroValue82
 t45 := Tryz.underlying100
 a45 := Tryz.isAgg100
 z45 := Tryz.sizeOf100
 v45 := Tryz.zeroValue100
 t46 := Tryz.underlying101
 a46 := Tryz.isAgg101
 z46 := Tryz.sizeOf101
 v46 := Tryz.zeroValue101
 t50 := Tryz.underlying92
 a50 := Tryz.isAgg92
 z50 := Tryz.sizeOf92
 v50 := Tryz.zeroValue92
 t53 := Tryz.underlying107
 a53 := Tryz.isAgg107
 z53 := Tryz.sizeOf107
 v53 := Tryz.zeroValue107
 t55 := Tryz.underlying109
 a55 := Tryz.isAgg109
 z55 := Tryz.sizeOf109
 v55 := Tryz.zeroValue109
 t66 := Tryz.underlying119
 a66 := Tryz.isAgg119
 z66 := Tryz.sizeOf119
 v66 := Tryz.zeroValue119
 t70 := Tryz.underlying54
 a70 := Tryz.isAgg54
 z70 := Tryz.sizeOf54
 v70 := Tryz.zeroValue54
 t76 := Tryz.underlying144
 a76 := Tryz.isAgg144
 z76 := Tryz.sizeOf144
 v76 := Tryz.zeroValue144
 t77 := Tryz.underlying145
 a77 := Tryz.isAgg145
 z77 := Tryz.sizeOf145
 v77 := Tryz.zeroValue145 }
end Go.Proofs.YtacebbdfgbfgiaaGreat
namespace Go.Abs
open Go Go.RowKit
variable {P : Program} {B : Nat} {w : World} {G : Gh} {H : zaa}
def Lmx (w : World) (G : Gh) (b : Nat) : Nat := Nat.max (G.L b) (zbA w b)
theorem zvi (h : HRel B w G H) : HRel w.heap.size w ⟨Lmx w G, []⟩ [] :=
 ⟨rfl, fun _ _ _ h => by simp at h, fun _ _ _ _ _ h => by simp at h, fun b hb => by
  show Lmx w G b = 0
  unfold Lmx
  rw [h.fresh b hb]
  simp only [zbA]
  rw [Array.getElem?_eq_none hb]
  rfl, fun _ _ _ h => by simp at h, Nat.le_refl _⟩
inductive RdA (H : zaa) : AV → AV → Prop
 | sl (es : List (List AV)) : RdA H (.sl es .none) (.sl es .none)
 | int (k : IntKind) (n : Int) : RdA H (.int k n) (.int k n)
 | bool (b : Bool) : RdA H (.bool b) (.bool b)
 | str (s : List UInt8) : RdA H (.str s) (.str s)
 | ms (id off len cap size : Nat) (cs : List AV) (row : List (List AV)) (hH : H[id]? = some (.cells cs)) (hfit : off + len * size ≤ cs.length) (hp : zaB ((cs.drop off).take (len * size)) = some row.flatten) (hlen : row.length = len)
   (hsz : ∀ c ∈ row, c.length = size) (hcap : len ≤ cap) : RdA H (.ms id off len cap) (.sl row .none)
 | ov (id e size m : Nat) (cs : List AV) (row : List (List AV)) (hH : H[id]? = some (.vec e size m cs)) (hp : zaB cs = some row.flatten) (hlen : row.length = m) (hsz : ∀ c ∈ row, c.length = size) : RdA H (.ov id m) (.sl row .none)
theorem RdA.rel (h : HRel B w G H) {a b : AV} (hr : RdA H a b) {v : Value} (hv : ARel w G v a) : DRel w (Lmx w G) v b := by
 have hmono : ∀ {v : Value} {a : AV}, DRel w G.L v a → DRel w (Lmx w G) v a := fun h => h.mono (fun b => Nat.le_max_left _ _) fun _ _ _ => rfl
 cases hr with
 | sl es => exact hmono hv
 | int k n => have hv : v = .int k n := hv; subst hv; exact .int k n
 | bool b => have hv : v = .bool b := hv; subst hv; exact .bool b
 | str s => have hv : v = .string ⟨s.toArray⟩ := hv; subst hv; exact .str s
 | ms i2 off len cap2 size cs2 row hH2 hfit hp hlen hsz hcap =>
  obtain ⟨b, hb, rfl⟩ := hv
  obtain ⟨_, _, vs, _, hw, hcs⟩ := h.ok i2 _ _ hH2 hb
  subst hlen
  by_cases hes : row = []
  ·subst hes; exact .slE _ _
  ·have hl := hcs.length
   refine DRel.of_flat_at (zs := (vs.toList.drop off).take (row.length * size)) hsz hes hcap ?_ ((zcI ((hcs.drop off).take _) hp).mono fun _ _ => hmono) ?_
   ·refine Nat.le_trans ?_ (Nat.le_max_right _ _)
    simp [zbA, hw]
    simp at hl
    omega
   ·intro j u hj
    rw [List.getElem?_take] at hj
    split at hj
    ·simp only [World.cell?, hw]
     simpa using hj
    ·cases hj
 | ov i2 e2 size m cs2 row hH2 hp hlen hsz =>
  obtain ⟨⟨a, cap0, rfl, _⟩, v', s0, n', hμ2, _, heq⟩ := hv
  obtain ⟨rfl, rfl, ⟨xs, hown, hcs⟩, _⟩ := h.ok i2 _ _ hH2 hμ2
  obtain rfl := heq rfl
  subst hlen
  by_cases hes : row = []
  ·subst hes; exact .slE _ _
  ·have hown2 := hown
   obtain ⟨hl, hrow⟩ := hown2
   rcases hrow with ⟨h1, h2⟩ | ⟨g2, cap2, cur, h1, h2, h3, h4, h5, h6, h7⟩
   ·cases row <;> simp_all
   ·simp at h1
    obtain ⟨rfl, rfl⟩ := h1
    obtain ⟨_, _, _, hcell⟩ := zcH hown
    refine DRel.of_flat_at (zs := xs) hsz hes h4 ?_ ((zcI hcs hp).mono fun _ _ => hmono) ?_
    ·refine Nat.le_trans ?_ (Nat.le_max_right _ _)
     simp only [zbA, h3, h6, Nat.zero_add]
     exact Nat.mul_le_mul_right _ h4
    ·intro j u hj
     rw [Nat.zero_add, hcell j (by rw [← hl]; exact (List.getElem?_eq_some_iff.1 hj).1)]
     exact hj
theorem RdA.trel (h : HRel B w G H) {a b : AV} (hr : RdA H a b) {v : Value} (hv : ARel w G v a) : ARel w ⟨Lmx w G, []⟩ v b := by
 have hd := hr.rel h hv
 cases hr with
 | sl es => exact hd
 | int k n => exact hv
 | bool b => exact hv
 | str s => exact hv
 | ms i2 off len cap2 size cs2 row hH2 hfit hp hlen hsz hcap => exact hd
 | ov i2 e2 size m cs2 row hH2 hp hlen hsz => exact hd
inductive RdT (H : zaa) : AV → AV → Prop
 | one {a b : AV} (h : RdA H a b) : RdT H a b
 | agg {asx bs : List AV} (h : All2 (RdA H) asx bs) : RdT H (.agg asx) (.agg bs)
theorem RdT.rel (h : HRel B w G H) {a b : AV} (hr : RdT H a b) {v : Value} (hv : TRel w G v a) : TRel w ⟨Lmx w G, []⟩ v b := by
 cases hr with
 | one hr =>
  have hv' : ARel w G v a := by cases hr <;> exact hv
  exact TRel.of_v (VRel.of_a (hr.trel h hv'))
 | agg hr =>
  obtain ⟨us, hu, hv⟩ := hv
  refine ⟨us, hu, ?_⟩
  exact All2.of_get (hv.length.trans hr.length) fun i x y hx hy => by
   obtain ⟨a, ha, hxa⟩ := All2.get' hv hx
   obtain ⟨y', hy', hay⟩ := All2.get' hr ha
   rw [hy] at hy'
   cases hy'
   exact hay.trel h hxa
def zpc : AV → Prop
 | .bool _ | .int _ _ | .tup [] => True
 | _ => False
theorem zva {r : AV} (h : zpc r) {w w' : World} {G G' : Gh} {v : Value} (hv : TRel w G v r) : TRel w' G' v r := by
 match r, h with
 | .bool _, _ => exact hv
 | .int _ _, _ => exact hv
 | .tup [], _ =>
  obtain ⟨us, hu, hr⟩ := hv
  refine ⟨us, hu, ?_⟩
  generalize us.toList = l at *
  cases l with
  | nil => trivial
  | cons _ _ => exact hr.elim
theorem ACalls.pureR {f : FuncId} {args args' : List AV} {r0 : AV} (h : ACalls P f args' [] fun r _ => r = r0) (hr0 : zpc r0) (ha : All2 (RdT H) args args') {K : Kt} (hK : K r0 H) : ACalls P f args H K := by
 intro B w G vs hH hv
 refine (h w.heap.size w ⟨Lmx w G, []⟩ vs (zvi hH) (All2.of_get (hv.length.trans ha.length) fun i x y hx hy => by
   obtain ⟨a, ha', hxa⟩ := All2.get' hv hx
   obtain ⟨y', hy', hay⟩ := All2.get' ha ha'
   rw [hy] at hy'
   cases hy'
   exact hay.rel hH hxa)).mono fun e w' he => ?_
 obtain ⟨v, r, H', G', rfl, h1, h2, h3, rfl⟩ := he
 have hx : Ext B w G w' G := by
  refine ⟨h1.dr, h1.below.mono hH.base, fun _ => Nat.le_refl _, fun b off ho => ?_, fun _ gi h => ⟨gi, h, gi.le_refl⟩⟩
  refine h1.below.cell ?_
  by_cases hb : b < w.heap.size
  ·exact hb
  ·have := hH.fresh b (by omega)
   omega
 have hb : ∀ b, b < w.heap.size → w'.heap[b]? = w.heap[b]? := fun b hb => h1.below.block b hb
 exact ⟨v, _, H, G, rfl, hx, hH.keep hx rfl (fun id gi b h3 h4 => ⟨hb b (hH.lt id gi b h3 h4), rfl⟩) (fun b hbb => hH.fresh b (by have := h1.below.size; omega)), zva hr0 h3, hK⟩
end Go.Abs
namespace Go.Proofs.YtacebbdfgbfgiaaGreat
open Go Go.Abs
set_option maxRecDepth 8000
theorem zg7 (r : List IT) : zaB (zat r) = some (zat r) := by
 induction r with
 | nil => rfl
 | cons x r ih =>
  obtain ⟨n, ks⟩ := x
  rw [zdb]
  simp [IT.cs, zaB, AV.pd, ih]
theorem zdr {c : List AV} {r : List IT} (h : c ∈ IT.css r) : c.length = 2 := by
 rw [IT.css_map] at h
 obtain ⟨x, _, rfl⟩ := List.mem_map.1 h
 simp
theorem zuk (a b : List IT) (he : a.length = b.length) (ha : a.length ≤ 1000) (hn : ∀ x ∈ a, x.nodes ≤ 1000000) (H : zaa) (K : Kt) (hK : K (.int .i64 (IT.cmpL a b)) H) :
  ACalls tP zkD [.sl (IT.css a) .none, .sl (IT.css b) .none] H K := by
 refine ACalls.out (zAV fun hs => ?_)
 simp [zsc]
 refine zoP a b he (by omega) (fun i h h' H K hK => zvj _ _ _ (Nat.le_refl _) (hn _ (List.getElem_mem h)) H K hK) _ _ ?_
 exact zcQ hs rfl rfl hK
theorem zle {H : zaa} {id : Nat} {b : AB} (h : H[id]? = some b) : H.set id b = H := by
 refine List.ext_getElem? fun i => ?_
 rw [List.getElem?_set]
 split
 ·rename_i hi; subst hi; rw [if_pos (List.getElem?_eq_some_iff.1 h).1, h]
 ·rfl
def zbS (rs : List (List IT)) : AV := .sl (rs.map fun r => [.sl (IT.css r) .none]) .none
theorem zqF {H H1 : zaa} {id w : Nat} {rows : List (List IT)} (hpre : H <+: H1) (hs : HSc H) (hR : RowsH H1 H.length id rows) (hw : ∀ r ∈ rows, r.length = w) (hw8 : w ≤ 1000) (hnd : ∀ r ∈ rows, ∀ x ∈ r, x.nodes ≤ 1000) (hlen : rows.length ≤ 1000000000)
  (K : Kt) (hK : ∀ rs, rs.Perm rows → rs.Pairwise rle → K (.tup [zbS rs, .int .i64 0]) H) : zf0 (.ov id rows.length) H1 (zc0 H.length K) := by
 obtain ⟨hlo, cs, hcs, hcells⟩ := hR
 have hcl := hcells.length
 unfold zf0
 refine ACalls.sortFunc zxy hcs (by omega) (fun i => IT.css (rows.getD i [])) (fun i j => IT.cmpL (rows.getD i []) (rows.getD j [])) (fun i hi => ?_) (fun args w => rfl) (fun i j hi hj => ?_) (fun i hi => ?_) (fun i j k hi hj hk h1 h2 => ?_) (fun i j k hi hj hk h1 h2 => ?_) (fun p hp hsort => ?_)
 ·obtain ⟨r, hr, hc⟩ := All2.get' hcells (List.getElem?_eq_getElem hi)
  have hrd : rows.getD i [] = r := by simp [List.getD_eq_getElem?_getD, hr]
  simp only [hrd]
  rcases hc with ⟨rfl, h⟩ | ⟨hne, b, h, h1, h2, h3⟩
  ·exact .inl h
  ·exact .inr (.inr ⟨b, zaO, 2, r.length, zat r, h, h2, h3, zg7 r, by simp, fun c hc => zdr hc⟩)
 ·have ei : rows.getD i [] = rows[i] := by simp [List.getD_eq_getElem?_getD, hi]
  have ej : rows.getD j [] = rows[j] := by simp [List.getD_eq_getElem?_getD, hj]
  rw [ei, ej]
  have m1 := List.getElem_mem hi
  have m2 := List.getElem_mem hj
  exact zuk _ _ (by rw [hw _ m1, hw _ m2]) (by rw [hw _ m1]; exact hw8) (fun x hx => by have := hnd _ m1 x hx; omega) _ _ rfl
 ·have := IT.cmpL_anti (rows.getD i []) (rows.getD i [])
  omega
 ·have := IT.cmpL_tri (rows.getD i []) (rows.getD j []) (rows.getD k [])
  unfold Tri at this
  omega
 ·have := IT.cmpL_tri (rows.getD k []) (rows.getD j []) (rows.getD i [])
  have a1 := IT.cmpL_anti (rows.getD i []) (rows.getD j [])
  have a2 := IT.cmpL_anti (rows.getD j []) (rows.getD k [])
  have a3 := IT.cmpL_anti (rows.getD i []) (rows.getD k [])
  unfold Tri at this
  omega
 ·have hplen : p.length = rows.length := by simpa using hp.length_eq
  have hpm : ∀ i ∈ p, i < rows.length := fun i hi => by simpa using hp.subset hi
  have hrs : (p.map fun i => rows.getD i []).Perm rows := by
   have h1 := hp.map fun i => rows.getD i []
   have h2 : (List.range rows.length).map (fun i => rows.getD i []) = rows := List.ext_getElem (by simp) fun i h1 h2 => by simp [List.getD_eq_getElem?_getD, h2]
   rwa [h2] at h1
  have hpw : (p.map fun i => rows.getD i []).Pairwise rle := by
   rw [List.pairwise_iff_getElem]
   intro a b ha hb hab
   simp only [List.getElem_map]
   exact hsort a b (by simpa using ha) (by simpa using hb) hab
  have hK := hK _ hrs hpw
  generalize hrsd : (p.map fun i => rows.getD i []) = rs at *
  have hrl : rs.length = rows.length := hrs.length_eq
  generalize hcsd : (p.map fun i => cs.getD i .unk) = cs' at *
  have hcells' : All2 (CellR H1 H.length id) cs' rs := by
   subst hrsd hcsd
   refine All2.of_get (by simp) fun i x y hx hy => ?_
   simp only [List.getElem?_map, Option.map_eq_some_iff] at hx hy
   obtain ⟨k, hk, rfl⟩ := hx
   obtain ⟨k', hk', rfl⟩ := hy
   rw [hk] at hk'
   cases hk'
   have hlt := hpm k (List.mem_of_getElem? hk)
   obtain ⟨r, hr, hc⟩ := All2.get' hcells (List.getElem?_eq_getElem (by omega : k < cs.length))
   simp only [List.getD_eq_getElem?_getD, hr, Option.getD_some, List.getElem?_eq_getElem (by omega : k < cs.length)]
   exact hc
  have hidl := (List.getElem?_eq_some_iff.1 hcs).1
  have hset : (H1.set id (.vec zay 1 rows.length cs'))[id]? = some (.vec zay 1 rows.length cs') := List.getElem?_set_self hidl
  have hcells2 : All2 (CellR (H1.set id (.vec zay 1 rows.length cs')) H.length id) cs' rs := hcells'.mono fun c r hc => hc.keep (Nat.le_refl _) fun b _ hb _ => ⟨hb, List.getElem?_set_ne (fun h => hb h.symm)⟩
  have hpre2 := zd3 (b := .vec zay 1 rows.length cs') hpre hlo
  have hwr : ∀ r ∈ rs, r.length = w := fun r hr => hw r (hrs.subset hr)
  have hndr : ∀ r ∈ rs, ∀ x ∈ r, x.nodes ≤ 1000 := fun r hr => hnd r (hrs.subset hr)
  generalize H1.set id (.vec zay 1 rows.length cs') = H2 at *
  clear hcells hcells' hcs hsort hp
  have hcl2 := hcells2.length
  simp
  refine zFl (Inv := fun q t133 H' => ∃ i : Nat, i ≤ rows.length ∧ q = rows.length - i ∧ t133 = .int .i64 i ∧ H' = H2) rows.length ?_ ?_
  ·intro _; exact ⟨0, by omega, by omega, rfl, rfl⟩
  ·rintro q t133 H' ⟨i, hi, rfl, rfl, rfl⟩ hsc hlen' hsF Kb hKb
   by_cases hlt : i < rows.length
   ·have hir : i < cs'.length := by omega
    obtain ⟨r, hr, hc⟩ := All2.get' hcells2 (List.getElem?_eq_getElem hir)
    have hrm := List.mem_of_getElem? hr
    have hrw := hwr r hrm
    simp [znV, hlt, hset]
    rw [zjQ 1 (List.getElem?_eq_getElem hir)]
    have hHn : H.length ≤ H'.length := hpre2.length_le
    have hidn := (List.getElem?_eq_some_iff.1 hset).1
    have hnext : ∀ t138 : AV, Kb (zfZ (.ov id rows.length) (.ov id rows.length) (.int .i64 rows.length) (.int .i64 ((i : Int) + 1))) H' := fun _ => by
     refine hKb _ _ ⟨rows.length - (i + 1), by omega, Back.at (J := []) (H2 := H') (by simp) hlen' hsc ?_ ⟨_, rfl, i + 1, by omega, rfl, by simp, rfl⟩⟩
     simp [zfZ, AV.sc, AV.scV, AV.scA, AV.scB, hidn]
    have hlen : ∀ k : AV → Prop, k (.int .i64 r.length) → zah 1 cs'[i] k := fun k hk => by
     rcases hc with ⟨rfl, h⟩ | ⟨hne, b, h, h1, h2, h3⟩
     ·rw [h]; simpa using hk
     ·rw [h]; simpa using hk
    refine hlen _ ?_
    refine zFm (Inv := fun q t139 H3 => ∃ k : Nat, k ≤ r.length ∧ q = r.length - k ∧ t139 = .int .i64 k ∧ H3 = H') r.length ?_ ?_
    ·intro _; exact ⟨0, by omega, by omega, rfl, rfl⟩
    ·rintro q t139 H3 ⟨k, hk, rfl, rfl, rfl⟩ hsc3 hlen3 hsF3 Kb3 hKb3
     by_cases hkl : k < r.length
     ·rcases hc with ⟨rfl, h⟩ | ⟨hne, b, h, h1, h2, h3⟩
      ·simp at hkl
      ·obtain ⟨x, y, hvx, hx, hy⟩ := zcE r[k]
       have hself := zdy r k r[k] hkl
       rw [List.set_getElem_self] at hself
       have htk : List.take 2 (List.drop (k * 2) (zat r)) = (r[k]).cs := by
        rw [← hself]
        have h4 : (List.take (k * 2) (zat r)).length = k * 2 := by rw [List.length_take, zbR]; omega
        rw [List.append_assoc, List.drop_append_of_le_length (by omega), List.drop_of_length_le (by omega), List.nil_append, hvx]
        simp
       have hbl := (List.getElem?_eq_some_iff.1 h3).1
       simp [znW, hkl, h, h3]
       rw [htk]
       refine ⟨by rw [zbR]; omega, ?_⟩
       refine zBb _ (r[k]) (Nat.le_refl _) (by have := hndr r hrm _ (List.getElem_mem hkl); omega) _ _ ?_
       simp [h3, hkl]
       refine ⟨by rw [zbR]; omega, ?_⟩
       rw [← List.append_assoc, hself, zle h3, zal (by omega) (by omega)]
       refine hKb3 _ _ ⟨r.length - (k + 1), by omega, Back.at (J := []) (H2 := H3) (by simp) (by omega) hsc3 ?_ ⟨.int .i64 ((k : Int) + 1), by simp only [h], k + 1, by omega, rfl, by simp, rfl⟩⟩
       simp [zjG, AV.sc, AV.scV, AV.scA, AV.scB, hidn, hbl]
     ·obtain rfl : k = r.length := by omega
      simp [znW]
      rw [zal (by omega) (by omega)]
      exact hnext (.int .i64 0)
   ·obtain rfl : i = rows.length := by omega
    simp [znV]
    refine ⟨⟨rfl, rfl⟩, ?_⟩
    obtain ⟨J, hJ⟩ := hpre2
    refine ⟨.tup [zbS rs, .int .i64 0], H, J, hJ.symm, Nat.le_refl _, hs, .tup ⟨?_, .one (.wk (.atom (.refl _)) rfl rfl), trivial⟩, hK⟩
    have hrw : zbS rs = .sl ((rs.map IT.css).map fun r => [.sl r .none]) .none := by simp [zbS]
    rw [hrw]
    refine .rows id zay rows.length cs' (rs.map IT.css) hlo hset (by simp [hrl]) (All2.of_get (by simpa using hcl2) fun i x y hx hy => ?_)
    obtain ⟨r, hr, hc⟩ := All2.get' hcells2 hx
    simp only [List.map_map, List.getElem?_map, hr, Option.map_some, Function.comp_apply, Option.some.injEq] at hy
    subst hy
    rcases hc with ⟨rfl, rfl⟩ | ⟨hne, b, rfl, h1, h2, h3⟩
    ·exact .wk (.atom (.refl _)) rfl rfl
    ·exact .vfz b zaO 2 r.length (zat r) (IT.css r) h1 h3 (zg7 r) (by simp) (fun c hc => zdr hc)
end Go.Proofs.YtacebbdfgbfgiaaGreat
namespace Go.Proofs.YtacebbdfgbfgiaaGreat
open Go Go.Abs
set_option maxRecDepth 8000
def zcx (r : List (List IT)) : List AV := r.map fun s => .sl (IT.css s) .none
def CellS (H : zaa) (lo id : Nat) (c : AV) (r : List (List IT)) : Prop := ∃ b, c = .ov b r.length ∧ lo ≤ b ∧ b ≠ id ∧ H[b]? = some (.vec zay 1 r.length (zcx r))
def zof (H : zaa) (lo id : Nat) (rows : List (List (List IT))) : Prop := lo ≤ id ∧ ∃ cs, H[id]? = some (.vec zca 1 rows.length cs) ∧ All2 (CellS H lo id) cs rows
theorem CellS.keep {H H' : zaa} {lo id : Nat} {c : AV} {r : List (List IT)} (h : CellS H lo id c r) (hid : ∀ b, lo ≤ b → b ≠ id → b < H.length → H'[b]? = H[b]?) : CellS H' lo id c r := by
 obtain ⟨b, rfl, h1, h2, h3⟩ := h
 exact ⟨b, rfl, h1, h2, by rw [hid b h1 h2 (List.getElem?_eq_some_iff.1 h3).1]; exact h3⟩
theorem zoM {H : zaa} {lo id : Nat} : ∀ {cs : List AV} {rows : List (List (List IT))}, All2 (CellS H lo id) cs rows → cs.all (AV.scA H.length) = true ∧ cs.all AV.known = true
 | [], [], _ => ⟨rfl, rfl⟩
 | c :: cs, r :: rows, h => by
  obtain ⟨h1, h2⟩ := zoM h.2
  obtain ⟨b, rfl, g1, g2, g3⟩ := h.1
  have := (List.getElem?_eq_some_iff.1 g3).1
  simp only [List.all_cons, h1, h2, Bool.and_true]
  exact ⟨by simpa [AV.scA, AV.scB] using this, rfl⟩
theorem zwt (n : Nat) (r : List (List IT)) : (zcx r).all (AV.scA n) = true := by
 simp [zcx, AV.scA, AV.scB]
theorem zws (r : List (List IT)) : zaB (zcx r) = some (r.map fun s => [AV.sl (IT.css s) .none]).flatten := by
 induction r with
 | nil => rfl
 | cons s r ih =>
  simp only [zcx, List.map_cons, List.flatten_cons] at ih ⊢
  simp [zaB, AV.pd, ih]
def zb4 (rows : List (List (List IT))) : AV := .sl (rows.map fun r => [.sl (r.map fun s => [.sl (IT.css s) .none]) .none]) .none
def upS (l : List IT) (n k : Nat) : List (List (List IT)) := (List.range k).flatMap fun j => (za1 (l.drop j) n).map fun r => l.take j :: r
theorem zqY (l : List IT) (n k : Nat) : upS l n (k + 1) = upS l n k ++ (za1 (l.drop k) n).map fun r => l.take k :: r := by
 simp [upS, List.range_succ]
theorem zxo (l : List IT) (n : Nat) : upS l n (l.length + 1) = za1 l (n + 1) := rfl
theorem zxp (l : List IT) (n k : Nat) : (upS l n k).length ≤ k * (l.length + 1) ^ n := by
 refine Nat.le_trans (zgn (N := (l.length + 1) ^ n) _ _ fun j _ => ?_) (by simp)
 rw [List.length_map]
 exact Nat.le_trans (zhd _ _) (Nat.pow_le_pow_left (by simp) _)
theorem zuq {e s b id n : Nat} {cs : List AV} {ys : List (List AV)} {t : Tok} {H : zaa} {K : Kt} (h : H[id]? = some (.vec e s n cs)) (hy : ∀ c ∈ ys, c.length = s) (hb1 : (n + ys.length) * b ≤ 140737488355328) (hb2 : n + ys.length ≤ 9223372036854775807)
  (hk : K (.ov id (n + ys.length)) (H.set id (.vec e s (n + ys.length) (cs ++ ys.flatten)))) : zar e s b (.ov id n) (.sl ys t) H K := by
 simp only [zar, zaW, zaI, h, and_self, true_and]
 exact ⟨hy, ⟨hb1, hb2⟩, hk⟩
theorem zpb : ∀ r : List (List IT), (r.map fun s => [AV.sl (IT.css s) .none]).flatten = r.map fun s => .sl (IT.css s) .none
 | [] => rfl
 | x :: r => by simp [zpb r]
theorem zwr (x : List IT) (r : List (List IT)) : zcx (x :: r) = [.sl (IT.css x) .none] ++ (r.map fun s => [AV.sl (IT.css s) .none]).flatten := by
 rw [zpb]; rfl
theorem zng : ∀ (n : Nat) (l : List IT) (H : zaa) (K : Kt), l.length ≤ 1000 → n ≤ 1000 → (l.length + 1) ^ n ≤ 100000000 → K (zb4 (za1 l n)) H → ACalls tP zgO [.sl (IT.css l) .none, .int .i64 n] H K
 | 0, l, H, K, hl, hn, hb, hK => by
  refine ACalls.out (zsT fun hs => ?_)
  cases l with
  | nil =>
   simp [ziW, IT.css, zaA, zbt, zaB, AV.pd]
   exact Out.at (J := []) (by simp) (Nat.le_refl _) hs (.atom (.sl _ _)) rfl rfl (by simpa [za1, zb4] using hK)
  | cons x l =>
   simp [ziW]
   exact Out.at (J := []) (by simp) (Nat.le_refl _) hs (.atom .snil) rfl rfl (by simpa [za1, zb4] using hK)
 | n + 1, l, H, K, hl, hn, hb, hK => by
  refine ACalls.out2 (zsT fun hs => ?_)
  have hb1 : (l.length + 1) ^ n * (l.length + 1) ≤ 100000000 := by rw [← Nat.pow_succ]; exact hb
  have hb2 : (l.length + 1) ^ n ≤ 100000000 := Nat.le_trans (Nat.le_mul_of_pos_right _ (by omega)) hb1
  have hn0 : (((n : Int) + 1) == 0) = false := by simp; omega
  simp [ziW, hn0]
  unfold ziZ
  refine ALoop.vec 5 zca 1 rfl ?_
  show ziZ (.sl (IT.css l) .none) (.int .i64 ((n : Int) + 1)) (.ov H.length 0) (.int .i64 0) (H ++ [.vec zca 1 0 []]) (zc0 H.length K)
  refine zDc (Inv := fun q t5 t6 H' => ∃ k : Nat, k ≤ l.length + 1 ∧ q = l.length + 1 - k ∧ t6 = .int .i64 k ∧ t5 = .ov H.length (upS l n k).length ∧ H <+: H' ∧ zof H' H.length H.length (upS l n k)) (l.length + 1) ?_ ?_
  ·intro _; exact ⟨0, by omega, by omega, rfl, by simp [upS], ⟨_, rfl⟩, Nat.le_refl _, [], by simp [upS], by simp [upS]; trivial⟩
  ·rintro q t5 t6 H' ⟨k, hk, rfl, rfl, rfl, hpre, hlo, cs, hcs, hcells⟩ hsc hlen hsF Kb hKb
   by_cases hlt : k < l.length + 1
   ·have hlt' : (k : Int) ≤ l.length := by omega
    have hda : List.drop k (List.take l.length (IT.css l)) = IT.css (l.drop k) := by rw [List.take_of_length_le (by simp), IT.css_map, IT.css_map, List.map_drop]
    simp [znd, hlt']
    refine ⟨⟨by omega, fun c hc => zdr hc⟩, ?_⟩
    rw [hda, zal (by omega) (by omega)]
    have hul := zxp l n (k + 1)
    have hul2 : (k + 1) * (l.length + 1) ^ n ≤ 100000000 := Nat.le_trans (Nat.mul_le_mul_right _ (by omega : k + 1 ≤ l.length + 1)) (by rw [Nat.mul_comm]; exact hb1)
    refine zng n (l.drop k) _ _ (by simp; omega) (by omega) (Nat.le_trans (Nat.pow_le_pow_left (by simp) _) hb2) ?_
    rw [zqY, List.length_append, List.length_map] at hul
    generalize hsg : za1 (l.drop k) n = S at *
    have hup : upS l n (k + 1) = upS l n k ++ S.map fun r => l.take k :: r := by rw [zqY, hsg]
    have hsl : ∀ r ∈ S, r.length = n := fun r hr => zhe n _ r (by rw [hsg]; exact hr)
    simp [zb4]
    refine zDb (Inv := fun q t5 t28 H2 => ∃ j : Nat, j ≤ S.length ∧ q = S.length - j ∧ t28 = .int .i64 j ∧ t5 = .ov H.length (upS l n k ++ (S.take j).map fun r => l.take k :: r).length ∧ H <+: H2 ∧ zof H2 H.length H.length (upS l n k ++ (S.take j).map fun r => l.take k :: r)) S.length ?_ ?_
    ·intro _; exact ⟨0, by omega, by omega, rfl, by simp, hpre, hlo, cs, by simpa using hcs, by simpa using hcells⟩
    ·rintro q t5 t28 H2 ⟨j, hj, rfl, rfl, rfl, hpre2, hlo2, cs2, hcs2, hcells2⟩ hsc2 hlen2 hsF2 Kb2 hKb2
     have hHl := (List.getElem?_eq_some_iff.1 hcs2).1
     by_cases hjl : j < S.length
     ·have htk : List.take k (IT.css l) = IT.css (l.take k) := by rw [IT.css_map, IT.css_map, List.map_take]
      have hrl := hsl _ (List.getElem_mem hjl)
      simp [znc, hjl, zcC, AV.oneK, htk]
      refine ⟨⟨by omega, fun c hc => zdr hc⟩, ?_⟩
      have hSl : (S[j].map fun s => [AV.sl (IT.css s) Tok.none]).length = n := by simpa using hrl
      refine zuq (cs := [.sl (IT.css (l.take k)) .none]) (by simp) (by simp) (by rw [hSl]; omega) (by rw [hSl]; omega) ?_
      rw [hSl, ← zwr]
      refine ⟨rfl, ?_⟩
      simp only [List.length_append, List.length_set, List.set_append_right _ _ (Nat.le_refl _), Nat.sub_self, List.set_cons_zero, List.length_cons, List.length_nil, Nat.zero_add]
      have hmin : min j S.length = j := Nat.min_eq_left hj
      have hst : upS l n k ++ (S.take (j + 1)).map (fun r => l.take k :: r) = (upS l n k ++ (S.take j).map fun r => l.take k :: r) ++ [l.take k :: S[j]] := by
       rw [List.take_succ_eq_append_getElem hjl, List.map_append, List.append_assoc]; rfl
      have hcl2 := hcells2.length
      have hpl : (upS l n k ++ (S.take j).map fun r => l.take k :: r).length = (upS l n k).length + min j S.length := by simp
      rw [← hpl]
      generalize hW : (upS l n k ++ (S.take j).map fun r => l.take k :: r) = W at *
      have hWl : W.length ≤ 100000000 := by rw [hpl]; omega
      have hg1 : (H2 ++ [AB.vec zay 1 (1 + n) (zcx (l.take k :: S[j]))] ++ [.vec zca 1 1 [.ov H2.length (1 + n)]])[H.length]? = some (.vec zca 1 W.length cs2) := by
       rw [List.append_assoc, List.getElem?_append_left hHl]; exact hcs2
      refine zf7 (cs2 := [.ov H2.length (1 + n)]) (e2 := zca) hg1 (by simp) (by simp [AV.known]) (by simp) (by omega) (by omega) ?_
      rw [zal (by omega) (by omega)]
      have hHn : H <+: (H2 ++ [AB.vec zay 1 (1 + n) (zcx (l.take k :: S[j]))] ++ [.vec zca 1 1 [.ov H2.length (1 + n)]]) := hpre2.trans (by rw [List.append_assoc]; exact ⟨_, rfl⟩)
      have hscN : HSc (H2 ++ [AB.vec zay 1 (1 + n) (zcx (l.take k :: S[j]))] ++ [.vec zca 1 1 [.ov H2.length (1 + n)]]) := by
       rw [List.append_assoc]
       exact hsc2.append (by simp [AB.sc, zwt, AV.scA, AV.scB])
      generalize hX : (H2 ++ [AB.vec zay 1 (1 + n) (zcx (l.take k :: S[j]))] ++ [.vec zca 1 1 [.ov H2.length (1 + n)]]) = X at *
      have hXl : X.length = H2.length + 2 := by rw [← hX]; simp
      have hXg : ∀ b, b < H2.length → X[b]? = H2[b]? := fun b hb => by rw [← hX, List.append_assoc, List.getElem?_append_left hb]
      have hXn : X[H2.length]? = some (.vec zay 1 (1 + n) (zcx (l.take k :: S[j]))) := by rw [← hX]; simp
      have hYg : ∀ b, b ≠ H.length → (X.set H.length (.vec zca 1 (W.length + 1) (cs2 ++ [.ov H2.length (1 + n)])))[b]? = X[b]? := fun b hb => List.getElem?_set_ne (fun h => hb h.symm)
      have k2 := zoM hcells2
      have hmono : ∀ c : AV, c.scA H2.length = true → c.scA X.length = true := fun c hc => zfG (by omega) hc
      refine hKb2 _ _ ⟨S.length - (j + 1), by omega, Back.at (J := []) (H2 := X.set H.length (.vec zca 1 (W.length + 1) (cs2 ++ [.ov H2.length (1 + n)]))) (by simp) (by simp; omega) (hscN.set ?_) ?_
       ⟨_, _, rfl, j + 1, by omega, rfl, by simp, by rw [hst]; simp, zd3 hHn (Nat.le_refl _), ?_⟩⟩
      ·simp only [AB.sc, List.all_append, List.all_cons, List.all_nil, Bool.and_true, Bool.and_eq_true, List.all_eq_true]
       exact ⟨fun c hc => hmono c (List.all_eq_true.1 k2.1 c hc), by simp [AV.scA, AV.scB]; omega⟩
      ·simp [ziX, AV.sc, AV.scV, AV.scA, AV.scB]; omega
      ·rw [hst]
       refine ⟨Nat.le_refl _, cs2 ++ [.ov H2.length (1 + n)], by rw [List.getElem?_set_self (by omega)]; simp, ?_⟩
       refine (hcells2.mono fun c r hc => hc.keep fun b _ hb hb2 => by rw [hYg b hb, hXg b hb2]).append ⟨⟨H2.length, by simp [hrl, Nat.add_comm], by omega, by omega, ?_⟩, trivial⟩
       rw [hYg _ (by omega), hXn]
       simp [hrl, Nat.add_comm]
     ·obtain rfl : j = S.length := by omega
      rw [List.take_length] at *
      simp [znc]
      rw [zal (by omega) (by omega)]
      refine hKb _ _ ⟨l.length + 1 - (k + 1), by omega, Back.at (J := []) (H2 := H2) (by simp) (by simp; omega) hsc2 ?_ ⟨_, _, rfl, k + 1, by omega, rfl, by simp, by rw [hup]; simp, hpre2, by rw [hup]; exact ⟨hlo2, cs2, hcs2, hcells2⟩⟩⟩
      simp [ziY, AV.sc, AV.scV, AV.scA, AV.scB, hHl]
   ·obtain rfl : k = l.length + 1 := by omega
    have hlt' : ¬ ((l.length : Int) + 1 ≤ l.length) := by omega
    simp [znd, hlt']
    obtain ⟨J, hJ⟩ := hpre
    refine ⟨_, H, J, hJ.symm, Nat.le_refl _, hs, .one ?_, hK⟩
    have hrw : zb4 (za1 l (n + 1)) = .sl (((za1 l (n + 1)).map fun r => r.map fun s => [AV.sl (IT.css s) .none]).map fun r => [.sl r .none]) .none := by simp [zb4]
    rw [hrw, ← zxo]
    refine .rows H.length zca _ cs _ hlo hcs (by simp) (All2.of_get (by simpa using hcells.length) fun i x y hx hy => ?_)
    obtain ⟨r, hr, b, rfl, h1, h2, h3⟩ := All2.get' hcells hx
    simp only [List.map_map, List.getElem?_map, hr, Option.map_some, Function.comp_apply, Option.some.injEq] at hy
    subst hy
    exact .vfz b zay 1 r.length (zcx r) _ h1 h3 (zws r) (by simp) (by simp)
theorem zqS {data : List Dat} {tn : Int} {tks : List VT} (ht : zbe data 0 (.mk 5 tn tks) = true) : 0 ≤ tn ∧ tn.toNat < data.length := by
 rw [zbe, Bool.and_eq_true] at ht
 have h := ht.2
 simp only [zaK, zaS, Bool.and_eq_true] at h
 have h1 := h.1
 simp at h1
 refine ⟨h1.1, ?_⟩
 have h2 := h1.2
 split at h2
 ·rename_i d hd
  exact (List.getElem?_eq_some_iff.1 hd).1
 ·simp at h2
def zba (l : List VT) (P : List Nat) : List IT := fill (List.replicate l.length (.mk 0 [])) P (P.map fun j => zaG (l.getD j (.mk 0 0 [])))
def zbI (base : List IT) (P R : List Nat) (c : Int) : List IT → List (List IT)
 | [] => []
 | .mk c' ps :: rest => if c' = c then zaN (fill base P ps) R rest else []
def zcd (l : List VT) (bs : List Bool) (c : Int) (kids : List IT) : List (List IT) :=
 zaN (zba l (pos false bs bs.length)) (pos true bs bs.length) kids ++ zbI (zba l (pos false bs bs.length)) (pos false bs bs.length) (pos true bs bs.length) c kids
def zkj : IT → List IT
 | .mk _ ks => ks
def zbz (data : List Dat) (t : VT) (c : Int) (v : IT) : Option Int :=
 if zbc data t v < 0 then some 1 else if t.kind ≠ 5 then some 6 else if c < 0 ∨ ((data.getD t.num.toNat ⟨[], 0, []⟩).cons.length : Int) ≤ c then some 8 else if zaL data t c = none then some 0 else none
mutual
theorem zrb : ∀ t : VT, (zaG t).nodes ≤ t.nodes
 | .mk k n ks => by
  have := zra ks
  simp only [zaG, VT.nodes, IT.nodes]
  split
  ·omega
  ·simp [IT.nodesL]
theorem zra : ∀ ts : List VT, IT.nodesL (za2 ts) ≤ VT.nodesL ts
 | [] => by simp [za2, IT.nodesL, VT.nodesL]
 | t :: ts => by
  have := zrb t
  have := zra ts
  simp only [za2, IT.nodesL, VT.nodesL]
  omega
end
theorem zgl : ∀ (ps : List Nat) (row xs : List IT) (x : IT), x ∈ fill row ps xs → x ∈ row ∨ x ∈ xs
 | [], row, xs, x, h => by simp at h; exact .inl h
 | p :: ps, row, [], x, h => by simp [fill] at h; exact .inl h
 | p :: ps, row, y :: xs, x, h => by
  rw [fill] at h
  rcases zgl ps _ xs x h with h | h
  ·rcases List.mem_or_eq_of_mem_set h with h | rfl
   ·exact .inl h
   ·exact .inr (by simp)
  ·exact .inr (by simp [h])
theorem zvD (l : List IT) (n : Nat) : IT.nodesL (l.drop n) ≤ IT.nodesL l := by
 have := IT.nodesL_app (l.take n) (l.drop n)
 rw [List.take_append_drop] at this
 omega
theorem ze7 {N : Nat} : ∀ (ps : List Nat) (row l : List IT), (∀ x ∈ row, x.nodes ≤ N) → IT.nodesL l + 1 ≤ N → ∀ r ∈ zaN row ps l, ∀ x ∈ r, x.nodes ≤ N
 | [], row, l, hr, hl, r, h => by
  simp only [zaN] at h
  split at h <;> simp at h
  subst h; exact hr
 | p :: ps, row, l, hr, hl, r, h => by
  rw [zu1, List.mem_flatMap] at h
  obtain ⟨n, _, h⟩ := h
  refine ze7 ps _ _ (fun x hx => ?_) (by have := zvD l n; omega) r h
  rcases List.mem_or_eq_of_mem_set hx with hx | rfl
  ·exact hr x hx
  ·have := IT.nodesL_take_le l n
   simp only [IT.nodes]; omega
theorem zoR (ps : List Nat) (row l : List IT) : ∀ r ∈ zaN row ps l, r.length = row.length := by
 rw [zep]
 intro r h
 obtain ⟨s, _, rfl⟩ := List.mem_map.1 h
 simp
theorem zkX {l : List IT} {x : IT} (h : x ∈ l) : x.nodes ≤ IT.nodesL l := by
 induction l with
 | nil => simp at h
 | cons y l ih =>
  simp only [IT.nodesL]
  rcases List.mem_cons.1 h with rfl | h
  ·omega
  ·have := ih h; omega
theorem zoF {l : List VT} {P : List Nat} (h : ∀ x ∈ l, x.nodes ≤ 200) : ∀ x ∈ zba l P, x.nodes ≤ 200 := by
 intro x hx
 rcases zgl _ _ _ _ hx with hx | hx
 ·rw [List.eq_of_mem_replicate hx]; simp [IT.nodes, IT.nodesL]
 ·obtain ⟨j, _, rfl⟩ := List.mem_map.1 hx
  refine Nat.le_trans (zrb _) ?_
  rw [List.getD_eq_getElem?_getD]
  cases hj : l[j]? with
  | none => simp [VT.nodes, VT.nodesL]
  | some y => exact h y (List.mem_of_getElem? hj)
theorem zk9 (l : List VT) (bs : List Bool) (c : Int) (kids : List IT) : ∀ r ∈ zcd l bs c kids, r.length = l.length := by
 intro r h
 unfold zcd at h
 rcases List.mem_append.1 h with h | h
 ·rw [zoR _ _ _ r h]; simp [zba]
 ·unfold zbI at h
  split at h
  ·simp at h
  ·split at h
   ·rw [zoR _ _ _ r h]; simp [zba]
   ·simp at h
theorem zqe {l : List VT} {bs : List Bool} {c : Int} {kids : List IT} (hl : ∀ x ∈ l, x.nodes ≤ 200) (hk : IT.nodesL kids + 1 ≤ 1000) : ∀ r ∈ zcd l bs c kids, ∀ x ∈ r, x.nodes ≤ 1000 := by
 have hb := zoF (P := pos false bs bs.length) hl
 intro r h
 unfold zcd at h
 rcases List.mem_append.1 h with h | h
 ·exact ze7 _ _ _ (fun x hx => by have := hb x hx; omega) hk r h
 ·unfold zbI at h
  split at h
  ·simp at h
  ·rename_i c' ps rest
   simp only [IT.nodesL, IT.nodes] at hk
   split at h
   ·refine ze7 _ _ _ (fun x hx => ?_) (by omega) r h
    rcases zgl _ _ _ _ hx with hx | hx
    ·have := hb x hx; omega
    ·have := zkX hx; omega
   ·simp at h
theorem zd1 {a n : Nat} (ha : a ≤ 7) (hn : n ≤ 8) : a ^ n ≤ 100000000 :=
 Nat.le_trans (Nat.pow_le_pow_left ha n) (Nat.le_trans (Nat.pow_le_pow_right (by omega) hn) (by decide))
theorem zk8 {l : List VT} {bs : List Bool} {c : Int} {kids : List IT} (hk : kids.length ≤ 6) (hb : bs.length ≤ 8) : (zcd l bs c kids).length ≤ 200000000 := by
 have hR := zcR true bs bs.length
 unfold zcd
 rw [List.length_append]
 have h1 := Nat.le_trans (zj2 (pos true bs bs.length) (zba l (pos false bs bs.length)) kids) (zd1 (by omega) (by omega))
 have : (zbI (zba l (pos false bs bs.length)) (pos false bs bs.length) (pos true bs bs.length) c kids).length ≤ 100000000 := by
  unfold zbI
  split
  ·simp
  ·rename_i c' ps rest
   split
   ·exact Nat.le_trans (zj2 _ _ _) (zd1 (by simp at hk; omega) (by omega))
   ·simp
 omega
def CellM (H : zaa) (lo id : Nat) (c : AV) (r : List IT) : Prop := ∃ b, c = .ms b 0 r.length r.length ∧ lo ≤ b ∧ b ≠ id ∧ H[b]? = some (.cells (zat r))
theorem CellM.sc {H : zaa} {lo id : Nat} : ∀ {cs : List AV} {rows : List (List IT)}, All2 (CellM H lo id) cs rows → cs.all (AV.scA H.length) = true ∧ cs.all AV.known = true
 | [], [], _ => ⟨rfl, rfl⟩
 | c :: cs, r :: rows, h => by
  obtain ⟨h1, h2⟩ := CellM.sc h.2
  obtain ⟨b, rfl, g1, g2, g3⟩ := h.1
  have := (List.getElem?_eq_some_iff.1 g3).1
  simp only [List.all_cons, h1, h2, Bool.and_true]
  exact ⟨by simpa [AV.scA, AV.scB] using this, rfl⟩
theorem zv9 {x y z : List IT} (h1 : rle x y) (h2 : rle y z) : rle x z := by
 unfold rle at *
 have := IT.cmpL_tri x y z
 have a1 := IT.cmpL_anti x y
 have a2 := IT.cmpL_anti y z
 have a3 := IT.cmpL_anti x z
 unfold Tri at this
 omega
theorem zuj (a b : List IT) (he : a.length = b.length) (ha : a.length ≤ 1000000) (hn : ∀ x ∈ a, x.nodes ≤ 1000000) (H : zaa) (K : Kt) (hK : K (.int .i64 (IT.cmpL a b)) H) :
  ACalls tP zdY [.sl (IT.css a) .none, .sl (IT.css b) .none] H K := by
 refine zow a b ha (fun i h h' H K hK => zv4 _ _ _ (Nat.le_refl _) (hn _ (List.getElem_mem h)) H K hK) H K ?_
 have e : cor (icmp a.length b.length) (IT.cmpL a b) = IT.cmpL a b := by simp [he, zkf, cor]
 rw [e]; exact hK
theorem zuT {H : zaa} {lo id : Nat} {c1 c2 : AV} {a b : List IT} (h1 : CellM H lo id c1 a) (h2 : CellM H lo id c2 b) (he : a.length = b.length) (ha : a.length ≤ 1000) (hn : ∀ x ∈ a, x.nodes ≤ 1000) (K : Kt) (hK : K (.int .i64 (IT.cmpL a b)) H) :
  ACalls tP zdY [c1, c2] H K := by
 obtain ⟨b1, rfl, g1, g2, g3⟩ := h1
 obtain ⟨b2, rfl, g4, g5, g6⟩ := h2
 have hrd : ∀ (b : Nat) (r : List IT), H[b]? = some (.cells (zat r)) → RdT H (.ms b 0 r.length r.length) (.sl (IT.css r) .none) := fun b r hb => by
  refine RdT.one (.ms b 0 r.length r.length 2 (zat r) (IT.css r) hb (by rw [zbR]; omega) ?_ (by simp) (fun c hc => zdr hc) (Nat.le_refl _))
  rw [List.drop_zero, List.take_of_length_le (by rw [zbR]; exact Nat.le_refl _)]
  exact zg7 r
 have hall : All2 (RdT H) [AV.ms b1 0 a.length a.length, .ms b2 0 b.length b.length] [.sl (IT.css a) .none, .sl (IT.css b) .none] := ⟨hrd b1 a g3, hrd b2 b g6, trivial⟩
 exact ACalls.pureR (zuj a b he (by omega) (fun x hx => by have := hn x hx; omega) [] _ rfl) trivial hall hK
theorem CellM.keep {H H' : zaa} {lo id : Nat} {c : AV} {r : List IT} (h : CellM H lo id c r) (hid : ∀ b, lo ≤ b → b ≠ id → b < H.length → H'[b]? = H[b]?) : CellM H' lo id c r := by
 obtain ⟨b, rfl, h1, h2, h3⟩ := h
 exact ⟨b, rfl, h1, h2, by rw [hid b h1 h2 (List.getElem?_eq_some_iff.1 h3).1]; exact h3⟩
theorem CellM.app {H : zaa} {lo id : Nat} {c : AV} {r : List IT} (h : CellM H lo id c r) (J : zaa) : CellM (H ++ J) lo id c r := by
 obtain ⟨b, rfl, h1, h2, h3⟩ := h
 exact ⟨b, rfl, h1, h2, by rw [List.getElem?_append_left (List.getElem?_eq_some_iff.1 h3).1]; exact h3⟩
theorem zov {α β : Type} {R : α → β → Prop} : ∀ {bs cs : List β} {xs : List α}, All2 R xs (bs ++ cs) → ∃ xs1 xs2, xs = xs1 ++ xs2 ∧ All2 R xs1 bs ∧ All2 R xs2 cs
 | [], cs, xs, h => ⟨[], xs, rfl, trivial, h⟩
 | b :: bs, cs, [], h => h.elim
 | b :: bs, cs, a :: xs, h => by
  obtain ⟨xs1, xs2, rfl, h1, h2⟩ := zov (bs := bs) h.2
  exact ⟨a :: xs1, xs2, rfl, ⟨h.1, h1⟩, h2⟩
theorem zqZ : ∀ (c1 c3 : List AV) (x y : AV), List.take (c1.length + 1) (c1 ++ x :: y :: c3) ++ x :: List.drop (c1.length + 1 + 1) (c1 ++ x :: y :: c3) = c1 ++ x :: x :: c3
 | [], c3, x, y => by simp
 | a :: c1, c3, x, y => by
  have := zqZ c1 c3 x y
  simp only [List.cons_append, List.length_cons, List.take_succ_cons, List.drop_succ_cons, this]
theorem zwH {H H1 : zaa} {id w : Nat} {rows : List (List IT)} {cs : List AV} (hlo : H.length ≤ id) (hcs : H1[id]? = some (.vec zay 1 rows.length cs)) (hcells : All2 (CellM H1 H.length id) cs rows) (hsc1 : HSc H1)
  (hw : ∀ r ∈ rows, r.length = w) (hw8 : w ≤ 1000) (hnd : ∀ r ∈ rows, ∀ x ∈ r, x.nodes ≤ 1000) (hlen : rows.length ≤ 1000000000) (K : Kt)
  (hK : ∀ rs cs', rs.Perm rows → rs.Pairwise rle → All2 (CellM H1 H.length id) cs' rs → K (.ov id rows.length) (H1.set id (.vec zay 1 rows.length cs'))) : zfU (.ov id rows.length) H1 K := by
 have hidl := (List.getElem?_eq_some_iff.1 hcs).1
 unfold zfU zsk
 refine zBp (Inv := fun q t23 H' => ∃ x : Nat, 1 ≤ x ∧ q = rows.length + 1 - x ∧ (x ≤ rows.length ∨ x = 1) ∧ t23 = .int .i64 x ∧ ∃ rs cs', H' = H1.set id (.vec zay 1 rows.length cs') ∧ rs.Perm rows ∧ (rs.take x).Pairwise rle ∧ All2 (CellM H1 H.length id) cs' rs) rows.length ?_ ?_
 ·intro _
  refine ⟨1, by omega, by omega, by omega, rfl, rows, cs, (zle hcs).symm, List.Perm.refl _, ?_, hcells⟩
  cases rows <;> simp
 ·rintro q t23 H' ⟨x, hx1, rfl, hxn, rfl, rs, cs', rfl, hp, hso, hc⟩ hsc hlen' hsF Kb hKb
  have hrl : rs.length = rows.length := hp.length_eq
  by_cases hlt : x < rows.length
  ·simp [zmA, hlt]
   have hwr : ∀ r ∈ rs, r.length = w := fun r hr => hw r (hp.subset hr)
   have hA0 : rs = rs.take x ++ rs[x]'(by omega) :: ([] ++ rs.drop (x + 1)) := by
    rw [List.nil_append, ← List.drop_eq_getElem_cons (by omega), List.take_append_drop]
   refine zBq (Inv := fun q t24 H' => ∃ (A : List (List IT)) (e : List IT) (B C : List (List IT)) (cs' : List AV), q = A.length + 1 ∧ t24 = .int .i64 A.length ∧ H' = H1.set id (.vec zay 1 rows.length cs') ∧ (A ++ e :: (B ++ C)).Perm rows ∧ A.length + B.length = x ∧ (A ++ B).Pairwise rle ∧ (∀ b ∈ B, rle e b) ∧ All2 (CellM H1 H.length id) cs' (A ++ e :: (B ++ C))) (x + 1) ?_ ?_
   ·intro _
    refine ⟨rs.take x, rs[x]'(by omega), [], rs.drop (x + 1), cs', by simp; omega, by simp; omega, rfl, by rw [← hA0]; exact hp, by simp; omega, by simpa using hso, by simp, by rw [← hA0]; exact hc⟩
   ·rintro q t24 H' ⟨A, e, B, C, cs2, rfl, rfl, rfl, hp2, hAB, hso2, hB, hc2⟩ hsc2 hlen2 hsF2 Kb2 hKb2
    have hl2 := hp2.length_eq
    simp only [List.length_append, List.length_cons] at hl2
    have hcl2 := hc2.length
    simp only [List.length_append, List.length_cons] at hcl2
    have hg : (H1.set id (.vec zay 1 rows.length cs2))[id]? = some (.vec zay 1 rows.length cs2) := List.getElem?_set_self hidl
    have hfin : (A ++ e :: B).Pairwise rle → Kb (zfT (.ov id rows.length) (.int .i64 ((x : Int) + 1))) (H1.set id (.vec zay 1 rows.length cs2)) := fun hS => by
     refine hKb _ _ ⟨rows.length + 1 - (x + 1), by omega, Back.at (J := []) (H2 := H1.set id (.vec zay 1 rows.length cs2)) (by simp) (by simp) hsc2 ?_ ⟨_, rfl, x + 1, by omega, rfl, .inl (by omega), by simp, A ++ e :: (B ++ C), cs2, rfl, hp2, ?_, hc2⟩⟩
     ·simp [zfT, AV.sc, AV.scV, AV.scA, AV.scB, hidl]
     ·have : (A ++ e :: (B ++ C)).take (x + 1) = A ++ e :: B := by
       have h0 : A ++ e :: (B ++ C) = (A ++ e :: B) ++ C := by simp
       rw [h0, List.take_append_of_le_length (by simp; omega), List.take_of_length_le (by simp; omega)]
      rw [this]; exact hS
    cases hA : A.reverse with
    | nil =>
     have hA' : A = [] := by simpa using hA
     subst hA'
     simp [zmB]
     rw [zal (by omega) (by omega)]
     refine hfin ?_
     rw [List.nil_append] at hso2 ⊢
     exact List.pairwise_cons.2 ⟨hB, hso2⟩
    | cons a Ar =>
     have hA' : A = Ar.reverse ++ [a] := by rw [← List.reverse_reverse A, hA, List.reverse_cons]
     generalize Ar.reverse = A0 at *
     subst hA'
     have hl3 : A0.length + 1 + (B.length + C.length + 1) = rows.length := by simpa [Nat.add_assoc] using hl2
     have hc3 : All2 (CellM H1 H.length id) cs2 (A0 ++ (a :: e :: (B ++ C))) := by simpa using hc2
     obtain ⟨c1, c2, rfl, hx1, hx2⟩ := zov hc3
     match c2, hx2 with
     | ca :: ce :: c3, ⟨ha, he, hx3⟩ =>
     have hl1 := hx1.length
     have hma : a ∈ rows := hp2.subset (by simp)
     have hme : e ∈ rows := hp2.subset (by simp)
     have hg2 : (c1 ++ ca :: ce :: c3)[A0.length]? = some ca := by rw [← hl1]; simp
     have hg3 : (c1 ++ ca :: ce :: c3)[A0.length + 1]? = some ce := by rw [← hl1]; simp
     have hK1 : ∀ c r, CellM H1 H.length id c r → CellM (H1.set id (.vec zay 1 rows.length (c1 ++ ca :: ce :: c3))) H.length id c r := fun c r h => h.keep fun b _ h2 _ => List.getElem?_set_ne (fun h => h2 h.symm)
     have hcmp : ∀ J, ACalls tP zdY [ce, ca] (H1.set id (.vec zay 1 rows.length (c1 ++ ca :: ce :: c3)) ++ J) fun r H' => r = .int .i64 (IT.cmpL e a) ∧ H' = H1.set id (.vec zay 1 rows.length (c1 ++ ca :: ce :: c3)) ++ J := fun J =>
      zuT ((hK1 _ _ he).app J) ((hK1 _ _ ha).app J) (by rw [hw _ hme, hw _ hma]) (by rw [hw _ hme]; exact hw8) (hnd _ hme) _ ⟨rfl, rfl⟩
     have hw0 : IntKind.i64.wrap (A0.length : Int) = A0.length := zal (by omega) (by omega)
     have hwx : IntKind.i64.wrap ((x : Int) + 1) = (x : Int) + 1 := zal (by omega) (by omega)
     have hca : ca.cs? = some [ca] ∧ ca.known = true := by obtain ⟨b, rfl, _⟩ := ha; exact ⟨rfl, rfl⟩
     have hce : ce.cs? = some [ce] ∧ ce.known = true := by obtain ⟨b, rfl, _⟩ := he; exact ⟨rfl, rfl⟩
     have hb1 : (A0.length : Int) + 1 < rows.length := by omega
     have hb2 : (A0.length : Int) < rows.length := by omega
     have hb3 : (0 : Int) ≤ (A0.length : Int) + 1 := by omega
     simp [zmB, hg, hw0, hwx, zjQ 1 hg2, zjQ 1 hg3, hca, hce, hb1, hb2, hb3]
     refine ⟨_, hcmp, ?_⟩
     by_cases hlt2 : IT.cmpL e a < 0
     ·have e1 : List.take (A0.length + 1) (c1 ++ ca :: ce :: c3) ++ ca :: List.drop (A0.length + 1 + 1) (c1 ++ ca :: ce :: c3) = c1 ++ ca :: ca :: c3 := by
       rw [← hl1]; exact zqZ c1 c3 ca ce
      have e2 : List.take A0.length (c1 ++ ca :: ca :: c3) ++ ce :: List.drop (A0.length + 1) (c1 ++ ca :: ca :: c3) = c1 ++ ce :: ca :: c3 := by
       rw [← hl1]; simp [List.take_append, List.drop_append]
      have hg' : (H1.set id (.vec zay 1 rows.length (c1 ++ ca :: ca :: c3)))[id]? = some (.vec zay 1 rows.length (c1 ++ ca :: ca :: c3)) := List.getElem?_set_self hidl
      simp [hlt2, hca, hce, hg]
      rw [e1]
      refine ⟨by omega, ?_⟩
      simp [hca, hce, hg']
      rw [e2]
      refine ⟨by omega, ?_⟩
      have hnew : All2 (CellM H1 H.length id) (c1 ++ ce :: ca :: c3) (A0 ++ e :: ((a :: B) ++ C)) := hx1.append ⟨he, ha, hx3⟩
      have hidl2 : id < H1.length := hidl
      refine hKb2 _ _ ⟨A0.length + 1, by simp, Back.at (J := []) (H2 := H1.set id (.vec zay 1 rows.length (c1 ++ ce :: ca :: c3))) (by simp) (by simp) (hsc1.set ?_) ?_ ⟨_, rfl, A0, e, a :: B, C, _, rfl, rfl, rfl, ?_, ?_, ?_, ?_, hnew⟩⟩
      ·simpa [AB.sc] using (CellM.sc hnew).1
      ·simp [zip, AV.sc, AV.scV, AV.scA, AV.scB, hidl2]
      ·refine List.Perm.trans ?_ hp2
       simpa using List.Perm.append_left A0 (List.Perm.swap a e (B ++ C))
      ·simp at hAB ⊢; omega
      ·simpa using hso2
      ·intro b hb
       rcases List.mem_cons.1 hb with rfl | hb
       ·have := IT.cmpL_anti e b; unfold rle; omega
       ·exact hB b hb
     ·simp [hlt2]
      refine hfin ?_
      have hae : rle a e := by unfold rle; have := IT.cmpL_anti e a; omega
      have h1 := List.pairwise_append.1 hso2
      refine List.pairwise_append.2 ⟨h1.1, List.pairwise_cons.2 ⟨hB, h1.2.1⟩, fun x hx y hy => ?_⟩
      rcases List.mem_cons.1 hy with rfl | hy
      ·rcases List.mem_append.1 hx with hx | hx
       ·exact zv9 ((List.pairwise_append.1 h1.1).2.2 x hx a (by simp)) hae
       ·simp at hx; subst hx; exact hae
      ·exact h1.2.2 x hx y hy
  ·have hnx : rs.take x = rs := List.take_of_length_le (by omega)
   rw [hnx] at hso
   simp [zmA, hlt]
   exact hK rs cs' hp hso hc
end Go.Proofs.YtacebbdfgbfgiaaGreat
