import Derived.Test.YtacebbdfgbfgiaaGreatAbsO3
import Derived.Shelf.SlSortCmp.NoneTotal
import Derived.Test.YtacebbdfgbfgiaaGreatProg
import Derived.Test.YtacebbdfgbfgiaaGreatKNum
import Derived.KernelRfl
import Derived.Test.YtacebbdfgbfgiaaGreatKUB
import Derived.Test.YtacebbdfgbfgiaaGreatKUC
import Derived.Test.YtacebbdfgbfgiaaGreatKI2
set_option linter.unusedSimpArgs false
set_option linter.unusedVariables false
namespace Go.Abs
open Go Go.RowKit
open Go.Sort (grow putRow putCells mapBlock onCells ahead SWO PermIn SortedIn Holds)
open Go.Proofs (sortWorld ltOf CmpLays1)
variable {P : Program} {B : Nat} {w : World} {G : Gh} {H : zaa}
theorem zu0 {W w' : World} (hd : W.drawn ≤ w'.drawn) (hb : Below W.heap.size W w') : ∃ q os, w' = grow (W.drewN q) os := by
 refine ⟨w'.drawn - W.drawn, w'.heap.extract W.heap.size w'.heap.size, ?_⟩
 obtain ⟨h1, h2, h3, h4, h5⟩ := hb
 obtain ⟨heap, tape, drawn, os, output⟩ := W
 obtain ⟨heap', tape', drawn', os', output'⟩ := w'
 simp only at *
 subst h1 h2 h3
 have e1 : heap' = heap ++ heap'.extract heap.size heap'.size := by
  refine Array.ext_getElem? fun i => ?_
  by_cases hi : i < heap.size
  ·rw [Array.getElem?_append_left hi, h5 i hi]
  ·rw [Array.getElem?_append_right (by omega), Array.getElem?_extract]
   by_cases h : i < heap'.size
   ·rw [if_pos (by omega), show heap.size + (i - heap.size) = i by omega]
   ·rw [if_neg (by omega), Array.getElem?_eq_none (by omega)]
 have e2 : drawn' = drawn + (drawn' - drawn) := by omega
 simp only [grow, World.drewN]
 rw [← e1, ← e2]
theorem HRel.alone (h : HRel B w G H) (o : Obj) : Ext B w G (w.alloc o) G ∧ HRel B (w.alloc o) G H := by
 have he := Ext.alloc h o G.L (fun _ _ => rfl) []
 simp only [List.append_nil] at he
 refine ⟨he, h.keep he rfl (fun id gi b h1 h2 => ⟨zet (h.lt id gi b h1 h2), rfl⟩) (fun b hb => ?_)⟩
 rw [zcr] at hb
 exact h.fresh b (by omega)
theorem HRel.grown : ∀ (os : List Obj) {w : World}, HRel B w G H → Ext B w G (grow w os.toArray) G ∧ HRel B (grow w os.toArray) G H
 | [], w, h => by
  have : grow w #[] = w := by simp [grow]
  rw [show ([] : List Obj).toArray = #[] from rfl, this]
  exact ⟨Ext.refl _ _ _, h⟩
 | o :: l, w, h => by
  obtain ⟨h1, h2⟩ := h.alone o
  obtain ⟨h3, h4⟩ := HRel.grown l h2
  have : grow w (o :: l).toArray = grow (w.alloc o) l.toArray := by
   rw [Go.Sort.alloc_eq_grow, Go.Sort.grow_grow]
   simp
  rw [this]
  exact ⟨h1.trans h3, h4⟩
theorem zvG {α : Type} [Inhabited α] (vals : α → Value) (d : Array α) (cur : Array Value) (h : d.size ≤ cur.size) : (putCells vals 0 d cur).toList.take d.size = d.toList.map vals := by
 refine List.ext_getElem (by simp [putCells]; omega) fun i h1 h2 => ?_
 simp at h2
 simp [putCells, h2]
theorem HRel.sorted {α : Type} [Inhabited α] (h : HRel B w G H) {id e n g cap : Nat} {cs cs' : List AV} (hH : H[id]? = some (.vec e 1 n cs)) (hμ : G.μ[id]? = some (.own (.slice (some ⟨g, 0, none⟩) n cap) 1 n))
  (vals : α → Value) (d : Array α) (hd : d.size = n) (hc : All2 (ARel w G) (d.toList.map vals) cs') (m : Nat) (os : Array Obj) :
  Ext B w G (sortWorld vals w g 0 m d os) G ∧ HRel B (sortWorld vals w g 0 m d os) G (H.set id (.vec e 1 n cs')) := by
 obtain ⟨_, _, ⟨xs, ⟨hxl, ho⟩, hxc⟩, hL0⟩ := h.ok id _ _ hH hμ
 rcases ho with ⟨h1, _⟩ | ⟨g', cap', cur, h1, hB, hw, hcap, hcm, hsz, htk⟩
 ·cases h1
 cases h1
 have h1 := h.storeV (cur' := putCells vals 0 d cur) (xs' := d.toList.map vals) hH hμ hw hB hcap hcm (by simp [putCells, hsz]) (by rw [Nat.mul_one, ← hd]; exact zvG vals d cur (by omega)) (by simp [hd]) hc
 obtain ⟨hE1, hR1⟩ := h1
 have hE2 := Ext.drew B (w.setRow g (putCells vals 0 d cur)) G ((w.setRow g (putCells vals 0 d cur)).drawn + m) (Nat.le_add_right _ _)
 have hR2 := hR1.drew ((w.setRow g (putCells vals 0 d cur)).drawn + m) (Nat.le_add_right _ _)
 obtain ⟨hE3, hR3⟩ := HRel.grown os.toList hR2
 have heq : sortWorld vals w g 0 m d os = grow { w.setRow g (putCells vals 0 d cur) with drawn := (w.setRow g (putCells vals 0 d cur)).drawn + m } os.toList.toArray := by
  have hh : w.heap.modify g (onCells (putCells vals 0 d)) = (w.setRow g (putCells vals 0 d cur)).heap := by
   unfold World.setRow
   refine Array.ext_getElem? fun i => ?_
   simp only [Array.getElem?_modify]
   by_cases hi : g = i
   ·subst hi
    simp [hw, onCells]
   ·simp [hi]
  have e : sortWorld vals w g 0 m d os = grow { w with heap := w.heap.modify g (onCells (putCells vals 0 d)), drawn := w.drawn + m } os := rfl
  rw [e, hh, Array.toArray_toList]
  rfl
 rw [heq]
 exact ⟨(hE1.trans hE2).trans hE3, hR3⟩
def Lx (w : World) (G : Gh) (blk b : Nat) : Nat := if b = blk then 0 else max (G.L b) (zbC w b)
def Rd (H : zaa) (id0 : Nat) (a : AV) (row : List (List AV)) : Prop :=
 a = .sl row .none ∨
 (∃ id off len cap size cs, a = .ms id off len cap ∧ H[id]? = some (.cells cs) ∧ off + len * size ≤ cs.length ∧ zaD ((cs.drop off).take (len * size)) = some row.flatten ∧ row.length = len ∧ (∀ c ∈ row, c.length = size) ∧ len ≤ cap) ∨
 (∃ id e size m cs, a = .ov id m ∧ id ≠ id0 ∧ H[id]? = some (.vec e size m cs) ∧ zaD cs = some row.flatten ∧ row.length = m ∧ ∀ c ∈ row, c.length = size)
theorem Rd.rel (h : HRel B w G H) {id e n g cap : Nat} {cs : List AV} (hH : H[id]? = some (.vec e 1 n cs)) (hμ : G.μ[id]? = some (.own (.slice (some ⟨g, 0, none⟩) n cap) 1 n)) {a : AV} {row : List (List AV)} (hr : Rd H id a row) {v : Value} (hv : ARel w G v a) :
  DRel w (Lx w G g) v (.sl row .none) := by
 obtain ⟨_, _, _, hL0⟩ := h.ok id _ _ hH hμ
 have hLg : G.L g = 0 := hL0 g rfl
 have hlev : ∀ b, G.L b ≤ Lx w G g b := fun b => by
  unfold Lx
  split
  ·rename_i hb; rw [hb, hLg]; exact Nat.le_refl _
  ·exact Nat.le_max_left _ _
 have hmono : ∀ {v : Value} {a : AV}, DRel w G.L v a → DRel w (Lx w G g) v a := fun h => h.mono hlev fun _ _ _ => rfl
 rcases hr with rfl | ⟨i2, off, len, cap2, size, cs2, rfl, hH2, hfit, hp, hlen, hsz, hcap⟩ | ⟨i2, e2, size, m, cs2, rfl, hne, hH2, hp, hlen, hsz⟩
 ·exact hmono hv
 ·obtain ⟨b, hb, rfl⟩ := hv
  obtain ⟨_, _, vs, _, hw, hcs⟩ := h.ok i2 _ _ hH2 hb
  have hbg : b ≠ g := fun hbg => by
   have := h.dist i2 id _ _ b hb hμ rfl (by rw [hbg]; rfl)
   subst this
   rw [hH] at hH2
   cases hH2
  subst hlen
  by_cases hes : row = []
  ·subst hes; exact .slE _ _
  ·have hl := hcs.length
   refine DRel.of_flat_at (zs := (vs.toList.drop off).take (row.length * size)) hsz hes hcap ?_ ((zcG ((hcs.drop off).take _) hp).mono fun _ _ => hmono) ?_
   ·unfold Lx
    rw [if_neg hbg]
    refine Nat.le_trans ?_ (Nat.le_max_right _ _)
    simp [zbC, hw]
    simp at hl
    omega
   ·intro j u hj
    rw [List.getElem?_take] at hj
    split at hj
    ·simp only [World.cell?, hw]
     simpa using hj
    ·cases hj
 ·obtain ⟨⟨a, cap0, rfl, _⟩, v', s0, n', hμ2, _, heq⟩ := hv
  obtain ⟨rfl, rfl, ⟨xs, hown, hcs⟩, _⟩ := h.ok i2 _ _ hH2 hμ2
  obtain rfl := heq rfl
  subst hlen
  by_cases hes : row = []
  ·subst hes; exact .slE _ _
  ·have hown2 := hown
   obtain ⟨hl, hrow⟩ := hown2
   rcases hrow with ⟨h1, h2⟩ | ⟨g2, cap2, cur, h1, h2, h3, h4, h5, h6, h7⟩
   ·cases row <;> simp_all
   ·simp at h1
    obtain ⟨rfl, rfl⟩ := h1
    obtain ⟨_, _, _, hcell⟩ := zcF hown
    have hbg : g2 ≠ g := fun hbg => hne (h.dist i2 id _ _ g2 hμ2 hμ rfl (by rw [hbg]; rfl))
    refine DRel.of_flat_at (zs := xs) hsz hes h4 ?_ ((zcG hcs hp).mono fun _ _ => hmono) ?_
    ·unfold Lx
     rw [if_neg hbg]
     refine Nat.le_trans ?_ (Nat.le_max_right _ _)
     simp only [zbC, h3, h6, Nat.zero_add]
     exact Nat.mul_le_mul_right _ h4
    ·intro j u hj
     rw [Nat.zero_add, hcell j (by rw [← hl]; exact (List.getElem?_eq_some_iff.1 hj).1)]
     exact hj
theorem zoL {α : Type} (d : Array α) {k : Nat} (h : d.size = k) : d.extract 0 k = d := by subst h; exact Array.extract_size
theorem zvq (n : Nat) : ((Array.ofFn fun i : Fin n => i).toList.map Fin.val) = List.range n :=
 List.ext_getElem (by simp) fun i h1 h2 => by simp only [List.getElem_map, Array.getElem_toList, Array.getElem_ofFn, List.getElem_range]
theorem zwh {α : Type} [Inhabited α] (vals : α → Value) (w : World) (g m : Nat) (d : Array α) (os : Array Obj) : w.heap.size ≤ (sortWorld vals w g 0 m d os).heap.size := by
 unfold sortWorld
 simp [grow]
theorem zwg {α : Type} [Inhabited α] (vals : α → Value) (w : World) (g m : Nat) (d : Array α) (os : Array Obj) (a : Addr) (h1 : a.block ≠ g) (h2 : a.block < w.heap.size) : (sortWorld vals w g 0 m d os).cell? a = w.cell? a := by
 unfold sortWorld
 rw [Go.Sort.cell?_grow _ _ _ (by rw [Go.Sort.size_putRow]; exact h2), Go.Sort.cell?_putRow_other vals _ g 0 d a (Or.inl h1)]
 rfl
theorem zwi (h : HRel B w G H) {n g f : Nat} {vals : Fin n → Value} [Inhabited (Fin n)] {rows : Nat → List (List AV)} {cf : Nat → Nat → Int} (hd : ∀ i : Fin n, DRel w (Lx w G g) (vals i) (.sl (rows i) .none))
  (hcmp : ∀ i j, i < n → j < n → ACalls P f [.sl (rows i) .none, .sl (rows j) .none] [] fun r _ => r = .int .i64 (cf i j)) : CmpLays1 P f #[] vals (fun i j => cf i j) g 0 n w := by
 intro m os dk hdk x y
 have hL : ∀ b, (sortWorld vals w g 0 m dk os).heap.size ≤ b → Lx w G g b = 0 := fun b hb => by
  have := zwh vals w g m dk os
  unfold Lx
  split
  ·rfl
  ·rw [h.fresh b (by omega)]
   simp only [zbC]
   rw [Array.getElem?_eq_none (by omega)]
   rfl
 have hmono : ∀ {v : Value} {a : AV}, DRel w (Lx w G g) v a → DRel (sortWorld vals w g 0 m dk os) (Lx w G g) v a := fun hx => hx.mono (fun _ => Nat.le_refl _) fun b off ho => by
  refine zwg vals w g m dk os ⟨b, off, none⟩ ?_ ?_
  ·intro hb
   have hb : b = g := hb
   simp [Lx, hb] at ho
  ·show b < w.heap.size
   refine Nat.lt_of_not_le fun hb => ?_
   unfold Lx at ho
   split at ho
   ·omega
   ·rw [h.fresh b (by omega)] at ho
    simp only [zbC] at ho
    rw [Array.getElem?_eq_none (by omega)] at ho
    simp at ho
 refine (hcmp x y x.2 y.2 (sortWorld vals w g 0 m dk os).heap.size (sortWorld vals w g 0 m dk os) ⟨Lx w G g, []⟩ #[vals x, vals y]
  ⟨rfl, fun _ _ _ h => by simp at h, fun _ _ _ _ _ h => by simp at h, hL, fun _ _ _ h => by simp at h, Nat.le_refl _⟩ ⟨hmono (hd x), hmono (hd y), trivial⟩).mono ?_
 rintro e w' ⟨v, r, H', G', rfl, h2, _, h4, rfl⟩
 have h4 : v = .int .i64 (cf x y) := h4
 subst h4
 exact ⟨rfl, zu0 h2.dr h2.below⟩
theorem ACalls.sortFunc {ρ : Go.Shelf.Ren} (L : Go.Proofs.SlLaysF.n6 P ρ) {id e n f : Nat} {cs : List AV} (hH : H[id]? = some (.vec e 1 n cs)) (hn : n < 4611686018427387904) (rows : Nat → List (List AV)) (cf : Nat → Nat → Int)
  (hrd : ∀ i (h : i < cs.length), Rd H id cs[i] (rows i)) (eg : ∀ args w, (callFunc f args).run P w = .ok (.enter f args) w)
  (hcmp : ∀ i j, i < n → j < n → ACalls P f [.sl (rows i) .none, .sl (rows j) .none] [] fun r _ => r = .int .i64 (cf i j))
  (hO1 : ∀ i, i < n → ¬ cf i i < 0) (hO2 : ∀ i j k, i < n → j < n → k < n → cf i j < 0 → cf j k < 0 → cf i k < 0) (hO3 : ∀ i j k, i < n → j < n → k < n → ¬ cf i j < 0 → ¬ cf j k < 0 → ¬ cf i k < 0)
  {K : Kt} (hK : ∀ p : List Nat, p.Perm (List.range n) → (∀ a b (ha : a < p.length) (hb : b < p.length), a < b → ¬ cf p[b] p[a] < 0) → K (.tup []) (H.set id (.vec e 1 n (p.map fun i => cs.getD i .unk)))) :
  ACalls P (ρ.f 6) [.ov id n, .fn f []] H K := by
 rintro B w G ⟨vs⟩ hR hv
 match vs, hv with
 | [v1, v2], ⟨h1, h2, _⟩ =>
 obtain ⟨⟨a0, cap0, rfl, _⟩, v', s0, n', hμ, hle, heq⟩ := h1
 obtain ⟨ws, rfl, hws⟩ := h2
 have hws : ws = #[] := by
  cases hwl : ws.toList with
  | nil => exact Array.toList_inj.1 hwl
  | cons x l => rw [hwl] at hws; exact hws.elim
 subst hws
 obtain ⟨rfl, rfl, ⟨xs, hown, hcs⟩, hL0⟩ := hR.ok id _ _ hH hμ
 obtain rfl := heq rfl
 have hxl := hown.1
 have hcl := hcs.length
 rw [Nat.mul_one] at hxl
 match n, hxl, hH, hn, hcmp, hO1, hO2, hO3, hK, hμ, hown with
 | 0, hxl, hH, hn, hcmp, hO1, hO2, hO3, hK, hμ, hown =>
  refine (Go.Proofs.AnyF.slices_SortFunc_none (P := P) (ρ := ρ) { L with } a0 cap0 _ w).mono ?_
  rintro e' w' ⟨rfl, rfl⟩
  have hc : cs = [] := by
   cases cs with
   | nil => rfl
   | cons x l => simp at hcl; omega
  subst hc
  have := hK [] (by simp) (by simp)
  refine ⟨_, .tup [], _, G, rfl, Ext.refl _ _ _, ?_, ⟨#[], rfl, trivial⟩, this⟩
  have hs : H.set id (.vec e 1 0 []) = H := by
   refine List.ext_getElem? fun i => ?_
   rw [List.getElem?_set]
   split
   ·rename_i hi; subst hi; rw [if_pos (List.getElem?_eq_some_iff.1 hH).1, hH]
   ·rfl
  simpa [hs] using hR
 | n + 1, hxl, hH, hn, hcmp, hO1, hO2, hO3, hK, hμ, hown =>
  obtain ⟨_, ho⟩ := hown
  rcases ho with ⟨h1, h0⟩ | ⟨g, cap, cur, h1, hB, hw, hcap, hcm, hsz, htk⟩
  ·omega
  cases h1
  have hwl : g < w.heap.size := (Array.getElem?_eq_some_iff.1 hw).1
  let vals : Fin (n + 1) → Value := fun i => xs[i.1]'(by rw [hxl]; exact i.2)
  have hval : ∀ i : Fin (n + 1), ARel w G (vals i) (cs[i.1]'(by rw [← hcl, hxl]; exact i.2)) := fun i => by
   obtain ⟨x, hx, hr⟩ := All2.get hcs (List.getElem?_eq_getElem (by rw [← hcl, hxl]; exact i.2 : i.1 < cs.length))
   rw [List.getElem?_eq_getElem (by rw [hxl]; exact i.2)] at hx
   cases hx
   exact hr
  have hdr : ∀ i : Fin (n + 1), DRel w (Lx w G g) (vals i) (.sl (rows i) .none) := fun i => (hrd i.1 (by rw [← hcl, hxl]; exact i.2)).rel hR hH hμ (hval i)
  have hone : Go.Proofs.OneCell vals := fun i => by
   have := hdr i
   generalize vals i = v at *
   generalize rows i.1 = r at *
   cases this <;> rfl
  have hlays := zwi (P := P) (f := f) (n := n + 1) hR hdr hcmp
  let d : Array (Fin (n + 1)) := Array.ofFn fun i => i
  have hds : d.size = n + 1 := by simp [d]
  have hholds : Holds vals w g 0 d := by
   intro j hj
   rw [hds] at hj
   have hc : cur[j]? = some (vals ⟨j, hj⟩) := by
    have : xs[j]? = some (vals ⟨j, hj⟩) := List.getElem?_eq_getElem _
    rw [← htk, Nat.mul_one, List.getElem?_take, if_pos hj] at this
    simpa using this
   refine ⟨?_, ?_⟩
   ·rw [Nat.zero_add]
    have hdj : d[j]! = ⟨j, hj⟩ := by
     rw [getElem!_pos d j (by rw [hds]; exact hj)]
     simp [d]
    rw [hdj]
    simp [World.cell?, hw, hc]
   ·simp [World.frozen?, hw]
  have hO : SWO (ltOf fun i j : Fin (n + 1) => cf i j) := ⟨fun x => by simp only [ltOf, decide_eq_false_iff_not]; exact hO1 x x.2,
   fun x y z h1 h2 => by simp only [ltOf, decide_eq_true_eq] at *; exact hO2 x y z x.2 y.2 z.2 h1 h2,
   fun x y z h1 h2 => by simp only [ltOf, decide_eq_false_iff_not] at *; exact hO3 x y z x.2 y.2 z.2 h1 h2⟩
  have hmain := Go.Proofs.Any.slices_SortFunc (P := P) (ρ := ρ) L vals hone (fun i j => cf i j) hO f #[] g 0 cap0 d w eg (by rw [hds]; exact hlays) hholds hwl (by rw [hds]; exact hn)
  rw [hds] at hmain
  refine hmain.mono ?_
  rintro e' w' ⟨rfl, d', m, os, hp, hsrt, rfl⟩
  obtain ⟨hp1, _, hp3⟩ := hp
  have hds' : d'.size = n + 1 := hp1.trans hds
  have hpm : (d'.toList.map Fin.val).Perm (List.range (n + 1)) := by
   have h1 : d'.toList.Perm d.toList := by
    have e1 : (d'.extract 0 (n + 1)) = d' := zoL d' hds'
    have e2 : (d.extract 0 (n + 1)) = d := zoL d hds
    rwa [e1, e2] at hp3
   exact (h1.map Fin.val).trans (List.Perm.of_eq (zvq _))
  have hS := hR.sorted hH hμ vals d' hds' (cs' := (d'.toList.map Fin.val).map fun i => cs.getD i .unk) (All2.of_get (by simp) fun i x y hx hy => by
   simp only [List.map_map, List.getElem?_map, Option.map_eq_some_iff] at hx hy
   obtain ⟨k, hk, rfl⟩ := hx
   obtain ⟨k', hk', rfl⟩ := hy
   rw [hk] at hk'
   cases hk'
   have hlt : k.1 < cs.length := by rw [← hcl, hxl]; exact k.2
   have := hval k
   simp only [Function.comp_def, List.getD_eq_getElem?_getD, List.getElem?_eq_getElem hlt, Option.getD_some]
   exact this) m os
  refine ⟨_, .tup [], _, G, rfl, hS.1, hS.2, ⟨#[], rfl, trivial⟩, hK _ hpm fun a b ha hb hab => ?_⟩
  simp only [List.length_map, Array.length_toList] at ha hb
  have := hsrt a b (Nat.zero_le _) hab (by omega)
  rw [getElem!_pos d' a ha, getElem!_pos d' b hb] at this
  simp only [ltOf, decide_eq_false_iff_not] at this
  simpa using this
end Go.Abs
namespace Go.Proofs.YtacebbdfgbfgiaaGreat
open Go Go.Shelf Go.Abs
def zw8 : Go.Shelf.Ren := ⟨fun | 6 => 32 | 15 => 57 | 14 => 56 | 28 => 80 | 29 => 81 | 20 => 72 | 21 => 73 | 22 => 74 | 23 => 75 | 24 => 76 | 25 => 77 | 26 => 78 | 27 => 79 | 46 => 98 | 47 => 99 | 48 => 100 | 49 => 101 | 50 => 102 | 57 => 115 | n => n, fun | 22 => 31 | 24 => 26 | 25 => 41 | 3 => 3 | 39 => 82 | 0 => 0 | 53 => 107 | 55 => 109 | 4 => 4 | 46 => 101 | 45 => 100 | 50 => 92 | 5 => 5 | 9 => 9 | 66 => 119 | 70 => 54 | 76 => 144 | 77 => 145 | n => n, fun | n => n⟩
theorem zw7 : Go.Proofs.SlLaysF.n6 tP zw8 := {
 mixed := by kernel_rfl
 f6 := ⟨Tryz.f32.name, by decide, Tryz.func32.trans (congrArg some (by kernel_rfl))⟩
 f14 := ⟨Tryz.f56.name, by decide, Tryz.func56.trans (congrArg some (by kernel_rfl))⟩
 f15 := Tryz.func57.trans (congrArg some (by kernel_rfl))
 f20 := ⟨Tryz.f72.name, by decide, Tryz.func72.trans (congrArg some (by kernel_rfl))⟩
 f21 := ⟨Tryz.f73.name, by decide, Tryz.func73.trans (congrArg some (by kernel_rfl))⟩
 f22 := ⟨Tryz.f74.name, by decide, Tryz.func74.trans (congrArg some (by kernel_rfl))⟩
 f23 := ⟨Tryz.f75.name, by decide, Tryz.func75.trans (congrArg some (by kernel_rfl))⟩
 f24 := ⟨Tryz.f76.name, by decide, Tryz.func76.trans (congrArg some (by kernel_rfl))⟩
 f25 := ⟨Tryz.f77.name, by decide, Tryz.func77.trans (congrArg some (by kernel_rfl))⟩
 f26 := ⟨Tryz.f78.name, by decide, Tryz.func78.trans (congrArg some (by kernel_rfl))⟩
 f27 := ⟨Tryz.f79.name, by decide, Tryz.func79.trans (congrArg some (by kernel_rfl))⟩
 f28 := Tryz.func80.trans (congrArg some (by kernel_rfl))
 f29 := Tryz.func81.trans (congrArg some (by kernel_rfl))
 f46 := ⟨Tryz.f98.name, by decide, Tryz.func98.trans (congrArg some (by kernel_rfl))⟩
 f47 := Tryz.func99.trans (congrArg some (by kernel_rfl))
 f48 := Tryz.func100.trans (congrArg some (by kernel_rfl))
 f49 := ⟨Tryz.f101.name, by decide, Tryz.func101.trans (congrArg some (by kernel_rfl))⟩
 f50 := ⟨Tryz.f102.name, by decide, Tryz.func102.trans (congrArg some (by kernel_rfl))⟩
 f57 := ⟨Tryz.f115.name, by decide, Tryz.func115.trans (congrArg some (by kernel_rfl))⟩
 t0 := Tryz.underlying0
 a0 := Tryz.isAgg0
 z0 := Tryz.sizeOf0
 v0 := Tryz.zeroValue0
 t3 := Tryz.underlying3
 a3 := Tryz.isAgg3
 z3 := Tryz.sizeOf3
 v3 := Tryz.zeroValue3
 t4 := Tryz.underlying4
 a4 := Tryz.isAgg4
 z4 := Tryz.sizeOf4
 v4 := Tryz.zeroValue4
 t5 := Tryz.underlying5
 a5 := Tryz.isAgg5
 z5 := Tryz.sizeOf5
 v5 := Tryz.zeroValue5
 t9 := Tryz.underlying9
 a9 := Tryz.isAgg9
 z9 := Tryz.sizeOf9
 v9 := Tryz.zeroValue9
 t22 := Tryz.underlying31
 a22 := Tryz.isAgg31
 z22 := Tryz.sizeOf31
 v22 := Tryz.zeroValue31
 a24 := Tryz.isAgg26
 z24 := Tryz.sizeOf26
 t25 := Tryz.underlying41
 a25 := Tryz.isAgg41
 z25 := Tryz.sizeOf41
 v25 := Tryz.zeroValue41
 t39 := Tryz.underlying82
 a39 := Tryz.isAgg82
 z39 := Tryz.sizeOf82
 v39 := Tryz.zeroValue82
 t45 := Tryz.underlying100
 a45 := Tryz.isAgg100
 z45 := Tryz.sizeOf100
 v45 := Tryz.zeroValue100
 t46 := Tryz.underlying101
 a46 := Tryz.isAgg101
 z46 := Tryz.sizeOf101
 v46 := Tryz.zeroValue101
 t50 := Tryz.underlying92
 a50 := Tryz.isAgg92
 z50 := Tryz.sizeOf92
 v50 := Tryz.zeroValue92
 t53 := Tryz.underlying107
 a53 := Tryz.isAgg107
 z53 := Tryz.sizeOf107
 v53 := Tryz.zeroValue107
 t55 := Tryz.underlying109
 a55 := Tryz.isAgg109
 z55 := Tryz.sizeOf109
 v55 := Tryz.zeroValue109
 t66 := Tryz.underlying119
 a66 := Tryz.isAgg119
 z66 := Tryz.sizeOf119
 v66 := Tryz.zeroValue119
 t70 := Tryz.underlying54
 a70 := Tryz.isAgg54
 z70 := Tryz.sizeOf54
 v70 := Tryz.zeroValue54
 t76 := Tryz.underlying144
 a76 := Tryz.isAgg144
 z76 := Tryz.sizeOf144
 v76 := Tryz.zeroValue144
 t77 := Tryz.underlying145
 a77 := Tryz.isAgg145
 z77 := Tryz.sizeOf145
 v77 := Tryz.zeroValue145 }
end Go.Proofs.YtacebbdfgbfgiaaGreat
namespace Go.Abs
open Go Go.RowKit
variable {P : Program} {B : Nat} {w : World} {G : Gh} {H : zaa}
def Lmx (w : World) (G : Gh) (b : Nat) : Nat := Nat.max (G.L b) (zbC w b)
theorem zu2 (h : HRel B w G H) : HRel w.heap.size w ⟨Lmx w G, []⟩ [] :=
 ⟨rfl, fun _ _ _ h => by simp at h, fun _ _ _ _ _ h => by simp at h, fun b hb => by
  show Lmx w G b = 0
  unfold Lmx
  rw [h.fresh b hb]
  simp only [zbC]
  rw [Array.getElem?_eq_none hb]
  rfl, fun _ _ _ h => by simp at h, Nat.le_refl _⟩
inductive RdA (H : zaa) : AV → AV → Prop
 | sl (es : List (List AV)) : RdA H (.sl es .none) (.sl es .none)
 | int (k : IntKind) (n : Int) : RdA H (.int k n) (.int k n)
 | bool (b : Bool) : RdA H (.bool b) (.bool b)
 | str (s : List UInt8) : RdA H (.str s) (.str s)
 | ms (id off len cap size : Nat) (cs : List AV) (row : List (List AV)) (hH : H[id]? = some (.cells cs)) (hfit : off + len * size ≤ cs.length) (hp : zaD ((cs.drop off).take (len * size)) = some row.flatten) (hlen : row.length = len)
   (hsz : ∀ c ∈ row, c.length = size) (hcap : len ≤ cap) : RdA H (.ms id off len cap) (.sl row .none)
 | ov (id e size m : Nat) (cs : List AV) (row : List (List AV)) (hH : H[id]? = some (.vec e size m cs)) (hp : zaD cs = some row.flatten) (hlen : row.length = m) (hsz : ∀ c ∈ row, c.length = size) : RdA H (.ov id m) (.sl row .none)
theorem RdA.rel (h : HRel B w G H) {a b : AV} (hr : RdA H a b) {v : Value} (hv : ARel w G v a) : DRel w (Lmx w G) v b := by
 have hmono : ∀ {v : Value} {a : AV}, DRel w G.L v a → DRel w (Lmx w G) v a := fun h => h.mono (fun b => Nat.le_max_left _ _) fun _ _ _ => rfl
 cases hr with
 | sl es => exact hmono hv
 | int k n => have hv : v = .int k n := hv; subst hv; exact .int k n
 | bool b => have hv : v = .bool b := hv; subst hv; exact .bool b
 | str s => have hv : v = .string ⟨s.toArray⟩ := hv; subst hv; exact .str s
 | ms i2 off len cap2 size cs2 row hH2 hfit hp hlen hsz hcap =>
  obtain ⟨b, hb, rfl⟩ := hv
  obtain ⟨_, _, vs, _, hw, hcs⟩ := h.ok i2 _ _ hH2 hb
  subst hlen
  by_cases hes : row = []
  ·subst hes; exact .slE _ _
  ·have hl := hcs.length
   refine DRel.of_flat_at (zs := (vs.toList.drop off).take (row.length * size)) hsz hes hcap ?_ ((zcG ((hcs.drop off).take _) hp).mono fun _ _ => hmono) ?_
   ·refine Nat.le_trans ?_ (Nat.le_max_right _ _)
    simp [zbC, hw]
    simp at hl
    omega
   ·intro j u hj
    rw [List.getElem?_take] at hj
    split at hj
    ·simp only [World.cell?, hw]
     simpa using hj
    ·cases hj
 | ov i2 e2 size m cs2 row hH2 hp hlen hsz =>
  obtain ⟨⟨a, cap0, rfl, _⟩, v', s0, n', hμ2, _, heq⟩ := hv
  obtain ⟨rfl, rfl, ⟨xs, hown, hcs⟩, _⟩ := h.ok i2 _ _ hH2 hμ2
  obtain rfl := heq rfl
  subst hlen
  by_cases hes : row = []
  ·subst hes; exact .slE _ _
  ·have hown2 := hown
   obtain ⟨hl, hrow⟩ := hown2
   rcases hrow with ⟨h1, h2⟩ | ⟨g2, cap2, cur, h1, h2, h3, h4, h5, h6, h7⟩
   ·cases row <;> simp_all
   ·simp at h1
    obtain ⟨rfl, rfl⟩ := h1
    obtain ⟨_, _, _, hcell⟩ := zcF hown
    refine DRel.of_flat_at (zs := xs) hsz hes h4 ?_ ((zcG hcs hp).mono fun _ _ => hmono) ?_
    ·refine Nat.le_trans ?_ (Nat.le_max_right _ _)
     simp only [zbC, h3, h6, Nat.zero_add]
     exact Nat.mul_le_mul_right _ h4
    ·intro j u hj
     rw [Nat.zero_add, hcell j (by rw [← hl]; exact (List.getElem?_eq_some_iff.1 hj).1)]
     exact hj
theorem RdA.trel (h : HRel B w G H) {a b : AV} (hr : RdA H a b) {v : Value} (hv : ARel w G v a) : ARel w ⟨Lmx w G, []⟩ v b := by
 have hd := hr.rel h hv
 cases hr with
 | sl es => exact hd
 | int k n => exact hv
 | bool b => exact hv
 | str s => exact hv
 | ms i2 off len cap2 size cs2 row hH2 hfit hp hlen hsz hcap => exact hd
 | ov i2 e2 size m cs2 row hH2 hp hlen hsz => exact hd
inductive RdT (H : zaa) : AV → AV → Prop
 | one {a b : AV} (h : RdA H a b) : RdT H a b
 | agg {asx bs : List AV} (h : All2 (RdA H) asx bs) : RdT H (.agg asx) (.agg bs)
theorem RdT.rel (h : HRel B w G H) {a b : AV} (hr : RdT H a b) {v : Value} (hv : TRel w G v a) : TRel w ⟨Lmx w G, []⟩ v b := by
 cases hr with
 | one hr =>
  have hv' : ARel w G v a := by cases hr <;> exact hv
  exact TRel.of_v (VRel.of_a (hr.trel h hv'))
 | agg hr =>
  obtain ⟨us, hu, hv⟩ := hv
  refine ⟨us, hu, ?_⟩
  exact All2.of_get (hv.length.trans hr.length) fun i x y hx hy => by
   obtain ⟨a, ha, hxa⟩ := All2.get' hv hx
   obtain ⟨y', hy', hay⟩ := All2.get' hr ha
   rw [hy] at hy'
   cases hy'
   exact hay.trel h hxa
def zoQ : AV → Prop
 | .bool _ | .int _ _ | .tup [] => True
 | _ => False
theorem zuP {r : AV} (h : zoQ r) {w w' : World} {G G' : Gh} {v : Value} (hv : TRel w G v r) : TRel w' G' v r := by
 match r, h with
 | .bool _, _ => exact hv
 | .int _ _, _ => exact hv
 | .tup [], _ =>
  obtain ⟨us, hu, hr⟩ := hv
  refine ⟨us, hu, ?_⟩
  generalize us.toList = l at *
  cases l with
  | nil => trivial
  | cons _ _ => exact hr.elim
theorem ACalls.pureR {f : FuncId} {args args' : List AV} {r0 : AV} (h : ACalls P f args' [] fun r _ => r = r0) (hr0 : zoQ r0) (ha : All2 (RdT H) args args') {K : Kt} (hK : K r0 H) : ACalls P f args H K := by
 intro B w G vs hH hv
 refine (h w.heap.size w ⟨Lmx w G, []⟩ vs (zu2 hH) (All2.of_get (hv.length.trans ha.length) fun i x y hx hy => by
   obtain ⟨a, ha', hxa⟩ := All2.get' hv hx
   obtain ⟨y', hy', hay⟩ := All2.get' ha ha'
   rw [hy] at hy'
   cases hy'
   exact hay.rel hH hxa)).mono fun e w' he => ?_
 obtain ⟨v, r, H', G', rfl, h1, h2, h3, rfl⟩ := he
 have hx : Ext B w G w' G := by
  refine ⟨h1.dr, h1.below.mono hH.base, fun _ => Nat.le_refl _, fun b off ho => ?_, fun _ gi h => ⟨gi, h, gi.le_refl⟩⟩
  refine h1.below.cell ?_
  by_cases hb : b < w.heap.size
  ·exact hb
  ·have := hH.fresh b (by omega)
   omega
 have hb : ∀ b, b < w.heap.size → w'.heap[b]? = w.heap[b]? := fun b hb => h1.below.block b hb
 exact ⟨v, _, H, G, rfl, hx, hH.keep hx rfl (fun id gi b h3 h4 => ⟨hb b (hH.lt id gi b h3 h4), rfl⟩) (fun b hbb => hH.fresh b (by have := h1.below.size; omega)), zuP hr0 h3, hK⟩
end Go.Abs
namespace Go.Proofs.YtacebbdfgbfgiaaGreat
open Go Go.Abs
set_option maxRecDepth 8000
theorem zhe (r : List IT) : zaD (zaA r) = some (zaA r) := by
 induction r with
 | nil => rfl
 | cons x r ih =>
  obtain ⟨n, ks⟩ := x
  rw [zdb]
  simp [IT.cs, zaD, AV.pd, ih]
theorem zdr {c : List AV} {r : List IT} (h : c ∈ IT.css r) : c.length = 2 := by
 rw [IT.css_map] at h
 obtain ⟨x, _, rfl⟩ := List.mem_map.1 h
 simp
theorem ztZ (a b : List IT) (he : a.length = b.length) (ha : a.length ≤ 1000) (hn : ∀ x ∈ a, x.nodes ≤ 1000000) (H : zaa) (K : Kt) (hK : K (.int .i64 (IT.cmpL a b)) H) :
  ACalls tP zkF [.sl (IT.css a) .none, .sl (IT.css b) .none] H K := by
 refine ACalls.out (zAH fun hs => ?_)
 simp [zr6]
 refine zot a b he (by omega) (fun i h h' H K hK => zu3 _ _ _ (Nat.le_refl _) (hn _ (List.getElem_mem h)) H K hK) _ _ ?_
 exact zd4 hs rfl rfl hK
theorem zqa {H : zaa} {id : Nat} {b : AB} (h : H[id]? = some b) : H.set id b = H := by
 refine List.ext_getElem? fun i => ?_
 rw [List.getElem?_set]
 split
 ·rename_i hi; subst hi; rw [if_pos (List.getElem?_eq_some_iff.1 h).1, h]
 ·rfl
def zd6 (rs : List (List IT)) : AV := .sl (rs.map fun r => [.sl (IT.css r) .none]) .none
theorem zqt {H H1 : zaa} {id w : Nat} {rows : List (List IT)} (hpre : H <+: H1) (hs : HSc H) (hR : RowsH H1 H.length id rows) (hw : ∀ r ∈ rows, r.length = w) (hw8 : w ≤ 1000) (hnd : ∀ r ∈ rows, ∀ x ∈ r, x.nodes ≤ 1000) (hlen : rows.length ≤ 1000000000)
  (K : Kt) (hK : ∀ rs, rs.Perm rows → rs.Pairwise rle → K (.tup [zd6 rs, .int .i64 0]) H) : zga (.ov id rows.length) H1 (zeo H.length K) := by
 obtain ⟨hlo, cs, hcs, hcells⟩ := hR
 have hcl := hcells.length
 unfold zga
 refine ACalls.sortFunc zw7 hcs (by omega) (fun i => IT.css (rows.getD i [])) (fun i j => IT.cmpL (rows.getD i []) (rows.getD j [])) (fun i hi => ?_) (fun args w => rfl) (fun i j hi hj => ?_) (fun i hi => ?_) (fun i j k hi hj hk h1 h2 => ?_) (fun i j k hi hj hk h1 h2 => ?_) (fun p hp hsort => ?_)
 ·obtain ⟨r, hr, hc⟩ := All2.get' hcells (List.getElem?_eq_getElem hi)
  have hrd : rows.getD i [] = r := by simp [List.getD_eq_getElem?_getD, hr]
  simp only [hrd]
  rcases hc with ⟨rfl, h⟩ | ⟨hne, b, h, h1, h2, h3⟩
  ·exact .inl h
  ·exact .inr (.inr ⟨b, zaw, 2, r.length, zaA r, h, h2, h3, zhe r, by simp, fun c hc => zdr hc⟩)
 ·have ei : rows.getD i [] = rows[i] := by simp [List.getD_eq_getElem?_getD, hi]
  have ej : rows.getD j [] = rows[j] := by simp [List.getD_eq_getElem?_getD, hj]
  rw [ei, ej]
  have m1 := List.getElem_mem hi
  have m2 := List.getElem_mem hj
  exact ztZ _ _ (by rw [hw _ m1, hw _ m2]) (by rw [hw _ m1]; exact hw8) (fun x hx => by have := hnd _ m1 x hx; omega) _ _ rfl
 ·have := IT.cmpL_anti (rows.getD i []) (rows.getD i [])
  omega
 ·have := IT.cmpL_tri (rows.getD i []) (rows.getD j []) (rows.getD k [])
  unfold Tri at this
  omega
 ·have := IT.cmpL_tri (rows.getD k []) (rows.getD j []) (rows.getD i [])
  have a1 := IT.cmpL_anti (rows.getD i []) (rows.getD j [])
  have a2 := IT.cmpL_anti (rows.getD j []) (rows.getD k [])
  have a3 := IT.cmpL_anti (rows.getD i []) (rows.getD k [])
  unfold Tri at this
  omega
 ·have hplen : p.length = rows.length := by simpa using hp.length_eq
  have hpm : ∀ i ∈ p, i < rows.length := fun i hi => by simpa using hp.subset hi
  have hrs : (p.map fun i => rows.getD i []).Perm rows := by
   have h1 := hp.map fun i => rows.getD i []
   have h2 : (List.range rows.length).map (fun i => rows.getD i []) = rows := List.ext_getElem (by simp) fun i h1 h2 => by simp [List.getD_eq_getElem?_getD, h2]
   rwa [h2] at h1
  have hpw : (p.map fun i => rows.getD i []).Pairwise rle := by
   rw [List.pairwise_iff_getElem]
   intro a b ha hb hab
   simp only [List.getElem_map]
   exact hsort a b (by simpa using ha) (by simpa using hb) hab
  have hK := hK _ hrs hpw
  generalize hrsd : (p.map fun i => rows.getD i []) = rs at *
  have hrl : rs.length = rows.length := hrs.length_eq
  generalize hcsd : (p.map fun i => cs.getD i .unk) = cs' at *
  have hcells' : All2 (CellR H1 H.length id) cs' rs := by
   subst hrsd hcsd
   refine All2.of_get (by simp) fun i x y hx hy => ?_
   simp only [List.getElem?_map, Option.map_eq_some_iff] at hx hy
   obtain ⟨k, hk, rfl⟩ := hx
   obtain ⟨k', hk', rfl⟩ := hy
   rw [hk] at hk'
   cases hk'
   have hlt := hpm k (List.mem_of_getElem? hk)
   obtain ⟨r, hr, hc⟩ := All2.get' hcells (List.getElem?_eq_getElem (by omega : k < cs.length))
   simp only [List.getD_eq_getElem?_getD, hr, Option.getD_some, List.getElem?_eq_getElem (by omega : k < cs.length)]
   exact hc
  have hidl := (List.getElem?_eq_some_iff.1 hcs).1
  have hset : (H1.set id (.vec zbm 1 rows.length cs'))[id]? = some (.vec zbm 1 rows.length cs') := List.getElem?_set_self hidl
  have hcells2 : All2 (CellR (H1.set id (.vec zbm 1 rows.length cs')) H.length id) cs' rs := hcells'.mono fun c r hc => hc.keep (Nat.le_refl _) fun b _ hb _ => ⟨hb, List.getElem?_set_ne (fun h => hb h.symm)⟩
  have hpre2 := zd5 (b := .vec zbm 1 rows.length cs') hpre hlo
  have hwr : ∀ r ∈ rs, r.length = w := fun r hr => hw r (hrs.subset hr)
  have hndr : ∀ r ∈ rs, ∀ x ∈ r, x.nodes ≤ 1000 := fun r hr => hnd r (hrs.subset hr)
  generalize H1.set id (.vec zbm 1 rows.length cs') = H2 at *
  clear hcells hcells' hcs hsort hp
  have hcl2 := hcells2.length
  simp
  refine zED (Inv := fun q t133 H' => ∃ i : Nat, i ≤ rows.length ∧ q = rows.length - i ∧ t133 = .int .i64 i ∧ H' = H2) rows.length ?_ ?_
  ·intro _; exact ⟨0, by omega, by omega, rfl, rfl⟩
  ·rintro q t133 H' ⟨i, hi, rfl, rfl, rfl⟩ hsc hlen' hsF Kb hKb
   by_cases hlt : i < rows.length
   ·have hir : i < cs'.length := by omega
    obtain ⟨r, hr, hc⟩ := All2.get' hcells2 (List.getElem?_eq_getElem hir)
    have hrm := List.mem_of_getElem? hr
    have hrw := hwr r hrm
    simp [znE, hlt, hset]
    rw [zt8 1 (List.getElem?_eq_getElem hir)]
    have hHn : H.length ≤ H'.length := hpre2.length_le
    have hidn := (List.getElem?_eq_some_iff.1 hset).1
    have hnext : ∀ t138 : AV, Kb (zf9 (.ov id rows.length) (.ov id rows.length) (.int .i64 rows.length) (.int .i64 ((i : Int) + 1))) H' := fun _ => by
     refine hKb _ _ ⟨rows.length - (i + 1), by omega, Back.at (J := []) (H2 := H') (by simp) hlen' hsc ?_ ⟨_, rfl, i + 1, by omega, rfl, by simp, rfl⟩⟩
     simp [zf9, AV.sc, AV.scV, AV.scA, AV.scB, hidn]
    have hlen : ∀ k : AV → Prop, k (.int .i64 r.length) → zah 1 cs'[i] k := fun k hk => by
     rcases hc with ⟨rfl, h⟩ | ⟨hne, b, h, h1, h2, h3⟩
     ·rw [h]; simpa using hk
     ·rw [h]; simpa using hk
    refine hlen _ ?_
    refine zEE (Inv := fun q t139 H3 => ∃ k : Nat, k ≤ r.length ∧ q = r.length - k ∧ t139 = .int .i64 k ∧ H3 = H') r.length ?_ ?_
    ·intro _; exact ⟨0, by omega, by omega, rfl, rfl⟩
    ·rintro q t139 H3 ⟨k, hk, rfl, rfl, rfl⟩ hsc3 hlen3 hsF3 Kb3 hKb3
     by_cases hkl : k < r.length
     ·rcases hc with ⟨rfl, h⟩ | ⟨hne, b, h, h1, h2, h3⟩
      ·simp at hkl
      ·obtain ⟨x, y, hvx, hx, hy⟩ := zb2 r[k]
       have hself := zfR r k r[k] hkl
       rw [List.set_getElem_self] at hself
       have htk : List.take 2 (List.drop (k * 2) (zaA r)) = (r[k]).cs := by
        rw [← hself]
        have h4 : (List.take (k * 2) (zaA r)).length = k * 2 := by rw [List.length_take, zcU]; omega
        rw [List.append_assoc, List.drop_append_of_le_length (by omega), List.drop_of_length_le (by omega), List.nil_append, hvx]
        simp
       have hbl := (List.getElem?_eq_some_iff.1 h3).1
       simp [znF, hkl, h, h3]
       rw [htk]
       refine ⟨by rw [zcU]; omega, ?_⟩
       refine zsb _ (r[k]) (Nat.le_refl _) (by have := hndr r hrm _ (List.getElem_mem hkl); omega) _ _ ?_
       simp [h3, hkl]
       refine ⟨by rw [zcU]; omega, ?_⟩
       rw [← List.append_assoc, hself, zqa h3, zan (by omega) (by omega)]
       refine hKb3 _ _ ⟨r.length - (k + 1), by omega, Back.at (J := []) (H2 := H3) (by simp) (by omega) hsc3 ?_ ⟨.int .i64 ((k : Int) + 1), by simp only [h], k + 1, by omega, rfl, by simp, rfl⟩⟩
       simp [zjJ, AV.sc, AV.scV, AV.scA, AV.scB, hidn, hbl]
     ·obtain rfl : k = r.length := by omega
      simp [znF]
      rw [zan (by omega) (by omega)]
      exact hnext (.int .i64 0)
   ·obtain rfl : i = rows.length := by omega
    simp [znE]
    refine ⟨⟨rfl, rfl⟩, ?_⟩
    obtain ⟨J, hJ⟩ := hpre2
    refine ⟨.tup [zd6 rs, .int .i64 0], H, J, hJ.symm, Nat.le_refl _, hs, .tup ⟨?_, .one (.wk (.atom (.refl _)) rfl rfl), trivial⟩, hK⟩
    have hrw : zd6 rs = .sl ((rs.map IT.css).map fun r => [.sl r .none]) .none := by simp [zd6]
    rw [hrw]
    refine .rows id zbm rows.length cs' (rs.map IT.css) hlo hset (by simp [hrl]) (All2.of_get (by simpa using hcl2) fun i x y hx hy => ?_)
    obtain ⟨r, hr, hc⟩ := All2.get' hcells2 hx
    simp only [List.map_map, List.getElem?_map, hr, Option.map_some, Function.comp_apply, Option.some.injEq] at hy
    subst hy
    rcases hc with ⟨rfl, rfl⟩ | ⟨hne, b, rfl, h1, h2, h3⟩
    ·exact .wk (.atom (.refl _)) rfl rfl
    ·exact .vfz b zaw 2 r.length (zaA r) (IT.css r) h1 h3 (zhe r) (by simp) (fun c hc => zdr hc)
end Go.Proofs.YtacebbdfgbfgiaaGreat
namespace Go.Proofs.YtacebbdfgbfgiaaGreat
open Go Go.Abs
set_option maxRecDepth 8000
theorem zlo {data : List Dat} {tn : Int} {tks : List VT} (ht : zbc data 0 (.mk 5 tn tks) = true) : 0 ≤ tn ∧ tn.toNat < data.length := by
 rw [zbc, Bool.and_eq_true] at ht
 have h := ht.2
 simp only [zaN, zaU, Bool.and_eq_true] at h
 have h1 := h.1
 simp at h1
 refine ⟨h1.1, ?_⟩
 have h2 := h1.2
 split at h2
 ·rename_i d hd
  exact (List.getElem?_eq_some_iff.1 hd).1
 ·simp at h2
def zbJ (l : List VT) (P : List Nat) : List IT := fill (List.replicate l.length (.mk 0 [])) P (P.map fun j => zbp (l.getD j (.mk 0 0 [])))
def zcI (base : List IT) (P R : List Nat) (c : Int) : List IT → List (List IT)
 | [] => []
 | .mk c' ps :: rest => if c' = c then za7 (fill base P ps) R rest else []
def zcv (l : List VT) (bs : List Bool) (c : Int) (kids : List IT) : List (List IT) :=
 za7 (zbJ l (pos false bs bs.length)) (pos true bs bs.length) kids ++ zcI (zbJ l (pos false bs bs.length)) (pos false bs bs.length) (pos true bs bs.length) c kids
def zaC : IT → List IT
 | .mk _ ks => ks
def zcB (data : List Dat) (t : VT) (c : Int) (v : IT) : Option Int :=
 if zaP data t v < 0 then some 1 else if t.kind ≠ 5 then some 6 else if c < 0 ∨ ((data.getD t.num.toNat ⟨[], 0, []⟩).cons.length : Int) ≤ c then some 8 else if zaJ data t c = none then some 0 else none
mutual
theorem zqQ : ∀ t : VT, (zbp t).nodes ≤ t.nodes
 | .mk k n ks => by
  have := zqP ks
  simp only [zbp, VT.nodes, IT.nodes]
  split
  ·omega
  ·simp [IT.nodesL]
theorem zqP : ∀ ts : List VT, IT.nodesL (zbR ts) ≤ VT.nodesL ts
 | [] => by simp [zbR, IT.nodesL, VT.nodesL]
 | t :: ts => by
  have := zqQ t
  have := zqP ts
  simp only [zbR, IT.nodesL, VT.nodesL]
  omega
end
theorem zkd : ∀ (ps : List Nat) (row xs : List IT) (x : IT), x ∈ fill row ps xs → x ∈ row ∨ x ∈ xs
 | [], row, xs, x, h => by simp at h; exact .inl h
 | p :: ps, row, [], x, h => by simp [fill] at h; exact .inl h
 | p :: ps, row, y :: xs, x, h => by
  rw [fill] at h
  rcases zkd ps _ xs x h with h | h
  ·rcases List.mem_or_eq_of_mem_set h with h | rfl
   ·exact .inl h
   ·exact .inr (by simp)
  ·exact .inr (by simp [h])
theorem zvm (l : List IT) (n : Nat) : IT.nodesL (l.drop n) ≤ IT.nodesL l := by
 have := IT.nodesL_app (l.take n) (l.drop n)
 rw [List.take_append_drop] at this
 omega
theorem zj5 {N : Nat} : ∀ (ps : List Nat) (row l : List IT), (∀ x ∈ row, x.nodes ≤ N) → IT.nodesL l + 1 ≤ N → ∀ r ∈ za7 row ps l, ∀ x ∈ r, x.nodes ≤ N
 | [], row, l, hr, hl, r, h => by
  simp only [za7] at h
  split at h <;> simp at h
  subst h; exact hr
 | p :: ps, row, l, hr, hl, r, h => by
  rw [zuH, List.mem_flatMap] at h
  obtain ⟨n, _, h⟩ := h
  refine zj5 ps _ _ (fun x hx => ?_) (by have := zvm l n; omega) r h
  rcases List.mem_or_eq_of_mem_set hx with hx | rfl
  ·exact hr x hx
  ·have := IT.nodesL_take_le l n
   simp only [IT.nodes]; omega
theorem zox (ps : List Nat) (row l : List IT) : ∀ r ∈ za7 row ps l, r.length = row.length := by
 rw [zgr]
 intro r h
 obtain ⟨s, _, rfl⟩ := List.mem_map.1 h
 simp
theorem zvn {l : List IT} {x : IT} (h : x ∈ l) : x.nodes ≤ IT.nodesL l := by
 induction l with
 | nil => simp at h
 | cons y l ih =>
  simp only [IT.nodesL]
  rcases List.mem_cons.1 h with rfl | h
  ·omega
  ·have := ih h; omega
theorem zuo {l : List VT} {P : List Nat} (h : ∀ x ∈ l, x.nodes ≤ 200) : ∀ x ∈ zbJ l P, x.nodes ≤ 200 := by
 intro x hx
 rcases zkd _ _ _ _ hx with hx | hx
 ·rw [List.eq_of_mem_replicate hx]; simp [IT.nodes, IT.nodesL]
 ·obtain ⟨j, _, rfl⟩ := List.mem_map.1 hx
  refine Nat.le_trans (zqQ _) ?_
  rw [List.getD_eq_getElem?_getD]
  cases hj : l[j]? with
  | none => simp [VT.nodes, VT.nodesL]
  | some y => exact h y (List.mem_of_getElem? hj)
theorem zpZ (l : List VT) (bs : List Bool) (c : Int) (kids : List IT) : ∀ r ∈ zcv l bs c kids, r.length = l.length := by
 intro r h
 unfold zcv at h
 rcases List.mem_append.1 h with h | h
 ·rw [zox _ _ _ r h]; simp [zbJ]
 ·unfold zcI at h
  split at h
  ·simp at h
  ·split at h
   ·rw [zox _ _ _ r h]; simp [zbJ]
   ·simp at h
theorem zpY {l : List VT} {bs : List Bool} {c : Int} {kids : List IT} (hl : ∀ x ∈ l, x.nodes ≤ 200) (hk : IT.nodesL kids + 1 ≤ 1000) : ∀ r ∈ zcv l bs c kids, ∀ x ∈ r, x.nodes ≤ 1000 := by
 have hb := zuo (P := pos false bs bs.length) hl
 intro r h
 unfold zcv at h
 rcases List.mem_append.1 h with h | h
 ·exact zj5 _ _ _ (fun x hx => by have := hb x hx; omega) hk r h
 ·unfold zcI at h
  split at h
  ·simp at h
  ·rename_i c' ps rest
   simp only [IT.nodesL, IT.nodes] at hk
   split at h
   ·refine zj5 _ _ _ (fun x hx => ?_) (by omega) r h
    rcases zkd _ _ _ _ hx with hx | hx
    ·have := hb x hx; omega
    ·have := zvn hx; omega
   ·simp at h
theorem zhf {a n : Nat} (ha : a ≤ 7) (hn : n ≤ 8) : a ^ n ≤ 100000000 :=
 Nat.le_trans (Nat.pow_le_pow_left ha n) (Nat.le_trans (Nat.pow_le_pow_right (by omega) hn) (by decide))
theorem zpX {l : List VT} {bs : List Bool} {c : Int} {kids : List IT} (hk : kids.length ≤ 6) (hb : bs.length ≤ 8) : (zcv l bs c kids).length ≤ 200000000 := by
 have hR := zca true bs bs.length
 unfold zcv
 rw [List.length_append]
 have h1 := Nat.le_trans (zj4 (pos true bs bs.length) (zbJ l (pos false bs bs.length)) kids) (zhf (by omega) (by omega))
 have : (zcI (zbJ l (pos false bs bs.length)) (pos false bs bs.length) (pos true bs bs.length) c kids).length ≤ 100000000 := by
  unfold zcI
  split
  ·simp
  ·rename_i c' ps rest
   split
   ·exact Nat.le_trans (zj4 _ _ _) (zhf (by simp at hk; omega) (by omega))
   ·simp
 omega
def d0 : IT := .mk 0 []
def tz : VT := .mk 0 0 []
def zbu (c : Int) (P R : List Nat) (row : List IT) : IT := .mk 0 (.mk c (P.map fun j => row.getD j d0) :: (R.map fun j => zaC (row.getD j d0)).flatten)
theorem zhc {data : List Dat} {k n : Int} {ks : List VT} {c : Int} {l : List VT} (hk : zaZ data) (hf : zaJ data (.mk k n ks) c = some l) :
  ∃ bs, l.length = bs.length ∧ l.length ≤ 8 ∧ zbg data (.mk k n ks) c = some (pick l bs) ∧ (∀ x ∈ l, x.nodes ≤ 200) ∧ k = 5 ∧
   (∀ H K, K (.sl (za0 bs) .none) H → ACalls tP zcD [.sl (data.map Dat.cs) .none, .int .i64 n, .int .i64 c] H K) ∧
   (∀ H K, K (.sl (za0 bs) .none) H → ACalls tP zdA [.sl (data.map Dat.cs) .none, .int .i64 n, .int .i64 c] H K) ∧
   (∀ j, bs.getD j false = true → l.getD j tz = .mk 5 n ks) ∧ 0 ≤ c ∧ ∃ (hn : n.toNat < data.length) (hc : c.toNat < (data[n.toNat]).cons.length), l.length = ((data[n.toNat]).cons[c.toNat]).args.length := by
 obtain ⟨k5, n0, c0, hn, hc, hv, rfl, h200⟩ := zfl hf
 obtain ⟨f1, f2, f3⟩ := zc8 hk
 have hd := List.getElem_mem hn
 have hcm := List.getElem_mem hc
 obtain ⟨g1, g2⟩ := f2 _ hd _ hcm
 have g3 := f3 _ hd
 have h8 := ((hk.2 _ hd).2.2 _ hcm).2.1
 refine ⟨zbP n.toNat data[n.toNat] (data[n.toNat]).cons[c.toNat], by simp [zbP], by simpa using h8, ?_, h200, k5, fun H K hK => ?_, fun H K hK => ?_, fun j hj => ?_, c0, hn, hc, by simp⟩
 ·simp [zbg, hf, zk5, hn, hc, List.getD_eq_getElem?_getD, VT.num]
 ·have := zmX data n.toNat c.toNat hn hc f1 g3 (by omega) (fun x hx => by have := g2 x hx; omega) H K (by simpa [za0, zbP, Function.comp_def] using hK)
  rwa [Int.toNat_of_nonneg n0, Int.toNat_of_nonneg c0] at this
 ·have := ztc data n.toNat c.toNat hn hc f1 g3 (by omega) (fun x hx => by have := g2 x hx; omega) H K hK
  rwa [Int.toNat_of_nonneg n0, Int.toNat_of_nonneg c0] at this
 ·have hjl : j < ((data[n.toNat]).cons[c.toNat]).args.length := by
   refine Nat.lt_of_not_le fun hle => ?_
   rw [List.getD_eq_getElem?_getD, List.getElem?_eq_none (by simpa [zbP] using hle)] at hj
   simp at hj
  simp only [List.getD_eq_getElem?_getD, zbP, List.getElem?_map, List.getElem?_eq_getElem hjl, Option.map_some, Option.getD_some] at hj ⊢
  rw [zv7 hj hv, Int.toNat_of_nonneg n0]
theorem zqs (f : Nat → Int) (b : Nat → Bool) : ∀ l : List Nat, (l.map f).sum = ((l.filter fun j => b j == false).map f).sum + ((l.filter fun j => b j == true).map f).sum
 | [] => by simp
 | x :: l => by
  have := zqs f b l
  cases h : b x <;> simp [List.filter_cons, h, this] <;> omega
theorem zeN (f : Nat → Int) : ∀ l : List Nat, (∀ j ∈ l, 0 ≤ f j) → 0 ≤ (l.map f).sum
 | [], _ => by simp
 | x :: l, h => by
  have h1 := h x (by simp)
  have h2 := zeN f l (fun j hj => h j (by simp [hj]))
  simp; omega
theorem zpQ {data : List Dat} (vf : Nat → IT) (tf : Nat → VT) : ∀ (P : List Nat) (a : Int), 0 ≤ a → a ≤ 6 → (∀ j ∈ P, 0 ≤ rdV data (vf j) (tf j)) →
  rdA data (P.map vf) (P.map tf) a = (if a + (P.map fun j => rdV data (vf j) (tf j)).sum > 6 then -1 else a + (P.map fun j => rdV data (vf j) (tf j)).sum)
 | [], a, h, h6, _ => by simp [rdA]; omega
 | p :: P, a, h, h6, hp => by
  have h1 := hp p (by simp)
  have h2 := zeN (fun j => rdV data (vf j) (tf j)) P (fun j hj => hp j (by simp [hj]))
  simp only [List.map_cons, rdA, List.sum_cons]
  by_cases h3 : a + rdV data (vf p) (tf p) > 6
  ·rw [if_pos (Or.inr h3), if_pos (by omega)]
  ·rw [if_neg (by omega), zpQ vf tf P _ (by omega) (by omega) (fun j hj => hp j (by simp [hj])), Int.add_assoc]
theorem zhg {data : List Dat} (m n : Int) (kk : List IT) (ks : List VT) : rdV data (.mk m kk) (.mk 5 n ks) = if m = 0 ∧ kk.length ≤ 6 then rdE data kk (.mk 5 n ks) 0 else -1 := by simp [rdV, VT.kind]
theorem zoU {data : List Dat} (h8 : ∀ D ∈ data, D.cons.length ≤ 8) {n : Int} {ks : List VT} {c : Int} {l : List VT} {bs : List Bool} (hlb : l.length = bs.length) (hpay : zbg data (.mk 5 n ks) c = some (pick l bs))
  (hrec : ∀ j, bs.getD j false = true → l.getD j tz = .mk 5 n ks) (row : List IT) (hv : ∀ j, j < bs.length → 0 ≤ rdV data (row.getD j d0) (l.getD j tz)) :
  rdV data (zbu c (pos false bs bs.length) (pos true bs bs.length) row) (.mk 5 n ks) = (if 1 + ((List.range bs.length).map fun j => rdV data (row.getD j d0) (l.getD j tz)).sum > 6 then -1 else 1 + ((List.range bs.length).map fun j => rdV data (row.getD j d0) (l.getD j tz)).sum) := by
 have hsum := zqs (fun j => rdV data (row.getD j d0) (l.getD j tz)) (fun j => bs.getD j false) (List.range bs.length)
 have hpk := zhd hlb tz l.length (Nat.le_refl _)
 rw [List.take_length, hlb, List.take_length] at hpk
 have hPl : ∀ j ∈ pos false bs bs.length, j < bs.length := fun j hj => zcH hj
 have hRl : ∀ j ∈ pos true bs bs.length, j < bs.length ∧ l.getD j tz = .mk 5 n ks := fun j hj => ⟨zcH hj, hrec j (by simp [pos] at hj; rw [List.getD_eq_getElem?_getD]; exact hj.2)⟩
 rw [show ((List.range bs.length).filter fun j => bs.getD j false == false) = pos false bs bs.length from rfl, show ((List.range bs.length).filter fun j => bs.getD j false == true) = pos true bs bs.length from rfl] at hsum
 rw [hsum]
 generalize pos false bs bs.length = P at *
 generalize pos true bs bs.length = R at *
 obtain ⟨c0, c8⟩ := zpD h8 hpay
 rw [hpk] at hpay
 have hA := zpQ (data := data) (fun j => row.getD j d0) (fun j => l.getD j tz) P 0 (by omega) (by omega) (fun j hj => hv j (hPl j hj))
 have hsP := zeN (fun j => rdV data (row.getD j d0) (l.getD j tz)) P (fun j hj => hv j (hPl j hj))
 have hsR := zeN (fun j => rdV data (row.getD j d0) (l.getD j tz)) R (fun j hj => hv j (hRl j hj).1)
 have hR : ∀ j ∈ R, rdV data (row.getD j d0) (l.getD j tz) = rdE data (zaC (row.getD j d0)) (.mk 5 n ks) 0 := fun j hj => by
  have h0 := hv j (hRl j hj).1
  rw [(hRl j hj).2] at h0 ⊢
  generalize row.getD j d0 = x at h0 ⊢
  obtain ⟨m, kk⟩ := x
  rw [zhg] at h0 ⊢
  by_cases h : m = 0 ∧ kk.length ≤ 6
  ·rw [if_pos h]; rfl
  ·rw [if_neg h] at h0; omega
 have hRs : (R.map fun j => rdV data (row.getD j d0) (l.getD j tz)).sum = ((R.map fun j => zaC (row.getD j d0)).map fun r => rdE data r (.mk 5 n ks) 0).sum := by
  rw [List.map_map]
  congr 1
  exact List.map_congr_left fun j hj => hR j hj
 have hE : rdE data (.mk c (P.map fun j => row.getD j d0) :: (R.map fun j => zaC (row.getD j d0)).flatten) (.mk 5 n ks) 0 = (if 1 + ((P.map fun j => rdV data (row.getD j d0) (l.getD j tz)).sum + (R.map fun j => rdV data (row.getD j d0) (l.getD j tz)).sum) > 6 then -1 else 1 + ((P.map fun j => rdV data (row.getD j d0) (l.getD j tz)).sum + (R.map fun j => rdV data (row.getD j d0) (l.getD j tz)).sum)) := by
  simp only [rdE]
  rw [if_neg (by omega), hpay]
  simp only [List.length_map, if_true]
  rw [hA]
  by_cases h6 : 0 + (P.map fun j => rdV data (row.getD j d0) (l.getD j tz)).sum > 6
  ·rw [if_pos h6, if_pos (by omega), if_pos (by omega)]
  ·rw [if_neg h6]
   by_cases h7 : 0 + 1 + (0 + (P.map fun j => rdV data (row.getD j d0) (l.getD j tz)).sum) > 6
   ·rw [if_pos (Or.inr h7), if_pos (by omega)]
   ·rw [if_neg (by omega), zpS h8 _ _ _ (by omega) (by omega) (fun r hr => by
     obtain ⟨j, hj, rfl⟩ := List.mem_map.1 hr
     rw [← hR j hj]; exact hv j (hRl j hj).1), ← hRs]
    split <;> split <;> omega
 have hge := zk3 (data := data) (.mk c (P.map fun j => row.getD j d0) :: (R.map fun j => zaC (row.getD j d0)).flatten) (.mk 5 n ks) 0 (by omega)
 have hle := zvI (h8 := h8) (.mk c (P.map fun j => row.getD j d0) :: (R.map fun j => zaC (row.getD j d0)).flatten) (.mk 5 n ks)
 rw [zbu, zhg]
 by_cases hlen : ((IT.mk c (P.map fun j => row.getD j d0)) :: (R.map fun j => zaC (row.getD j d0)).flatten).length ≤ 6
 ·rw [if_pos ⟨rfl, hlen⟩, hE]
 ·rw [if_neg (fun h => hlen h.2)]
  rcases hge with h | h
  ·rw [← hE, h]
  ·omega
theorem zw3 (n : Nat) : All2 WkA (List.replicate n [AV.int .i64 0, .snil]).flatten (zaA (List.replicate n (.mk 0 []))) := by
 induction n with
 | zero => exact trivial
 | succ n ih =>
  rw [List.replicate_succ, List.replicate_succ, List.flatten_cons, zdb]
  exact ⟨.refl _, .snil, ih⟩
theorem zfa {H J : zaa} {K : Kt} {e : Int} (hs : HSc H) (hK : K (.tup [.sl [] .none, .int .i64 e]) H) : zeo H.length K (.tup [.snil, .int .i64 e]) (H ++ J) :=
 ⟨.tup [.sl [] .none, .int .i64 e], H, J, rfl, Nat.le_refl _, hs, .tup ⟨.one (.wk (.atom .snil) rfl rfl), .one (.wk (.atom (.refl _)) rfl rfl), trivial⟩, hK⟩
theorem RowsH.weaken {X : zaa} {lo lo' id : Nat} {rows : List (List IT)} (h : RowsH X lo id rows) (hl : lo' ≤ lo) : RowsH X lo' id rows := by
 obtain ⟨h1, cs, h2, h3⟩ := h
 exact ⟨by omega, cs, h2, h3.mono fun c r hc => hc.keep hl fun b _ hb _ => ⟨hb, rfl⟩⟩
theorem RowsH.agree {X Y : zaa} {lo id : Nat} {rows : List (List IT)} (h : RowsH X lo id rows) (ha : ∀ k, lo ≤ k → k < X.length → Y[k]? = X[k]?) : RowsH Y lo id rows := by
 obtain ⟨h1, cs, h2, h3⟩ := h
 exact ⟨h1, cs, by rw [ha _ h1 (List.getElem?_eq_some_iff.1 h2).1]; exact h2, h3.mono fun c r hc => hc.keep (Nat.le_refl _) fun b hb hb2 hb3 => ⟨hb2, ha b hb hb3⟩⟩
theorem zun {H3 : zaa} {lo1 id1 lo2 id2 : Nat} {rows1 rows2 : List (List IT)} {K : Kt} (h1 : RowsH H3 lo1 id1 rows1) (h2 : RowsH H3 lo2 id2 rows2) (hlt : id1 < lo2) (hlo : lo1 ≤ lo2) (hb : rows1.length + rows2.length ≤ 1000000000) (hs : HSc H3)
  (hK : ∀ H4, HSc H4 → RowsH H4 lo1 id1 (rows1 ++ rows2) → (∀ X, X <+: H3 → X.length ≤ id1 → X <+: H4) → K (.ov id1 (rows1 ++ rows2).length) H4) : zat zbm 1 24 (.ov id1 rows1.length) (.ov id2 rows2.length) H3 K := by
 obtain ⟨g1, cs1, hc1, hx1⟩ := h1
 obtain ⟨g2, cs2, hc2, hx2⟩ := h2
 have hl1 := (List.getElem?_eq_some_iff.1 hc1).1
 have k1 := zff hx1
 have k2 := zff hx2
 refine zn6 hc1 hc2 k2.2 (by rw [hx2.length]; simp) (by omega) (by omega) ?_
 rw [← List.length_append]
 have hkp : ∀ b, b ≠ id1 → (H3.set id1 (.vec zbm 1 (rows1 ++ rows2).length (cs1 ++ cs2)))[b]? = H3[b]? := fun b hb => List.getElem?_set_ne (fun h => hb h.symm)
 refine hK _ (hs.set ?_) ⟨g1, cs1 ++ cs2, List.getElem?_set_self hl1, (hx1.mono fun c r hc => hc.keep (Nat.le_refl _) fun b _ hb _ => ⟨hb, hkp b hb⟩).append (hx2.mono fun c r hc => hc.keep hlo fun b hb1 hb2 hb3 => ?_)⟩ (fun X hX hl => zd5 hX hl)
 ·simp only [AB.sc, List.all_append, k1.1, k2.1, Bool.and_self]
 ·have : b ≠ id1 := by omega
  exact ⟨this, hkp b this⟩
theorem zoO : ∀ (ps : List Nat) (xs row : List IT) (p : Nat) (x : IT), xs.length = ps.length → fill row (ps ++ [p]) (xs ++ [x]) = (fill row ps xs).set p x
 | [], [], row, p, x, _ => by simp [fill]
 | [], _ :: _, _, _, _, h => by simp at h
 | _ :: _, [], _, _, _, h => by simp at h
 | q :: ps, y :: xs, row, p, x, h => by
  simp only [List.cons_append, fill]
  exact zoO ps xs _ p x (by simpa using h)
theorem zoP {P : List Nat} {xs row : List IT} {i : Nat} (hi : i < P.length) (hx : i < xs.length) : fill row (P.take (i + 1)) (xs.take (i + 1)) = (fill row (P.take i) (xs.take i)).set P[i] xs[i] := by
 rw [List.take_succ_eq_append_getElem hi, List.take_succ_eq_append_getElem hx]
 exact zoO _ _ _ _ _ (by simp; omega)
theorem ztn (data : List Dat) (hk : zaZ data) (t : VT) (ht : t.nodes ≤ 1000) (c : Int) (v : IT) (hv : v.nodes ≤ 900) (H : zaa) (K : Kt)
  (hbad : ∀ e, zcB data t c v = some e → K (.tup [.sl [] .none, .int .i64 e]) H)
  (hgood : zcB data t c v = none → ∃ l bs, zaJ data t c = some l ∧ l.length = bs.length ∧ l.length ≤ 8 ∧ (∀ x ∈ l, x.nodes ≤ 200) ∧ zbg data t c = some (pick l bs) ∧
   (∀ H K, K (.sl (za0 bs) .none) H → ACalls tP zcD [.sl (data.map Dat.cs) .none, .int .i64 t.num, .int .i64 c] H K) ∧
   ∀ rs, rs.Perm (zcv l bs c (zaC v)) → rs.Pairwise rle → K (.tup [zd6 rs, .int .i64 0]) H) :
  ACalls tP zfJ [.sl (data.map Dat.cs) .none, .agg t.cs, .int .i64 c, .agg v.cs] H K := by
 refine ACalls.out2 (zEI fun hs => ?_)
 obtain ⟨f1, f2, f3⟩ := zc8 hk
 obtain ⟨k, n, ks⟩ := t
 obtain ⟨m, vs⟩ := v
 simp [zq8, VT.cs, IT.cs, Nat.add_assoc]
 refine zAd data hk (.mk k n ks) ht (.mk m vs) hv _ _ ?_
 by_cases hd : zaP data (.mk k n ks) (.mk m vs) < 0
 ·have hd' : decide (0 ≤ zaP data (.mk k n ks) (.mk m vs)) = false := by simpa using hd
  simp [hd']
  exact ⟨⟨rfl, rfl⟩, zfa hs (hbad 1 (by simp [zcB, hd]))⟩
 have hd' : decide (0 ≤ zaP data (.mk k n ks) (.mk m vs)) = true := by simpa using hd
 simp [hd']
 by_cases h5 : k = 5
 ·subst h5
  have hfine : zaX data (.mk 5 n ks) = true := by
   unfold zaP at hd
   by_cases h : zaX data (.mk 5 n ks) = true
   ·exact h
   ·rw [if_neg h] at hd; omega
  have hrd : 0 ≤ rdV data (.mk m vs) (.mk 5 n ks) := by
   unfold zaP at hd
   rw [if_pos hfine] at hd
   omega
  obtain ⟨rfl, hl6, hrE⟩ : m = 0 ∧ vs.length ≤ 6 ∧ 0 ≤ rdE data vs (.mk 5 n ks) 0 := by
   simp [rdV, VT.kind] at hrd
   by_cases h : m = 0 ∧ vs.length ≤ 6
   ·rw [if_pos h] at hrd
    exact ⟨h.1, h.2, hrd⟩
   ·rw [if_neg h] at hrd; omega
  obtain ⟨hn0, hnl⟩ := zlo (by unfold zaX at hfine; rw [Bool.and_eq_true] at hfine; exact hfine.2)
  have hbad8 : (c < 0 ∨ (data[n.toNat].cons.length : Int) ≤ c) → K (.tup [.sl [] .none, .int .i64 8]) H := fun h => hbad 8 (by
   simp only [zcB, if_neg hd, VT.kind, VT.num, ne_eq, not_true_eq_false, if_false, List.getD_eq_getElem?_getD, List.getElem?_eq_getElem hnl, Option.getD_some]
   rw [if_pos h])
  by_cases hc0 : c < 0
  ·simp [hc0]
   exact ⟨⟨rfl, rfl⟩, zfa hs (hbad8 (.inl hc0))⟩
  have hnl2 : n < (data.length : Int) := by omega
  by_cases hc8 : (data[n.toNat].cons.length : Int) ≤ c
  ·simp [hc0, hn0, hnl2, List.getElem?_eq_getElem hnl, Dat.cs, hc8]
   exact ⟨⟨rfl, rfl⟩, zfa hs (hbad8 (.inr hc8))⟩
  simp [hc0, hn0, hnl2, List.getElem?_eq_getElem hnl, Dat.cs, hc8]
  refine zin data f1 f2 f3 (.mk 5 n ks) ht c _ _ ?_
  cases hf : zaJ data (.mk 5 n ks) c with
  | none =>
   simp [zbB]
   exact ⟨⟨rfl, rfl⟩, zfa hs (hbad 0 (by
    simp only [zcB, if_neg hd, VT.kind, VT.num, ne_eq, not_true_eq_false, if_false, List.getD_eq_getElem?_getD, List.getElem?_eq_getElem hnl, Option.getD_some]
    rw [if_neg (by omega), if_pos hf]))⟩
  | some l =>
   have hE : zcB data (.mk 5 n ks) c (.mk 0 vs) = none := by
    simp only [zcB, if_neg hd, VT.kind, VT.num, ne_eq, not_true_eq_false, if_false, List.getD_eq_getElem?_getD, List.getElem?_eq_getElem hnl, Option.getD_some]
    rw [if_neg (by omega), if_neg (by simp [hf])]
   obtain ⟨l', bs, hf', hlb, hl8, h200, hpay, hrec, hK⟩ := hgood hE
   rw [hf] at hf'
   cases hf'
   simp [zbB]
   refine zrY data hk 5 n ks ht c hf hlb hl8 hfine hrec _ _ ?_
   have hP8 := zca false bs bs.length
   have hPl : ∀ j ∈ pos false bs bs.length, j < l.length := fun j hj => by have := zcH hj; omega
   have hPn : (pos false bs bs.length).Nodup := List.Pairwise.filter _ List.nodup_range
   have hRl : ∀ j ∈ pos true bs bs.length, j < l.length := fun j hj => by have := zcH hj; omega
   have hR8 := zca true bs bs.length
   have hK : ∀ rs, rs.Perm (za7 (zbJ l (pos false bs bs.length)) (pos true bs bs.length) vs ++ zcI (zbJ l (pos false bs bs.length)) (pos false bs bs.length) (pos true bs bs.length) c vs) → rs.Pairwise rle → K (.tup [zd6 rs, .int .i64 0]) H := hK
   have hwide := zpZ l bs c vs
   have hnds := zpY (bs := bs) (c := c) (kids := vs) h200 (by simp only [IT.nodes] at hv; omega)
   have hlen := zpX (l := l) (c := c) hl6 (by omega : bs.length ≤ 8)
   unfold zcv at hwide hnds hlen
   have hpk : (pick l bs).length = (pos false bs bs.length).length := by
    have := zhd hlb (.mk 0 0 []) l.length (Nat.le_refl _)
    rw [List.take_length, hlb, List.take_length] at this
    rw [this, List.length_map]
   generalize pos false bs bs.length = P at *
   generalize pos true bs bs.length = R at *
   have hfv : ∀ x ∈ l, zaX data x = true := fun x hx => by
    unfold zaX at hfine ⊢
    rw [Bool.and_eq_true] at hfine ⊢
    refine ⟨hfine.1, zuO hfine.1 (by have := hfine.2; rw [zbc, Bool.and_eq_true] at this; exact this.2) hf x hx⟩
   simp [zbo]
   simp only [zbw, Int.toNat_natCast]
   refine ⟨by omega, ?_⟩
   unfold zjK
   refine ALoop.reCell (id := H.length + 2) (zaA (List.replicate l.length (.mk 0 []))) (by simp) (zw3 _) ?_
   have hset : (H ++ [AB.cells [.int .i64 5, .int .i64 n, .sl (VT.css ks) .none], .cells [.int .i64 0, .sl (IT.css vs) .none]] ++ [AB.cells (List.replicate l.length [AV.int .i64 0, .snil]).flatten]).set (H.length + 2) (.cells (zaA (List.replicate l.length (.mk 0 [])))) =
     H ++ [AB.cells [.int .i64 5, .int .i64 n, .sl (VT.css ks) .none], .cells [.int .i64 0, .sl (IT.css vs) .none], .cells (zaA (List.replicate l.length (.mk 0 [])))] := by simp [List.set_append_right]
   rw [hset]
   have hl2 : (H ++ [AB.cells [AV.int IntKind.i64 5, AV.int IntKind.i64 n, AV.sl (VT.css ks) Tok.none], AB.cells [AV.int IntKind.i64 0, AV.sl (IT.css vs) Tok.none]]).length = H.length + 2 := by simp
   rw [hl2]
   show zjK (.sl (data.map Dat.cs) .none) (.int .i64 c) (.ptr (H.length + 1) 0) (.sl (VT.css l) .none) (.sl (zaz P) .none) (.sl (zaz R) .none) (.ms (H.length + 2) 0 l.length l.length) (.sl (zaz P) .none) (.int .i64 P.length) (.int .i64 0) _ (zeo H.length K)
   have hZ : ∀ r : List IT, HSc (H ++ [AB.cells [.int .i64 5, .int .i64 n, .sl (VT.css ks) .none], .cells [.int .i64 0, .sl (IT.css vs) .none], .cells (zaA r)]) := fun r => hs.append (by simp [AB.sc, AV.scA, AV.scB, zhi])
   refine zEB (Inv := fun q t67 H' => ∃ i : Nat, i ≤ P.length ∧ q = P.length - i ∧ t67 = .int .i64 i ∧ H' = H ++ [AB.cells [.int .i64 5, .int .i64 n, .sl (VT.css ks) .none], .cells [.int .i64 0, .sl (IT.css vs) .none], .cells (zaA (fill (List.replicate l.length (.mk 0 [])) (P.take i) ((P.map fun j => zbp (l.getD j (.mk 0 0 []))).take i)))]) P.length ?_ ?_
   ·intro _; exact ⟨0, by omega, by omega, rfl, by simp⟩
   ·rintro q t67 H' ⟨i, hi, rfl, rfl, rfl⟩ hsc hlen' hsF Kb hKb
    by_cases hlt : i < P.length
    ·have hPi := hPl _ (List.getElem_mem hlt)
     have hft := zoP (row := List.replicate l.length (.mk 0 [])) hlt (xs := P.map fun j => zbp (l.getD j (.mk 0 0 []))) (by simpa using hlt)
     simp only [List.getElem_map, List.getD_eq_getElem?_getD, List.getElem?_eq_getElem hPi, Option.getD_some] at hft
     simp [znC, zbo, zd3, hlt, hPi]
     have hmem := List.getElem_mem hPi
     refine zr0 data hk (l[P[i]]) (by have := h200 _ hmem; omega) _ _ (fun _ => ?_) (hfv _ hmem)
     obtain ⟨x, y, hzz, hx, hy⟩ := zb2 (zbp l[P[i]])
     have hrs := zfR (fill (List.replicate l.length (.mk 0 [])) (P.take i) ((P.map fun j => zbp (l[j]?.getD (.mk 0 0 []))).take i)) P[i] (zbp l[P[i]]) (by simpa using hPi)
     rw [← hft] at hrs
     simp [hzz, hx, hy]
     refine ⟨by rw [zcU]; simp; omega, ?_⟩
     rw [zan (by omega) (by omega)]
     refine hKb _ _ ⟨P.length - (i + 1), by omega, Back.at (J := []) (H2 := H ++ [AB.cells [.int .i64 5, .int .i64 n, .sl (VT.css ks) .none], .cells [.int .i64 0, .sl (IT.css vs) .none], .cells (zaA (fill (List.replicate l.length (.mk 0 [])) (P.take (i + 1)) ((P.map fun j => zbp (l[j]?.getD (.mk 0 0 []))).take (i + 1))))]) ?_ (by simp) (hZ _) ?_ ⟨_, rfl, i + 1, by omega, rfl, by simp, by simp [List.getD_eq_getElem?_getD]⟩⟩
     ·rw [← hrs, hzz]; simp [List.set_append_right]
     ·simp [zjH, AV.sc, AV.scV, AV.scA, AV.scB]
    ·obtain rfl : i = P.length := by omega
     rw [List.take_length, List.take_of_length_le (by simp)] at *
     have hbase : fill (List.replicate l.length (.mk 0 [])) P (P.map fun j => zbp (l.getD j (.mk 0 0 []))) = zbJ l P := rfl
     rw [hbase]
     have hbl : (zbJ l P).length = l.length := by simp [zbJ]
     generalize zbJ l P = base at *
     have hHB : HSc (H ++ [AB.cells [.int .i64 5, .int .i64 n, .sl (VT.css ks) .none], .cells [.int .i64 0, .sl (IT.css vs) .none], .cells (zaA base)]) := hZ base
     simp [znC, zbo]
     refine zms R _ _ base vs _ ⟨zcU _, zk7 _, .inl ⟨H.length + 2, by rw [hbl], by simp⟩⟩ (fun p hp => by rw [hbl]; exact hRl p hp) (by omega) (by omega) (by omega) (zhf (by omega) (by omega)) ?_
     intro id H1 hp1 hsc1 hR1
     have hp0 : H <+: H1 := List.IsPrefix.trans ⟨_, rfl⟩ hp1
     have hg1 : H1[H.length + 1]? = some (.cells [.int .i64 0, .sl (IT.css vs) .none]) := by rw [zfP hp1 (by simp)]; simp
     have hg2 : H1[H.length + 2]? = some (.cells (zaA base)) := by rw [zfP hp1 (by simp)]; simp
     have hfin1 : zcI base P R c vs = [] → zga (.ov id (za7 base R vs).length) H1 (zeo H.length K) := fun h0 => by
      rw [h0, List.append_nil] at hwide hnds hlen hK
      exact zqt hp0 hs (hR1.weaken (by simp)) hwide (by omega) hnds (by omega) K hK
     simp [hg1]
     cases vs with
     | nil =>
      simp
      exact hfin1 rfl
     | cons x rest =>
      obtain ⟨c', ps⟩ := x
      have hg1' : H1[H.length + 1]? = some (.cells [.int .i64 0, .sl ([.int .i64 c', .sl (IT.css ps) .none] :: IT.css rest) .none]) := by rw [hg1]; simp [IT.css, IT.cs]
      simp [hg1']
      by_cases hcc : c' = c
      ·subst hcc
       have hpsl : ps.length = P.length := by
        rw [← hpk]
        simp only [rdE] at hrE
        by_cases h1 : c' < 0 ∨ 8 ≤ c'
        ·rw [if_pos h1] at hrE; omega
        ·rw [if_neg h1, hpay] at hrE
         by_cases h2 : (pick l bs).length = ps.length
         ·exact h2.symm
         ·simp only [if_neg h2] at hrE; omega
       have hHid : H.length + 3 ≤ id := by have := hR1.1; simpa using this
       have hH1l := (List.getElem?_eq_some_iff.1 hg2).1
       have hcut : ∀ r : List IT, r.length = l.length → HSc (H1.set (H.length + 2) (.cells (zaA r))) := fun r hr => hsc1.set (by simp [AB.sc, zhi])
       simp
       refine zEC (Inv := fun q t104 H' => ∃ i : Nat, i ≤ P.length ∧ q = P.length - i ∧ t104 = .int .i64 i ∧ H' = H1.set (H.length + 2) (.cells (zaA (fill base (P.take i) (ps.take i))))) P.length ?_ ?_
       ·intro _; exact ⟨0, by omega, by omega, rfl, by simp [zqa hg2]⟩
       ·rintro q t104 H' ⟨i, hi, rfl, rfl, rfl⟩ hsc hlen' hsF Kb hKb
        have hga : (H1.set (H.length + 2) (.cells (zaA (fill base (P.take i) (ps.take i)))))[H.length + 1]? = some (.cells [.int .i64 0, .sl ([.int .i64 c', .sl (IT.css ps) .none] :: IT.css rest) .none]) := by
         rw [List.getElem?_set_ne (by omega)]; exact hg1'
        have hgb : (H1.set (H.length + 2) (.cells (zaA (fill base (P.take i) (ps.take i)))))[H.length + 2]? = some (.cells (zaA (fill base (P.take i) (ps.take i)))) := List.getElem?_set_self hH1l
        by_cases hlt : i < P.length
        ·have hlp : i < ps.length := by omega
         obtain ⟨x, y, hzz, hx, hy⟩ := zb2 ps[i]
         have hrs := zfR (fill base (P.take i) (ps.take i)) P[i] ps[i] (by rw [zdu, hbl]; exact hPl _ (List.getElem_mem hlt))
         rw [← zoP hlt hlp] at hrs
         have hPi := hPl _ (List.getElem_mem hlt)
         simp [znD, zbo, zd3, hlt, hlp, hga, hgb, hPi, hzz, hx, hy]
         refine ⟨by rw [zcU, zdu, hbl]; omega, ?_⟩
         have hcell : List.take (P[i] * 2) (zaA (fill base (List.take i P) (List.take i ps))) ++ x :: y :: List.drop (P[i] * 2 + 2) (zaA (fill base (List.take i P) (List.take i ps))) = zaA (fill base (P.take (i + 1)) (ps.take (i + 1))) := by rw [← hrs, hzz]; simp
         rw [hcell, zan (by omega) (by omega)]
         refine hKb _ _ ⟨P.length - (i + 1), by omega, Back.at (J := []) (H2 := H1.set (H.length + 2) (.cells (zaA (fill base (P.take (i + 1)) (ps.take (i + 1)))))) (by simp) (by simp) (hcut _ (by rw [zdu, hbl])) ?_ ⟨_, rfl, i + 1, by omega, rfl, by simp, rfl⟩⟩
         have hidl := (List.getElem?_eq_some_iff.1 hR1.2.choose_spec.1).1
         simp [zjI, AV.sc, AV.scV, AV.scA, AV.scB, hidl]
         omega
        ·obtain rfl : i = P.length := by omega
         rw [List.take_length, ← hpsl, List.take_length] at *
         simp [znD, zbo, hg1']
         refine ⟨fun a ha => zdr ha, ?_⟩
         rw [List.take_of_length_le (show (IT.css rest).length ≤ rest.length by simp)]
         have hrow1 : (fill base P ps).length = l.length := by rw [zdu, hbl]
         refine zms R _ _ (fill base P ps) rest _ ⟨zcU _, zk7 _, .inl ⟨H.length + 2, by rw [hrow1], hgb⟩⟩ (fun p hp => by rw [hrow1]; exact hRl p hp) (by omega) (by simp at hl6; omega) (by omega) (zhf (by simp at hl6; omega) (by omega)) ?_
         intro id2 H2 hp2 hsc2 hR2
         have hlen1 : (H1.set (H.length + 2) (.cells (zaA (fill base P ps)))).length = H1.length := by simp
         have hag : ∀ k, H.length + 3 ≤ k → k < H1.length → H2[k]? = H1[k]? := fun k hk1 hk2 => by
          rw [zfP hp2 (by rw [hlen1]; exact hk2), List.getElem?_set_ne (by omega)]
         have hpH2 : H <+: H2 := List.IsPrefix.trans (zd5 hp0 (by omega)) hp2
         have hR1' : RowsH H2 H.length id (za7 base R (.mk c' ps :: rest)) := (RowsH.agree hR1 (fun k hk1 hk2 => hag k (by simpa using hk1) hk2)).weaken (by simp)
         have hidl := (List.getElem?_eq_some_iff.1 hR1.2.choose_spec.1).1
         have hsec : zcI base P R c' (.mk c' ps :: rest) = za7 (fill base P ps) R rest := by simp [zcI]
         rw [hsec] at hwide hnds hlen hK
         rw [List.length_append] at hlen
         refine zun hR1' hR2 (by rw [hlen1]; exact hidl) (by rw [hlen1]; omega) (by omega) hsc2 fun H4 hs4 hR4 hpre4 => ?_
         exact zqt (hpre4 H hpH2 (by omega)) hs hR4 hwide (by omega) hnds (by rw [List.length_append]; omega) K hK
      ·have hcb : (c' == c) = false := by simpa using hcc
       simp [hcb]
       exact hfin1 (by simp [zcI, hcc])
 ·have hb : (k != 5) = true := by simpa using h5
  simp [hb]
  exact ⟨⟨rfl, rfl⟩, zfa hs (hbad 6 (by simp [zcB, hd, VT.kind, h5]))⟩
theorem zzg (vs : List IT) (hl : vs.length ≤ 1000000) (hel : ∀ v ∈ vs, ∀ (H : zaa) (K : Kt), K (.bool true) H → ACalls tP zdz [.agg v.cs, .agg v.cs] H K) (H : zaa) (K : Kt) (hK : K (.bool true) H) : ACalls tP zeC [.sl (IT.css vs) .none, .sl (IT.css vs) .none] H K := by
 refine ACalls.out (zrx fun hs2 => ?_)
 simp [zh2]
 refine zrw (Inv := fun q t13 H' => ∃ i : Nat, i ≤ vs.length ∧ q = vs.length - i ∧ t13 = .int .i64 i ∧ H' = H) vs.length ?_ ?_
 ·intro _; exact ⟨0, by omega, by omega, rfl, rfl⟩
 ·rintro q t13 H' ⟨i, hi, rfl, rfl, rfl⟩ hsc' hlen hsF Kb hKb
  by_cases hlt : i < vs.length
  ·simp [zfZ, hlt]
   refine zbF (.bool true) (fun J => hel _ (List.getElem_mem hlt) _ _ ⟨rfl, rfl⟩) ?_
   simp
   rw [zan (by omega) (by omega)]
   refine hKb _ _ ⟨vs.length - (i + 1), by omega, Back.here (by simp) hsc' ?_ ⟨_, rfl, i + 1, by omega, rfl, by simp, rfl⟩⟩
   simp [zf0, AV.sc, AV.scV, AV.scA, AV.scB]
  ·simp [zfZ, hlt]
   exact Out.bool (J := []) (by simp) (Nat.le_refl _) hs2 hK
theorem zzP : ∀ (m : Nat) (v : IT), v.nodes ≤ m → v.nodes ≤ 1000000 → ∀ (H : zaa) (K : Kt), K (.bool true) H → ACalls tP zdz [.agg v.cs, .agg v.cs] H K := by
 intro m
 induction m with
 | zero => intro v h; have := v.nodes_pos; omega
 | succ m ih =>
  intro v hv hb H K hK
  obtain ⟨n, ks⟩ := v
  have hnl : IT.nodesL ks + 1 ≤ 1000000 := by simpa [IT.nodes] using hb
  have hll := IT.len_le ks
  refine ACalls.out (zrH fun hs2 => ?_)
  simp [zie, IT.cs, Nat.add_assoc]
  refine zzg ks (by omega) (fun v hvm => by
   obtain ⟨i, hi, rfl⟩ := List.getElem_of_mem hvm
   have := IT.kid_lt (n := n) hi
   exact ih _ (by omega) (by omega)) _ _ ?_
  try simp
  exact Out.bool rfl (Nat.le_refl _) hs2 hK
def dOne : List Dat := [⟨[68], 0, [⟨[67], []⟩]⟩]
theorem zoC : zaZ dOne := by
 refine ⟨by simp [dOne], fun d hd => ?_⟩
 simp [dOne] at hd
 subst hd
 refine ⟨by simp, by simp, fun c hc => ?_⟩
 simp at hc
 subst hc
 exact ⟨by simp, by simp, by simp⟩
theorem zoB : zaJ dOne (.mk 5 0 []) 0 = some [] := by kernel_rfl
theorem zuI : zcB dOne (.mk 5 0 []) 0 (.mk 0 [.mk 0 []]) = none := by kernel_rfl
theorem zj0 (H : zaa) (K : Kt) (hK : K (.bool true) H) : ACalls tP zfu [] H K := by
 refine ACalls.out (zx7 fun hs => ?_)
 simp [zqX, zal, zaB, zay, zbz, zaD, AV.pd, AV.known, Nat.add_assoc]
 obtain ⟨bs, hlb, hl8, hpay, h200, _, hsc, _⟩ := zkZ zoC zoB
 have hbs : bs = [] := by cases bs <;> simp_all
 subst hbs
 have hgo : ∀ (H : zaa) (K : Kt), K (.tup [.sl [[.sl [] .none]] .none, .int .i64 0]) H → ACalls tP zfJ [.sl (dOne.map Dat.cs) .none, .agg (VT.mk 5 0 []).cs, .int .i64 0, .agg (IT.mk 0 [.mk 0 []]).cs] H K := fun H K hK => by
  refine ztn dOne zoC (.mk 5 0 []) (by decide) 0 (.mk 0 [.mk 0 []]) (by decide) H K (fun e he => by rw [zuI] at he; cases he) (fun _ => ⟨[], [], zoB, rfl, by simp, by simp, hpay, hsc, fun rs hp _ => ?_⟩)
  have hr : zcv [] [] 0 (zaC (.mk 0 [.mk 0 []])) = [[]] := by kernel_rfl
  rw [hr] at hp
  obtain rfl := List.perm_singleton.1 hp
  exact hK
 refine ACalls.wk (hgo H _ ?_) ⟨.atom (.sl _ _), .agg ⟨.refl _, .refl _, .snil, trivial⟩, .atom (.refl _), .agg ⟨.refl _, .sl _ _, trivial⟩, trivial⟩
 simp
 exact Out.bool (J := []) (by simp) (Nat.le_refl _) hs hK
theorem zqf (data : List Dat) (hlen : data.length ≤ 9223372036854775807) (t : VT) (H : zaa) (K : Kt) (hK : ∀ b, (b = true → zaZ data ∧ t.nodes ≤ 250) → K (.bool b) H) : ACalls tP zgT [.sl (data.map Dat.cs) .none, .agg t.cs] H K := by
 refine ACalls.out (zDv fun hs => ?_)
 have hO : ∀ b, (b = true → zaZ data ∧ t.nodes ≤ 250) → ∀ J, Out H.length K (.bool b) (H ++ J) := fun b h J => Out.bool rfl (Nat.le_refl _) hs (hK b h)
 obtain ⟨x, y, z, hvx, hx, hy, hz⟩ := zbd t
 simp [zq6, hvx, Nat.add_assoc]
 refine zzY data _ _ hlen fun b1 hb1 => ?_
 cases b1 with
 | false =>
  simp
  exact hO _ (fun h => by cases h) _
 | true =>
  simp [Nat.add_assoc]
  rw [← hvx]
  refine zz2 t _ _ fun b2 hb2 => ?_
  try simp
  exact hO _ (fun h => ⟨hb1 rfl, hb2 h⟩) _
theorem zvZ (v : IT) (hv : v.nodes ≤ 1000000) (H : zaa) (K : Kt) (hK : K (.bool true) H) : ACalls tP zdz [.agg v.cs, .agg v.cs] H K := zzP _ v (Nat.le_refl _) hv H K hK
def zv6 (r : List (List IT)) : List AV := r.map fun s => .sl (IT.css s) .none
def CellS (H : zaa) (lo id : Nat) (c : AV) (r : List (List IT)) : Prop := ∃ b, c = .ov b r.length ∧ lo ≤ b ∧ b ≠ id ∧ H[b]? = some (.vec zbm 1 r.length (zv6 r))
theorem CellS.keep {H H' : zaa} {lo id : Nat} {c : AV} {r : List (List IT)} (h : CellS H lo id c r) (hid : ∀ b, lo ≤ b → b ≠ id → b < H.length → H'[b]? = H[b]?) : CellS H' lo id c r := by
 obtain ⟨b, rfl, h1, h2, h3⟩ := h
 exact ⟨b, rfl, h1, h2, by rw [hid b h1 h2 (List.getElem?_eq_some_iff.1 h3).1]; exact h3⟩
theorem zn5 {e s b id n : Nat} {cs : List AV} {ys : List (List AV)} {t : Tok} {H : zaa} {K : Kt} (h : H[id]? = some (.vec e s n cs)) (hy : ∀ c ∈ ys, c.length = s) (hb1 : (n + ys.length) * b ≤ 140737488355328) (hb2 : n + ys.length ≤ 9223372036854775807)
  (hk : K (.ov id (n + ys.length)) (H.set id (.vec e s (n + ys.length) (cs ++ ys.flatten)))) : zat e s b (.ov id n) (.sl ys t) H K := by
 simp only [zat, zaW, zaK, h, and_self, true_and]
 exact ⟨hy, ⟨hb1, hb2⟩, hk⟩
end Go.Proofs.YtacebbdfgbfgiaaGreat
