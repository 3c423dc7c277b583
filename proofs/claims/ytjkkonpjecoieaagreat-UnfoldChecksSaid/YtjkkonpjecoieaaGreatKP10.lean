import Derived.Test.YtjkkonpjecoieaaGreatAbsW
import Derived.Shelf.SlSortCmp.NoneTotal
import Derived.Test.YtjkkonpjecoieaaGreatProg
import Derived.Test.YtjkkonpjecoieaaGreatKNum
import Derived.KernelRfl
import Derived.Test.YtjkkonpjecoieaaGreatKUB
import Derived.Test.YtjkkonpjecoieaaGreatKUA
import Derived.Test.YtjkkonpjecoieaaGreatKGY2
set_option linter.unusedSimpArgs false
set_option linter.unusedVariables false
namespace Go.Abs
open Go Go.RowKit
open Go.Sort (grow putRow putCells mapBlock onCells ahead SWO PermIn SortedIn Holds)
open Go.Proofs (sortWorld ltOf CmpLays1)
variable {P : Program} {B : Nat} {w : World} {G : Gh} {H : zaa}
theorem zA0 {W w' : World} (hd : W.drawn ≤ w'.drawn) (hb : Below W.heap.size W w') : ∃ q os, w' = grow (W.drewN q) os := by
 refine ⟨w'.drawn - W.drawn, w'.heap.extract W.heap.size w'.heap.size, ?_⟩
 obtain ⟨h1, h2, h3, h4, h5⟩ := hb
 obtain ⟨heap, tape, drawn, os, output⟩ := W
 obtain ⟨heap', tape', drawn', os', output'⟩ := w'
 simp only at *
 subst h1 h2 h3
 have e1 : heap' = heap ++ heap'.extract heap.size heap'.size := by
  refine Array.ext_getElem? fun i => ?_
  by_cases hi : i < heap.size
  ·rw [Array.getElem?_append_left hi, h5 i hi]
  ·rw [Array.getElem?_append_right (by omega), Array.getElem?_extract]
   by_cases h : i < heap'.size
   ·rw [if_pos (by omega), show heap.size + (i - heap.size) = i by omega]
   ·rw [if_neg (by omega), Array.getElem?_eq_none (by omega)]
 have e2 : drawn' = drawn + (drawn' - drawn) := by omega
 simp only [grow, World.drewN]
 rw [← e1, ← e2]
theorem HRel.alone (h : HRel B w G H) (o : Obj) : Ext B w G (w.alloc o) G ∧ HRel B (w.alloc o) G H := by
 have he := Ext.alloc h o G.L (fun _ _ => rfl) []
 simp only [List.append_nil] at he
 refine ⟨he, h.keep he rfl (fun id gi b h1 h2 => ⟨zdc (h.lt id gi b h1 h2), rfl⟩) (fun b hb => ?_)⟩
 rw [zcp] at hb
 exact h.fresh b (by omega)
theorem HRel.grown : ∀ (os : List Obj) {w : World}, HRel B w G H → Ext B w G (grow w os.toArray) G ∧ HRel B (grow w os.toArray) G H
 | [], w, h => by
  have : grow w #[] = w := by simp [grow]
  rw [show ([] : List Obj).toArray = #[] from rfl, this]
  exact ⟨Ext.refl _ _ _, h⟩
 | o :: l, w, h => by
  obtain ⟨h1, h2⟩ := h.alone o
  obtain ⟨h3, h4⟩ := HRel.grown l h2
  have : grow w (o :: l).toArray = grow (w.alloc o) l.toArray := by
   rw [Go.Sort.alloc_eq_grow, Go.Sort.grow_grow]
   simp
  rw [this]
  exact ⟨h1.trans h3, h4⟩
theorem zBX {α : Type} [Inhabited α] (vals : α → Value) (d : Array α) (cur : Array Value) (h : d.size ≤ cur.size) : (putCells vals 0 d cur).toList.take d.size = d.toList.map vals := by
 refine List.ext_getElem (by simp [putCells]; omega) fun i h1 h2 => ?_
 simp at h2
 simp [putCells, h2]
theorem HRel.sorted {α : Type} [Inhabited α] (h : HRel B w G H) {id e n g cap : Nat} {cs cs' : List AV} (hH : H[id]? = some (.vec e 1 n cs)) (hμ : G.μ[id]? = some (.own (.slice (some ⟨g, 0, none⟩) n cap) 1 n))
  (vals : α → Value) (d : Array α) (hd : d.size = n) (hc : All2 (ARel w G) (d.toList.map vals) cs') (m : Nat) (os : Array Obj) :
  Ext B w G (sortWorld vals w g 0 m d os) G ∧ HRel B (sortWorld vals w g 0 m d os) G (H.set id (.vec e 1 n cs')) := by
 obtain ⟨_, _, ⟨xs, ⟨hxl, ho⟩, hxc⟩, hL0⟩ := h.ok id _ _ hH hμ
 rcases ho with ⟨h1, _⟩ | ⟨g', cap', cur, h1, hB, hw, hcap, hcm, hsz, htk⟩
 ·cases h1
 cases h1
 have h1 := h.storeV (cur' := putCells vals 0 d cur) (xs' := d.toList.map vals) hH hμ hw hB hcap hcm (by simp [putCells, hsz]) (by rw [Nat.mul_one, ← hd]; exact zBX vals d cur (by omega)) (by simp [hd]) hc
 obtain ⟨hE1, hR1⟩ := h1
 have hE2 := Ext.drew B (w.setRow g (putCells vals 0 d cur)) G ((w.setRow g (putCells vals 0 d cur)).drawn + m) (Nat.le_add_right _ _)
 have hR2 := hR1.drew ((w.setRow g (putCells vals 0 d cur)).drawn + m) (Nat.le_add_right _ _)
 obtain ⟨hE3, hR3⟩ := HRel.grown os.toList hR2
 have heq : sortWorld vals w g 0 m d os = grow { w.setRow g (putCells vals 0 d cur) with drawn := (w.setRow g (putCells vals 0 d cur)).drawn + m } os.toList.toArray := by
  have hh : w.heap.modify g (onCells (putCells vals 0 d)) = (w.setRow g (putCells vals 0 d cur)).heap := by
   unfold World.setRow
   refine Array.ext_getElem? fun i => ?_
   simp only [Array.getElem?_modify]
   by_cases hi : g = i
   ·subst hi
    simp [hw, onCells]
   ·simp [hi]
  have e : sortWorld vals w g 0 m d os = grow { w with heap := w.heap.modify g (onCells (putCells vals 0 d)), drawn := w.drawn + m } os := rfl
  rw [e, hh, Array.toArray_toList]
  rfl
 rw [heq]
 exact ⟨(hE1.trans hE2).trans hE3, hR3⟩
def Lx (w : World) (G : Gh) (blk b : Nat) : Nat := if b = blk then 0 else max (G.L b) (zb3 w b)
def Rd (H : zaa) (id0 : Nat) (a : AV) (row : List (List AV)) : Prop :=
 a = .sl row .none ∨
 (∃ id off len cap size cs, a = .ms id off len cap ∧ H[id]? = some (.cells cs) ∧ off + len * size ≤ cs.length ∧ zaB ((cs.drop off).take (len * size)) = some row.flatten ∧ row.length = len ∧ (∀ c ∈ row, c.length = size) ∧ len ≤ cap) ∨
 (∃ id e size m cs, a = .ov id m ∧ id ≠ id0 ∧ H[id]? = some (.vec e size m cs) ∧ zaB cs = some row.flatten ∧ row.length = m ∧ ∀ c ∈ row, c.length = size)
theorem Rd.rel (h : HRel B w G H) {id e n g cap : Nat} {cs : List AV} (hH : H[id]? = some (.vec e 1 n cs)) (hμ : G.μ[id]? = some (.own (.slice (some ⟨g, 0, none⟩) n cap) 1 n)) {a : AV} {row : List (List AV)} (hr : Rd H id a row) {v : Value} (hv : ARel w G v a) :
  DRel w (Lx w G g) v (.sl row .none) := by
 obtain ⟨_, _, _, hL0⟩ := h.ok id _ _ hH hμ
 have hLg : G.L g = 0 := hL0 g rfl
 have hlev : ∀ b, G.L b ≤ Lx w G g b := fun b => by
  unfold Lx
  split
  ·rename_i hb; rw [hb, hLg]; exact Nat.le_refl _
  ·exact Nat.le_max_left _ _
 have hmono : ∀ {v : Value} {a : AV}, DRel w G.L v a → DRel w (Lx w G g) v a := fun h => h.mono hlev fun _ _ _ => rfl
 rcases hr with rfl | ⟨i2, off, len, cap2, size, cs2, rfl, hH2, hfit, hp, hlen, hsz, hcap⟩ | ⟨i2, e2, size, m, cs2, rfl, hne, hH2, hp, hlen, hsz⟩
 ·exact hmono hv
 ·obtain ⟨b, hb, rfl⟩ := hv
  obtain ⟨_, _, vs, _, hw, hcs⟩ := h.ok i2 _ _ hH2 hb
  have hbg : b ≠ g := fun hbg => by
   have := h.dist i2 id _ _ b hb hμ rfl (by rw [hbg]; rfl)
   subst this
   rw [hH] at hH2
   cases hH2
  subst hlen
  by_cases hes : row = []
  ·subst hes; exact .slE _ _
  ·have hl := hcs.length
   refine DRel.of_flat_at (zs := (vs.toList.drop off).take (row.length * size)) hsz hes hcap ?_ ((zdk ((hcs.drop off).take _) hp).mono fun _ _ => hmono) ?_
   ·unfold Lx
    rw [if_neg hbg]
    refine Nat.le_trans ?_ (Nat.le_max_right _ _)
    simp [zb3, hw]
    simp at hl
    omega
   ·intro j u hj
    rw [List.getElem?_take] at hj
    split at hj
    ·simp only [World.cell?, hw]
     simpa using hj
    ·cases hj
 ·obtain ⟨⟨a, cap0, rfl, _⟩, v', s0, n', hμ2, _, heq⟩ := hv
  obtain ⟨rfl, rfl, ⟨xs, hown, hcs⟩, _⟩ := h.ok i2 _ _ hH2 hμ2
  obtain rfl := heq rfl
  subst hlen
  by_cases hes : row = []
  ·subst hes; exact .slE _ _
  ·have hown2 := hown
   obtain ⟨hl, hrow⟩ := hown2
   rcases hrow with ⟨h1, h2⟩ | ⟨g2, cap2, cur, h1, h2, h3, h4, h5, h6, h7⟩
   ·cases row <;> simp_all
   ·simp at h1
    obtain ⟨rfl, rfl⟩ := h1
    obtain ⟨_, _, _, hcell⟩ := zdj hown
    have hbg : g2 ≠ g := fun hbg => hne (h.dist i2 id _ _ g2 hμ2 hμ rfl (by rw [hbg]; rfl))
    refine DRel.of_flat_at (zs := xs) hsz hes h4 ?_ ((zdk hcs hp).mono fun _ _ => hmono) ?_
    ·unfold Lx
     rw [if_neg hbg]
     refine Nat.le_trans ?_ (Nat.le_max_right _ _)
     simp only [zb3, h3, h6, Nat.zero_add]
     exact Nat.mul_le_mul_right _ h4
    ·intro j u hj
     rw [Nat.zero_add, hcell j (by rw [← hl]; exact (List.getElem?_eq_some_iff.1 hj).1)]
     exact hj
theorem zsX {α : Type} (d : Array α) {k : Nat} (h : d.size = k) : d.extract 0 k = d := by subst h; exact Array.extract_size
theorem zBA (n : Nat) : ((Array.ofFn fun i : Fin n => i).toList.map Fin.val) = List.range n :=
 List.ext_getElem (by simp) fun i h1 h2 => by simp only [List.getElem_map, Array.getElem_toList, Array.getElem_ofFn, List.getElem_range]
theorem zCE {α : Type} [Inhabited α] (vals : α → Value) (w : World) (g m : Nat) (d : Array α) (os : Array Obj) : w.heap.size ≤ (sortWorld vals w g 0 m d os).heap.size := by
 unfold sortWorld
 simp [grow]
theorem zCD {α : Type} [Inhabited α] (vals : α → Value) (w : World) (g m : Nat) (d : Array α) (os : Array Obj) (a : Addr) (h1 : a.block ≠ g) (h2 : a.block < w.heap.size) : (sortWorld vals w g 0 m d os).cell? a = w.cell? a := by
 unfold sortWorld
 rw [Go.Sort.cell?_grow _ _ _ (by rw [Go.Sort.size_putRow]; exact h2), Go.Sort.cell?_putRow_other vals _ g 0 d a (Or.inl h1)]
 rfl
theorem zCF (h : HRel B w G H) {n g f : Nat} {vals : Fin n → Value} [Inhabited (Fin n)] {rows : Nat → List (List AV)} {cf : Nat → Nat → Int} (hd : ∀ i : Fin n, DRel w (Lx w G g) (vals i) (.sl (rows i) .none))
  (hcmp : ∀ i j, i < n → j < n → ACalls P f [.sl (rows i) .none, .sl (rows j) .none] [] fun r _ => r = .int .i64 (cf i j)) : CmpLays1 P f #[] vals (fun i j => cf i j) g 0 n w := by
 intro m os dk hdk x y
 have hL : ∀ b, (sortWorld vals w g 0 m dk os).heap.size ≤ b → Lx w G g b = 0 := fun b hb => by
  have := zCE vals w g m dk os
  unfold Lx
  split
  ·rfl
  ·rw [h.fresh b (by omega)]
   simp only [zb3]
   rw [Array.getElem?_eq_none (by omega)]
   rfl
 have hmono : ∀ {v : Value} {a : AV}, DRel w (Lx w G g) v a → DRel (sortWorld vals w g 0 m dk os) (Lx w G g) v a := fun hx => hx.mono (fun _ => Nat.le_refl _) fun b off ho => by
  refine zCD vals w g m dk os ⟨b, off, none⟩ ?_ ?_
  ·intro hb
   have hb : b = g := hb
   simp [Lx, hb] at ho
  ·show b < w.heap.size
   refine Nat.lt_of_not_le fun hb => ?_
   unfold Lx at ho
   split at ho
   ·omega
   ·rw [h.fresh b (by omega)] at ho
    simp only [zb3] at ho
    rw [Array.getElem?_eq_none (by omega)] at ho
    simp at ho
 refine (hcmp x y x.2 y.2 (sortWorld vals w g 0 m dk os).heap.size (sortWorld vals w g 0 m dk os) ⟨Lx w G g, []⟩ #[vals x, vals y]
  ⟨rfl, fun _ _ _ h => by simp at h, fun _ _ _ _ _ h => by simp at h, hL, fun _ _ _ h => by simp at h, Nat.le_refl _⟩ ⟨hmono (hd x), hmono (hd y), trivial⟩).mono ?_
 rintro e w' ⟨v, r, H', G', rfl, h2, _, h4, rfl⟩
 have h4 : v = .int .i64 (cf x y) := h4
 subst h4
 exact ⟨rfl, zA0 h2.dr h2.below⟩
theorem ACalls.sortFunc {ρ : Go.Shelf.Ren} (L : Go.Proofs.SlLaysF.n6 P ρ) {id e n f : Nat} {cs : List AV} (hH : H[id]? = some (.vec e 1 n cs)) (hn : n < 4611686018427387904) (rows : Nat → List (List AV)) (cf : Nat → Nat → Int)
  (hrd : ∀ i (h : i < cs.length), Rd H id cs[i] (rows i)) (eg : ∀ args w, (callFunc f args).run P w = .ok (.enter f args) w)
  (hcmp : ∀ i j, i < n → j < n → ACalls P f [.sl (rows i) .none, .sl (rows j) .none] [] fun r _ => r = .int .i64 (cf i j))
  (hO1 : ∀ i, i < n → ¬ cf i i < 0) (hO2 : ∀ i j k, i < n → j < n → k < n → cf i j < 0 → cf j k < 0 → cf i k < 0) (hO3 : ∀ i j k, i < n → j < n → k < n → ¬ cf i j < 0 → ¬ cf j k < 0 → ¬ cf i k < 0)
  {K : Kt} (hK : ∀ p : List Nat, p.Perm (List.range n) → (∀ a b (ha : a < p.length) (hb : b < p.length), a < b → ¬ cf p[b] p[a] < 0) → K (.tup []) (H.set id (.vec e 1 n (p.map fun i => cs.getD i .unk)))) :
  ACalls P (ρ.f 6) [.ov id n, .fn f []] H K := by
 rintro B w G ⟨vs⟩ hR hv
 match vs, hv with
 | [v1, v2], ⟨h1, h2, _⟩ =>
 obtain ⟨⟨a0, cap0, rfl, _⟩, v', s0, n', hμ, hle, heq⟩ := h1
 obtain ⟨ws, rfl, hws⟩ := h2
 have hws : ws = #[] := by
  cases hwl : ws.toList with
  | nil => exact Array.toList_inj.1 hwl
  | cons x l => rw [hwl] at hws; exact hws.elim
 subst hws
 obtain ⟨rfl, rfl, ⟨xs, hown, hcs⟩, hL0⟩ := hR.ok id _ _ hH hμ
 obtain rfl := heq rfl
 have hxl := hown.1
 have hcl := hcs.length
 rw [Nat.mul_one] at hxl
 match n, hxl, hH, hn, hcmp, hO1, hO2, hO3, hK, hμ, hown with
 | 0, hxl, hH, hn, hcmp, hO1, hO2, hO3, hK, hμ, hown =>
  refine (Go.Proofs.AnyF.slices_SortFunc_none (P := P) (ρ := ρ) { L with } a0 cap0 _ w).mono ?_
  rintro e' w' ⟨rfl, rfl⟩
  have hc : cs = [] := by
   cases cs with
   | nil => rfl
   | cons x l => simp at hcl; omega
  subst hc
  have := hK [] (by simp) (by simp)
  refine ⟨_, .tup [], _, G, rfl, Ext.refl _ _ _, ?_, ⟨#[], rfl, trivial⟩, this⟩
  have hs : H.set id (.vec e 1 0 []) = H := by
   refine List.ext_getElem? fun i => ?_
   rw [List.getElem?_set]
   split
   ·rename_i hi; subst hi; rw [if_pos (List.getElem?_eq_some_iff.1 hH).1, hH]
   ·rfl
  simpa [hs] using hR
 | n + 1, hxl, hH, hn, hcmp, hO1, hO2, hO3, hK, hμ, hown =>
  obtain ⟨_, ho⟩ := hown
  rcases ho with ⟨h1, h0⟩ | ⟨g, cap, cur, h1, hB, hw, hcap, hcm, hsz, htk⟩
  ·omega
  cases h1
  have hwl : g < w.heap.size := (Array.getElem?_eq_some_iff.1 hw).1
  let vals : Fin (n + 1) → Value := fun i => xs[i.1]'(by rw [hxl]; exact i.2)
  have hval : ∀ i : Fin (n + 1), ARel w G (vals i) (cs[i.1]'(by rw [← hcl, hxl]; exact i.2)) := fun i => by
   obtain ⟨x, hx, hr⟩ := All2.get hcs (List.getElem?_eq_getElem (by rw [← hcl, hxl]; exact i.2 : i.1 < cs.length))
   rw [List.getElem?_eq_getElem (by rw [hxl]; exact i.2)] at hx
   cases hx
   exact hr
  have hdr : ∀ i : Fin (n + 1), DRel w (Lx w G g) (vals i) (.sl (rows i) .none) := fun i => (hrd i.1 (by rw [← hcl, hxl]; exact i.2)).rel hR hH hμ (hval i)
  have hone : Go.Proofs.OneCell vals := fun i => by
   have := hdr i
   generalize vals i = v at *
   generalize rows i.1 = r at *
   cases this <;> rfl
  have hlays := zCF (P := P) (f := f) (n := n + 1) hR hdr hcmp
  let d : Array (Fin (n + 1)) := Array.ofFn fun i => i
  have hds : d.size = n + 1 := by simp [d]
  have hholds : Holds vals w g 0 d := by
   intro j hj
   rw [hds] at hj
   have hc : cur[j]? = some (vals ⟨j, hj⟩) := by
    have : xs[j]? = some (vals ⟨j, hj⟩) := List.getElem?_eq_getElem _
    rw [← htk, Nat.mul_one, List.getElem?_take, if_pos hj] at this
    simpa using this
   refine ⟨?_, ?_⟩
   ·rw [Nat.zero_add]
    have hdj : d[j]! = ⟨j, hj⟩ := by
     rw [getElem!_pos d j (by rw [hds]; exact hj)]
     simp [d]
    rw [hdj]
    simp [World.cell?, hw, hc]
   ·simp [World.frozen?, hw]
  have hO : SWO (ltOf fun i j : Fin (n + 1) => cf i j) := ⟨fun x => by simp only [ltOf, decide_eq_false_iff_not]; exact hO1 x x.2,
   fun x y z h1 h2 => by simp only [ltOf, decide_eq_true_eq] at *; exact hO2 x y z x.2 y.2 z.2 h1 h2,
   fun x y z h1 h2 => by simp only [ltOf, decide_eq_false_iff_not] at *; exact hO3 x y z x.2 y.2 z.2 h1 h2⟩
  have hmain := Go.Proofs.Any.slices_SortFunc (P := P) (ρ := ρ) L vals hone (fun i j => cf i j) hO f #[] g 0 cap0 d w eg (by rw [hds]; exact hlays) hholds hwl (by rw [hds]; exact hn)
  rw [hds] at hmain
  refine hmain.mono ?_
  rintro e' w' ⟨rfl, d', m, os, hp, hsrt, rfl⟩
  obtain ⟨hp1, _, hp3⟩ := hp
  have hds' : d'.size = n + 1 := hp1.trans hds
  have hpm : (d'.toList.map Fin.val).Perm (List.range (n + 1)) := by
   have h1 : d'.toList.Perm d.toList := by
    have e1 : (d'.extract 0 (n + 1)) = d' := zsX d' hds'
    have e2 : (d.extract 0 (n + 1)) = d := zsX d hds
    rwa [e1, e2] at hp3
   exact (h1.map Fin.val).trans (List.Perm.of_eq (zBA _))
  have hS := hR.sorted hH hμ vals d' hds' (cs' := (d'.toList.map Fin.val).map fun i => cs.getD i .unk) (All2.of_get (by simp) fun i x y hx hy => by
   simp only [List.map_map, List.getElem?_map, Option.map_eq_some_iff] at hx hy
   obtain ⟨k, hk, rfl⟩ := hx
   obtain ⟨k', hk', rfl⟩ := hy
   rw [hk] at hk'
   cases hk'
   have hlt : k.1 < cs.length := by rw [← hcl, hxl]; exact k.2
   have := hval k
   simp only [Function.comp_def, List.getD_eq_getElem?_getD, List.getElem?_eq_getElem hlt, Option.getD_some]
   exact this) m os
  refine ⟨_, .tup [], _, G, rfl, hS.1, hS.2, ⟨#[], rfl, trivial⟩, hK _ hpm fun a b ha hb hab => ?_⟩
  simp only [List.length_map, Array.length_toList] at ha hb
  have := hsrt a b (Nat.zero_le _) hab (by omega)
  rw [getElem!_pos d' a ha, getElem!_pos d' b hb] at this
  simp only [ltOf, decide_eq_false_iff_not] at this
  simpa using this
end Go.Abs
namespace Go.Proofs.YtjkkonpjecoieaaGreat
open Go Go.Shelf Go.Abs
def zDK : Go.Shelf.Ren := ⟨fun | 6 => 48 | 15 => 94 | 14 => 93 | 28 => 140 | 29 => 141 | 20 => 132 | 21 => 133 | 22 => 134 | 23 => 135 | 24 => 136 | 25 => 137 | 26 => 138 | 27 => 139 | 46 => 179 | 47 => 180 | 48 => 181 | 49 => 182 | 50 => 183 | 57 => 201 | n => n, fun | 22 => 44 | 24 => 35 | 25 => 89 | 3 => 3 | 39 => 124 | 0 => 0 | 53 => 99 | 55 => 98 | 4 => 4 | 46 => 173 | 45 => 172 | 50 => 169 | 5 => 5 | 9 => 9 | 66 => 206 | 70 => 78 | 76 => 231 | 77 => 232 | n => n, fun | n => n⟩
theorem zDJ : Go.Proofs.SlLaysF.n6 tP zDK := {
 mixed := by kernel_rfl
 f6 := ⟨Tryz.f48.name, by decide, Tryz.func48.trans (congrArg some (by kernel_rfl))⟩
 f14 := ⟨Tryz.f93.name, by decide, Tryz.func93.trans (congrArg some (by kernel_rfl))⟩
 f15 := Tryz.func94.trans (congrArg some (by kernel_rfl))
 f20 := ⟨Tryz.f132.name, by decide, Tryz.func132.trans (congrArg some (by kernel_rfl))⟩
 f21 := ⟨Tryz.f133.name, by decide, Tryz.func133.trans (congrArg some (by kernel_rfl))⟩
 f22 := ⟨Tryz.f134.name, by decide, Tryz.func134.trans (congrArg some (by kernel_rfl))⟩
 f23 := ⟨Tryz.f135.name, by decide, Tryz.func135.trans (congrArg some (by kernel_rfl))⟩
 f24 := ⟨Tryz.f136.name, by decide, Tryz.func136.trans (congrArg some (by kernel_rfl))⟩
 f25 := ⟨Tryz.f137.name, by decide, Tryz.func137.trans (congrArg some (by kernel_rfl))⟩
 f26 := ⟨Tryz.f138.name, by decide, Tryz.func138.trans (congrArg some (by kernel_rfl))⟩
 f27 := ⟨Tryz.f139.name, by decide, Tryz.func139.trans (congrArg some (by kernel_rfl))⟩
 f28 := Tryz.func140.trans (congrArg some (by kernel_rfl))
 f29 := Tryz.func141.trans (congrArg some (by kernel_rfl))
 f46 := ⟨Tryz.f179.name, by decide, Tryz.func179.trans (congrArg some (by kernel_rfl))⟩
 f47 := Tryz.func180.trans (congrArg some (by kernel_rfl))
 f48 := Tryz.func181.trans (congrArg some (by kernel_rfl))
 f49 := ⟨Tryz.f182.name, by decide, Tryz.func182.trans (congrArg some (by kernel_rfl))⟩
 f50 := ⟨Tryz.f183.name, by decide, Tryz.func183.trans (congrArg some (by kernel_rfl))⟩
 f57 := ⟨Tryz.f201.name, by decide, Tryz.func201.trans (congrArg some (by kernel_rfl))⟩
 t0 := Tryz.underlying0
 a0 := Tryz.isAgg0
 z0 := Tryz.sizeOf0
 v0 := Tryz.zeroValue0
 t3 := Tryz.underlying3
 a3 := Tryz.isAgg3
 z3 := Tryz.sizeOf3
 v3 := Tryz.zeroValue3
 t4 := Tryz.underlying4
 a4 := Tryz.isAgg4
 z4 := Tryz.sizeOf4
 v4 := Tryz.zeroValue4
 t5 := Tryz.underlying5
 a5 := Tryz.isAgg5
 z5 := Tryz.sizeOf5
 v5 := Tryz.zeroValue5
 t9 := Tryz.underlying9
 a9 := Tryz.isAgg9
 z9 := Tryz.sizeOf9
 v9 := Tryz.zeroValue9
 t22 := Tryz.underlying44
 a22 := Tryz.isAgg44
 z22 := Tryz.sizeOf44
 v22 := Tryz.zeroValue44
 a24 := Tryz.isAgg35
 z24 := Tryz.sizeOf35
 t25 := Tryz.underlying89
 a25 := Tryz.isAgg89
 z25 := Tryz.sizeOf89
 v25 := Tryz.zeroValue89
 t39 := Tryz.underlying124
 a39 := Tryz.isAgg124
 z39 := Tryz.sizeOf124
 v39 := Tryz.zeroValue124
 t45 := Tryz.underlying172
 a45 := Tryz.isAgg172
 z45 := Tryz.sizeOf172
 v45 := Tryz.zeroValue172
 t46 := Tryz.underlying173
 a46 := Tryz.isAgg173
 z46 := Tryz.sizeOf173
 v46 := Tryz.zeroValue173
 t50 := Tryz.underlying169
 a50 := Tryz.isAgg169
 z50 := Tryz.sizeOf169
 v50 := Tryz.zeroValue169
 t53 := Tryz.underlying99
 a53 := Tryz.isAgg99
 z53 := Tryz.sizeOf99
 v53 := Tryz.zeroValue99
 t55 := Tryz.underlying98
 a55 := Tryz.isAgg98
 z55 := Tryz.sizeOf98
 v55 := Tryz.zeroValue98
 t66 := Tryz.underlying206
 a66 := Tryz.isAgg206
 z66 := Tryz.sizeOf206
 v66 := Tryz.zeroValue206
 t70 := Tryz.underlying78
 a70 := Tryz.isAgg78
 z70 := Tryz.sizeOf78
 v70 := Tryz.zeroValue78
 t76 := Tryz.underlying231
 a76 := Tryz.isAgg231
 z76 := Tryz.sizeOf231
 v76 := Tryz.zeroValue231
 t77 := Tryz.underlying232
 a77 := Tryz.isAgg232
 z77 := Tryz.sizeOf232
 v77 := Tryz.zeroValue232 }
end Go.Proofs.YtjkkonpjecoieaaGreat
namespace Go.Abs
open Go Go.RowKit
variable {P : Program} {B : Nat} {w : World} {G : Gh} {H : zaa}
def Lmx (w : World) (G : Gh) (b : Nat) : Nat := Nat.max (G.L b) (zb3 w b)
inductive RdA (H : zaa) : AV → AV → Prop
 | sl (es : List (List AV)) : RdA H (.sl es .none) (.sl es .none)
 | int (k : IntKind) (n : Int) : RdA H (.int k n) (.int k n)
 | bool (b : Bool) : RdA H (.bool b) (.bool b)
 | str (s : List UInt8) : RdA H (.str s) (.str s)
 | ms (id off len cap size : Nat) (cs : List AV) (row : List (List AV)) (hH : H[id]? = some (.cells cs)) (hfit : off + len * size ≤ cs.length) (hp : zaB ((cs.drop off).take (len * size)) = some row.flatten) (hlen : row.length = len)
   (hsz : ∀ c ∈ row, c.length = size) (hcap : len ≤ cap) : RdA H (.ms id off len cap) (.sl row .none)
 | ov (id e size m : Nat) (cs : List AV) (row : List (List AV)) (hH : H[id]? = some (.vec e size m cs)) (hp : zaB cs = some row.flatten) (hlen : row.length = m) (hsz : ∀ c ∈ row, c.length = size) : RdA H (.ov id m) (.sl row .none)
theorem RdA.rel (h : HRel B w G H) {a b : AV} (hr : RdA H a b) {v : Value} (hv : ARel w G v a) : DRel w (Lmx w G) v b := by
 have hmono : ∀ {v : Value} {a : AV}, DRel w G.L v a → DRel w (Lmx w G) v a := fun h => h.mono (fun b => Nat.le_max_left _ _) fun _ _ _ => rfl
 cases hr with
 | sl es => exact hmono hv
 | int k n => have hv : v = .int k n := hv; subst hv; exact .int k n
 | bool b => have hv : v = .bool b := hv; subst hv; exact .bool b
 | str s => have hv : v = .string ⟨s.toArray⟩ := hv; subst hv; exact .str s
 | ms i2 off len cap2 size cs2 row hH2 hfit hp hlen hsz hcap =>
  obtain ⟨b, hb, rfl⟩ := hv
  obtain ⟨_, _, vs, _, hw, hcs⟩ := h.ok i2 _ _ hH2 hb
  subst hlen
  by_cases hes : row = []
  ·subst hes; exact .slE _ _
  ·have hl := hcs.length
   refine DRel.of_flat_at (zs := (vs.toList.drop off).take (row.length * size)) hsz hes hcap ?_ ((zdk ((hcs.drop off).take _) hp).mono fun _ _ => hmono) ?_
   ·refine Nat.le_trans ?_ (Nat.le_max_right _ _)
    simp [zb3, hw]
    simp at hl
    omega
   ·intro j u hj
    rw [List.getElem?_take] at hj
    split at hj
    ·simp only [World.cell?, hw]
     simpa using hj
    ·cases hj
 | ov i2 e2 size m cs2 row hH2 hp hlen hsz =>
  obtain ⟨⟨a, cap0, rfl, _⟩, v', s0, n', hμ2, _, heq⟩ := hv
  obtain ⟨rfl, rfl, ⟨xs, hown, hcs⟩, _⟩ := h.ok i2 _ _ hH2 hμ2
  obtain rfl := heq rfl
  subst hlen
  by_cases hes : row = []
  ·subst hes; exact .slE _ _
  ·have hown2 := hown
   obtain ⟨hl, hrow⟩ := hown2
   rcases hrow with ⟨h1, h2⟩ | ⟨g2, cap2, cur, h1, h2, h3, h4, h5, h6, h7⟩
   ·cases row <;> simp_all
   ·simp at h1
    obtain ⟨rfl, rfl⟩ := h1
    obtain ⟨_, _, _, hcell⟩ := zdj hown
    refine DRel.of_flat_at (zs := xs) hsz hes h4 ?_ ((zdk hcs hp).mono fun _ _ => hmono) ?_
    ·refine Nat.le_trans ?_ (Nat.le_max_right _ _)
     simp only [zb3, h3, h6, Nat.zero_add]
     exact Nat.mul_le_mul_right _ h4
    ·intro j u hj
     rw [Nat.zero_add, hcell j (by rw [← hl]; exact (List.getElem?_eq_some_iff.1 hj).1)]
     exact hj
theorem RdA.trel (h : HRel B w G H) {a b : AV} (hr : RdA H a b) {v : Value} (hv : ARel w G v a) : ARel w ⟨Lmx w G, []⟩ v b := by
 have hd := hr.rel h hv
 cases hr with
 | sl es => exact hd
 | int k n => exact hv
 | bool b => exact hv
 | str s => exact hv
 | ms i2 off len cap2 size cs2 row hH2 hfit hp hlen hsz hcap => exact hd
 | ov i2 e2 size m cs2 row hH2 hp hlen hsz => exact hd
inductive RdT (H : zaa) : AV → AV → Prop
 | one {a b : AV} (h : RdA H a b) : RdT H a b
 | agg {asx bs : List AV} (h : All2 (RdA H) asx bs) : RdT H (.agg asx) (.agg bs)
theorem RdT.rel (h : HRel B w G H) {a b : AV} (hr : RdT H a b) {v : Value} (hv : TRel w G v a) : TRel w ⟨Lmx w G, []⟩ v b := by
 cases hr with
 | one hr =>
  have hv' : ARel w G v a := by cases hr <;> exact hv
  exact TRel.of_v (VRel.of_a (hr.trel h hv'))
 | agg hr =>
  obtain ⟨us, hu, hv⟩ := hv
  refine ⟨us, hu, ?_⟩
  exact All2.of_get (hv.length.trans hr.length) fun i x y hx hy => by
   obtain ⟨a, ha, hxa⟩ := All2.get' hv hx
   obtain ⟨y', hy', hay⟩ := All2.get' hr ha
   rw [hy] at hy'
   cases hy'
   exact hay.trel h hxa
end Go.Abs
namespace Go.Proofs.YtjkkonpjecoieaaGreat
open Go Go.Abs
set_option maxRecDepth 8000
theorem zub (r : List IT) : zaB (zaZ r) = some (zaZ r) := by
 induction r with
 | nil => rfl
 | cons x r ih =>
  obtain ⟨n, ks⟩ := x
  rw [zdL]
  simp [IT.cs, zaB, AV.pd, ih]
theorem zmn {c : List AV} {r : List IT} (h : c ∈ IT.css r) : c.length = 2 := by
 rw [IT.css_map] at h
 obtain ⟨x, _, rfl⟩ := List.mem_map.1 h
 simp
theorem zzM (a b : List IT) (he : a.length = b.length) (ha : a.length ≤ 1000) (hn : ∀ x ∈ a, x.nodes ≤ 1000000) (H : zaa) (K : Kt) (hK : K (.int .i64 (IT.cmpL a b)) H) :
  ACalls tP znC [.sl (IT.css a) .none, .sl (IT.css b) .none] H K := by
 refine ACalls.out (zMp fun hs => ?_)
 simp [zyX]
 refine zsA a b he (by omega) (fun i h h' H K hK => zA4 _ _ _ (Nat.le_refl _) (hn _ (List.getElem_mem h)) H K hK) _ _ ?_
 exact zfv hs rfl rfl hK
theorem zuJ {H : zaa} {id : Nat} {b : AB} (h : H[id]? = some b) : H.set id b = H := by
 refine List.ext_getElem? fun i => ?_
 rw [List.getElem?_set]
 split
 ·rename_i hi; subst hi; rw [if_pos (List.getElem?_eq_some_iff.1 h).1, h]
 ·rfl
def zeN (rs : List (List IT)) : AV := .sl (rs.map fun r => [.sl (IT.css r) .none]) .none
theorem zu8 {H H1 : zaa} {id w : Nat} {rows : List (List IT)} (hpre : H <+: H1) (hs : HSc H) (hR : RowsH H1 H.length id rows) (hw : ∀ r ∈ rows, r.length = w) (hw8 : w ≤ 1000) (hnd : ∀ r ∈ rows, ∀ x ∈ r, x.nodes ≤ 1000) (hlen : rows.length ≤ 1000000000)
  (K : Kt) (hK : ∀ rs, rs.Perm rows → rs.Pairwise rle → K (.tup [zeN rs, .int .i64 0]) H) : zhj (.ov id rows.length) H1 (ze8 H.length K) := by
 obtain ⟨hlo, cs, hcs, hcells⟩ := hR
 have hcl := hcells.length
 unfold zhj
 refine ACalls.sortFunc zDJ hcs (by omega) (fun i => IT.css (rows.getD i [])) (fun i j => IT.cmpL (rows.getD i []) (rows.getD j [])) (fun i hi => ?_) (fun args w => rfl) (fun i j hi hj => ?_) (fun i hi => ?_) (fun i j k hi hj hk h1 h2 => ?_) (fun i j k hi hj hk h1 h2 => ?_) (fun p hp hsort => ?_)
 ·obtain ⟨r, hr, hc⟩ := All2.get' hcells (List.getElem?_eq_getElem hi)
  have hrd : rows.getD i [] = r := by simp [List.getD_eq_getElem?_getD, hr]
  simp only [hrd]
  rcases hc with ⟨rfl, h⟩ | ⟨hne, b, h, h1, h2, h3⟩
  ·exact .inl h
  ·exact .inr (.inr ⟨b, zbL, 2, r.length, zaZ r, h, h2, h3, zub r, by simp, fun c hc => zmn hc⟩)
 ·have ei : rows.getD i [] = rows[i] := by simp [List.getD_eq_getElem?_getD, hi]
  have ej : rows.getD j [] = rows[j] := by simp [List.getD_eq_getElem?_getD, hj]
  rw [ei, ej]
  have m1 := List.getElem_mem hi
  have m2 := List.getElem_mem hj
  exact zzM _ _ (by rw [hw _ m1, hw _ m2]) (by rw [hw _ m1]; exact hw8) (fun x hx => by have := hnd _ m1 x hx; omega) _ _ rfl
 ·have := IT.cmpL_anti (rows.getD i []) (rows.getD i [])
  omega
 ·have := IT.cmpL_tri (rows.getD i []) (rows.getD j []) (rows.getD k [])
  unfold Tri at this
  omega
 ·have := IT.cmpL_tri (rows.getD k []) (rows.getD j []) (rows.getD i [])
  have a1 := IT.cmpL_anti (rows.getD i []) (rows.getD j [])
  have a2 := IT.cmpL_anti (rows.getD j []) (rows.getD k [])
  have a3 := IT.cmpL_anti (rows.getD i []) (rows.getD k [])
  unfold Tri at this
  omega
 ·have hplen : p.length = rows.length := by simpa using hp.length_eq
  have hpm : ∀ i ∈ p, i < rows.length := fun i hi => by simpa using hp.subset hi
  have hrs : (p.map fun i => rows.getD i []).Perm rows := by
   have h1 := hp.map fun i => rows.getD i []
   have h2 : (List.range rows.length).map (fun i => rows.getD i []) = rows := List.ext_getElem (by simp) fun i h1 h2 => by simp [List.getD_eq_getElem?_getD, h2]
   rwa [h2] at h1
  have hpw : (p.map fun i => rows.getD i []).Pairwise rle := by
   rw [List.pairwise_iff_getElem]
   intro a b ha hb hab
   simp only [List.getElem_map]
   exact hsort a b (by simpa using ha) (by simpa using hb) hab
  have hK := hK _ hrs hpw
  generalize hrsd : (p.map fun i => rows.getD i []) = rs at *
  have hrl : rs.length = rows.length := hrs.length_eq
  generalize hcsd : (p.map fun i => cs.getD i .unk) = cs' at *
  have hcells' : All2 (CellR H1 H.length id) cs' rs := by
   subst hrsd hcsd
   refine All2.of_get (by simp) fun i x y hx hy => ?_
   simp only [List.getElem?_map, Option.map_eq_some_iff] at hx hy
   obtain ⟨k, hk, rfl⟩ := hx
   obtain ⟨k', hk', rfl⟩ := hy
   rw [hk] at hk'
   cases hk'
   have hlt := hpm k (List.mem_of_getElem? hk)
   obtain ⟨r, hr, hc⟩ := All2.get' hcells (List.getElem?_eq_getElem (by omega : k < cs.length))
   simp only [List.getD_eq_getElem?_getD, hr, Option.getD_some, List.getElem?_eq_getElem (by omega : k < cs.length)]
   exact hc
  have hidl := (List.getElem?_eq_some_iff.1 hcs).1
  have hset : (H1.set id (.vec zbK 1 rows.length cs'))[id]? = some (.vec zbK 1 rows.length cs') := List.getElem?_set_self hidl
  have hcells2 : All2 (CellR (H1.set id (.vec zbK 1 rows.length cs')) H.length id) cs' rs := hcells'.mono fun c r hc => hc.keep (Nat.le_refl _) fun b _ hb _ => ⟨hb, List.getElem?_set_ne (fun h => hb h.symm)⟩
  have hpre2 := ziO (b := .vec zbK 1 rows.length cs') hpre hlo
  have hwr : ∀ r ∈ rs, r.length = w := fun r hr => hw r (hrs.subset hr)
  have hndr : ∀ r ∈ rs, ∀ x ∈ r, x.nodes ≤ 1000 := fun r hr => hnd r (hrs.subset hr)
  generalize H1.set id (.vec zbK 1 rows.length cs') = H2 at *
  clear hcells hcells' hcs hsort hp
  have hcl2 := hcells2.length
  simp
  refine zGY (Inv := fun q t133 H' => ∃ i : Nat, i ≤ rows.length ∧ q = rows.length - i ∧ t133 = .int .i64 i ∧ H' = H2) rows.length ?_ ?_
  ·intro _; exact ⟨0, by omega, by omega, rfl, rfl⟩
  ·rintro q t133 H' ⟨i, hi, rfl, rfl, rfl⟩ hsc hlen' hsF Kb hKb
   by_cases hlt : i < rows.length
   ·have hir : i < cs'.length := by omega
    obtain ⟨r, hr, hc⟩ := All2.get' hcells2 (List.getElem?_eq_getElem hir)
    have hrm := List.mem_of_getElem? hr
    have hrw := hwr r hrm
    simp [zpp, hlt, hset]
    rw [zzU 1 (List.getElem?_eq_getElem hir)]
    have hHn : H.length ≤ H'.length := hpre2.length_le
    have hidn := (List.getElem?_eq_some_iff.1 hset).1
    have hnext : ∀ t138 : AV, Kb (zhi (.ov id rows.length) (.ov id rows.length) (.int .i64 rows.length) (.int .i64 ((i : Int) + 1))) H' := fun _ => by
     refine hKb _ _ ⟨rows.length - (i + 1), by omega, Back.at (J := []) (H2 := H') (by simp) hlen' hsc ?_ ⟨_, rfl, i + 1, by omega, rfl, by simp, rfl⟩⟩
     simp [zhi, AV.sc, AV.scV, AV.scA, AV.scB, hidn]
    have hlen : ∀ k : AV → Prop, k (.int .i64 r.length) → zah 1 cs'[i] k := fun k hk => by
     rcases hc with ⟨rfl, h⟩ | ⟨hne, b, h, h1, h2, h3⟩
     ·rw [h]; simpa using hk
     ·rw [h]; simpa using hk
    refine hlen _ ?_
    refine zGZ (Inv := fun q t139 H3 => ∃ k : Nat, k ≤ r.length ∧ q = r.length - k ∧ t139 = .int .i64 k ∧ H3 = H') r.length ?_ ?_
    ·intro _; exact ⟨0, by omega, by omega, rfl, rfl⟩
    ·rintro q t139 H3 ⟨k, hk, rfl, rfl, rfl⟩ hsc3 hlen3 hsF3 Kb3 hKb3
     by_cases hkl : k < r.length
     ·rcases hc with ⟨rfl, h⟩ | ⟨hne, b, h, h1, h2, h3⟩
      ·simp at hkl
      ·obtain ⟨x, y, hvx, hx, hy⟩ := zc5 r[k]
       have hself := zgY r k r[k] hkl
       rw [List.set_getElem_self] at hself
       have htk : List.take 2 (List.drop (k * 2) (zaZ r)) = (r[k]).cs := by
        rw [← hself]
        have h4 : (List.take (k * 2) (zaZ r)).length = k * 2 := by rw [List.length_take, zdx]; omega
        rw [List.append_assoc, List.drop_append_of_le_length (by omega), List.drop_of_length_le (by omega), List.nil_append, hvx]
        simp
       have hbl := (List.getElem?_eq_some_iff.1 h3).1
       simp [zpq, hkl, h, h3]
       rw [htk]
       refine ⟨by rw [zdx]; omega, ?_⟩
       refine zMI _ (r[k]) (Nat.le_refl _) (by have := hndr r hrm _ (List.getElem_mem hkl); omega) _ _ ?_
       simp [h3, hkl]
       refine ⟨by rw [zdx]; omega, ?_⟩
       rw [← List.append_assoc, hself, zuJ h3, zar (by omega) (by omega)]
       refine hKb3 _ _ ⟨r.length - (k + 1), by omega, Back.at (J := []) (H2 := H3) (by simp) (by omega) hsc3 ?_ ⟨.int .i64 ((k : Int) + 1), by simp only [h], k + 1, by omega, rfl, by simp, rfl⟩⟩
       simp [zj1, AV.sc, AV.scV, AV.scA, AV.scB, hidn, hbl]
     ·obtain rfl : k = r.length := by omega
      simp [zpq]
      rw [zar (by omega) (by omega)]
      exact hnext (.int .i64 0)
   ·obtain rfl : i = rows.length := by omega
    simp [zpp]
    refine ⟨⟨rfl, rfl⟩, ?_⟩
    obtain ⟨J, hJ⟩ := hpre2
    refine ⟨.tup [zeN rs, .int .i64 0], H, J, hJ.symm, Nat.le_refl _, hs, .tup ⟨?_, .one (.wk (.atom (.refl _)) rfl rfl), trivial⟩, hK⟩
    have hrw : zeN rs = .sl ((rs.map IT.css).map fun r => [.sl r .none]) .none := by simp [zeN]
    rw [hrw]
    refine .rows id zbK rows.length cs' (rs.map IT.css) hlo hset (by simp [hrl]) (All2.of_get (by simpa using hcl2) fun i x y hx hy => ?_)
    obtain ⟨r, hr, hc⟩ := All2.get' hcells2 hx
    simp only [List.map_map, List.getElem?_map, hr, Option.map_some, Function.comp_apply, Option.some.injEq] at hy
    subst hy
    rcases hc with ⟨rfl, rfl⟩ | ⟨hne, b, rfl, h1, h2, h3⟩
    ·exact .wk (.atom (.refl _)) rfl rfl
    ·exact .vfz b zbL 2 r.length (zaZ r) (IT.css r) h1 h3 (zub r) (by simp) (fun c hc => zmn hc)
end Go.Proofs.YtjkkonpjecoieaaGreat
namespace Go.Proofs.YtjkkonpjecoieaaGreat
open Go Go.Abs
set_option maxRecDepth 8000
theorem zDt {data : List Dat} {tn : Int} {tks : List VT} (ht : zaQ data 0 (.mk 5 tn tks) = true) : 0 ≤ tn ∧ tn.toNat < data.length := by
 rw [zaQ, Bool.and_eq_true] at ht
 have h := ht.2
 simp only [zaS, za6, Bool.and_eq_true] at h
 have h1 := h.1
 simp at h1
 refine ⟨h1.1, ?_⟩
 have h2 := h1.2
 split at h2
 ·rename_i d hd
  exact (List.getElem?_eq_some_iff.1 hd).1
 ·simp at h2
def zaI (l : List VT) (P : List Nat) : List IT := fill (List.replicate l.length (.mk 0 [])) P (P.map fun j => zbf (l.getD j (.mk 0 0 [])))
def zcw (base : List IT) (P R : List Nat) (c : Int) : List IT → List (List IT)
 | [] => []
 | .mk c' ps :: rest => if c' = c then zbg (fill base P ps) R rest else []
def zch (l : List VT) (bs : List Bool) (c : Int) (kids : List IT) : List (List IT) :=
 zbg (zaI l (pos false bs bs.length)) (pos true bs bs.length) kids ++ zcw (zaI l (pos false bs bs.length)) (pos false bs bs.length) (pos true bs bs.length) c kids
def ztl : IT → List IT
 | .mk _ ks => ks
def zcN (data : List Dat) (t : VT) (c : Int) (v : IT) : Option Int :=
 if za0 data t v < 0 then some 1 else if t.kind ≠ 5 then some 6 else if c < 0 ∨ ((data.getD t.num.toNat ⟨[], 0, []⟩).cons.length : Int) ≤ c then some 8 else if zaR data t c = none then some 0 else none
mutual
theorem zvD : ∀ t : VT, (zbf t).nodes ≤ t.nodes
 | .mk k n ks => by
  have := zvC ks
  simp only [zbf, VT.nodes, IT.nodes]
  split
  ·omega
  ·simp [IT.nodesL]
theorem zvC : ∀ ts : List VT, IT.nodesL (zbB ts) ≤ VT.nodesL ts
 | [] => by simp [zbB, IT.nodesL, VT.nodesL]
 | t :: ts => by
  have := zvD t
  have := zvC ts
  simp only [zbB, IT.nodesL, VT.nodesL]
  omega
end
theorem zhN : ∀ (ps : List Nat) (row xs : List IT) (x : IT), x ∈ fill row ps xs → x ∈ row ∨ x ∈ xs
 | [], row, xs, x, h => by simp at h; exact .inl h
 | p :: ps, row, [], x, h => by simp [fill] at h; exact .inl h
 | p :: ps, row, y :: xs, x, h => by
  rw [fill] at h
  rcases zhN ps _ xs x h with h | h
  ·rcases List.mem_or_eq_of_mem_set h with h | rfl
   ·exact .inl h
   ·exact .inr (by simp)
  ·exact .inr (by simp [h])
theorem zBx (l : List IT) (n : Nat) : IT.nodesL (l.drop n) ≤ IT.nodesL l := by
 have := IT.nodesL_app (l.take n) (l.drop n)
 rw [List.take_append_drop] at this
 omega
theorem zgg {N : Nat} : ∀ (ps : List Nat) (row l : List IT), (∀ x ∈ row, x.nodes ≤ N) → IT.nodesL l + 1 ≤ N → ∀ r ∈ zbg row ps l, ∀ x ∈ r, x.nodes ≤ N
 | [], row, l, hr, hl, r, h => by
  simp only [zbg] at h
  split at h <;> simp at h
  subst h; exact hr
 | p :: ps, row, l, hr, hl, r, h => by
  rw [zAI, List.mem_flatMap] at h
  obtain ⟨n, _, h⟩ := h
  refine zgg ps _ _ (fun x hx => ?_) (by have := zBx l n; omega) r h
  rcases List.mem_or_eq_of_mem_set hx with hx | rfl
  ·exact hr x hx
  ·have := IT.nodesL_take_le l n
   simp only [IT.nodes]; omega
theorem zsH (ps : List Nat) (row l : List IT) : ∀ r ∈ zbg row ps l, r.length = row.length := by
 rw [zgf]
 intro r h
 obtain ⟨s, _, rfl⟩ := List.mem_map.1 h
 simp
theorem ztO {l : List IT} {x : IT} (h : x ∈ l) : x.nodes ≤ IT.nodesL l := by
 induction l with
 | nil => simp at h
 | cons y l ih =>
  simp only [IT.nodesL]
  rcases List.mem_cons.1 h with rfl | h
  ·omega
  ·have := ih h; omega
theorem zsm {l : List VT} {P : List Nat} (h : ∀ x ∈ l, x.nodes ≤ 200) : ∀ x ∈ zaI l P, x.nodes ≤ 200 := by
 intro x hx
 rcases zhN _ _ _ _ hx with hx | hx
 ·rw [List.eq_of_mem_replicate hx]; simp [IT.nodes, IT.nodesL]
 ·obtain ⟨j, _, rfl⟩ := List.mem_map.1 hx
  refine Nat.le_trans (zvD _) ?_
  rw [List.getD_eq_getElem?_getD]
  cases hj : l[j]? with
  | none => simp [VT.nodes, VT.nodesL]
  | some y => exact h y (List.mem_of_getElem? hj)
theorem zuu (l : List VT) (bs : List Bool) (c : Int) (kids : List IT) : ∀ r ∈ zch l bs c kids, r.length = l.length := by
 intro r h
 unfold zch at h
 rcases List.mem_append.1 h with h | h
 ·rw [zsH _ _ _ r h]; simp [zaI]
 ·unfold zcw at h
  split at h
  ·simp at h
  ·split at h
   ·rw [zsH _ _ _ r h]; simp [zaI]
   ·simp at h
theorem zB9 {l : List VT} {bs : List Bool} {c : Int} {kids : List IT} (hl : ∀ x ∈ l, x.nodes ≤ 200) (hk : IT.nodesL kids + 1 ≤ 1000) : ∀ r ∈ zch l bs c kids, ∀ x ∈ r, x.nodes ≤ 1000 := by
 have hb := zsm (P := pos false bs bs.length) hl
 intro r h
 unfold zch at h
 rcases List.mem_append.1 h with h | h
 ·exact zgg _ _ _ (fun x hx => by have := hb x hx; omega) hk r h
 ·unfold zcw at h
  split at h
  ·simp at h
  ·rename_i c' ps rest
   simp only [IT.nodesL, IT.nodes] at hk
   split at h
   ·refine zgg _ _ _ (fun x hx => ?_) (by omega) r h
    rcases zhN _ _ _ _ hx with hx | hx
    ·have := hb x hx; omega
    ·have := ztO hx; omega
   ·simp at h
theorem ziM {a n : Nat} (ha : a ≤ 7) (hn : n ≤ 8) : a ^ n ≤ 100000000 :=
 Nat.le_trans (Nat.pow_le_pow_left ha n) (Nat.le_trans (Nat.pow_le_pow_right (by omega) hn) (by decide))
theorem zut {l : List VT} {bs : List Bool} {c : Int} {kids : List IT} (hk : kids.length ≤ 6) (hb : bs.length ≤ 8) : (zch l bs c kids).length ≤ 200000000 := by
 have hR := zdu true bs bs.length
 unfold zch
 rw [List.length_append]
 have h1 := Nat.le_trans (zmr (pos true bs bs.length) (zaI l (pos false bs bs.length)) kids) (ziM (by omega) (by omega))
 have : (zcw (zaI l (pos false bs bs.length)) (pos false bs bs.length) (pos true bs bs.length) c kids).length ≤ 100000000 := by
  unfold zcw
  split
  ·simp
  ·rename_i c' ps rest
   split
   ·exact Nat.le_trans (zmr _ _ _) (ziM (by simp at hk; omega) (by omega))
   ·simp
 omega
def d0 : IT := .mk 0 []
def tz : VT := .mk 0 0 []
theorem zu6 (f : Nat → Int) (b : Nat → Bool) : ∀ l : List Nat, (l.map f).sum = ((l.filter fun j => b j == false).map f).sum + ((l.filter fun j => b j == true).map f).sum
 | [] => by simp
 | x :: l => by
  have := zu6 f b l
  cases h : b x <;> simp [List.filter_cons, h, this] <;> omega
theorem znW {data : List Dat} (m n : Int) (kk : List IT) (ks : List VT) : rdV data (.mk m kk) (.mk 5 n ks) = if m = 0 ∧ kk.length ≤ 6 then rdE data kk (.mk 5 n ks) 0 else -1 := by simp [rdV, VT.kind]
theorem znQ {v : Bool} {bs : List Bool} {j : Nat} (h : j < bs.length) (hb : bs.getD j false = v) : j ∈ pos v bs bs.length := by
 simp [List.getD_eq_getElem?_getD, h] at hb
 simp [pos, h, hb]
mutual
theorem zvE {data : List Dat} : ∀ x : VT, rdV data (zbf x) x = 0
 | .mk k n ks => by
  have hA := zvF (data := data) ks 0 (by omega) (by omega)
  by_cases h6 : k = 6
  ·subst h6
   have : rdV data (zbf (.mk 6 n ks)) (.mk 6 n ks) = rdA data (zbB ks) ks 0 := by simp [zbf, rdV, VT.kind, VT.kids, zg7]
   rw [this, hA]
  ·by_cases h7 : k = 7
   ·subst h7
    simp [zbf, rdV, VT.kind]
   ·by_cases h5 : k = 5
    ·subst h5
     simp [zbf, rdV, VT.kind, rdE]
    ·simp [zbf, rdV, VT.kind, h6, h7, h5]
theorem zvF {data : List Dat} : ∀ (ts : List VT) (a : Int), 0 ≤ a → a ≤ 6 → rdA data (zbB ts) ts a = a
 | [], a, _, _ => by simp only [zbB, rdA]
 | t :: ts, a, h, h6 => by
  have h1 := zvE (data := data) t
  rw [zbB, zul, h1, if_neg (by omega), Int.add_zero, zvF ts a h h6]
end
theorem zgX {data : List Dat} (h8 : ∀ D ∈ data, D.cons.length ≤ 8) (t : VT) : ∀ (rs : List (List IT)) (a : Int), 0 ≤ a → a ≤ 6 → 0 ≤ rdE data rs.flatten t a → (∀ r ∈ rs, 0 ≤ rdE data r t 0) ∧ rdE data rs.flatten t a = a + (rs.map fun r => rdE data r t 0).sum
 | [], a, h, h6, _ => by simp only [List.flatten_nil, rdE]; simp
 | r :: rs, a, h, h6, hd => by
  rw [List.flatten_cons, zun h8 _ _ _ _ h h6, znU r t a h h6] at hd ⊢
  by_cases hr : rdE data r t 0 < 0 ∨ a + rdE data r t 0 > 6
  ·rw [zcL hr] at hd; simp at hd
  ·rw [zfe (by omega) (by omega)] at hd ⊢
   rw [if_neg (by omega)] at hd ⊢
   obtain ⟨g1, g2⟩ := zgX h8 t rs _ (by omega) (by omega) hd
   refine ⟨fun x hx => ?_, by rw [g2]; simp; omega⟩
   rcases List.mem_cons.1 hx with rfl | hx
   ·omega
   ·exact g1 x hx
theorem zgW {data : List Dat} : ∀ (vs : List IT) (ts : List VT) (a : Int), 0 ≤ a → vs.length = ts.length → 0 ≤ rdA data vs ts a → (∀ k (h1 : k < vs.length) (h2 : k < ts.length), 0 ≤ rdV data vs[k] ts[k]) ∧ rdA data vs ts a = a + (List.zipWith (rdV data) vs ts).sum
 | [], [], a, h, _, _ => by simp only [rdA]; simp
 | [], _ :: _, _, _, hl, _ => by simp at hl
 | _ :: _, [], _, _, hl, _ => by simp at hl
 | v :: vs, t :: ts, a, h, hl, hd => by
  rw [zul] at hd ⊢
  by_cases hr : rdV data v t < 0 ∨ a + rdV data v t > 6
  ·rw [if_pos hr] at hd; omega
  ·rw [if_neg hr] at hd ⊢
   obtain ⟨g1, g2⟩ := zgW vs ts _ (by omega) (by simpa using hl) hd
   refine ⟨fun k h1 h2 => ?_, by rw [g2]; simp; omega⟩
   cases k with
   | zero => simp; omega
   | succ k => simpa using g1 k (by simpa using h1) (by simpa using h2)
theorem zhM {R : List Nat} {row xs : List IT} (hn : R.Nodup) (hl : xs.length = R.length) (hr : ∀ p ∈ R, p < row.length) : (R.map fun j => (fill row R xs).getD j d0) = xs := by
 refine List.ext_getElem (by simp [hl]) fun k h1 h2 => ?_
 have := zmz R row xs hn hl hr k (by simpa using h1) h2
 simp [List.getD_eq_getElem?_getD, this]
theorem zsZ {R P : List Nat} {row xs : List IT} (hd : ∀ p ∈ P, p ∉ R) : (P.map fun j => (fill row R xs).getD j d0) = P.map fun j => row.getD j d0 :=
 List.map_congr_left fun j hj => by rw [List.getD_eq_getElem?_getD, zfj R row xs j (hd j hj), List.getD_eq_getElem?_getD]
theorem zu7 : ∀ P : List Nat, (P.map fun _ => (0 : Int)).sum = 0
 | [] => rfl
 | p :: P => by simp only [List.map_cons, List.sum_cons, zu7 P, Int.zero_add]
theorem zvG {data : List Dat} (f : Nat → IT) (g : Nat → VT) : ∀ P : List Nat, (P.map fun j => rdV data (f j) (g j)) = List.zipWith (rdV data) (P.map f) (P.map g)
 | [] => rfl
 | p :: P => by simp only [List.map_cons, List.zipWith_cons_cons, zvG f g P]
theorem zuB {data : List Dat} {n : Int} {ks : List VT} {l : List VT} {R : List Nat} {r : List IT} {s : List (List IT)} (h8 : ∀ D ∈ data, D.cons.length ≤ 8) (hrt : ∀ j ∈ R, l.getD j tz = .mk 5 n ks) (hm : (R.map fun j => r.getD j d0) = s.map (IT.mk 0)) (hs : ∀ x ∈ s, 0 ≤ rdE data x (.mk 5 n ks) 0) :
  (∀ j ∈ R, 0 ≤ rdV data (r.getD j d0) (l.getD j tz)) ∧ (R.map fun j => rdV data (r.getD j d0) (l.getD j tz)).sum = (s.map fun x => rdE data x (.mk 5 n ks) 0).sum := by
 have h5 : ∀ x ∈ s, rdV data (IT.mk 0 x) (.mk 5 n ks) = rdE data x (.mk 5 n ks) 0 := fun x hx => by
  have h1 := ziP (data := data) x (.mk 5 n ks) 0 (by omega)
  have h2 := zuo (h8 := h8) x (.mk 5 n ks)
  have h3 := hs x hx
  rw [znW, if_pos ⟨rfl, by omega⟩]
 have e1 : (R.map fun j => rdV data (r.getD j d0) (l.getD j tz)) = (R.map fun j => r.getD j d0).map fun x => rdV data x (.mk 5 n ks) := by
  rw [List.map_map]
  exact List.map_congr_left fun j hj => by simp only [Function.comp_apply]; rw [hrt j hj]
 have e2 : (R.map fun j => rdV data (r.getD j d0) (l.getD j tz)) = s.map fun x => rdE data x (.mk 5 n ks) 0 := by
  rw [e1, hm, List.map_map]
  exact List.map_congr_left fun x hx => h5 x hx
 refine ⟨fun j hj => ?_, by rw [e2]⟩
 have : rdV data (r.getD j d0) (l.getD j tz) ∈ R.map fun j => rdV data (r.getD j d0) (l.getD j tz) := List.mem_map.2 ⟨j, hj, rfl⟩
 rw [e2] at this
 obtain ⟨x, hx, he⟩ := List.mem_map.1 this
 rw [← he]
 exact hs x hx
theorem zB8 {data : List Dat} (h8 : ∀ D ∈ data, D.cons.length ≤ 8) {n : Int} {ks : List VT} {c : Int} {l : List VT} {bs : List Bool} {kids : List IT} (hlb : l.length = bs.length) (hpay : zbl data (.mk 5 n ks) c = some (pick l bs))
  (hrt : ∀ j, bs.getD j false = true → l.getD j tz = .mk 5 n ks) (hd : 0 ≤ rdE data kids (.mk 5 n ks) 0) (r : List IT) (hr : r ∈ zch l bs c kids) :
  (∀ j, j < bs.length → 0 ≤ rdV data (r.getD j d0) (l.getD j tz)) ∧ (((List.range bs.length).map fun j => rdV data (r.getD j d0) (l.getD j tz)).sum = rdE data kids (.mk 5 n ks) 0 ∨ ((List.range bs.length).map fun j => rdV data (r.getD j d0) (l.getD j tz)).sum = rdE data kids (.mk 5 n ks) 0 - 1) := by
 have hsum := zu6 (fun j => rdV data (r.getD j d0) (l.getD j tz)) (fun j => bs.getD j false) (List.range bs.length)
 have hpk := zdt hlb tz l.length (Nat.le_refl _)
 rw [List.take_length, hlb, List.take_length] at hpk
 have hPn : (pos false bs bs.length).Nodup := List.Pairwise.filter _ List.nodup_range
 have hRn : (pos true bs bs.length).Nodup := List.Pairwise.filter _ List.nodup_range
 have hPl : ∀ j ∈ pos false bs bs.length, j < l.length := fun j hj => by have := zdv hj; omega
 have hRl : ∀ j ∈ pos true bs bs.length, j < l.length := fun j hj => by have := zdv hj; omega
 have hRb : ∀ j ∈ pos true bs bs.length, bs.getD j false = true := fun j hj => by
  simp [pos] at hj; rw [List.getD_eq_getElem?_getD]; exact hj.2
 have hPb : ∀ j ∈ pos false bs bs.length, bs.getD j false = false := fun j hj => by
  simp [pos] at hj; rw [List.getD_eq_getElem?_getD]; exact hj.2
 have hPR : ∀ j ∈ pos false bs bs.length, j ∉ pos true bs bs.length := fun j hj h => by
  have h1 := hPb j hj
  have h2 := hRb j h
  rw [h1] at h2
  cases h2
 have hall : ∀ j, j < bs.length → j ∈ pos false bs bs.length ∨ j ∈ pos true bs bs.length := fun j hj => by
  cases hb : bs.getD j false with
  | true => exact .inr (znQ hj hb)
  | false => exact .inl (znQ hj hb)
 have hrt' : ∀ j ∈ pos true bs bs.length, l.getD j tz = .mk 5 n ks := fun j hj => hrt j (hRb j hj)
 rw [show ((List.range bs.length).filter fun j => bs.getD j false == false) = pos false bs bs.length from rfl, show ((List.range bs.length).filter fun j => bs.getD j false == true) = pos true bs bs.length from rfl] at hsum
 rw [hsum]
 have hbl : ∀ P, (zaI l P).length = l.length := fun P => by simp [zaI]
 unfold zch at hr
 generalize pos false bs bs.length = P at *
 generalize pos true bs bs.length = R at *
 have hr0 := List.mem_append.1 hr
 clear hr
 rcases hr0 with hr | hr
 ·rw [zgf] at hr
  obtain ⟨s, hs, rfl⟩ := List.mem_map.1 hr
  have hfl := zn6 _ _ s hs
  have hsl := zn7 _ _ s hs
  rw [← hfl] at hd
  obtain ⟨g1, g2⟩ := zgX h8 (.mk 5 n ks) s 0 (by omega) (by omega) hd
  rw [hfl] at g2
  have hm := zhM (row := zaI l P) (xs := s.map (IT.mk 0)) hRn (by simpa using hsl) (fun p hp => by rw [hbl]; exact hRl p hp)
  obtain ⟨d1, d2⟩ := zuB h8 hrt' hm g1
  have hz : ∀ j ∈ P, rdV data ((fill (zaI l P) R (s.map (IT.mk 0))).getD j d0) (l.getD j tz) = 0 := by
   have e1 := zsZ (row := zaI l P) (xs := s.map (IT.mk 0)) hPR
   have e2 := zhM (row := List.replicate l.length (.mk 0 [])) (xs := P.map fun j => zbf (l.getD j (.mk 0 0 []))) hPn (by simp) (fun p hp => by simpa using hPl p hp)
   rw [show fill (List.replicate l.length (.mk 0 [])) P (P.map fun j => zbf (l.getD j (.mk 0 0 []))) = zaI l P from rfl] at e2
   rw [e2] at e1
   intro j hj
   rw [List.map_inj_left.1 e1 j hj]
   exact zvE _
  have hzs : (P.map fun j => rdV data ((fill (zaI l P) R (s.map (IT.mk 0))).getD j d0) (l.getD j tz)).sum = 0 := by
   have : (P.map fun j => rdV data ((fill (zaI l P) R (s.map (IT.mk 0))).getD j d0) (l.getD j tz)) = P.map fun _ => (0 : Int) := List.map_congr_left hz
   rw [this, zu7]
  refine ⟨fun j hj => ?_, .inl ?_⟩
  ·rcases hall j hj with h | h
   ·rw [hz j h]; exact Int.le_refl _
   ·exact d1 j h
  ·rw [hzs, d2, g2]
 ·cases kids with
  | nil => simp [zcw] at hr
  | cons x rest =>
   obtain ⟨c', ps⟩ := x
   simp only [zcw] at hr
   split at hr
   ·rename_i hcc
    subst hcc
    rw [zgf] at hr
    obtain ⟨s, hs, rfl⟩ := List.mem_map.1 hr
    have hfl := zn6 _ _ s hs
    have hsl := zn7 _ _ s hs
    rw [zec] at hd ⊢
    by_cases h1 : c' < 0 ∨ 8 ≤ c'
    ·rw [if_pos h1] at hd; omega
    ·rw [if_neg h1, hpay] at hd ⊢
     simp only at hd ⊢
     by_cases h2 : (pick l bs).length = ps.length
     ·rw [if_pos h2] at hd ⊢
      by_cases h3 : rdA data ps (pick l bs) 0 < 0 ∨ 0 + 1 + rdA data ps (pick l bs) 0 > 6
      ·rw [if_pos h3] at hd; omega
      ·rw [if_neg h3] at hd ⊢
       rw [← hfl] at hd
       obtain ⟨g1, g2⟩ := zgX h8 (.mk 5 n ks) s _ (by omega) (by omega) hd
       rw [hfl] at g2
       rw [hpk] at h2 h3 g2 ⊢
       obtain ⟨p1, p2⟩ := zgW (data := data) ps (P.map fun j => l.getD j tz) 0 (by omega) h2.symm (by omega)
       have hm := zhM (row := fill (zaI l P) P ps) (xs := s.map (IT.mk 0)) hRn (by simpa using hsl) (fun p hp => by rw [zfi, hbl]; exact hRl p hp)
       obtain ⟨d1, d2⟩ := zuB h8 hrt' hm g1
       have e1 := zsZ (row := fill (zaI l P) P ps) (xs := s.map (IT.mk 0)) hPR
       have e2 := zhM (row := zaI l P) (xs := ps) hPn (by simpa using h2.symm) (fun p hp => by rw [hbl]; exact hPl p hp)
       rw [e2] at e1
       have e3 : (P.map fun j => rdV data ((fill (fill (zaI l P) P ps) R (s.map (IT.mk 0))).getD j d0) (l.getD j tz)) = List.zipWith (rdV data) ps (P.map fun j => l.getD j tz) := by
        rw [zvG, e1]
       refine ⟨fun j hj => ?_, .inr ?_⟩
       ·rcases hall j hj with h | h
        ·obtain ⟨k, hk, rfl⟩ := List.getElem_of_mem h
         have := p1 k (by rw [← h2]; simpa using hk) (by simpa using hk)
         have e4 : (fill (fill (zaI l P) P ps) R (s.map (IT.mk 0))).getD P[k] d0 = ps[k]'(by rw [← h2]; simpa using hk) := by
          have := congrArg (fun x => x[k]?) e1
          simp only [List.getElem?_map, List.getElem?_eq_getElem hk, Option.map_some, List.getElem?_eq_getElem (show k < ps.length by rw [← h2]; simpa using hk), Option.some.injEq] at this
          exact this
         rw [e4]
         simpa using this
        ·exact d1 j h
       ·rw [e3, d2, g2]
        omega
     ·rw [if_neg h2] at hd; omega
   ·simp at hr
end Go.Proofs.YtjkkonpjecoieaaGreat
namespace Go.Abs
def zaC {α : Type} : List (α → Nat) → List α → Nat
 | [], _ => 1
 | _ :: _, [] => 0
 | w :: ws, n :: ns => w n * zaC ws ns + zaC (w :: ws) ns
theorem ziS {α : Type} (w : α → Nat) (n : α) : ∀ (ws : List (α → Nat)) (P : List α), zaC (ws ++ [w]) (P ++ [n]) = zaC (ws ++ [w]) P + zaC ws P * w n
 | [], [] => by simp [zaC]
 | [], p :: P => by
  have := ziS w n [] P
  simp only [List.nil_append, List.cons_append, zaC] at this ⊢
  omega
 | v :: ws, [] => by
  cases ws <;> simp [zaC]
 | v :: ws, p :: P => by
  have h1 := ziS w n ws P
  have h2 := ziS w n (v :: ws) P
  simp only [List.cons_append, zaC] at h2 ⊢
  rw [h1, h2]
  grind
theorem zuI {α : Type} : ∀ ws : List (α → Nat), zaC ws ([] : List α) = if ws.isEmpty then 1 else 0
 | [] => rfl
 | _ :: _ => rfl
def za2 (l : List Nat) : Nat := l.foldr (· + ·) 0
@[simp] theorem zSK : za2 [] = 0 := rfl
@[simp] theorem zg4 (a : Nat) (l : List Nat) : za2 (a :: l) = a + za2 l := rfl
theorem zg3 : ∀ (a b : List Nat), za2 (a ++ b) = za2 a + za2 b
 | [], b => by simp
 | x :: a, b => by simp [zg3 a b]; omega
theorem zDh {a b : List Nat} (h : a.Perm b) : za2 a = za2 b := by
 induction h with
 | nil => rfl
 | cons x _ ih => simp [ih]
 | swap x y l => simp; omega
 | trans _ _ h1 h2 => rw [h1, h2]
theorem zof {α : Type} (c : Nat) (f : α → Nat) : ∀ l : List α, za2 (l.map fun a => c * f a) = c * za2 (l.map f)
 | [] => by simp
 | a :: l => by simp [zof c f l, Nat.mul_add]
theorem zu3 {α β : Type} (f : β → Nat) (g : α → List β) : ∀ l : List α, za2 ((l.flatMap g).map f) = za2 (l.map fun a => za2 ((g a).map f))
 | [] => by simp
 | a :: l => by simp [List.flatMap_cons, zg3, zu3 f g l]
theorem zn8 {α : Type} : ∀ (ws : List (α → Nat)) (A B : List α), zaC ws (A ++ B) = za2 ((List.range (ws.length + 1)).map fun n => zaC (ws.take n) A * zaC (ws.drop n) B)
 | [], A, B => by simp [zaC]
 | w :: ws, [], B => by
  rw [List.nil_append, List.range_succ_eq_map, List.map_cons, List.map_map, zg4]
  have : za2 ((List.range (w :: ws).length).map ((fun n => zaC ((w :: ws).take n) [] * zaC ((w :: ws).drop n) B) ∘ Nat.succ)) = 0 := by
   generalize (List.range (w :: ws).length) = l
   induction l with
   | nil => simp
   | cons a l ih => simp [zaC, ih]
  rw [this]; simp [zaC]
 | w :: ws, a :: A, B => by
  have h1 := zn8 ws A B
  have h2 := zn8 (w :: ws) A B
  rw [List.range_succ_eq_map, List.map_cons, List.map_map, zg4] at h2 ⊢
  simp only [List.cons_append, zaC, h1, h2]
  simp only [List.take_zero, List.drop_zero, zaC, Nat.one_mul, Function.comp_def, List.take_succ_cons, List.drop_succ_cons, List.length_cons]
  rw [← zof]
  generalize (List.range (ws.length + 1)) = l
  have : ∀ l : List Nat, za2 (l.map fun n => w a * (zaC (ws.take n) A * zaC (ws.drop n) B)) + za2 (l.map fun n => zaC (w :: ws.take n) A * zaC (ws.drop n) B) = za2 (l.map fun n => (w a * zaC (ws.take n) A + zaC (w :: ws.take n) A) * zaC (ws.drop n) B) := by
   intro l
   induction l with
   | nil => simp
   | cons x l ih => simp only [List.map_cons, zg4]; rw [← ih]; grind
  have := this l
  omega
theorem zCq {α : Type} (ws : List (α → Nat)) (a : α) (l : List α) : zaC ws l ≤ zaC ws (a :: l) := by
 cases ws <;> simp [zaC]
theorem zuH {α : Type} (w : α → Nat) (ws : List (α → Nat)) : ∀ l : List α, zaC (w :: ws) l ≤ za2 (l.map w) * zaC ws l
 | [] => by simp [zaC]
 | a :: l => by
  have ih := zuH w ws l
  have h1 := zCq ws a l
  simp only [zaC, List.map_cons, zg4, Nat.add_mul]
  have h2 : w a * zaC ws l ≤ w a * zaC ws (a :: l) := Nat.mul_le_mul_left _ h1
  have h3 : za2 (l.map w) * zaC ws l ≤ za2 (l.map w) * zaC ws (a :: l) := Nat.mul_le_mul_left _ h1
  omega
theorem zu4 {α : Type} {w : α → Nat} {b : Nat} : ∀ l : List α, (∀ a ∈ l, w a ≤ b) → za2 (l.map w) ≤ l.length * b
 | [], _ => by simp
 | a :: l, h => by
  have h1 := h a (by simp)
  have h2 := zu4 l (fun x hx => h x (by simp [hx]))
  simp only [List.map_cons, zg4, List.length_cons, Nat.succ_mul]
  omega
end Go.Abs
namespace Go.Abs
open Go
def zaM (g : Nat → IT → Nat) : Nat → List IT → Nat
 | _, [] => 1
 | k, x :: xs => g k x * zaM g (k + 1) xs
theorem zug (g : Nat → IT → Nat) : ∀ (k : Nat) (row : List IT) (p : Nat) (x : IT) (h : p < row.length), zaM g k (row.set p x) * g (k + p) row[p] = zaM g k row * g (k + p) x
 | k, [], p, x, h => by simp at h
 | k, y :: row, 0, x, h => by simp [zaM]; grind
 | k, y :: row, p + 1, x, h => by
  have := zug g (k + 1) row p x (by simpa using h)
  rw [show k + 1 + p = k + (p + 1) by omega] at this
  simp only [List.set_cons_succ, zaM, List.getElem_cons_succ]
  grind
theorem zuh (g : Nat → IT → Nat) (row : List IT) (p : Nat) (x : IT) (h : p < row.length) (h1 : g p row[p] = 1) : zaM g 0 (row.set p x) = zaM g 0 row * g p x := by
 have := zug g 0 row p x h
 simp only [Nat.zero_add] at this
 rw [h1, Nat.mul_one] at this
 exact this
theorem zuf (g : Nat → IT → Nat) : ∀ (k : Nat) (row : List IT), (∀ (p : Nat) (h : p < row.length), g (k + p) row[p] = 1) → zaM g k row = 1
 | k, [], _ => rfl
 | k, x :: row, h => by
  have h0 := h 0 (by simp)
  rw [zaM, zuf g (k + 1) row (fun p hp => by have := h (p + 1) (by simpa using hp); rw [show k + 1 + p = k + (p + 1) by omega]; simpa using this)]
  simpa using h0
theorem zue (g : Nat → IT → Nat) : ∀ (P : List Nat) (row xs : List IT), P.Nodup → xs.length = P.length → (∀ p ∈ P, ∃ h : p < row.length, g p row[p] = 1) →
  zaM g 0 (fill row P xs) = zaM g 0 row * ((P.zip xs).foldr (fun e a => g e.1 e.2 * a) 1)
 | [], row, xs, _, hl, _ => by simp
 | p :: P, row, [], _, hl, _ => by simp at hl
 | p :: P, row, x :: xs, hn, hl, hp => by
  rw [List.nodup_cons] at hn
  obtain ⟨h0, h1⟩ := hp p (by simp)
  rw [fill, zue g P _ xs hn.2 (by simpa using hl) (fun q hq => ?_), zuh g row p x h0 h1]
  ·simp only [List.zip_cons_cons, List.foldr_cons]; grind
  ·obtain ⟨h2, h3⟩ := hp q (by simp [hq])
   refine ⟨by simpa using h2, ?_⟩
   have hne : p ≠ q := by rintro rfl; exact hn.1 hq
   rw [List.getElem_set_ne hne]; exact h3
theorem zmu {β : Type} (g : Nat → IT → Nat) (wt : IT → (β → Nat)) (nodes : Nat → List β) : ∀ (ps : List Nat) (row l : List IT), ps.Nodup →
  (∀ p ∈ ps, ∀ s : List IT, g p (.mk 0 s) = zaC (s.map wt) (nodes p)) → (∀ p ∈ ps, ∃ h : p < row.length, row[p] = .mk 0 []) →
  za2 ((zbg row ps l).map (zaM g 0)) = zaM g 0 row * zaC (l.map wt) (ps.flatMap nodes)
 | [], row, l, _, _, _ => by
  simp only [zbg, List.flatMap_nil, zuI]
  cases l <;> simp
 | p :: ps, row, l, hn, hg, hr => by
  rw [List.nodup_cons] at hn
  obtain ⟨h0, h1⟩ := hr p (by simp)
  have hg1 : g p row[p] = 1 := by rw [h1, hg p (by simp)]; simp [zaC]
  have key : ∀ n, za2 ((zbg (row.set p (.mk 0 (l.take n))) ps (l.drop n)).map (zaM g 0)) = zaM g 0 row * (zaC ((l.map wt).take n) (nodes p) * zaC ((l.map wt).drop n) (ps.flatMap nodes)) := by
   intro n
   rw [zmu g wt nodes ps _ _ hn.2 (fun q hq => hg q (by simp [hq])) (fun q hq => ?_), zuh g row p _ h0 hg1, hg p (by simp), List.map_take, List.map_drop, Nat.mul_assoc]
   obtain ⟨h2, h3⟩ := hr q (by simp [hq])
   refine ⟨by simpa using h2, ?_⟩
   have hne : p ≠ q := by rintro rfl; exact hn.1 hq
   rw [List.getElem_set_ne hne]; exact h3
  rw [zbg, zu3, List.flatMap_cons, zn8, ← zof, List.length_map]
  congr 1
  exact List.map_congr_left fun n _ => key n
end Go.Abs
namespace Go.Proofs.YtjkkonpjecoieaaGreat
open Go Go.Abs
mutual
def atV (data : List Dat) : IT → VT → VT → Nat
 | .mk n ks, t, v =>
  if t.kind = 6 then atL data ks t.kids v.kids
  else if t.kind = 7 then chs v.kids.length n.toNat
  else if t.kind = 5 then zaC (wtL data ks t) (zbi (za4 data t.num.toNat) v)
  else 1
def atL (data : List Dat) : List IT → List VT → List VT → Nat
 | [], _, _ => 1
 | i :: l, ts, vs => match ts, vs with
  | t :: ts, v :: vs => atV data i t v * atL data l ts vs
  | _, _ => 1
def wtL (data : List Dat) : List IT → VT → List (VT → Nat)
 | [], _ => []
 | e :: es, t => wtE data e t :: wtL data es t
def wtE (data : List Dat) : IT → VT → VT → Nat
 | .mk c ks, t, n => if n.num = c then atL data ks ((zbl data t c).getD []) (pick n.kids ((za4 data t.num.toNat).getD c.toNat [])) else 0
end
theorem zeR (data : List Dat) (t : VT) : ∀ es : List IT, wtL data es t = es.map fun e => wtE data e t
 | [] => by simp [wtL]
 | e :: es => by simp [wtL, zeR data t es]
mutual
theorem zsj (data : List Dat) : ∀ (t v : VT), atV data (zbf t) t v = 1
 | .mk k n ks, v => by
  have := zsh data ks v.kids
  unfold zbf
  rw [atV]
  by_cases h6 : k = 6
  ·simp [h6, VT.kind, VT.kids]
   simpa [VT.kids] using this
  ·by_cases h7 : k = 7
   ·simp [h6, h7, VT.kind, VT.kids]
   ·simp only [h6, VT.kind, if_false, h7]
    split <;> simp [wtL, zaC]
theorem zsh (data : List Dat) : ∀ (ts vs : List VT), atL data (zbB ts) ts vs = 1
 | [], vs => by simp [zbB, atL]
 | t :: ts, [] => by simp [zbB, atL]
 | t :: ts, v :: vs => by simp [zbB, atL, zsj data t v, zsh data ts vs]
end
theorem zsi (data : List Dat) (tf vf : Nat → VT) : ∀ (P : List Nat) (xs : List IT), xs.length = P.length → (P.zip xs).foldr (fun e a => atV data e.2 (tf e.1) (vf e.1) * a) 1 = atL data xs (P.map tf) (P.map vf)
 | [], [], _ => by simp [atL]
 | [], _ :: _, h => by simp at h
 | _ :: _, [], h => by simp at h
 | p :: P, x :: xs, h => by
  have := zsi data tf vf P xs (by simpa using h)
  simp [atL, this]
theorem zuc (rs : List (List Bool)) : ∀ (vs : List VT) (bs : List Bool), vs.length = bs.length → zbG rs vs bs = (pos true bs bs.length).flatMap fun j => zbi rs (vs.getD j tz) := by
 have key : ∀ (vs : List VT) (bs : List Bool), vs.length = bs.length → zbG rs vs bs = ((List.range bs.length).flatMap fun j => if bs.getD j false = true then zbi rs (vs.getD j tz) else []) := by
  intro vs
  induction vs with
  | nil => intro bs h; cases bs <;> simp [zbG] at h ⊢
  | cons v vs ih =>
   intro bs h
   cases bs with
   | nil => simp at h
   | cons b bs =>
    rw [zbG, ih bs (by simpa using h), List.length_cons, List.range_succ_eq_map, List.flatMap_cons, List.flatMap_map]
    simp
 intro vs bs h
 rw [key vs bs h]
 unfold pos
 generalize List.range bs.length = l
 induction l with
 | nil => rfl
 | cons a l ih =>
  rw [List.flatMap_cons, ih]
  cases hb : bs.getD a false <;> simp [List.filter_cons, hb, List.getD_eq_getElem?_getD] <;> simp [List.getD_eq_getElem?_getD] at hb <;> simp [hb]
theorem zCb {data : List Dat} {n c : Int} {ks : List VT} {l vs : List VT} {bs : List Bool} {kids : List IT} (hlb : l.length = bs.length) (hvl : vs.length = l.length)
  (hbs : (za4 data n.toNat).getD c.toNat [] = bs) (hpay : zbl data (.mk 5 n ks) c = some (pick l bs)) (hrt : ∀ j, bs.getD j false = true → l.getD j tz = .mk 5 n ks)
  (hk : ∀ ps rest, kids = .mk c ps :: rest → ps.length = (pick l bs).length) :
  za2 ((zch l bs c kids).map (zaM (fun k x => atV data x (l.getD k tz) (vs.getD k tz)) 0)) = atV data (.mk 0 kids) (.mk 5 n ks) (.mk 5 c vs) := by
 have hPn : (pos false bs bs.length).Nodup := List.Pairwise.filter _ List.nodup_range
 have hRn : (pos true bs bs.length).Nodup := List.Pairwise.filter _ List.nodup_range
 have hPl : ∀ j ∈ pos false bs bs.length, j < l.length := fun j hj => by have := zdv hj; omega
 have hRl : ∀ j ∈ pos true bs bs.length, j < l.length := fun j hj => by have := zdv hj; omega
 have hRb : ∀ j ∈ pos true bs bs.length, bs.getD j false = true := fun j hj => by
  simp [pos] at hj; rw [List.getD_eq_getElem?_getD]; exact hj.2
 have hPb : ∀ j ∈ pos false bs bs.length, bs.getD j false = false := fun j hj => by
  simp [pos] at hj; rw [List.getD_eq_getElem?_getD]; exact hj.2
 have hPR : ∀ j ∈ pos true bs bs.length, j ∉ pos false bs bs.length := fun j hj h => by
  have h1 := hPb j h
  have h2 := hRb j hj
  rw [h1] at h2
  cases h2
 have hpk := zdt hlb tz l.length (Nat.le_refl _)
 rw [List.take_length, hlb, List.take_length] at hpk
 have hpv := zdt (l := vs) (bs := bs) (by omega) tz vs.length (Nat.le_refl _)
 rw [List.take_length, hvl, hlb, List.take_length] at hpv
 have hbl : ∀ P, (zaI l P).length = l.length := fun P => by simp [zaI]
 let g : Nat → IT → Nat := fun k x => atV data x (l.getD k tz) (vs.getD k tz)
 -- the base row counts 1 at each place
 have hb1 : ∀ (p : Nat) (h : p < (zaI l (pos false bs bs.length)).length), g p (zaI l (pos false bs bs.length))[p] = 1 := by
  intro p h
  have hp : p < l.length := by rw [hbl] at h; exact h
  by_cases hm : p ∈ pos false bs bs.length
  ·obtain ⟨j, hj, he⟩ := List.getElem_of_mem hm
   have := zmz (pos false bs bs.length) (List.replicate l.length (.mk 0 [])) ((pos false bs bs.length).map fun j => zbf (l.getD j (.mk 0 0 []))) hPn (by simp) (fun q hq => by simpa using hPl q hq) j hj (by simpa using hj)
   rw [he] at this
   have e : (zaI l (pos false bs bs.length))[p] = zbf (l.getD p tz) := by
    have h2 : (zaI l (pos false bs bs.length))[p]? = some (zbf (l.getD p tz)) := by
     rw [zaI, this]; simp [he, tz]
    rw [List.getElem?_eq_getElem h] at h2
    exact Option.some.inj h2
   show atV data (zaI l (pos false bs bs.length))[p] (l.getD p tz) (vs.getD p tz) = 1
   rw [e]; exact zsj _ _ _
  ·have e : (zaI l (pos false bs bs.length))[p] = .mk 0 [] := by
    have h2 : (zaI l (pos false bs bs.length))[p]? = some (.mk 0 []) := by
     rw [zaI, zfj _ _ _ _ hm]; simp [hp]
    rw [List.getElem?_eq_getElem h] at h2
    exact Option.some.inj h2
   have hbp : bs.getD p false = true := by
    cases hb : bs.getD p false with
    | true => rfl
    | false => exact absurd (znQ (by omega) hb) hm
   show atV data (zaI l (pos false bs bs.length))[p] (l.getD p tz) (vs.getD p tz) = 1
   rw [e, hrt p hbp]
   simp [atV, VT.kind, wtL, zaC]
 have hbase : zaM g 0 (zaI l (pos false bs bs.length)) = 1 := zuf g 0 _ fun p h => by rw [Nat.zero_add]; exact hb1 p h
 have hg : ∀ p ∈ pos true bs bs.length, ∀ s : List IT, g p (.mk 0 s) = zaC (s.map fun e => wtE data e (.mk 5 n ks)) (zbi (za4 data n.toNat) (vs.getD p tz)) := by
  intro p hp s
  show atV data (.mk 0 s) (l.getD p tz) (vs.getD p tz) = _
  rw [hrt p (hRb p hp)]
  simp [atV, VT.kind, VT.num, zeR]
 have hR0 : ∀ p ∈ pos true bs bs.length, ∃ h : p < (zaI l (pos false bs bs.length)).length, (zaI l (pos false bs bs.length))[p] = .mk 0 [] := by
  intro p hp
  have h : p < (zaI l (pos false bs bs.length)).length := by rw [hbl]; exact hRl p hp
  refine ⟨h, ?_⟩
  have h2 : (zaI l (pos false bs bs.length))[p]? = some (.mk 0 []) := by
   rw [zaI, zfj _ _ _ _ (hPR p hp)]; simp [hRl p hp]
  rw [List.getElem?_eq_getElem h] at h2
  exact Option.some.inj h2
 have h1 := zmu g (fun e => wtE data e (.mk 5 n ks)) (fun p => zbi (za4 data n.toNat) (vs.getD p tz)) (pos true bs bs.length) (zaI l (pos false bs bs.length)) kids hRn hg hR0
 have hn : zbi (za4 data n.toNat) (.mk 5 c vs) = .mk 5 c vs :: (pos true bs bs.length).flatMap fun p => zbi (za4 data n.toNat) (vs.getD p tz) := by
  rw [zbi, hbs, zuc _ _ _ (by omega)]
 show za2 ((zch l bs c kids).map (zaM g 0)) = _
 unfold zch
 rw [List.map_append, zg3, h1, hbase, Nat.one_mul]
 have hr : atV data (.mk 0 kids) (.mk 5 n ks) (.mk 5 c vs) = zaC (kids.map fun e => wtE data e (.mk 5 n ks)) (.mk 5 c vs :: (pos true bs bs.length).flatMap fun p => zbi (za4 data n.toNat) (vs.getD p tz)) := by
  rw [← hn]; simp [atV, VT.kind, VT.num, zeR]
 rw [hr]
 cases kids with
 | nil => simp [zcw, zaC]
 | cons e rest =>
  obtain ⟨c', ps⟩ := e
  simp only [zcw, List.map_cons, zaC]
  by_cases hc : c' = c
  ·subst hc
   rw [if_pos rfl]
   have hps := hk ps rest rfl
   have hpsl : ps.length = (pos false bs bs.length).length := by rw [hps, hpk]; simp
   have h2 := zmu g (fun e => wtE data e (.mk 5 n ks)) (fun p => zbi (za4 data n.toNat) (vs.getD p tz)) (pos true bs bs.length) (fill (zaI l (pos false bs bs.length)) (pos false bs bs.length) ps) rest hRn hg (by
    intro p hp
    obtain ⟨h, h0⟩ := hR0 p hp
    refine ⟨by simpa using h, ?_⟩
    have h2 : (fill (zaI l (pos false bs bs.length)) (pos false bs bs.length) ps)[p]? = some (.mk 0 []) := by
     rw [zfj _ _ _ _ (hPR p hp), List.getElem?_eq_getElem h, h0]
    rw [List.getElem?_eq_getElem (by simpa using h)] at h2
    exact Option.some.inj h2)
   have h3 := zue g (pos false bs bs.length) (zaI l (pos false bs bs.length)) ps hPn hpsl (fun p hp => by
    have h : p < (zaI l (pos false bs bs.length)).length := by rw [hbl]; exact hPl p hp
    exact ⟨h, hb1 p h⟩)
   have h4 := zsi data (fun k => l.getD k tz) (fun k => vs.getD k tz) (pos false bs bs.length) ps hpsl
   rw [← hpk, ← hpv] at h4
   have hw : wtE data (.mk c' ps) (.mk 5 n ks) (.mk 5 c' vs) = zaM g 0 (fill (zaI l (pos false bs bs.length)) (pos false bs bs.length) ps) := by
    rw [h3, hbase, Nat.one_mul]
    simp only [g]
    rw [h4]
    rw [wtE]; simp only [VT.num, hpay, VT.kids, if_true, Option.getD_some, hbs]
   rw [h2, ← hw]
   omega
  ·rw [if_neg hc]
   have hw : wtE data (.mk c' ps) (.mk 5 n ks) (.mk 5 c vs) = 0 := by
    rw [wtE, if_neg]; intro h; exact hc h.symm
   rw [hw]; simp
theorem zFJ (data : List Dat) (hk : za5 data) (v t : VT) (hv : v.nodes ≤ 5000) (ht : t.nodes ≤ 1000000) (H : zaa) (K : Kt) (hK : K (.bool (zbX data v t)) H) :
  ACalls tP zm1 [.sl (data.map Dat.cs) .none, .agg v.cs, .agg t.cs] H K := by
 refine ACalls.out (zFI fun hs => ?_)
 have hO : ∀ b J, zbX data v t = b → Out H.length K (.bool b) (H ++ J) := fun b J h => Out.bool rfl (Nat.le_refl _) hs (h ▸ hK)
 obtain ⟨x, y, z, hvx, hx, hy, hz⟩ := zaK v
 obtain ⟨x2, y2, z2, hvx2, hx2, hy2, hz2⟩ := zaK t
 have hkl := hk.1
 simp [zwl, hvx, hvx2, Nat.add_assoc]
 refine zyG data hk _ _ fun b hb => ?_
 have hbd : b = zbe data := by
  rw [Bool.eq_iff_iff, hb, zsN]
 subst hbd
 cases hd : zbe data with
 | false =>
  simp
  exact hO _ _ (by simp [zbX, zaY, hd])
 | true =>
  simp [Nat.add_assoc]
  rw [← hvx2]
  refine zqJ data (by omega) 0 t (by omega) _ _ ?_
  cases hf : zaQ data 0 t with
  | false =>
   simp
   exact hO _ _ (by simp [zbX, zaY, hf])
  | true =>
   simp [Nat.add_assoc]
   rw [← hvx]
   refine zLI _ v (Nat.le_refl _) 5000 (by omega) (by omega) _ (H.length + 2) (by simp) _ ?_ (fun h => absurd (by omega) h)
   intro _
   simp [Nat.add_assoc]
   refine zLP ⟨hd, hk⟩ _ v (Nat.le_refl _) (by omega) t hf _ _ ?_
   exact hO _ _ (by simp [zbX, zaY, hd, hf])
@[simp] theorem zz2 (k : AV → Prop) : zaD [] k = k (.tup []) := by simp [zaD]
theorem zDq {n : Nat} {H2 J H' : zaa} {K : Kt} (he : H' = H2 ++ J) (hn : n ≤ H2.length) (hs : HSc H2) (h : K (.tup []) H2) : Out n K (.tup []) H' := by
 subst he
 exact ⟨.tup [], H2, J, rfl, hn, hs, .tup trivial, h⟩
def zb0 (rs : List (List Bool)) : List (List AV) := rs.map fun r => [.sl (r.map fun b => [.bool b]) .none]
def pw (H : zaa) (io iv : Nat) (l : List VT) : zaa := (H.set iv (.vec zcC 3 l.length (VT.css l).flatten)).set io (.cells [.ov iv l.length])
structure Pw (H : zaa) (io iv ir is : Nat) (rs : List (List Bool)) (l : List VT) : Prop where
 ne : io ≠ iv
 nr : ir ≠ io ∧ ir ≠ iv
 ns : is ≠ io ∧ is ≠ iv
 h1 : H[io]? = some (.cells [.ov iv l.length])
 h2 : H[iv]? = some (.vec zcC 3 l.length (VT.css l).flatten)
 h3 : ∃ tok, H[ir]? = some (.cells [.sl (zb0 rs) tok])
 h4 : H[is]? = some (.cells [.fn zdg [.ptr io 0, .ptr ir 0, .ptr is 0]])
section
variable {H J : zaa} {io iv ir is : Nat} {rs : List (List Bool)} {l l' : List VT}
@[simp] theorem zSp : (pw H io iv l).length = H.length := by simp [pw]
theorem zBZ (hne : io ≠ iv) : pw (pw H io iv l) io iv l' = pw H io iv l' := by
 unfold pw
 rw [List.set_comm _ _ hne, List.set_set, List.set_set]
theorem Pw.app (h : Pw H io iv ir is rs l) : Pw (H ++ J) io iv ir is rs l := by
 obtain ⟨tok, h3⟩ := h.h3
 exact ⟨h.ne, h.nr, h.ns, zbs h.h1, zbs h.h2, ⟨tok, zbs h3⟩, zbs h.h4⟩
theorem Pw.pw_app (h : Pw H io iv ir is rs l) : pw (H ++ J) io iv l' = pw H io iv l' ++ J := by
 unfold pw
 rw [List.set_append_left _ _ (zbY h.h2), List.set_append_left _ _ (by simpa using zbY h.h1)]
theorem Pw.next (h : Pw H io iv ir is rs l) : Pw (pw H io iv l') io iv ir is rs l' := by
 have l1 := zbY h.h1
 have l2 := zbY h.h2
 obtain ⟨tok, h3⟩ := h.h3
 refine ⟨h.ne, h.nr, h.ns, ?_, ?_, ⟨tok, ?_⟩, ?_⟩
 ·unfold pw; rw [List.getElem?_set_self (by simpa using l1)]
 ·unfold pw; rw [List.getElem?_set_ne h.ne, List.getElem?_set_self l2]
 ·unfold pw; rw [List.getElem?_set_ne (fun e => h.nr.1 e.symm), List.getElem?_set_ne (fun e => h.nr.2 e.symm)]; exact h3
 ·unfold pw; rw [List.getElem?_set_ne (fun e => h.ns.1 e.symm), List.getElem?_set_ne (fun e => h.ns.2 e.symm)]; exact h.h4
theorem Pw.hsc (h : Pw H io iv ir is rs l) (hs : HSc H) : HSc (pw H io iv l') := by
 have l1 := zbY h.h1
 have l2 := zbY h.h2
 refine HSc.set (HSc.set hs ?_) ?_
 ·simp only [AB.sc, List.all_eq_true]
  intro x hx
  obtain ⟨c, hc, hx⟩ := List.mem_flatten.1 hx
  rw [VT.css_map] at hc
  obtain ⟨v, _, rfl⟩ := List.mem_map.1 hc
  have := VT.cs_scA v H.length
  rw [List.all_eq_true] at this
  exact this x hx
 ·simp [AB.sc, AV.scA, AV.scB]
  try omega
end
theorem zsG (l : List VT) (v : VT) : VT.css (l ++ [v]) = VT.css l ++ [v.cs] := by rw [VT.css_map, VT.css_map, List.map_append]; rfl
theorem zmq (l : List VT) : (VT.css l).flatten.length = l.length * 3 := by
 rw [VT.css_map]
 induction l with
 | nil => rfl
 | cons v l ih =>
  simp only [List.map_cons, List.flatten_cons, List.length_append, ih, List.length_cons]
  obtain ⟨a, b, c⟩ := v
  simp [VT.cs]; omega
theorem zDw (l : List VT) (v : VT) (a b c : AV) : ((VT.css l).flatten ++ [a, b, c]).take (l.length * 3) ++ v.cs ++ ((VT.css l).flatten ++ [a, b, c]).drop (l.length * 3 + 3) = (VT.css (l ++ [v])).flatten := by
 have h := zmq l
 rw [← h, List.take_left, List.drop_eq_nil_of_le (by simp), List.append_nil, zsG, List.flatten_append]
 simp
theorem zBV {rs : List (List Bool)} {ks : List VT} {bs : List Bool} {i : Nat} (h : i < ks.length) (h' : i < bs.length) : zbG rs (ks.drop i) (bs.drop i) = (if bs[i] = true then zbi rs ks[i] else []) ++ zbG rs (ks.drop (i + 1)) (bs.drop (i + 1)) := by
 rw [List.drop_eq_getElem_cons h, List.drop_eq_getElem_cons h', zbG]
end Go.Proofs.YtjkkonpjecoieaaGreat
