import Derived.Test.YtacebbdfgbfgiaaGreatKUC
import Derived.Test.YtacebbdfgbfgiaaGreatKI2
import Derived.Test.YtacebbdfgbfgiaaGreatAbsO3
import Derived.Test.YtacebbdfgbfgiaaGreatIT
import Derived.Test.YtacebbdfgbfgiaaGreatKY12
import Derived.Test.YtacebbdfgbfgiaaGreatAbsQ1
set_option linter.unusedSimpArgs false
set_option linter.unusedVariables false
namespace Go.Proofs.YtacebbdfgbfgiaaGreat
open Go Go.Abs
set_option maxRecDepth 8000
def zaA (r : List IT) : List AV := (IT.css r).flatten
theorem zdb (x : IT) (r : List IT) : zaA (x :: r) = x.cs ++ zaA r := by simp [zaA, IT.css_map]
theorem zcU : ∀ r : List IT, (zaA r).length = r.length * 2
 | [] => rfl
 | x :: r => by rw [zdb, List.length_append, IT.cs_len, zcU r, List.length_cons]; omega
theorem zk7 (r : List IT) : (zaA r).all AV.known = true := by
 induction r with
 | nil => rfl
 | cons x r ih => rw [zdb, List.all_append, ih]; simp
theorem zhi (n : Nat) (r : List IT) : (zaA r).all (AV.scA n) = true := by
 induction r with
 | nil => rfl
 | cons x r ih => rw [zdb, List.all_append, ih]; simp
theorem zfR : ∀ (r : List IT) (p : Nat) (x : IT), p < r.length → (zaA r).take (p * 2) ++ x.cs ++ (zaA r).drop (p * 2 + 2) = zaA (r.set p x)
 | [], p, x, h => by simp at h
 | y :: r, 0, x, h => by
  rw [zdb, List.set_cons_zero, zdb]
  obtain ⟨a, b, hy, _, _⟩ := zb2 y
  simp [hy]
 | y :: r, p + 1, x, h => by
  have ih := zfR r p x (by simpa using h)
  rw [zdb, List.set_cons_succ, zdb, ← ih]
  obtain ⟨a, b, hy, _, _⟩ := zb2 y
  rw [show (p + 1) * 2 = p * 2 + 2 by omega, hy]
  simp
def CellR (H : zaa) (lo id : Nat) (c : AV) (r : List IT) : Prop :=
 (r = [] ∧ c = .sl [] .none) ∨ (r ≠ [] ∧ ∃ b, c = .ov b r.length ∧ lo ≤ b ∧ b ≠ id ∧ H[b]? = some (.vec zaw 2 r.length (zaA r)))
def RowsH (H : zaa) (lo id : Nat) (rows : List (List IT)) : Prop :=
 lo ≤ id ∧ ∃ cs, H[id]? = some (.vec zbm 1 rows.length cs) ∧ All2 (CellR H lo id) cs rows
theorem CellR.keep {H H' : zaa} {lo id lo' id' : Nat} {c : AV} {r : List IT} (h : CellR H lo id c r) (hlo : lo' ≤ lo) (hid : ∀ b, lo ≤ b → b ≠ id → b < H.length → b ≠ id' ∧ H'[b]? = H[b]?) : CellR H' lo' id' c r := by
 rcases h with h | ⟨h0, b, rfl, h1, h2, h3⟩
 ·exact .inl h
 ·have := hid b h1 h2 (List.getElem?_eq_some_iff.1 h3).1
  exact .inr ⟨h0, b, rfl, by omega, this.1, by rw [this.2]; exact h3⟩
theorem CellR.sc {H : zaa} {lo id : Nat} {c : AV} {r : List IT} (h : CellR H lo id c r) : c.scA H.length = true ∧ c.known = true := by
 rcases h with ⟨_, rfl⟩ | ⟨h0, b, rfl, h1, h2, h3⟩
 ·exact ⟨rfl, rfl⟩
 ·have := (List.getElem?_eq_some_iff.1 h3).1
  exact ⟨by simpa [AV.scA, AV.scB] using this, rfl⟩
theorem zff {H : zaa} {lo id : Nat} : ∀ {cs : List AV} {rows : List (List IT)}, All2 (CellR H lo id) cs rows → cs.all (AV.scA H.length) = true ∧ cs.all AV.known = true
 | [], [], _ => ⟨rfl, rfl⟩
 | c :: cs, r :: rows, h => by
  obtain ⟨h1, h2⟩ := zff h.2
  obtain ⟨h3, h4⟩ := h.1.sc
  simp only [List.all_cons, h1, h2, h3, h4, Bool.and_self, and_self]
theorem zj4 (ps : List Nat) (row l : List IT) : (za7 row ps l).length ≤ (l.length + 1) ^ ps.length := by
 rw [zgr, List.length_map]
 exact zp5 _ _
theorem zuH (row l : List IT) (p : Nat) (ps : List Nat) : za7 row (p :: ps) l = (List.range (l.length + 1)).flatMap fun n => za7 (row.set p (.mk 0 (l.take n))) ps (l.drop n) := rfl
def upR (row l : List IT) (p : Nat) (ps : List Nat) (i : Nat) : List (List IT) := (List.range i).flatMap fun n => za7 (row.set p (.mk 0 (l.take n))) ps (l.drop n)
theorem zhw (row l : List IT) (p : Nat) (ps : List Nat) (i : Nat) : upR row l p ps (i + 1) = upR row l p ps i ++ za7 (row.set p (.mk 0 (l.take i))) ps (l.drop i) := by
 simp [upR, List.range_succ]
theorem zwY (row l : List IT) (p : Nat) (ps : List Nat) (i : Nat) : (upR row l p ps i).length ≤ i * (l.length + 1) ^ ps.length := by
 refine Nat.le_trans (zkg (N := (l.length + 1) ^ ps.length) _ _ fun n _ => ?_) (by simp)
 exact Nat.le_trans (zj4 _ _ _) (Nat.pow_le_pow_left (by simp) _)
theorem zd5 {H X : zaa} {i : Nat} {b : AB} (h : H <+: X) (hi : H.length ≤ i) : H <+: X.set i b := by
 obtain ⟨J, rfl⟩ := h
 rw [List.set_append_right _ _ hi]
 exact ⟨_, rfl⟩
theorem zfP {H X : zaa} {i : Nat} (h : H <+: X) (hi : i < H.length) : X[i]? = H[i]? := by
 obtain ⟨J, rfl⟩ := h
 exact List.getElem?_append_left hi
theorem RowA.pre {H X : zaa} {a : AV} {n : Nat} {ds : List AV} (h : RowA H a n ds) (hp : H <+: X) : RowA X a n ds := by
 obtain ⟨J, rfl⟩ := hp
 exact h.app
theorem zgq (r : List IT) : (IT.css r).flatten = zaA r := rfl
theorem zn6 {e s b id id2 n m e2 : Nat} {cs cs2 : List AV} {H : zaa} {K : Kt} (h1 : H[id]? = some (.vec e s n cs)) (h2 : H[id2]? = some (.vec e2 s m cs2)) (hk : cs2.all AV.known = true) (hl : cs2.length = m * s) (hb1 : (n + m) * b ≤ 140737488355328) (hb2 : n + m ≤ 9223372036854775807)
  (h : K (.ov id (n + m)) (H.set id (.vec e s (n + m) (cs ++ cs2)))) : zat e s b (.ov id n) (.ov id2 m) H K := by
 simp only [zat, zbT, h1, h2, and_self, true_and]
 exact ⟨⟨hk, hl, hb1, hb2⟩, h⟩
theorem zms : ∀ (ps : List Nat) (H : zaa) (a : AV) (row els : List IT) (K : Kt), RowA H a row.length (zaA row) → (∀ p ∈ ps, p < row.length) → row.length ≤ 1000 → els.length ≤ 1000 → ps.length ≤ 1000 → (els.length + 1) ^ ps.length ≤ 100000000 →
  (∀ id H', H <+: H' → HSc H' → RowsH H' H.length id (za7 row ps els) → K (.ov id (za7 row ps els).length) H') →
  ACalls tP zd2 [a, .sl (zaz ps) .none, .sl (IT.css els) .none] H K
 | [], H, a, row, els, K, hr, hps, hrl, hel, hpl, hb, hK => by
  refine ACalls.vecRes zbm 1 (ACalls.withSc ?_)
  refine zr5 fun hs => ?_
  cases els with
  | cons x els =>
   simp [zit, zaz]
   intro _
   left
   have := hK H.length (H ++ [.vec zbm 1 0 []]) ⟨_, rfl⟩ (hs.append (by simp [AB.sc])) ⟨Nat.le_refl _, [], by simp [za7], by simp [za7]; trivial⟩
   simpa [za7] using this
  | nil =>
   simp [zit, zaz, IT.css]
   refine zqe hr (by omega) _ (fun h0 => ?_) (fun h0 => ?_)
   ·have hrow : row = [] := by cases row <;> simp_all
    subst hrow
    simp [zcL, AV.oneK]
    intro hsc
    have := hK H.length (H ++ [.vec zbm 1 1 [.sl [] .none]]) ⟨_, rfl⟩ hsc ⟨Nat.le_refl _, [.sl [] .none], by simp [za7], ⟨.inl ⟨rfl, rfl⟩, trivial⟩⟩
    simpa [za7] using this
   ·simp [zcL, AV.oneK]
    intro hsc
    have hne : row ≠ [] := by rintro rfl; simp at h0
    have := hK (H.length + 1) (H ++ [.vec zaw 2 row.length (zaA row), .vec zbm 1 1 [.ov H.length row.length]]) ⟨_, rfl⟩ (by simpa using hsc) ⟨by omega, [.ov H.length row.length], by simp [za7],
     ⟨.inr ⟨hne, H.length, rfl, Nat.le_refl _, by omega, by simp⟩, trivial⟩⟩
    simpa [za7] using this
 | p :: ps, H, a, row, els, K, hr, hps, hrl, hel, hpl, hb, hK => by
  refine zr5 fun hs => ?_
  have hp := hps p (by simp)
  have hpow : (els.length + 1) ^ (ps.length + 1) = (els.length + 1) ^ ps.length * (els.length + 1) := Nat.pow_succ _ _
  have hb1 : (els.length + 1) ^ ps.length * (els.length + 1) ≤ 100000000 := by rw [← hpow]; simpa using hb
  have hb2 : (els.length + 1) ^ ps.length ≤ 100000000 := Nat.le_trans (Nat.le_mul_of_pos_right _ (by omega)) hb1
  have hnl : ((ps.length + 1 : Nat) : Int) ≠ 0 := by omega
  have hn0 : ((zaz (p :: ps)).length == 0) = false := by simp [zaz]
  simp [zit, zbo]
  rw [zan (by omega) (by omega)]
  unfold ziw
  refine ALoop.vec 7 zbm 1 rfl ?_
  show ziw a (.sl (zaz (p :: ps)) .none) (.sl (IT.css els) .none) (.ov H.length 0) (.int .i64 ((els.length : Int) + 1)) (.int .i64 0) (H ++ [.vec zbm 1 0 []]) K
  refine zAB (Inv := fun q t7 t22 H' => ∃ i : Nat, i ≤ els.length + 1 ∧ q = els.length + 1 - i ∧ t22 = .int .i64 i ∧ t7 = .ov H.length (upR row els p ps i).length ∧ H <+: H' ∧ RowsH H' H.length H.length (upR row els p ps i)) (els.length + 1) ?_ ?_
  ·intro _; exact ⟨0, by omega, by omega, rfl, by simp [upR], ⟨_, rfl⟩, Nat.le_refl _, [], by simp [upR], by simp [upR]; trivial⟩
  ·rintro q t7 t22 H' ⟨i, hi, rfl, rfl, rfl, hpre, hlo, cs, hcs, hcells⟩ hsc hlen hsF Kb hKb
   by_cases hlt : i < els.length + 1
   ·have hHl : H.length < H'.length := (List.getElem?_eq_some_iff.1 hcs).1
    have hlt' : ((i : Int) < (els.length : Int) + 1) := by omega
    simp [zmo, hlt']
    refine zqe (hr.pre hpre) (by omega) _ (fun h0 => by omega) (fun h0 => ?_)
    have hn0 : 0 < row.length := by omega
    have hti : (i : Int) ≤ els.length := by omega
    simp [zaz, zal, zaB]
    refine ⟨⟨by omega, by simp [IT.css_map]⟩, hp, by rw [zcU]; omega, ?_⟩
    have htk : List.take i (IT.css els) = IT.css (els.take i) := by rw [IT.css_map, IT.css_map, List.map_take]
    have hset := zfR row p (.mk 0 (els.take i)) hp
    rw [htk]
    simp only [IT.cs, List.append_assoc, List.cons_append, List.nil_append] at hset
    rw [hset]
    have hda : IT.css (els.drop i) = List.drop i (IT.css els) := by rw [IT.css_map, IT.css_map, List.map_drop]
    have hcall : ACalls tP zd2 [.ov H'.length row.length, .sl (zaz ps) .none, .sl (IT.css (els.drop i)) .none] (H' ++ [.vec zaw 2 row.length (zaA (row.set p (.mk 0 (els.take i))))]) (fun t43 H2 => zat zbm 1 24 (.ov H.length (upR row els p ps i).length) t43 H2 fun t44 H3 => t44 = .ov H.length (upR row els p ps (i + 1)).length ∧ H <+: H3 ∧ HSc H3 ∧ RowsH H3 H.length H.length (upR row els p ps (i + 1))) := by
     refine zms ps _ _ (row.set p (.mk 0 (els.take i))) (els.drop i) _ ⟨by rw [zcU], zk7 _, .inr ⟨by simpa using hn0, H'.length, zaw, by simp, by simp⟩⟩ (fun q hq => by simpa using hps q (by simp [hq])) (by simpa using hrl) (by simp; omega) (by simp at hpl; omega)
      (Nat.le_trans (Nat.pow_le_pow_left (by simp) _) hb2) ?_
     rintro id H2 hp2 hsc2 ⟨hlo2, cs2, hcs2, hcells2⟩
     have hH1 : H' <+: H2 := List.IsPrefix.trans ⟨_, rfl⟩ hp2
     have hget : H2[H.length]? = some (.vec zbm 1 (upR row els p ps i).length cs) := by rw [zfP hH1 hHl]; exact hcs
     have hlt2 := (List.getElem?_eq_some_iff.1 hcs2).1
     have hne : id ≠ H.length := by simp at hlo2; omega
     have hm1 := zwY row els p ps (i + 1)
     rw [zhw, List.length_append] at hm1
     have hm2 : (i + 1) * (els.length + 1) ^ ps.length ≤ 100000000 := Nat.le_trans (Nat.mul_le_mul_right _ (by omega : i + 1 ≤ els.length + 1)) (by rw [Nat.mul_comm]; exact hb1)
     have hl2 := hcells2.length
     have hk2 := zff hcells2
     have hx1 : All2 (CellR H2 H.length H.length) cs (upR row els p ps i) := hcells.mono fun c r hc => hc.keep (Nat.le_refl _) fun b _ hb hb2 => ⟨hb, zfP hH1 hb2⟩
     have hlg := (List.getElem?_eq_some_iff.1 hget).1
     refine zn6 hget hcs2 hk2.2 (by rw [hl2]; simp) (by omega) (by omega) ?_
     refine ⟨by rw [zhw, List.length_append], zd5 (List.IsPrefix.trans hpre hH1) (Nat.le_refl _), hsc2.set ?_, Nat.le_refl _, cs ++ cs2, ?_, ?_⟩
     ·simp only [AB.sc, List.all_append, hk2.1, (zff hx1).1, Bool.and_self]
     ·rw [List.getElem?_set_self hlg, zhw, List.length_append]
     ·rw [zhw]
      have hkp : ∀ b, b < H2.length → b ≠ H.length → (H2.set H.length (.vec zbm 1 ((upR row els p ps i).length + (za7 (row.set p (.mk 0 (els.take i))) ps (els.drop i)).length) (cs ++ cs2)))[b]? = H2[b]? := fun b _ hb => List.getElem?_set_ne (fun h => hb h.symm)
      refine (hx1.mono fun c r hc => hc.keep (Nat.le_refl _) fun b _ hb hb2 => ⟨hb, hkp b hb2 hb⟩).append (hcells2.mono fun c r hc => hc.keep (by simp; omega) fun b hb1 hb hb2 => ?_)
      have : b ≠ H.length := by simp at hb1; omega
      exact ⟨this, hkp b hb2 this⟩
    have hasc : ∀ n, H.length ≤ n → a.sc n = true := fun n hn => by
     obtain ⟨_, _, h⟩ := hr
     rcases h with ⟨id, rfl, h⟩ | ⟨_, id, e, rfl, h⟩
     ·have := (List.getElem?_eq_some_iff.1 h).1
      simp [AV.sc, AV.scV, AV.scA, AV.scB]; omega
     ·have := (List.getElem?_eq_some_iff.1 h).1
      simp [AV.sc, AV.scV, AV.scA, AV.scB]; omega
    have hfin : ∀ H3, H <+: H3 → HSc H3 → RowsH H3 H.length H.length (upR row els p ps (i + 1)) → zmq a (.sl (zaz (p :: ps)) .none) (.sl (IT.css els) .none) (.ov H.length (upR row els p ps (i + 1)).length) (.int .i64 ((els.length : Int) + 1)) (.int .i64 i) H3 K Kb := by
     intro H3 g1 g2 g3
     have hl3 := (List.getElem?_eq_some_iff.1 g3.2.choose_spec.1).1
     simp [zmq]
     rw [zan (by omega) (by omega)]
     refine hKb _ _ ⟨els.length + 1 - (i + 1), by omega, Back.at (J := []) (H2 := H3) (by simp) (by simp; omega) g2 ?_ ⟨_, _, rfl, i + 1, by omega, rfl, by simp, rfl, g1, g3⟩⟩
     simp [ziv, AV.sc, AV.scV, AV.scA, AV.scB, hl3]
     exact hasc _ (by omega)
    refine zvR zAE ?_
    rw [zAD]
    have hl1 : List.take ps.length (List.map (fun n : Nat => [AV.int .i64 (n : Int)]) ps) = zaz ps := by rw [List.take_of_length_le (by simp)]; rfl
    have hl2 : List.take els.length (IT.css els) = IT.css els := List.take_of_length_le (by simp)
    simp [hl1, hl2, ← hda]
    refine ⟨⟨by omega, by simp [IT.css_map]⟩, ?_⟩
    refine ACalls.monoZ hcall fun t43 H2 h => zn4 (fun t44 H3 h3 => ?_) h
    obtain ⟨rfl, h1, h2, h3⟩ := h3
    exact zAA fun _ => hfin _ h1 h2 h3
   ·obtain rfl : i = els.length + 1 := by omega
    have hlt' : ¬ ((els.length : Int) + 1 < (els.length : Int) + 1) := by omega
    simp [zmo]
    exact hK H.length H' hpre hsc ⟨Nat.le_refl _, cs, hcs, hcells⟩
theorem zC2 (data : List Dat) (hk : zaZ data) (t : VT) (ht : t.nodes ≤ 1000) (c : Int) (H : zaa) (K : Kt) (hK : K (zbB (zbg data t c)) H) :
  ACalls tP zkL [.sl (data.map Dat.cs) .none, .agg t.cs, .int .i64 c] H K := by
 refine ACalls.out (zC0 fun hs => ?_)
 obtain ⟨f1, f2, f3⟩ := zc8 hk
 obtain ⟨k, n, ks⟩ := t
 simp [zsN, VT.cs, Nat.add_assoc]
 refine zlT data f1 f2 f3 (.mk k n ks) ht c _ _ ?_
 cases hf : zaJ data (.mk k n ks) c with
 | none =>
  rw [zpF hf] at hK
  simp [zbB]
  refine ⟨⟨rfl, rfl⟩, ?_⟩
  exact Out.tup (bs := [.sl [] .none, .bool false]) hs hK ⟨zd8, zaR rfl rfl, trivial⟩
 | some l =>
  obtain ⟨bs, hlb, hl8, hpay, h200, k5, _, hrec⟩ := zkZ hk hf
  rw [hpay] at hK
  simp [zbB]
  refine zsT data hk k n ks ht c hf hlb hl8 hrec _ _ ?_
  simp [zbo]
  unfold zjg
  refine ALoop.own 13 zaQ 3 rfl ?_
  have hl1 : (H ++ [AB.cells [AV.int IntKind.i64 k, AV.int IntKind.i64 n, AV.sl (VT.css ks) Tok.none]]).length = H.length + 1 := by simp
  rw [hl1]
  have hpp := zhd hlb (.mk 0 0 []) l.length (Nat.le_refl _)
  rw [List.take_length, hlb, List.take_length] at hpp
  rw [hpp] at hK
  have hpt : ∀ j ∈ pos false bs bs.length, j < l.length := fun j hj => by have := zcH hj; omega
  have hp8 := zca false bs bs.length
  generalize pos false bs bs.length = P at *
  show zjg (.sl (VT.css l) .none) (.sl [] (.own (H.length + 1))) (.sl (zaz P) .none) (.int .i64 P.length) (.int .i64 0) (H ++ [.cells [.int .i64 k, .int .i64 n, .sl (VT.css ks) .none]] ++ [.perm zaQ 3 0]) (Out H.length K)
  have hperm : ∀ m, HSc (H ++ [.cells [.int .i64 k, .int .i64 n, .sl (VT.css ks) .none], .perm zaQ 3 m]) := fun m => hs.append (by simp [AB.sc, AV.scA, AV.scB])
  refine zCY (Inv := fun q t13 t35 H' => ∃ i : Nat, i ≤ P.length ∧ q = P.length - i ∧ t35 = .int .i64 i ∧ t13 = .sl (VT.css ((P.take i).map fun j => l.getD j (.mk 0 0 []))) (.own (H.length + 1)) ∧ H' = H ++ [.cells [.int .i64 k, .int .i64 n, .sl (VT.css ks) .none], .perm zaQ 3 i]) P.length ?_ ?_
  ·intro _; exact ⟨0, by omega, by omega, rfl, by simp [VT.css], by simp⟩
  ·rintro q t13 t35 H' ⟨i, hi, rfl, rfl, rfl, rfl⟩ hsc' hlen hsF Kb hKb
   by_cases hlt : i < P.length
   ·have hj := hpt _ (List.getElem_mem hlt)
    simp [znb, zbo, zd3, hlt, hj]
    rw [zdS]
    simp [zat, zaW, zaK, Nat.min_eq_left hi]
    refine ⟨⟨by omega, by omega⟩, ?_⟩
    rw [zan (by omega) (by omega)]
    have hst : VT.css (List.take i (List.map (fun j => l[j]?.getD (VT.mk 0 0 [])) P)) ++ [(l[P[i]]'hj).cs] = VT.css ((P.take (i + 1)).map fun j => l.getD j (.mk 0 0 [])) := by
     rw [List.take_succ_eq_append_getElem hlt, VT.css_map, VT.css_map, List.map_append, List.map_append, List.map_take]
     simp [List.getD_eq_getElem?_getD, hj]
    rw [hst]
    refine hKb _ _ ⟨P.length - (i + 1), by omega, Back.at (J := []) (H2 := H ++ [.cells [.int .i64 k, .int .i64 n, .sl (VT.css ks) .none], .perm zaQ 3 (i + 1)]) (by simp) (by simp) (hperm _) ?_ ⟨_, _, rfl, i + 1, by omega, rfl, by simp, rfl, rfl⟩⟩
    simp [zjf, AV.sc, AV.scV, AV.scA, AV.scB]
   ·obtain rfl : i = P.length := by omega
    rw [List.take_length] at *
    simp [znb, zbo]
    refine ⟨⟨rfl, rfl⟩, ?_⟩
    exact Out.tup (bs := [.sl (VT.css (P.map fun j => l.getD j (.mk 0 0 []))) .none, .bool true]) hs hK ⟨slV, zaR rfl rfl, trivial⟩
theorem it2 (v : IT) : ∃ a b, v.cs = [a, b] ∧ a.known = true ∧ b.known = true := by
 obtain ⟨n, ks⟩ := v; exact ⟨_, _, rfl, rfl, rfl⟩
theorem zpf {data : List Dat} (h8 : ∀ D ∈ data, D.cons.length ≤ 8) (v : IT) (t : VT) (h : (zbK data v t).2 = true) : 0 ≤ (zbK data v t).1 ∧ (zbK data v t).1 ≤ 6 := by
 obtain ⟨e1, e2, e3⟩ := (ze6 h8 v t).1 h
 omega
theorem zpe {data : List Dat} (h8 : ∀ D ∈ data, D.cons.length ≤ 8) : ∀ (vs : List IT) (ts : List VT) (a : Int), 0 ≤ a → 0 ≤ (zbn data vs ts a).1 ∧ (zbn data vs ts a).1 ≤ a + 6 * vs.length
 | [], ts, a, h => by simp [zbn]; omega
 | v :: vs, [], a, h => by simp [zbn]; omega
 | v :: vs, t :: ts, a, h => by
  simp only [zbn]
  split
  ·rename_i hb
   have := zpf h8 v t hb
   have := zpe h8 vs ts (a + (zbK data v t).1) (by omega)
   simp only [List.length_cons]
   omega
  ·simp; omega
theorem zk0 {x : VT} : ∀ {l : List VT} {bs : List Bool}, x ∈ pick l bs → x ∈ l
 | [], _, h => by simp [pick] at h
 | _ :: _, [], h => by simp [pick] at h
 | c :: l, b :: bs, h => by
  cases b with
  | true => simp [pick] at h; exact List.mem_cons_of_mem _ (zk0 h)
  | false =>
   simp [pick] at h
   rcases h with rfl | h
   ·exact List.mem_cons_self
   ·exact List.mem_cons_of_mem _ (zk0 h)
theorem zpE {data : List Dat} {t : VT} {c : Int} {ps : List VT} (h : zbg data t c = some ps) : ∀ x ∈ ps, x.nodes ≤ 1000 := by
 unfold zbg at h
 obtain ⟨k, n, ks⟩ := t
 cases hf : zaJ data (.mk k n ks) c with
 | none => rw [hf] at h; cases h
 | some l =>
  rw [hf] at h
  obtain ⟨_, _, _, _, _, _, _, h2⟩ := zfl hf
  simp at h
  subst h
  exact fun x hx => by have := h2 x (zk0 hx); omega
theorem zve (data : List Dat) (n : Int) (ks : List IT) (tk tn : Int) (tks : List VT) : zbK data (.mk n ks) (.mk tk tn tks) =
  if tk = 6 then (if n = 0 then (if tks.length = ks.length then zbn data ks tks 0 else (0, false)) else (0, false))
  else if tk = 7 then (n, decide (0 ≤ n) && decide (n ≤ 6) && decide (ks.length = 0))
  else if tk = 5 then (if n = 0 then zb3 data ks (.mk tk tn tks) 0 else (0, false))
  else (0, decide (n = 0) && decide (ks.length = 0)) := by
 rw [zbK]
 rfl
def zb5 (data : List Dat) (vs : List IT) (ts : List VT) : Int × Bool := if ts.length = vs.length then zbn data vs ts 0 else (0, false)
def zgg (data : List Dat) (v : IT) : Prop := ∀ t : VT, t.nodes ≤ 1000 → ∀ (H : zaa) (K : Kt), K (.tup [.int .i64 (zbK data v t).1, .bool (zbK data v t).2]) H → ACalls tP zgX [.sl (data.map Dat.cs) .none, .agg t.cs, .agg v.cs] H K
theorem zce {H : zaa} {K : Kt} {a : Int} {b : Bool} (hs : HSc H) (h : K (.tup [.int .i64 a, .bool b]) H) (J : zaa) : Out H.length K (.tup [.int .i64 a, .bool b]) (H ++ J) := Out.tup hs h ⟨zaR rfl rfl, zaR rfl rfl, trivial⟩
theorem zs8 {data : List Dat} (h8 : ∀ D ∈ data, D.cons.length ≤ 8) (vs : List IT) (hv : vs.length ≤ 1000) (hel : ∀ v ∈ vs, zgg data v) (ts : List VT) (ht : ∀ t ∈ ts, t.nodes ≤ 1000) (H : zaa) (K : Kt)
  (hK : K (.tup [.int .i64 (zb5 data vs ts).1, .bool (zb5 data vs ts).2]) H) : ACalls tP zg3 [.sl (data.map Dat.cs) .none, .sl (VT.css ts) .none, .sl (IT.css vs) .none] H K := by
 refine ACalls.out (zD5 fun hs => ?_)
 have h0 : ∀ b J, zb5 data vs ts = (0, b) → Out H.length K (.tup [.int .i64 0, .bool b]) (H ++ J) := fun b J h => by rw [h] at hK; exact zce hs hK J
 by_cases hl : ts.length = vs.length
 case neg =>
  have : ((ts.length : Int) != (vs.length : Int)) = true := by simp [bne]; omega
  simp [znq, this]
  refine ⟨⟨rfl, rfl⟩, ?_⟩
  simpa using h0 false [] (by simp [zb5, hl])
 have htot : zb5 data vs ts = zbn data vs ts 0 := by simp [zb5, hl]
 rw [htot] at hK h0
 simp [znq, hl]
 refine zD3 (Inv := fun q t8 t20 H' => ∃ (i : Nat) (a : Int), i ≤ vs.length ∧ q = vs.length - i ∧ t20 = .int .i64 i ∧ t8 = .int .i64 a ∧ 0 ≤ a ∧ a ≤ 6 * i ∧ zbn data (vs.drop i) (ts.drop i) a = zbn data vs ts 0 ∧ H' = H) vs.length ?_ ?_
 ·intro _; exact ⟨0, 0, by omega, by omega, rfl, rfl, by omega, by omega, by simp, rfl⟩
 ·rintro q t8 t20 H' ⟨i, a, hi, rfl, rfl, rfl, ha0, ha6, ho, rfl⟩ hsc' hlen hsF Kb hKb
  by_cases hlt : i < vs.length
  ·have hlt' : i < ts.length := by omega
   rw [List.drop_eq_getElem_cons hlt, List.drop_eq_getElem_cons hlt'] at ho
   simp only [zbn] at ho
   obtain ⟨x, y, z, hvx, hx, hy, hz⟩ := zbd ts[i]
   obtain ⟨x2, y2, hvx2, hx2, hy2⟩ := it2 vs[i]
   have hti := ht _ (List.getElem_mem hlt')
   have hvi := hel _ (List.getElem_mem hlt)
   simp [znr, hl, hlt, hlt', hvx, hvx2, Nat.add_assoc]
   refine ⟨⟨hx, hy, hz⟩, ?_⟩
   rw [← hvx, ← hvx2]
   refine zbF (.tup [.int .i64 (zbK data vs[i] ts[i]).1, .bool (zbK data vs[i] ts[i]).2]) (fun J => hvi _ hti _ _ ⟨rfl, rfl⟩) ?_
   cases hb : (zbK data vs[i] ts[i]).2 with
   | false =>
    rw [hb] at ho
    simp at ho
    simp
    exact ⟨⟨rfl, rfl⟩, h0 _ _ ho.symm⟩
   | true =>
    rw [hb] at ho
    simp at ho
    have hbd := zpf h8 _ _ hb
    simp
    rw [zan (by omega) (by omega), zan (by omega) (by omega)]
    refine hKb _ _ ⟨vs.length - (i + 1), by omega, Back.at (J := [_]) rfl (Nat.le_refl _) hs ?_ ⟨_, _, rfl, i + 1, _, by omega, rfl, by simp, rfl, by omega, by simp; omega, ho, rfl⟩⟩
    simp [zjx, AV.sc, AV.scV, AV.scA, AV.scB]
  ·obtain rfl : i = vs.length := by omega
   rw [List.drop_length] at ho
   simp only [zbn] at ho
   rw [← ho] at hK
   simp [znr, hl]
   refine ⟨⟨rfl, rfl⟩, ?_⟩
   have := zce hs hK []
   simpa using this
theorem zDf {data : List Dat} (hk : zaZ data) (h8 : ∀ D ∈ data, D.cons.length ≤ 8) : ∀ (m : Nat) (v : IT), v.nodes ≤ m → v.nodes ≤ 900 → zgg data v := by
 intro m
 induction m with
 | zero => intro v h; have := v.nodes_pos; omega
 | succ m ih =>
  intro v hv hb t ht H K hK
  obtain ⟨n, ks⟩ := v
  obtain ⟨tk, tn, tks⟩ := t
  have hnl : IT.nodesL ks + 1 ≤ 900 := by simpa [IT.nodes] using hb
  have hll := IT.len_le ks
  have hkids : ∀ v ∈ ks, zgg data v := fun v hvm => by
   obtain ⟨i, hi, rfl⟩ := List.getElem_of_mem hvm
   have := IT.kid_lt (n := n) hi
   exact ih _ (by omega) (by omega)
  refine ACalls.out (zDd fun hs => ?_)
  rw [zve] at hK
  by_cases h6 : tk = 6
  ·subst h6
   by_cases hn : n = 0
   ·subst hn
    simp [zcy, VT.cs, IT.cs, Nat.add_assoc]
    have htk : ∀ t ∈ tks, t.nodes ≤ 1000 := fun t htm => by
     obtain ⟨i, hi, rfl⟩ := List.getElem_of_mem htm
     have := VT.kid_lt (k := 6) (n := tn) hi
     omega
    refine zs8 h8 ks (by omega) hkids tks htk _ _ ?_
    simp
    refine ⟨⟨rfl, rfl⟩, ?_⟩
    exact zce hs (by simpa [zb5] using hK) _
   ·have : (n != 0) = true := by simp [bne, hn]
    simp [zcy, VT.cs, IT.cs, Nat.add_assoc, this]
    simp [hn] at hK
    exact ⟨⟨rfl, rfl⟩, zce hs hK _⟩
  have h6' : (tk == 6) = false := by simp [h6]
  rw [if_neg h6] at hK
  by_cases h7 : tk = 7
  ·subst h7
   simp only [if_true] at hK
   by_cases g1 : 0 ≤ n
   ·by_cases g2 : n ≤ 6
    ·by_cases g3 : ks.length = 0
     ·simp [zcy, VT.cs, IT.cs, Nat.add_assoc, g1, g2, g3]
      simp [g1, g2, g3] at hK
      exact ⟨⟨rfl, rfl⟩, zce hs hK _⟩
     ·have g3' : ((ks.length : Int) == 0) = false := by simp; exact fun h => g3 (by simp [h])
      simp [zcy, VT.cs, IT.cs, Nat.add_assoc, g1, g2, g3, g3']
      simp [g1, g2, g3] at hK
      exact ⟨⟨rfl, rfl⟩, zce hs hK _⟩
    ·simp [zcy, VT.cs, IT.cs, Nat.add_assoc, g1, g2]
     simp [g1, g2] at hK
     exact ⟨⟨rfl, rfl⟩, zce hs hK _⟩
   ·simp [zcy, VT.cs, IT.cs, Nat.add_assoc, g1]
    simp [g1] at hK
    exact ⟨⟨rfl, rfl⟩, zce hs hK _⟩
  have h7' : (tk == 7) = false := by simp [h7]
  rw [if_neg h7] at hK
  by_cases h5 : tk = 5
  case neg =>
   have h5' : (tk == 5) = false := by simp [h5]
   rw [if_neg h5] at hK
   by_cases g1 : n = 0
   ·by_cases g2 : ks.length = 0
    ·simp [zcy, VT.cs, IT.cs, Nat.add_assoc, h6', h7', h5', g1, g2, zae]
     simp [g1, g2] at hK
     exact ⟨⟨rfl, rfl⟩, zce hs hK _⟩
    ·have g2' : ((ks.length : Int) == 0) = false := by simp; exact fun h => g2 (by simp [h])
     simp [zcy, VT.cs, IT.cs, Nat.add_assoc, h6', h7', h5', g1, g2, g2', zae]
     simp [g1, g2] at hK
     exact ⟨⟨rfl, rfl⟩, zce hs hK _⟩
   ·have g1' : (n == 0) = false := by simp [g1]
    simp [zcy, VT.cs, IT.cs, Nat.add_assoc, h6', h7', h5', g1, g1', zae]
    simp [g1] at hK
    exact ⟨⟨rfl, rfl⟩, zce hs hK _⟩
  subst h5
  simp only [if_true] at hK
  by_cases hn : n = 0
  case neg =>
   have : (n != 0) = true := by simp [bne, hn]
   simp [zcy, VT.cs, IT.cs, Nat.add_assoc, this]
   simp [hn] at hK
   exact ⟨⟨rfl, rfl⟩, zce hs hK _⟩
  subst hn
  simp only [if_true] at hK
  simp [zcy, VT.cs, IT.cs, Nat.add_assoc]
  have hT : (VT.mk 5 tn tks).nodes ≤ 1000 := ht
  have hT' : (VT.mk 5 tn tks).cs = [.int .i64 5, .int .i64 tn, .sl (VT.css tks) .none] := rfl
  generalize hTg : VT.mk 5 tn tks = T at *
  have hsc2 : HSc (H ++ [.cells [.int .i64 5, .int .i64 tn, .sl (VT.css tks) .none], .cells [.int .i64 0, .sl (IT.css ks) .none]]) := hs.append (by simp [AB.sc, AV.scA, AV.scB])
  have hF : zb3 data ks T 0 = (0, false) → ∀ J, Out H.length K (.tup [.int .i64 0, .bool false]) (H ++ J) := fun h J => zce hs (by rw [h] at hK; exact hK) J
  refine zDb (Inv := fun q t8 t55 H' => ∃ (i : Nat) (a : Int), i ≤ ks.length ∧ q = ks.length - i ∧ t55 = .int .i64 i ∧ t8 = .int .i64 a ∧ 0 ≤ a ∧ a ≤ 6 ∧ zb3 data (ks.drop i) T a = zb3 data ks T 0 ∧
   H' = H ++ [.cells [.int .i64 5, .int .i64 tn, .sl (VT.css tks) .none], .cells [.int .i64 0, .sl (IT.css ks) .none]]) ks.length ?_ ?_
  ·intro _; exact ⟨0, 0, by omega, by omega, rfl, rfl, by omega, by omega, by simp, rfl⟩
  ·rintro q t8 t55 H' ⟨i, a, hi, rfl, rfl, rfl, ha0, ha6, ho, rfl⟩ hsc' hlen hsF Kb hKb
   by_cases hlt : i < ks.length
   ·rw [List.drop_eq_getElem_cons hlt] at ho
    have hkn := IT.kid_lt (n := 0) hlt
    obtain ⟨c, es, hx⟩ : ∃ c es, ks[i] = IT.mk c es := by cases h : ks[i] with | mk a b => exact ⟨a, b, rfl⟩
    rw [hx] at ho hkn
    have hesl := IT.len_le es
    have hen : IT.nodesL es + 1 ≤ 900 := by
     have : (IT.mk c es).nodes = IT.nodesL es + 1 := by simp [IT.nodes]
     have : (IT.mk 0 ks).nodes = IT.nodesL ks + 1 := by simp [IT.nodes]
     omega
    have hes : ∀ v ∈ es, zgg data v := fun v hvm => by
     obtain ⟨j, hj, rfl⟩ := List.getElem_of_mem hvm
     have := IT.kid_lt (n := c) hj
     exact ih _ (by omega) (by omega)
    simp only [zb3] at ho
    simp [znf, hlt, hx, IT.cs, Nat.add_assoc]
    rw [← hT']
    refine zEd data hk T hT c _ _ ?_
    cases hp : zbg data T c with
    | none =>
     rw [hp] at ho
     simp only at ho
     simp [zbB]
     exact ⟨⟨rfl, rfl⟩, hF ho.symm _⟩
    | some ps =>
     rw [hp] at ho
     simp only at ho
     simp [zbB]
     have hpn : ∀ t ∈ ps, t.nodes ≤ 1000 := zpE hp
     refine zs8 h8 es (by omega) hes ps hpn _ _ ?_
     have htb : 0 ≤ (zb5 data es ps).1 ∧ (zb5 data es ps).1 ≤ 6 * es.length := by
      unfold zb5
      split
      ·have := zpe h8 es ps 0 (by omega); omega
      ·simp; omega
     have ho' : (if (zb5 data es ps).2 && decide (a + (1 + (zb5 data es ps).1) ≤ 6) then zb3 data (ks.drop (i + 1)) T (a + (1 + (zb5 data es ps).1)) else (0, false)) = zb3 data ks T 0 := by
      rw [← ho]
      unfold zb5
      by_cases hl : ps.length = es.length
      ·simp only [hl, if_true]
      ·simp only [hl, if_false]; rfl
     generalize zb5 data es ps = w at *
     obtain ⟨w1, w2⟩ := w
     simp only at htb ho'
     simp
     have q1 : IntKind.i64.wrap (1 + w1) = 1 + w1 := zan (by omega) (by omega)
     have q2 : IntKind.i64.wrap (a + (1 + w1)) = a + (1 + w1) := zan (by omega) (by omega)
     rw [q1, q2]
     cases w2 with
     | false =>
      simp at ho' ⊢
      exact ⟨⟨rfl, rfl⟩, hF ho'.symm _⟩
     | true =>
      by_cases hh : a + (1 + w1) ≤ 6
      ·have hh' : ¬ (6 : Int) < a + (1 + w1) := by omega
       simp [hh] at ho'
       simp [hh']
       rw [zan (by omega) (by omega)]
       refine hKb _ _ ⟨ks.length - (i + 1), by omega, Back.at (J := [.cells [.int .i64 c, .sl (IT.css es) .none]]) (H2 := H ++ [.cells [.int .i64 5, .int .i64 tn, .sl (VT.css tks) .none], .cells [.int .i64 0, .sl (IT.css ks) .none]]) (by simp [hT']) (by simp) hsc2 ?_ ⟨_, _, rfl, i + 1, _, by omega, rfl, by simp, rfl, by omega, by omega, ho', rfl⟩⟩
       simp [zjk, AV.sc, AV.scV, AV.scA, AV.scB]
      ·have hh' : (6 : Int) < a + (1 + w1) := by omega
       simp [hh] at ho'
       simp [hh']
       exact ⟨⟨rfl, rfl⟩, hF ho'.symm _⟩
   ·obtain rfl : i = ks.length := by omega
    rw [List.drop_length] at ho
    simp only [zb3] at ho
    rw [← ho] at hK
    simp [znf]
    exact ⟨⟨rfl, rfl⟩, zce hs hK _⟩
theorem zvJ (data : List Dat) (n : Int) (ks : List IT) (tk tn : Int) (tks : List VT) : rdV data (.mk n ks) (.mk tk tn tks) =
  if tk = 6 then (if n = 0 then (if tks.length = ks.length then rdA data ks tks 0 else -1) else -1)
  else if tk = 7 then (if 0 ≤ n ∧ n ≤ 6 ∧ ks.length = 0 then n else -1)
  else if tk = 5 then (if n = 0 ∧ ks.length ≤ 6 then rdE data ks (.mk tk tn tks) 0 else -1)
  else (if n = 0 ∧ ks.length = 0 then 0 else -1) := by
 rw [rdV]
 rfl
theorem zod {m : Int × Bool} {r : Int} (h : agr m r) : -1 ≤ r ∧ r ≤ 6 := by
 obtain ⟨h1, h2⟩ := h
 cases hb : m.2 with
 | true => have := h1 hb; omega
 | false => have := h2 hb; omega
def zb4 (data : List Dat) (vs : List IT) (ts : List VT) : Int := if ts.length = vs.length then rdA data vs ts 0 else -1
theorem zwT {data : List Dat} (h8 : ∀ D ∈ data, D.cons.length ≤ 8) (vs : List IT) (ts : List VT) : -1 ≤ zb4 data vs ts ∧ zb4 data vs ts ≤ 6 := by
 unfold zb4
 split
 ·exact zod ((zgj h8 vs ts 0 (by omega)).1 (by omega))
 ·omega
def zge (data : List Dat) (v : IT) : Prop := ∀ t : VT, t.nodes ≤ 1000 → ∀ (H : zaa) (K : Kt), K (.int .i64 (rdV data v t)) H → ACalls tP zgK [.sl (data.map Dat.cs) .none, .agg t.cs, .agg v.cs] H K
theorem zsM {data : List Dat} (h8 : ∀ D ∈ data, D.cons.length ≤ 8) (vs : List IT) (hv : vs.length ≤ 1000) (hel : ∀ v ∈ vs, zge data v) (ts : List VT) (ht : ∀ t ∈ ts, t.nodes ≤ 1000) (H : zaa) (K : Kt)
  (hK : K (.int .i64 (zb4 data vs ts)) H) : ACalls tP zgV [.sl (data.map Dat.cs) .none, .sl (VT.css ts) .none, .sl (IT.css vs) .none] H K := by
 refine ACalls.out (zCU fun hs => ?_)
 have hO : ∀ r J, zb4 data vs ts = r → Out H.length K (.int .i64 r) (H ++ J) := fun r J h => by subst h; exact Out.int rfl (Nat.le_refl _) hs hK
 have hO0 : ∀ r, zb4 data vs ts = r → Out H.length K (.int .i64 r) H := fun r h => by simpa using hO r [] h
 by_cases hl : ts.length = vs.length
 case neg =>
  have : ((ts.length : Int) != (vs.length : Int)) = true := by simp [bne]; omega
  simp [zm8, this]
  exact hO0 _ (by simp [zb4, hl])
 have htot : zb4 data vs ts = rdA data vs ts 0 := by simp [zb4, hl]
 simp [zm8, hl]
 refine zCS (Inv := fun q t7 t17 H' => ∃ (i : Nat) (a : Int), i ≤ vs.length ∧ q = vs.length - i ∧ t17 = .int .i64 i ∧ t7 = .int .i64 a ∧ 0 ≤ a ∧ a ≤ 6 ∧ rdA data (vs.drop i) (ts.drop i) a = zb4 data vs ts ∧ H' = H) vs.length ?_ ?_
 ·intro _; exact ⟨0, 0, by omega, by omega, rfl, rfl, by omega, by omega, by simp [htot], rfl⟩
 ·rintro q t7 t17 H' ⟨i, a, hi, rfl, rfl, rfl, ha0, ha6, ho, rfl⟩ hsc' hlen hsF Kb hKb
  by_cases hlt : i < vs.length
  ·have hlt' : i < ts.length := by omega
   rw [List.drop_eq_getElem_cons hlt, List.drop_eq_getElem_cons hlt'] at ho
   simp only [rdA] at ho
   have hti := ht _ (List.getElem_mem hlt')
   have hvi := hel _ (List.getElem_mem hlt)
   have hbd := zod (ze6 h8 vs[i] ts[i])
   simp [zm9, hl, hlt, hlt', Nat.add_assoc]
   refine zbF (.int .i64 (rdV data vs[i] ts[i])) (fun J => hvi _ hti _ _ ⟨rfl, rfl⟩) ?_
   generalize rdV data vs[i] ts[i] = r at *
   by_cases hr : r < 0
   ·rw [if_pos (.inl hr)] at ho
    simp [hr]
    exact hO0 _ ho.symm
   ·have q1 : IntKind.i64.wrap (a + r) = a + r := zan (by omega) (by omega)
    by_cases h6 : a + r > 6
    ·rw [if_pos (.inr h6)] at ho
     simp [hr, q1, h6]
     exact hO0 _ ho.symm
    ·rw [if_neg (by omega)] at ho
     simp [hr, q1, h6]
     rw [zan (by omega) (by omega)]
     refine hKb _ _ ⟨vs.length - (i + 1), by omega, Back.at (J := []) (by simp) (Nat.le_refl _) hs ?_ ⟨_, _, rfl, i + 1, _, by omega, rfl, by simp, rfl, by omega, by omega, ho, rfl⟩⟩
     simp [zjd, AV.sc, AV.scV, AV.scA, AV.scB]
  ·obtain rfl : i = vs.length := by omega
   rw [List.drop_length] at ho
   simp only [rdA] at ho
   simp [zm9, hl]
   exact hO0 _ ho.symm
theorem zz9 : ∀ (m : Nat) (v : IT), v.nodes ≤ m → ∀ (left : Int), left ≤ 1000000 → -1 ≤ left → ∀ (H : zaa) (id : Nat), H[id]? = some (.cells [.int .i64 left]) → ∀ (K : AV → zaa → Prop),
  ((v.nodes : Int) ≤ left → K (.bool true) (H.set id (.cells [.int .i64 (left - v.nodes)]))) → (¬ (v.nodes : Int) ≤ left → ∀ l', K (.bool false) (H.set id (.cells [.int .i64 l']))) →
  ACalls tP zgG [.agg v.cs, .ptr id 0] H K := by
 intro m
 induction m with
 | zero => intro v h; have := v.nodes_pos; omega
 | succ m ih =>
  intro v hv left hl1 hl0 H id hid K hK hF
  obtain ⟨n, ks⟩ := v
  have hlt := zey hid
  have hnn : (IT.mk n ks).nodes = IT.nodesL ks + 1 := by simp [IT.nodes]
  refine ACalls.out (zz7 fun hs => ?_)
  have hget : (H ++ [AB.cells [.int .i64 n, .sl (IT.css ks) .none]])[id]? = some (.cells [.int .i64 left]) := zcA hid
  have bad : (¬ ((IT.mk n ks).nodes : Int) ≤ left) → ∀ l' H', H' = H.set id (.cells [.int .i64 l']) ++ [.cells [.int .i64 n, .sl (IT.css ks) .none]] → Out H.length K (.bool false) H' := by
   intro h l' H' he
   exact Out.bool he (by simp) (hs.set rfl) (hF h l')
  simp [zrQ, IT.cs, hget, AV.known]
  rw [zan (by omega) (by omega), zc5 _ hid, zcA (zcw _ hid)]
  by_cases h0 : left - 1 < 0
  ·simp [h0]
   exact bad (by omega) _ _ rfl
  ·simp [h0]
   refine zz5 (Inv := fun q t5 H' => ∃ i : Nat, i ≤ ks.length ∧ q = ks.length - i ∧ t5 = .int .i64 i ∧ ((IT.nodesL (ks.take i) : Int) + 1 ≤ left) ∧ H' = H.set id (.cells [.int .i64 (left - 1 - IT.nodesL (ks.take i))]) ++ [.cells [.int .i64 n, .sl (IT.css ks) .none]]) ks.length ?_ ?_
   ·intro _; exact ⟨0, by omega, by omega, rfl, by simp [IT.nodesL]; omega, by simp [IT.nodesL]⟩
   ·rintro q t5 H' ⟨i, hi, rfl, rfl, hb, rfl⟩ hsc hlen hsF Kb hKb
    by_cases hil : i < ks.length
    ·have hki := IT.kid_lt (n := n) hil
     have h1 := IT.nodesL_take hil
     have h2 := IT.nodesL_take_le ks (i + 1)
     have hll := IT.len_le (ks.take i)
     simp only [List.length_take] at hll
     have hge : (H.set id (.cells [.int .i64 (left - 1 - IT.nodesL (ks.take i))]) ++ [AB.cells [.int .i64 n, .sl (IT.css ks) .none]])[id]? = some (.cells [.int .i64 (left - 1 - IT.nodesL (ks.take i))]) := zcA (zcw _ hid)
     simp [zmg, hil]
     refine ih ks[i] (by omega) (left - 1 - IT.nodesL (ks.take i)) (by omega) (by omega) _ id hge _ ?_ ?_
     ·intro hle
      rw [zc5 _ (zcw _ hid), List.set_set]
      simp
      rw [zan (by omega) (by omega)]
      refine hKb _ _ ⟨ks.length - (i + 1), by omega, Back.here (by simp) ((hs.set rfl).snoc rfl) ?_ ⟨_, rfl, i + 1, by omega, rfl, by simp, by omega, ?_⟩⟩
      ·simp [zii, AV.sc, AV.scV, AV.scA, AV.scB]; omega
      ·rw [h1]; congr 5; omega
     ·intro hle l'
      rw [zc5 _ (zcw _ hid), List.set_set]
      simp
      exact bad (by omega) _ _ rfl
    ·obtain rfl : i = ks.length := by omega
     rw [List.take_length] at hb ⊢
     simp [zmg]
     refine Out.bool rfl (by simp) (hs.set rfl) ?_
     have := hK (by omega)
     rw [hnn] at this
     rw [show left - 1 - (IT.nodesL ks : Int) = left - ((IT.nodesL ks + 1 : Nat) : Int) by omega]
     exact this
theorem zDz (v : IT) (H : zaa) (K : Kt) (hK : ∀ b, (b = true → v.nodes ≤ 40) → K (.bool b) H) : ACalls tP zkN [.agg v.cs] H K := by
 refine ACalls.out (zDy fun hs => ?_)
 simp [zq7, AV.known]
 refine zz9 _ v (Nat.le_refl _) 40 (by omega) (by omega) _ (H.length + 1) (by simp) _ ?_ ?_
 ·intro h
  exact Out.bool (J := [_, _]) (by simp; exact ⟨rfl, rfl⟩) (Nat.le_refl _) hs (hK true fun _ => by omega)
 ·intro h l'
  exact Out.bool (J := [_, _]) (by simp; exact ⟨rfl, rfl⟩) (Nat.le_refl _) hs (hK false fun h => by cases h)
theorem zA9 {data : List Dat} (hk : zaZ data) (h8 : ∀ D ∈ data, D.cons.length ≤ 8) : ∀ (m : Nat) (v : IT), v.nodes ≤ m → v.nodes ≤ 900 → zge data v := by
 intro m
 induction m with
 | zero => intro v h; have := v.nodes_pos; omega
 | succ m ih =>
  intro v hv hb t ht H K hK
  obtain ⟨n, ks⟩ := v
  obtain ⟨tk, tn, tks⟩ := t
  have hnl : IT.nodesL ks + 1 ≤ 900 := by simpa [IT.nodes] using hb
  have hll := IT.len_le ks
  have hkids : ∀ v ∈ ks, zge data v := fun v hvm => by
   obtain ⟨i, hi, rfl⟩ := List.getElem_of_mem hvm
   have := IT.kid_lt (n := n) hi
   exact ih _ (by omega) (by omega)
  refine ACalls.out (zA7 fun hs => ?_)
  rw [zvJ] at hK
  have hO : ∀ r J, K (.int .i64 r) H → Out H.length K (.int .i64 r) (H ++ J) := fun r J h => Out.int rfl (Nat.le_refl _) hs h
  by_cases h6 : tk = 6
  ·subst h6
   rw [if_pos rfl] at hK
   by_cases hn : n = 0
   ·subst hn
    rw [if_pos rfl] at hK
    simp [zcl, VT.cs, IT.cs, Nat.add_assoc]
    have htk : ∀ t ∈ tks, t.nodes ≤ 1000 := fun t htm => by
     obtain ⟨i, hi, rfl⟩ := List.getElem_of_mem htm
     have := VT.kid_lt (k := 6) (n := tn) hi
     omega
    refine zsM h8 ks (by omega) hkids tks htk _ _ ?_
    exact hO _ _ hK
   ·have : (n != 0) = true := by simp [bne, hn]
    rw [if_neg hn] at hK
    simp [zcl, VT.cs, IT.cs, Nat.add_assoc, this]
    exact hO _ _ hK
  have h6' : (tk == 6) = false := by simp [h6]
  rw [if_neg h6] at hK
  by_cases h7 : tk = 7
  ·subst h7
   rw [if_pos rfl] at hK
   by_cases g1 : n < 0
   ·rw [if_neg (by omega)] at hK
    simp [zcl, VT.cs, IT.cs, Nat.add_assoc, g1]
    exact hO _ _ hK
   ·by_cases g2 : n > 6
    ·rw [if_neg (by omega)] at hK
     simp [zcl, VT.cs, IT.cs, Nat.add_assoc, g1, g2]
     exact hO _ _ hK
    ·by_cases g3 : 0 < ks.length
     ·rw [if_neg (by omega)] at hK
      have g3' : (0 : Int) < ks.length := by omega
      simp [zcl, VT.cs, IT.cs, Nat.add_assoc, g1, g2, g3, g3']
      exact hO _ _ hK
     ·rw [if_pos (by omega)] at hK
      have g3' : ¬ (0 : Int) < ks.length := by omega
      simp [zcl, VT.cs, IT.cs, Nat.add_assoc, g1, g2, g3, g3']
      exact hO _ _ hK
  have h7' : (tk == 7) = false := by simp [h7]
  rw [if_neg h7] at hK
  by_cases h5 : tk = 5
  case neg =>
   have h5' : (tk == 5) = false := by simp [h5]
   rw [if_neg h5] at hK
   by_cases g1 : n = 0
   ·subst g1
    by_cases g2 : 0 < ks.length
    ·have g2' : (0 : Int) < ks.length := by omega
     rw [if_neg (by omega)] at hK
     simp [zcl, VT.cs, IT.cs, Nat.add_assoc, h6', h7', h5', g2, g2']
     exact hO _ _ hK
    ·have g2' : ¬ (0 : Int) < ks.length := by omega
     rw [if_pos (by omega)] at hK
     simp [zcl, VT.cs, IT.cs, Nat.add_assoc, h6', h7', h5', g2, g2']
     exact hO _ _ hK
   ·have g1' : (n != 0) = true := by simp [bne, g1]
    rw [if_neg (by omega)] at hK
    simp [zcl, VT.cs, IT.cs, Nat.add_assoc, h6', h7', h5', g1, g1']
    exact hO _ _ hK
  subst h5
  rw [if_pos rfl] at hK
  by_cases hn : n = 0
  case neg =>
   have : (n != 0) = true := by simp [bne, hn]
   rw [if_neg (by omega)] at hK
   simp [zcl, VT.cs, IT.cs, Nat.add_assoc, this]
   exact hO _ _ hK
  subst hn
  by_cases hl6 : ks.length > 6
  ·rw [if_neg (by omega)] at hK
   have : (6 : Int) < ks.length := by omega
   simp [zcl, VT.cs, IT.cs, Nat.add_assoc, this]
   exact hO _ _ hK
  have hl6' : ¬ (6 : Int) < ks.length := by omega
  rw [if_pos (by omega)] at hK
  simp [zcl, VT.cs, IT.cs, Nat.add_assoc, hl6']
  have hT : (VT.mk 5 tn tks).nodes ≤ 1000 := ht
  have hT' : (VT.mk 5 tn tks).cs = [.int .i64 5, .int .i64 tn, .sl (VT.css tks) .none] := rfl
  generalize hTg : VT.mk 5 tn tks = T at *
  have hsc2 : HSc (H ++ [.cells [.int .i64 5, .int .i64 tn, .sl (VT.css tks) .none], .cells [.int .i64 0, .sl (IT.css ks) .none]]) := hs.append (by simp [AB.sc, AV.scA, AV.scB])
  have hF : ∀ r, r = rdE data ks T 0 → ∀ J, Out H.length K (.int .i64 r) (H ++ J) := fun r h J => hO _ _ (by rw [h]; exact hK)
  refine zA5 (Inv := fun q t7 t58 H' => ∃ (i : Nat) (a : Int), i ≤ ks.length ∧ q = ks.length - i ∧ t58 = .int .i64 i ∧ t7 = .int .i64 a ∧ 0 ≤ a ∧ a ≤ 6 ∧ rdE data (ks.drop i) T a = rdE data ks T 0 ∧
   H' = H ++ [.cells [.int .i64 5, .int .i64 tn, .sl (VT.css tks) .none], .cells [.int .i64 0, .sl (IT.css ks) .none]]) ks.length ?_ ?_
  ·intro _; exact ⟨0, 0, by omega, by omega, rfl, rfl, by omega, by omega, by simp, rfl⟩
  ·rintro q t7 t58 H' ⟨i, a, hi, rfl, rfl, rfl, ha0, ha6, ho, rfl⟩ hsc' hlen hsF Kb hKb
   by_cases hlt : i < ks.length
   ·rw [List.drop_eq_getElem_cons hlt] at ho
    have hkn := IT.kid_lt (n := 0) hlt
    obtain ⟨c, es, hx⟩ : ∃ c es, ks[i] = IT.mk c es := by cases h : ks[i] with | mk a b => exact ⟨a, b, rfl⟩
    rw [hx] at ho hkn
    have hesl := IT.len_le es
    have hen : IT.nodesL es + 1 ≤ 900 := by
     have : (IT.mk c es).nodes = IT.nodesL es + 1 := by simp [IT.nodes]
     have : (IT.mk 0 ks).nodes = IT.nodesL ks + 1 := by simp [IT.nodes]
     omega
    have hes : ∀ v ∈ es, zge data v := fun v hvm => by
     obtain ⟨j, hj, rfl⟩ := List.getElem_of_mem hvm
     have := IT.kid_lt (n := c) hj
     exact ih _ (by omega) (by omega)
    simp only [rdE] at ho
    by_cases c1 : c < 0
    ·rw [if_pos (.inl c1)] at ho
     simp [zf4, hlt, hx, IT.cs, Nat.add_assoc, c1]
     exact hF _ ho _
    by_cases c2 : 8 ≤ c
    ·rw [if_pos (.inr c2)] at ho
     simp [zf4, hlt, hx, IT.cs, Nat.add_assoc, c1, c2]
     exact hF _ ho _
    rw [if_neg (by omega)] at ho
    simp [zf4, hlt, hx, IT.cs, Nat.add_assoc, c1, c2]
    rw [← hT']
    refine zC2 data hk T hT c _ _ ?_
    cases hp : zbg data T c with
    | none =>
     rw [hp] at ho
     simp only at ho
     simp [zbB]
     exact hF _ ho _
    | some ps =>
     rw [hp] at ho
     simp only at ho
     simp [zbB]
     have hpn : ∀ t ∈ ps, t.nodes ≤ 1000 := zpE hp
     refine zsM h8 es (by omega) hes ps hpn _ _ ?_
     have htb := zwT h8 es ps
     have ho' : (if zb4 data es ps < 0 ∨ a + 1 + zb4 data es ps > 6 then -1 else rdE data (ks.drop (i + 1)) T (a + (1 + zb4 data es ps))) = rdE data ks T 0 := by
      rw [← ho]
      unfold zb4
      by_cases hl : ps.length = es.length
      ·simp only [hl, if_true]
      ·simp only [hl, if_false]; rfl
     generalize zb4 data es ps = w at *
     by_cases w0 : w < 0
     ·rw [if_pos (.inl w0)] at ho'
      simp [w0]
      exact hF _ ho' _
     ·have q1 : IntKind.i64.wrap (a + 1) = a + 1 := zan (by omega) (by omega)
      have q2 : IntKind.i64.wrap (a + 1 + w) = a + 1 + w := zan (by omega) (by omega)
      have q3 : IntKind.i64.wrap (1 + w) = 1 + w := zan (by omega) (by omega)
      have q4 : IntKind.i64.wrap (a + (1 + w)) = a + (1 + w) := zan (by omega) (by omega)
      by_cases hh : a + 1 + w > 6
      ·rw [if_pos (.inr hh)] at ho'
       simp [w0, q1, q2, hh]
       exact hF _ ho' _
      ·rw [if_neg (by omega)] at ho'
       simp [w0, q1, q2, hh, q3, q4]
       rw [zan (by omega) (by omega)]
       refine hKb _ _ ⟨ks.length - (i + 1), by omega, Back.at (J := [.cells [.int .i64 c, .sl (IT.css es) .none]]) (H2 := H ++ [.cells [.int .i64 5, .int .i64 tn, .sl (VT.css tks) .none], .cells [.int .i64 0, .sl (IT.css ks) .none]]) (by simp [hT']) (by simp) hsc2 ?_ ⟨_, _, rfl, i + 1, _, by omega, rfl, by simp, rfl, by omega, by omega, ho', rfl⟩⟩
       simp [ziD, AV.sc, AV.scV, AV.scA, AV.scB]
   ·obtain rfl : i = ks.length := by omega
    rw [List.drop_length] at ho
    simp only [rdE] at ho
    simp [zf4]
    exact hF _ ho _
section
variable {data : List Dat} (hD : DOk data)
end
theorem zu8 {data : List Dat} (h : zaZ data) : zjR data := fun D hD => by
 obtain ⟨_, h2⟩ := h
 obtain ⟨_, h3, h4⟩ := h2 D hD
 refine ⟨by omega, fun c hc => ?_⟩
 obtain ⟨_, h5, h6⟩ := h4 c hc
 exact ⟨by omega, fun x hx => by have := h6 x hx; omega⟩
theorem zoE {data : List Dat} : ∀ {l : List Dat} {d : Nat}, zb8 data l d = true → ∀ D ∈ l, D.cons.length ≤ 8
 | [], _, _, D, h => by cases h
 | E :: l, d, h, D, hD => by
  simp only [zb8, Bool.and_eq_true] at h
  rcases List.mem_cons.1 hD with rfl | hD
  ·have := h.1
   simp only [zb0, Bool.and_eq_true, decide_eq_true_eq] at this
   exact this.1.2
  ·exact zoE h.2 D hD
theorem zfm {data : List Dat} {t : VT} (h : zaX data t = true) : ∀ D ∈ data, D.cons.length ≤ 8 := by
 simp only [zaX, zbh, Bool.and_eq_true] at h
 exact zoE h.1.1.1.2
def zaP (data : List Dat) (t : VT) (v : IT) : Int := if zaX data t then rdV data v t else -1
theorem ziU (data : List Dat) (hk : zaZ data) (t : VT) (ht : t.nodes ≤ 1000000) (H : zaa) (K : Kt) (hK : K (.bool (zaX data t)) H) : ACalls tP zfH [.sl (data.map Dat.cs) .none, .agg t.cs] H K := by
 refine ACalls.out (zB7 fun hs => ?_)
 obtain ⟨x, y, z, hvx, hx, hy, hz⟩ := zbd t
 simp [zss, zal, zaB, hvx, Nat.add_assoc]
 refine zDo data (zu8 hk) (by have := hk.1; omega) ?_
 unfold zaX at hK
 cases hd : zbh data with
 | false =>
  rw [hd] at hK
  simp
  exact Out.bool rfl (Nat.le_refl _) hs hK
 | true =>
  rw [hd, Bool.true_and] at hK
  simp
  rw [← hvx]
  refine zsW data 0 t (by omega) _ _ ?_
  exact Out.bool rfl (Nat.le_refl _) hs hK
theorem zmx (data : List Dat) (hk : zaZ data) (t : VT) (ht : t.nodes ≤ 1000000) (H : zaa) (K : Kt) (hK : K (.bool (zaX data t)) H) : ACalls tP zfD [.sl (data.map Dat.cs) .none, .agg t.cs] H K := by
 refine ACalls.out (zA2 fun hs => ?_)
 obtain ⟨x, y, z, hvx, hx, hy, hz⟩ := zbd t
 simp [zse, hvx, Nat.add_assoc]
 refine zCM data hk _ _ fun b hb => ?_
 have hbd : b = zbh data := by rw [Bool.eq_iff_iff, hb, zuK]
 subst hbd
 unfold zaX at hK
 cases hd : zbh data with
 | false =>
  rw [hd] at hK
  simp
  exact Out.bool rfl (Nat.le_refl _) hs hK
 | true =>
  rw [hd, Bool.true_and] at hK
  simp
  rw [← hvx]
  refine zsK data (by have := hk.1; omega) 0 t (by omega) _ _ ?_
  exact Out.bool rfl (Nat.le_refl _) hs hK
theorem zsl (data : List Dat) (hk : zaZ data) (t : VT) (ht : t.nodes ≤ 1000) (v : IT) (hv : v.nodes ≤ 900) (H : zaa) (K : Kt) (hK : K (.int .i64 (zaP data t v)) H) : ACalls tP zgN [.sl (data.map Dat.cs) .none, .agg t.cs, .agg v.cs] H K := by
 refine ACalls.out (zBw fun hs => ?_)
 have hO : ∀ r J, zaP data t v = r → Out H.length K (.int .i64 r) (H ++ J) := fun r J h => by subst h; exact Out.int rfl (Nat.le_refl _) hs hK
 obtain ⟨x, y, z, hvx, hx, hy, hz⟩ := zbd t
 obtain ⟨x2, y2, hvx2, hx2, hy2⟩ := it2 v
 simp [zsk, hvx, hvx2, Nat.add_assoc]
 rw [← hvx]
 refine ziU data hk t (by omega) _ _ ?_
 cases hf : zaX data t with
 | false =>
  simp
  exact hO _ _ (by simp [zaP, hf])
 | true =>
  have h8 := zfm hf
  obtain ⟨g1, g2⟩ := ze6 h8 v t
  simp [Nat.add_assoc]
  rw [← hvx2]
  refine zDf hk h8 _ v (Nat.le_refl _) hv t ht _ _ ?_
  cases hb : (zbK data v t).2 with
  | false =>
   simp
   exact hO _ _ (by simp [zaP, hf, g2 hb])
  | true =>
   simp
   exact hO _ _ (by simp [zaP, hf, (g1 hb).1])
theorem zys (data : List Dat) (hk : zaZ data) (t : VT) (ht : t.nodes ≤ 1000) (v : IT) (hv : v.nodes ≤ 900) (H : zaa) (K : Kt) (hK : K (.int .i64 (zaP data t v)) H) : ACalls tP zkv [.sl (data.map Dat.cs) .none, .agg t.cs, .agg v.cs] H K := by
 refine ACalls.out (zyr fun hs => ?_)
 have hO : ∀ r J, zaP data t v = r → Out H.length K (.int .i64 r) (H ++ J) := fun r J h => by subst h; exact Out.int rfl (Nat.le_refl _) hs hK
 obtain ⟨x, y, z, hvx, hx, hy, hz⟩ := zbd t
 obtain ⟨x2, y2, hvx2, hx2, hy2⟩ := it2 v
 simp [zra, hvx, hvx2, Nat.add_assoc]
 rw [← hvx]
 refine zmx data hk t (by omega) _ _ ?_
 cases hf : zaX data t with
 | false =>
  simp
  exact hO _ _ (by simp [zaP, hf])
 | true =>
  have h8 := zfm hf
  simp [Nat.add_assoc]
  rw [← hvx2]
  refine zA9 hk h8 _ v (Nat.le_refl _) hv t ht _ _ ?_
  exact hO _ _ (by simp [zaP, hf])
theorem zAd (data : List Dat) (hk : zaZ data) (t : VT) (ht : t.nodes ≤ 1000) (v : IT) (hv : v.nodes ≤ 900) (H : zaa) (K : Kt) (hK : K (.bool (decide (0 ≤ zaP data t v))) H) : ACalls tP zkE [.sl (data.map Dat.cs) .none, .agg t.cs, .agg v.cs] H K := by
 refine ACalls.out (zAc fun hs => ?_)
 obtain ⟨x, y, z, hvx, hx, hy, hz⟩ := zbd t
 obtain ⟨x2, y2, hvx2, hx2, hy2⟩ := it2 v
 simp [zrS, hvx, hvx2, Nat.add_assoc]
 rw [← hvx, ← hvx2]
 refine zsl data hk t ht v hv _ _ ?_
 simp
 exact Out.bool rfl (Nat.le_refl _) hs (by simpa using hK)
theorem zsd (data : List Dat) (hk : zaZ data) (t : VT) (ht : t.nodes ≤ 1000) (v : IT) (hv : v.nodes ≤ 900) (H : zaa) (K : Kt) (hK : K (.bool (decide (0 ≤ zaP data t v))) H) : ACalls tP zgJ [.sl (data.map Dat.cs) .none, .agg t.cs, .agg v.cs] H K := by
 refine ACalls.out (zAZ fun hs => ?_)
 obtain ⟨x, y, z, hvx, hx, hy, hz⟩ := zbd t
 obtain ⟨x2, y2, hvx2, hx2, hy2⟩ := it2 v
 simp [zsc, hvx, hvx2, Nat.add_assoc]
 rw [← hvx, ← hvx2]
 refine zys data hk t ht v hv _ _ ?_
 simp
 exact Out.bool rfl (Nat.le_refl _) hs (by simpa using hK)
theorem zrY (data : List Dat) (hk : zaZ data) (k n : Int) (ks : List VT) (ht : (VT.mk k n ks).nodes ≤ 1000) (c : Int) {l : List VT} {bs : List Bool} (hf : zaJ data (.mk k n ks) c = some l)
  (hlb : l.length = bs.length) (hl8 : l.length ≤ 8) (hfine : zaX data (.mk k n ks) = true) (hrec : ∀ H K, K (.sl (za0 bs) .none) H → ACalls tP zcD [.sl (data.map Dat.cs) .none, .int .i64 n, .int .i64 c] H K) (H : zaa) (K : Kt)
  (hK : K (.tup [.sl (zaz (pos false bs bs.length)) .none, .sl (zaz (pos true bs bs.length)) .none, .bool true]) H) :
  ACalls tP zgH [.sl (data.map Dat.cs) .none, .agg (VT.mk k n ks).cs, .int .i64 c] H K := by
 refine ACalls.out (zAv fun hs => ?_)
 obtain ⟨f1, f2, f3⟩ := zc8 hk
 simp [zrW, VT.cs, Nat.add_assoc]
 refine ziU data hk (.mk k n ks) (by omega) _ _ ?_
 simp [hfine]
 refine zin data f1 f2 f3 (.mk k n ks) ht c _ _ ?_
 rw [hf]
 simp [zbB]
 refine hrec _ _ ?_
 simp [zdo]
 unfold zis
 refine ALoop.own 6 za2 1 rfl ?_
 refine ALoop.own 7 za2 1 rfl ?_
 have hl1 : (H ++ [AB.cells [AV.int IntKind.i64 k, AV.int IntKind.i64 n, AV.sl (VT.css ks) Tok.none]]).length = H.length + 1 := by simp
 have hl2 : (H ++ [AB.cells [AV.int IntKind.i64 k, AV.int IntKind.i64 n, AV.sl (VT.css ks) Tok.none]] ++ [AB.perm za2 1 0]).length = H.length + 2 := by simp
 rw [hl1, hl2]
 show zis (.sl [] (.own (H.length + 1))) (.sl [] (.own (H.length + 2))) (.sl (za0 bs) .none) (.int .i64 bs.length) (.int .i64 0) (H ++ [.cells [.int .i64 k, .int .i64 n, .sl (VT.css ks) .none]] ++ [.perm za2 1 0] ++ [.perm za2 1 0]) (Out H.length K)
 have hperm : ∀ m m2, HSc (H ++ [.cells [.int .i64 k, .int .i64 n, .sl (VT.css ks) .none], .perm za2 1 m, .perm za2 1 m2]) := fun m m2 => hs.append (by simp [AB.sc, AV.scA, AV.scB])
 refine zAt (Inv := fun q t6 t7 t32 H' => ∃ i : Nat, i ≤ bs.length ∧ q = bs.length - i ∧ t32 = .int .i64 i ∧ t6 = .sl (zaz (pos false bs i)) (.own (H.length + 1)) ∧ t7 = .sl (zaz (pos true bs i)) (.own (H.length + 2)) ∧
  H' = H ++ [.cells [.int .i64 k, .int .i64 n, .sl (VT.css ks) .none], .perm za2 1 (pos false bs i).length, .perm za2 1 (pos true bs i).length]) bs.length ?_ ?_
 ·intro _; exact ⟨0, by omega, by omega, rfl, by simp [pos, zaz], by simp [pos, zaz], by simp [pos]⟩
 ·rintro q t6 t7 t32 H' ⟨i, hi, rfl, rfl, rfl, rfl, rfl⟩ hsc' hlen hsF Kb hKb
  by_cases hlt : i < bs.length
  ·have hp1 := zfO false bs i hlt
   have hp2 := zfO true bs i hlt
   have hn1 := zca false bs i
   have hn2 := zca true bs i
   have hnext : zir (.sl (zaz (pos false bs (i + 1))) (.own (H.length + 1))) (.sl (zaz (pos true bs (i + 1))) (.own (H.length + 2))) (.sl (za0 bs) .none) (.int .i64 bs.length) (.int .i64 i)
     (H ++ [.cells [.int .i64 k, .int .i64 n, .sl (VT.css ks) .none], .perm za2 1 (pos false bs (i + 1)).length, .perm za2 1 (pos true bs (i + 1)).length]) (Out H.length K) Kb := by
    simp [zir, zrX]
    rw [zan (by omega) (by omega)]
    refine hKb _ _ ⟨bs.length - (i + 1), by omega, Back.at (J := []) (H2 := H ++ [.cells [.int .i64 k, .int .i64 n, .sl (VT.css ks) .none], .perm za2 1 (pos false bs (i + 1)).length, .perm za2 1 (pos true bs (i + 1)).length]) (by simp) (by simp) (hperm _ _) ?_ ⟨_, _, _, rfl, i + 1, by omega, rfl, by simp, rfl, rfl, rfl⟩⟩
    simp [ziq, AV.sc, AV.scV, AV.scA, AV.scB]
   cases hbi : bs[i] with
   | true =>
    rw [hbi] at hp1 hp2
    simp at hp1 hp2
    rw [hp1, hp2] at hnext
    simp [zip, zdo, hlt, zfb, hbi, zay, zbz, zaD, AV.pd, zat, zaW, zaK, zbo]
    refine ⟨⟨by omega, by omega⟩, ?_⟩
    simpa [zg5, zaz] using hnext
   | false =>
    rw [hbi] at hp1 hp2
    simp at hp1 hp2
    rw [hp1, hp2] at hnext
    simp [zip, zdo, hlt, zfb, hbi, zay, zbz, zaD, AV.pd, zat, zaW, zaK, zbo]
    refine ⟨⟨by omega, by omega⟩, ?_⟩
    simpa [zg5, zaz] using hnext
  ·obtain rfl : i = bs.length := by omega
   simp [zip]
   refine ⟨⟨rfl, rfl, rfl⟩, ?_⟩
   exact Out.tup (bs := [.sl (zaz (pos false bs bs.length)) .none, .sl (zaz (pos true bs bs.length)) .none, .bool true]) hs hK ⟨slV, slV, zaR rfl rfl, trivial⟩
theorem zr0 (data : List Dat) (hk : zaZ data) (t : VT) (ht : t.nodes ≤ 1000) (H : zaa) (K : Kt) (hK : zaX data t = true → K (.tup [.agg (zbp t).cs, .bool true]) H) (hf : zaX data t = true) :
  ACalls tP zfB [.sl (data.map Dat.cs) .none, .agg t.cs] H K := by
 refine ACalls.out (zrZ fun hs => ?_)
 obtain ⟨x, y, z, hvx, hx, hy, hz⟩ := zbd t
 simp [zmn, hvx, hx, hy, hz]
 rw [← hvx]
 refine ziU data hk t (by omega) _ _ ?_
 simp [hf, hvx, hx, hy, hz]
 rw [← hvx]
 refine zCl _ t (Nat.le_refl _) (by omega) _ _ ?_
 obtain ⟨p, q, hzz, hp, hq⟩ := zb2 (zbp t)
 have hK := hK hf
 rw [hzz] at hK ⊢
 simp [hp, hq]
 refine ⟨⟨rfl, rfl⟩, ?_⟩
 exact Out.tup (bs := [.agg [p, q], .bool true]) hs hK ⟨zaR rfl (by have := (zbp t).cs_scA H.length; rw [hzz] at this; simpa [AV.scV] using this), zaR rfl rfl, trivial⟩
theorem zd4 {H : zaa} {K : AV → zaa → Prop} {r : AV} (hsc : HSc H) (hv : r.isV = true) (hr : r.scV H.length = true) (h : K r H) : Out H.length K r H := by
 have := Out.same (J := []) rfl hsc hv hr h
 simpa using this
theorem zpl (a : Int) (H : zaa) (K : AV → zaa → Prop) (hK : K (.bool false) H) : ACalls tP zgZ [.int .i64 a] H K := by
 refine ACalls.out (zDC fun hs => ?_)
 simp [zsX]
 exact zd4 hs rfl rfl hK
theorem zos (a b : Int) (H : zaa) (K : AV → zaa → Prop) (hK : K (.int .i64 (icmp a b)) H) : ACalls tP zgS [.int .i64 a, .int .i64 b] H K := by
 refine ACalls.out (zCx fun hs => ?_)
 unfold zsA
 refine zpl _ _ _ (zpl _ _ _ ?_)
 have hO := zd4 (K := K) (H := H) (r := .int .i64 (icmp a b)) hs rfl rfl hK
 by_cases h1 : a < b
 ·simp [h1]; simpa [icmp, h1] using hO
 ·by_cases h2 : b < a
  ·simp [h1, h2]; simpa [icmp, h1, h2] using hO
  ·simp [h1, h2]; simpa [icmp, h1, h2] using hO
def orL : List Int → Int
 | [] => 0
 | a :: l => cor a (orL l)
theorem zvA (l : List Int) (tok : Tok) (hl : l.length ≤ 1000000) (H : zaa) (K : AV → zaa → Prop) (hK : K (.int .i64 (orL l)) H) : ACalls tP zkJ [.sl (l.map fun x => [.int .i64 x]) tok] H K := by
 refine ACalls.out (zCt fun hs => ?_)
 simp [zsy]
 refine zCr (Inv := fun q t8 H' => ∃ i : Nat, i ≤ l.length ∧ q = l.length - i ∧ t8 = .int .i64 i ∧ orL (l.drop i) = orL l ∧ H' = H) l.length ?_ ?_
 ·intro _; exact ⟨0, by omega, by omega, rfl, by simp, rfl⟩
 ·rintro q t8 H' ⟨i, hi, rfl, rfl, ho, rfl⟩ hsc hlen hsF Kb hKb
  by_cases hlt : i < l.length
  ·rw [List.drop_eq_getElem_cons hlt, orL] at ho
   by_cases hz : l[i] = 0
   ·rw [zow hz] at ho
    simp [zi3, hlt, hz]
    rw [zan (by omega) (by omega)]
    refine hKb _ _ ⟨l.length - (i + 1), by omega, Back.here (Nat.le_refl _) hs ?_ ⟨_, rfl, i + 1, by omega, rfl, by simp, ho, rfl⟩⟩
    simpa [zi4, AV.sc, AV.scV, AV.scA, AV.scB] using hsF
   ·rw [zov hz] at ho
    have hz : (l[i] != 0) = true := by simpa using hz
    simp [zi3, hlt, hz]
    rw [← ho] at hK
    exact zd4 hs rfl rfl hK
  ·simp [zi3, hlt]
   obtain rfl : i = l.length := by omega
   rw [List.drop_length] at ho
   rw [← ho] at hK
   exact zd4 hs rfl rfl hK
theorem zot (ks ks' : List IT) (he : ks.length = ks'.length) (hb : ks.length ≤ 1000000)
  (hc : ∀ (i : Nat) (h : i < ks.length) (h' : i < ks'.length) (H : zaa) (K : AV → zaa → Prop), K (.int .i64 (IT.cmp ks[i] ks'[i])) H → ACalls tP zeE [.agg ks[i].cs, .agg ks'[i].cs] H K)
  (H : zaa) (K : AV → zaa → Prop) (hK : K (.int .i64 (IT.cmpL ks ks')) H) : ACalls tP zgI [.sl (IT.css ks) .none, .sl (IT.css ks') .none, .fn zeE []] H K := by
 refine ACalls.out (zAM fun hs => ?_)
 simp [zr7]
 refine zAK (Inv := fun q t13 H' => ∃ i : Nat, i ≤ ks.length ∧ q = ks.length - i ∧ t13 = .int .i64 i ∧ IT.cmpL (ks.drop i) (ks'.drop i) = IT.cmpL ks ks' ∧ H' = H) ks.length ?_ ?_
 ·intro _; exact ⟨0, by omega, by omega, rfl, by simp, rfl⟩
 ·rintro q t8 H' ⟨i, hi, rfl, rfl, ho, rfl⟩ hsc hlen hsF Kb hKb
  by_cases hlt : i < ks.length
  ·have hlt' : i < ks'.length := by omega
   have hle : ¬ ks'.length ≤ i := by omega
   rw [IT.cmpL_drop hlt hlt'] at ho
   simp [zmt, hlt, hlt', hle]
   refine hc i hlt hlt' _ _ ?_
   by_cases hz : IT.cmp ks[i] ks'[i] = 0
   ·rw [zow hz] at ho
    simp [hz]
    rw [zan (by omega) (by omega)]
    refine hKb _ _ ⟨ks.length - (i + 1), by omega, Back.same (Nat.le_refl _) hs ?_ ⟨_, rfl, i + 1, by omega, rfl, by simp, ho, rfl⟩⟩
    simp [ziy, AV.sc, AV.scV, AV.scA, AV.scB]
   ·rw [zov hz] at ho
    have hz : (IT.cmp ks[i] ks'[i] != 0) = true := by simpa using hz
    simp [hz]
    rw [← ho] at hK
    exact Out.same rfl hs rfl rfl hK
  ·have hnl : ¬ ks.length < ks'.length := by omega
   simp [zmt, hlt, hnl]
   obtain rfl : i = ks.length := by omega
   rw [List.drop_length, he, List.drop_length] at ho
   rw [← ho] at hK
   exact zd4 hs rfl rfl hK
theorem zu3 : ∀ (m : Nat) (v w : IT), v.nodes ≤ m → v.nodes ≤ 1000000 → ∀ (H : zaa) (K : AV → zaa → Prop), K (.int .i64 (IT.cmp v w)) H → ACalls tP zeE [.agg v.cs, .agg w.cs] H K := by
 intro m
 induction m with
 | zero => intro v w h; have := v.nodes_pos; omega
 | succ m ih =>
  intro v w hv hb H K hK
  obtain ⟨n, ks⟩ := v
  obtain ⟨n', ks'⟩ := w
  have hnl : IT.nodesL ks + 1 ≤ 1000000 := by simpa [IT.nodes] using hb
  have hll := IT.len_le ks
  refine ACalls.out (zAQ fun hs => ?_)
  simp [IT.cs, zr9]
  refine zbF _ (fun J => zos _ _ _ _ ⟨rfl, rfl⟩) ?_
  refine zbF _ (fun J => zos _ _ _ _ ⟨rfl, rfl⟩) ?_
  simp [zay, zbz, zaD, List.replicate]
  refine zbF _ (fun J => zvA [icmp n n', icmp ks.length ks'.length] _ (by simp) _ _ ⟨rfl, rfl⟩) ?_
  by_cases hz : orL [icmp n n', icmp ks.length ks'.length] = 0
  ·have hz' := hz
   simp only [orL, zfg] at hz
   have hlen : ks.length = ks'.length := by have := (zkm _ _).mp hz.2.1; omega
   simp [hz']
   refine zot ks ks' hlen (by omega) (fun i h h' H K hK => ?_) _ _ ?_
   ·have := IT.kid_lt (n := n) h
    exact ih _ _ (by omega) (by omega) H K hK
   ·refine Out.same rfl hs rfl rfl ?_
    simpa [IT.cmp, hz, cor] using hK
  ·have hzb : (orL [icmp n n', icmp ks.length ks'.length] != 0) = true := by simpa using hz
   simp [hzb]
   refine Out.same rfl hs rfl rfl ?_
   have e : IT.cmp (.mk n ks) (.mk n' ks') = orL [icmp n n', icmp ks.length ks'.length] := by
    simp only [IT.cmp, orL, cor] at hz ⊢
    split <;> (try split) <;> (try split) <;> simp_all
   rwa [e] at hK
end Go.Proofs.YtacebbdfgbfgiaaGreat
