import Derived.Test.YtjkkonpjecoieaaGreatKUA
import Derived.Test.YtjkkonpjecoieaaGreatKI4
import Derived.Test.YtjkkonpjecoieaaGreatKGY2
import Derived.Test.YtjkkonpjecoieaaGreatIT
import Derived.Test.YtjkkonpjecoieaaGreatKY8
import Derived.Test.YtjkkonpjecoieaaGreatAbsW
set_option linter.unusedSimpArgs false
set_option linter.unusedVariables false
namespace Go.Proofs.YtjkkonpjecoieaaGreat
open Go Go.Abs
set_option maxRecDepth 8000
def zaZ (r : List IT) : List AV := (IT.css r).flatten
theorem zdL (x : IT) (r : List IT) : zaZ (x :: r) = x.cs ++ zaZ r := by simp [zaZ, IT.css_map]
theorem zdx : ∀ r : List IT, (zaZ r).length = r.length * 2
 | [] => rfl
 | x :: r => by rw [zdL, List.length_append, IT.cs_len, zdx r, List.length_cons]; omega
theorem znZ (r : List IT) : (zaZ r).all AV.known = true := by
 induction r with
 | nil => rfl
 | cons x r ih => rw [zdL, List.all_append, ih]; simp
theorem zus (n : Nat) (r : List IT) : (zaZ r).all (AV.scA n) = true := by
 induction r with
 | nil => rfl
 | cons x r ih => rw [zdL, List.all_append, ih]; simp
theorem zgY : ∀ (r : List IT) (p : Nat) (x : IT), p < r.length → (zaZ r).take (p * 2) ++ x.cs ++ (zaZ r).drop (p * 2 + 2) = zaZ (r.set p x)
 | [], p, x, h => by simp at h
 | y :: r, 0, x, h => by
  rw [zdL, List.set_cons_zero, zdL]
  obtain ⟨a, b, hy, _, _⟩ := zc5 y
  simp [hy]
 | y :: r, p + 1, x, h => by
  have ih := zgY r p x (by simpa using h)
  rw [zdL, List.set_cons_succ, zdL, ← ih]
  obtain ⟨a, b, hy, _, _⟩ := zc5 y
  rw [show (p + 1) * 2 = p * 2 + 2 by omega, hy]
  simp
def CellR (H : zaa) (lo id : Nat) (c : AV) (r : List IT) : Prop :=
 (r = [] ∧ c = .sl [] .none) ∨ (r ≠ [] ∧ ∃ b, c = .ov b r.length ∧ lo ≤ b ∧ b ≠ id ∧ H[b]? = some (.vec zbL 2 r.length (zaZ r)))
def RowsH (H : zaa) (lo id : Nat) (rows : List (List IT)) : Prop :=
 lo ≤ id ∧ ∃ cs, H[id]? = some (.vec zbK 1 rows.length cs) ∧ All2 (CellR H lo id) cs rows
theorem CellR.keep {H H' : zaa} {lo id lo' id' : Nat} {c : AV} {r : List IT} (h : CellR H lo id c r) (hlo : lo' ≤ lo) (hid : ∀ b, lo ≤ b → b ≠ id → b < H.length → b ≠ id' ∧ H'[b]? = H[b]?) : CellR H' lo' id' c r := by
 rcases h with h | ⟨h0, b, rfl, h1, h2, h3⟩
 ·exact .inl h
 ·have := hid b h1 h2 (List.getElem?_eq_some_iff.1 h3).1
  exact .inr ⟨h0, b, rfl, by omega, this.1, by rw [this.2]; exact h3⟩
theorem CellR.sc {H : zaa} {lo id : Nat} {c : AV} {r : List IT} (h : CellR H lo id c r) : c.scA H.length = true ∧ c.known = true := by
 rcases h with ⟨_, rfl⟩ | ⟨h0, b, rfl, h1, h2, h3⟩
 ·exact ⟨rfl, rfl⟩
 ·have := (List.getElem?_eq_some_iff.1 h3).1
  exact ⟨by simpa [AV.scA, AV.scB] using this, rfl⟩
theorem zga {H : zaa} {lo id : Nat} : ∀ {cs : List AV} {rows : List (List IT)}, All2 (CellR H lo id) cs rows → cs.all (AV.scA H.length) = true ∧ cs.all AV.known = true
 | [], [], _ => ⟨rfl, rfl⟩
 | c :: cs, r :: rows, h => by
  obtain ⟨h1, h2⟩ := zga h.2
  obtain ⟨h3, h4⟩ := h.1.sc
  simp only [List.all_cons, h1, h2, h3, h4, Bool.and_self, and_self]
theorem zmr (ps : List Nat) (row l : List IT) : (zbg row ps l).length ≤ (l.length + 1) ^ ps.length := by
 rw [zgf, List.length_map]
 exact zuC _ _
theorem zAI (row l : List IT) (p : Nat) (ps : List Nat) : zbg row (p :: ps) l = (List.range (l.length + 1)).flatMap fun n => zbg (row.set p (.mk 0 (l.take n))) ps (l.drop n) := rfl
def upR (row l : List IT) (p : Nat) (ps : List Nat) (i : Nat) : List (List IT) := (List.range i).flatMap fun n => zbg (row.set p (.mk 0 (l.take n))) ps (l.drop n)
theorem zi4 (row l : List IT) (p : Nat) (ps : List Nat) (i : Nat) : upR row l p ps (i + 1) = upR row l p ps i ++ zbg (row.set p (.mk 0 (l.take i))) ps (l.drop i) := by
 simp [upR, List.range_succ]
theorem zDv (row l : List IT) (p : Nat) (ps : List Nat) (i : Nat) : (upR row l p ps i).length ≤ i * (l.length + 1) ^ ps.length := by
 refine Nat.le_trans (zmB (N := (l.length + 1) ^ ps.length) _ _ fun n _ => ?_) (by simp)
 exact Nat.le_trans (zmr _ _ _) (Nat.pow_le_pow_left (by simp) _)
theorem ziO {H X : zaa} {i : Nat} {b : AB} (h : H <+: X) (hi : H.length ≤ i) : H <+: X.set i b := by
 obtain ⟨J, rfl⟩ := h
 rw [List.set_append_right _ _ hi]
 exact ⟨_, rfl⟩
theorem zgV {H X : zaa} {i : Nat} (h : H <+: X) (hi : i < H.length) : X[i]? = H[i]? := by
 obtain ⟨J, rfl⟩ := h
 exact List.getElem?_append_left hi
theorem RowA.pre {H X : zaa} {a : AV} {n : Nat} {ds : List AV} (h : RowA H a n ds) (hp : H <+: X) : RowA X a n ds := by
 obtain ⟨J, rfl⟩ := hp
 exact h.app
theorem zrZ {e s b id id2 n m e2 : Nat} {cs cs2 : List AV} {H : zaa} {K : Kt} (h1 : H[id]? = some (.vec e s n cs)) (h2 : H[id2]? = some (.vec e2 s m cs2)) (hk : cs2.all AV.known = true) (hl : cs2.length = m * s) (hb1 : (n + m) * b ≤ 140737488355328) (hb2 : n + m ≤ 9223372036854775807)
  (h : K (.ov id (n + m)) (H.set id (.vec e s (n + m) (cs ++ cs2)))) : zaw e s b (.ov id n) (.ov id2 m) H K := by
 simp only [zaw, zcl, h1, h2, and_self, true_and]
 exact ⟨⟨hk, hl, hb1, hb2⟩, h⟩
theorem zqY : ∀ (ps : List Nat) (H : zaa) (a : AV) (row els : List IT) (K : Kt), RowA H a row.length (zaZ row) → (∀ p ∈ ps, p < row.length) → row.length ≤ 1000 → els.length ≤ 1000 → ps.length ≤ 1000 → (els.length + 1) ^ ps.length ≤ 100000000 →
  (∀ id H', H <+: H' → HSc H' → RowsH H' H.length id (zbg row ps els) → K (.ov id (zbg row ps els).length) H') →
  ACalls tP zeJ [a, .sl (zaE ps) .none, .sl (IT.css els) .none] H K
 | [], H, a, row, els, K, hr, hps, hrl, hel, hpl, hb, hK => by
  refine ACalls.vecRes zbK 1 (ACalls.withSc ?_)
  refine zyW fun hs => ?_
  cases els with
  | cons x els =>
   simp [zlh, zaE]
   intro _
   left
   have := hK H.length (H ++ [.vec zbK 1 0 []]) ⟨_, rfl⟩ (hs.append (by simp [AB.sc])) ⟨Nat.le_refl _, [], by simp [zbg], by simp [zbg]; trivial⟩
   simpa [zbg] using this
  | nil =>
   simp [zlh, zaE, IT.css]
   refine zuP hr (by omega) _ (fun h0 => ?_) (fun h0 => ?_)
   ·have hrow : row = [] := by cases row <;> simp_all
    subst hrow
    simp [ze9, AV.oneK]
    intro hsc
    have := hK H.length (H ++ [.vec zbK 1 1 [.sl [] .none]]) ⟨_, rfl⟩ hsc ⟨Nat.le_refl _, [.sl [] .none], by simp [zbg], ⟨.inl ⟨rfl, rfl⟩, trivial⟩⟩
    simpa [zbg] using this
   ·simp [ze9, AV.oneK]
    intro hsc
    have hne : row ≠ [] := by rintro rfl; simp at h0
    have := hK (H.length + 1) (H ++ [.vec zbL 2 row.length (zaZ row), .vec zbK 1 1 [.ov H.length row.length]]) ⟨_, rfl⟩ (by simpa using hsc) ⟨by omega, [.ov H.length row.length], by simp [zbg],
     ⟨.inr ⟨hne, H.length, rfl, Nat.le_refl _, by omega, by simp⟩, trivial⟩⟩
    simpa [zbg] using this
 | p :: ps, H, a, row, els, K, hr, hps, hrl, hel, hpl, hb, hK => by
  refine zyW fun hs => ?_
  have hp := hps p (by simp)
  have hpow : (els.length + 1) ^ (ps.length + 1) = (els.length + 1) ^ ps.length * (els.length + 1) := Nat.pow_succ _ _
  have hb1 : (els.length + 1) ^ ps.length * (els.length + 1) ≤ 100000000 := by rw [← hpow]; simpa using hb
  have hb2 : (els.length + 1) ^ ps.length ≤ 100000000 := Nat.le_trans (Nat.le_mul_of_pos_right _ (by omega)) hb1
  have hnl : ((ps.length + 1 : Nat) : Int) ≠ 0 := by omega
  have hn0 : ((zaE (p :: ps)).length == 0) = false := by simp [zaE]
  simp [zlh, zcc]
  rw [zar (by omega) (by omega)]
  unfold zlk
  refine ALoop.vec 7 zbK 1 rfl ?_
  show zlk a (.sl (zaE (p :: ps)) .none) (.sl (IT.css els) .none) (.ov H.length 0) (.int .i64 ((els.length : Int) + 1)) (.int .i64 0) (H ++ [.vec zbK 1 0 []]) K
  refine zMj (Inv := fun q t7 t22 H' => ∃ i : Nat, i ≤ els.length + 1 ∧ q = els.length + 1 - i ∧ t22 = .int .i64 i ∧ t7 = .ov H.length (upR row els p ps i).length ∧ H <+: H' ∧ RowsH H' H.length H.length (upR row els p ps i)) (els.length + 1) ?_ ?_
  ·intro _; exact ⟨0, by omega, by omega, rfl, by simp [upR], ⟨_, rfl⟩, Nat.le_refl _, [], by simp [upR], by simp [upR]; trivial⟩
  ·rintro q t7 t22 H' ⟨i, hi, rfl, rfl, rfl, hpre, hlo, cs, hcs, hcells⟩ hsc hlen hsF Kb hKb
   by_cases hlt : i < els.length + 1
   ·have hHl : H.length < H'.length := (List.getElem?_eq_some_iff.1 hcs).1
    have hlt' : ((i : Int) < (els.length : Int) + 1) := by omega
    simp [zqU, hlt']
    refine zuP (hr.pre hpre) (by omega) _ (fun h0 => by omega) (fun h0 => ?_)
    have hn0 : 0 < row.length := by omega
    have hti : (i : Int) ≤ els.length := by omega
    simp [zaE, zax, zaP]
    refine ⟨⟨by omega, by simp [IT.css_map]⟩, hp, by rw [zdx]; omega, ?_⟩
    have htk : List.take i (IT.css els) = IT.css (els.take i) := by rw [IT.css_map, IT.css_map, List.map_take]
    have hset := zgY row p (.mk 0 (els.take i)) hp
    rw [htk]
    simp only [IT.cs, List.append_assoc, List.cons_append, List.nil_append] at hset
    rw [hset]
    have hda : IT.css (els.drop i) = List.drop i (IT.css els) := by rw [IT.css_map, IT.css_map, List.map_drop]
    have hcall : ACalls tP zeJ [.ov H'.length row.length, .sl (zaE ps) .none, .sl (IT.css (els.drop i)) .none] (H' ++ [.vec zbL 2 row.length (zaZ (row.set p (.mk 0 (els.take i))))]) (fun t43 H2 => zaw zbK 1 24 (.ov H.length (upR row els p ps i).length) t43 H2 fun t44 H3 => t44 = .ov H.length (upR row els p ps (i + 1)).length ∧ H <+: H3 ∧ HSc H3 ∧ RowsH H3 H.length H.length (upR row els p ps (i + 1))) := by
     refine zqY ps _ _ (row.set p (.mk 0 (els.take i))) (els.drop i) _ ⟨by rw [zdx], znZ _, .inr ⟨by simpa using hn0, H'.length, zbL, by simp, by simp⟩⟩ (fun q hq => by simpa using hps q (by simp [hq])) (by simpa using hrl) (by simp; omega) (by simp at hpl; omega)
      (Nat.le_trans (Nat.pow_le_pow_left (by simp) _) hb2) ?_
     rintro id H2 hp2 hsc2 ⟨hlo2, cs2, hcs2, hcells2⟩
     have hH1 : H' <+: H2 := List.IsPrefix.trans ⟨_, rfl⟩ hp2
     have hget : H2[H.length]? = some (.vec zbK 1 (upR row els p ps i).length cs) := by rw [zgV hH1 hHl]; exact hcs
     have hlt2 := (List.getElem?_eq_some_iff.1 hcs2).1
     have hne : id ≠ H.length := by simp at hlo2; omega
     have hm1 := zDv row els p ps (i + 1)
     rw [zi4, List.length_append] at hm1
     have hm2 : (i + 1) * (els.length + 1) ^ ps.length ≤ 100000000 := Nat.le_trans (Nat.mul_le_mul_right _ (by omega : i + 1 ≤ els.length + 1)) (by rw [Nat.mul_comm]; exact hb1)
     have hl2 := hcells2.length
     have hk2 := zga hcells2
     have hx1 : All2 (CellR H2 H.length H.length) cs (upR row els p ps i) := hcells.mono fun c r hc => hc.keep (Nat.le_refl _) fun b _ hb hb2 => ⟨hb, zgV hH1 hb2⟩
     have hlg := (List.getElem?_eq_some_iff.1 hget).1
     refine zrZ hget hcs2 hk2.2 (by rw [hl2]; simp) (by omega) (by omega) ?_
     refine ⟨by rw [zi4, List.length_append], ziO (List.IsPrefix.trans hpre hH1) (Nat.le_refl _), hsc2.set ?_, Nat.le_refl _, cs ++ cs2, ?_, ?_⟩
     ·simp only [AB.sc, List.all_append, hk2.1, (zga hx1).1, Bool.and_self]
     ·rw [List.getElem?_set_self hlg, zi4, List.length_append]
     ·rw [zi4]
      have hkp : ∀ b, b < H2.length → b ≠ H.length → (H2.set H.length (.vec zbK 1 ((upR row els p ps i).length + (zbg (row.set p (.mk 0 (els.take i))) ps (els.drop i)).length) (cs ++ cs2)))[b]? = H2[b]? := fun b _ hb => List.getElem?_set_ne (fun h => hb h.symm)
      refine (hx1.mono fun c r hc => hc.keep (Nat.le_refl _) fun b _ hb hb2 => ⟨hb, hkp b hb2 hb⟩).append (hcells2.mono fun c r hc => hc.keep (by simp; omega) fun b hb1 hb hb2 => ?_)
      have : b ≠ H.length := by simp at hb1; omega
      exact ⟨this, hkp b hb2 this⟩
    have hasc : ∀ n, H.length ≤ n → a.sc n = true := fun n hn => by
     obtain ⟨_, _, h⟩ := hr
     rcases h with ⟨id, rfl, h⟩ | ⟨_, id, e, rfl, h⟩
     ·have := (List.getElem?_eq_some_iff.1 h).1
      simp [AV.sc, AV.scV, AV.scA, AV.scB]; omega
     ·have := (List.getElem?_eq_some_iff.1 h).1
      simp [AV.sc, AV.scV, AV.scA, AV.scB]; omega
    have hfin : ∀ H3, H <+: H3 → HSc H3 → RowsH H3 H.length H.length (upR row els p ps (i + 1)) → zqW a (.sl (zaE (p :: ps)) .none) (.sl (IT.css els) .none) (.ov H.length (upR row els p ps (i + 1)).length) (.int .i64 ((els.length : Int) + 1)) (.int .i64 i) H3 K Kb := by
     intro H3 g1 g2 g3
     have hl3 := (List.getElem?_eq_some_iff.1 g3.2.choose_spec.1).1
     simp [zqW]
     rw [zar (by omega) (by omega)]
     refine hKb _ _ ⟨els.length + 1 - (i + 1), by omega, Back.at (J := []) (H2 := H3) (by simp) (by simp; omega) g2 ?_ ⟨_, _, rfl, i + 1, by omega, rfl, by simp, rfl, g1, g3⟩⟩
     simp [zlj, AV.sc, AV.scV, AV.scA, AV.scB, hl3]
     exact hasc _ (by omega)
    refine zCd zMm ?_
    rw [zMl]
    have hl1 : List.take ps.length (List.map (fun n : Nat => [AV.int .i64 (n : Int)]) ps) = zaE ps := by rw [List.take_of_length_le (by simp)]; rfl
    have hl2 : List.take els.length (IT.css els) = IT.css els := List.take_of_length_le (by simp)
    simp [hl1, hl2, ← hda]
    refine ⟨⟨by omega, by simp [IT.css_map]⟩, ?_⟩
    refine ACalls.monoZ hcall fun t43 H2 h => zrY (fun t44 H3 h3 => ?_) h
    obtain ⟨rfl, h1, h2, h3⟩ := h3
    exact zMi fun _ => hfin _ h1 h2 h3
   ·obtain rfl : i = els.length + 1 := by omega
    have hlt' : ¬ ((els.length : Int) + 1 < (els.length : Int) + 1) := by omega
    simp [zqU]
    exact hK H.length H' hpre hsc ⟨Nat.le_refl _, cs, hcs, hcells⟩
theorem zPc (data : List Dat) (hk : za5 data) (t : VT) (ht : t.nodes ≤ 1000) (c : Int) (H : zaa) (K : Kt) (hK : K (zbN (zbl data t c)) H) :
  ACalls tP znI [.sl (data.map Dat.cs) .none, .agg t.cs, .int .i64 c] H K := by
 refine ACalls.out (zPa fun hs => ?_)
 obtain ⟨f1, f2, f3⟩ := zc6 hk
 obtain ⟨k, n, ks⟩ := t
 simp [zzH, VT.cs, Nat.add_assoc]
 refine zpW data f1 f2 f3 (.mk k n ks) ht c _ _ ?_
 cases hf : zaR data (.mk k n ks) c with
 | none =>
  rw [zt4 hf] at hK
  simp [zbN]
  refine ⟨⟨rfl, rfl⟩, ?_⟩
  exact Out.tup (bs := [.sl [] .none, .bool false]) hs hK ⟨zeg, za1 rfl rfl, trivial⟩
 | some l =>
  obtain ⟨bs, hlb, hl8, hpay, h200, k5, _, hrec⟩ := znO hk hf
  rw [hpay] at hK
  simp [zbN]
  refine zFT data hk k n ks ht c hf hlb hl8 hrec _ _ ?_
  simp [zcc]
  unfold zl6
  refine ALoop.own 13 zaV 3 rfl ?_
  have hl1 : (H ++ [AB.cells [AV.int IntKind.i64 k, AV.int IntKind.i64 n, AV.sl (VT.css ks) Tok.none]]).length = H.length + 1 := by simp
  rw [hl1]
  have hpp := zdt hlb (.mk 0 0 []) l.length (Nat.le_refl _)
  rw [List.take_length, hlb, List.take_length] at hpp
  rw [hpp] at hK
  have hpt : ∀ j ∈ pos false bs bs.length, j < l.length := fun j hj => by have := zdv hj; omega
  have hp8 := zdu false bs bs.length
  generalize pos false bs bs.length = P at *
  show zl6 (.sl (VT.css l) .none) (.sl [] (.own (H.length + 1))) (.sl (zaE P) .none) (.int .i64 P.length) (.int .i64 0) (H ++ [.cells [.int .i64 k, .int .i64 n, .sl (VT.css ks) .none]] ++ [.perm zaV 3 0]) (Out H.length K)
  have hperm : ∀ m, HSc (H ++ [.cells [.int .i64 k, .int .i64 n, .sl (VT.css ks) .none], .perm zaV 3 m]) := fun m => hs.append (by simp [AB.sc, AV.scA, AV.scB])
  refine zO8 (Inv := fun q t13 t35 H' => ∃ i : Nat, i ≤ P.length ∧ q = P.length - i ∧ t35 = .int .i64 i ∧ t13 = .sl (VT.css ((P.take i).map fun j => l.getD j (.mk 0 0 []))) (.own (H.length + 1)) ∧ H' = H ++ [.cells [.int .i64 k, .int .i64 n, .sl (VT.css ks) .none], .perm zaV 3 i]) P.length ?_ ?_
  ·intro _; exact ⟨0, by omega, by omega, rfl, by simp [VT.css], by simp⟩
  ·rintro q t13 t35 H' ⟨i, hi, rfl, rfl, rfl, rfl⟩ hsc' hlen hsF Kb hKb
   by_cases hlt : i < P.length
   ·have hj := hpt _ (List.getElem_mem hlt)
    simp [zrO, zcc, ziE, hlt, hj]
    rw [zev]
    simp [zaw, zaX, zaO, Nat.min_eq_left hi]
    refine ⟨⟨by omega, by omega⟩, ?_⟩
    rw [zar (by omega) (by omega)]
    have hst : VT.css (List.take i (List.map (fun j => l[j]?.getD (VT.mk 0 0 [])) P)) ++ [(l[P[i]]'hj).cs] = VT.css ((P.take (i + 1)).map fun j => l.getD j (.mk 0 0 [])) := by
     rw [List.take_succ_eq_append_getElem hlt, VT.css_map, VT.css_map, List.map_append, List.map_append, List.map_take]
     simp [List.getD_eq_getElem?_getD, hj]
    rw [hst]
    refine hKb _ _ ⟨P.length - (i + 1), by omega, Back.at (J := []) (H2 := H ++ [.cells [.int .i64 k, .int .i64 n, .sl (VT.css ks) .none], .perm zaV 3 (i + 1)]) (by simp) (by simp) (hperm _) ?_ ⟨_, _, rfl, i + 1, by omega, rfl, by simp, rfl, rfl⟩⟩
    simp [zl5, AV.sc, AV.scV, AV.scA, AV.scB]
   ·obtain rfl : i = P.length := by omega
    rw [List.take_length] at *
    simp [zrO, zcc]
    refine ⟨⟨rfl, rfl⟩, ?_⟩
    exact Out.tup (bs := [.sl (VT.css (P.map fun j => l.getD j (.mk 0 0 []))) .none, .bool true]) hs hK ⟨slV, za1 rfl rfl, trivial⟩
theorem it2 (v : IT) : ∃ a b, v.cs = [a, b] ∧ a.known = true ∧ b.known = true := by
 obtain ⟨n, ks⟩ := v; exact ⟨_, _, rfl, rfl, rfl⟩
theorem zty {data : List Dat} (h8 : ∀ D ∈ data, D.cons.length ≤ 8) (v : IT) (t : VT) (h : (zcb data v t).2 = true) : 0 ≤ (zcb data v t).1 ∧ (zcb data v t).1 ≤ 6 := by
 obtain ⟨e1, e2, e3⟩ := (zf2 h8 v t).1 h
 omega
theorem ztx {data : List Dat} (h8 : ∀ D ∈ data, D.cons.length ≤ 8) : ∀ (vs : List IT) (ts : List VT) (a : Int), 0 ≤ a → 0 ≤ (zbF data vs ts a).1 ∧ (zbF data vs ts a).1 ≤ a + 6 * vs.length
 | [], ts, a, h => by simp [zbF]; omega
 | v :: vs, [], a, h => by simp [zbF]; omega
 | v :: vs, t :: ts, a, h => by
  simp only [zbF]
  split
  ·rename_i hb
   have := zty h8 v t hb
   have := ztx h8 vs ts (a + (zcb data v t).1) (by omega)
   simp only [List.length_cons]
   omega
  ·simp; omega
theorem zeM {x : VT} : ∀ {l : List VT} {bs : List Bool}, x ∈ pick l bs → x ∈ l
 | [], _, h => by simp [pick] at h
 | _ :: _, [], h => by simp [pick] at h
 | c :: l, b :: bs, h => by
  cases b with
  | true => simp [pick] at h; exact List.mem_cons_of_mem _ (zeM h)
  | false =>
   simp [pick] at h
   rcases h with rfl | h
   ·exact List.mem_cons_self
   ·exact List.mem_cons_of_mem _ (zeM h)
theorem zt3 {data : List Dat} {t : VT} {c : Int} {ps : List VT} (h : zbl data t c = some ps) : ∀ x ∈ ps, x.nodes ≤ 1000 := by
 unfold zbl at h
 obtain ⟨k, n, ks⟩ := t
 cases hf : zaR data (.mk k n ks) c with
 | none => rw [hf] at h; cases h
 | some l =>
  rw [hf] at h
  obtain ⟨_, _, _, _, _, _, _, h2⟩ := zfh hf
  simp at h
  subst h
  exact fun x hx => by have := h2 x (zeM hx); omega
theorem zBm (data : List Dat) (n : Int) (ks : List IT) (tk tn : Int) (tks : List VT) : zcb data (.mk n ks) (.mk tk tn tks) =
  if tk = 6 then (if n = 0 then (if tks.length = ks.length then zbF data ks tks 0 else (0, false)) else (0, false))
  else if tk = 7 then (n, decide (0 ≤ n) && decide (n ≤ 6) && decide (ks.length = 0))
  else if tk = 5 then (if n = 0 then zcu data ks (.mk tk tn tks) 0 else (0, false))
  else (0, decide (n = 0) && decide (ks.length = 0)) := by
 rw [zcb]
 rfl
def zcy (data : List Dat) (vs : List IT) (ts : List VT) : Int × Bool := if ts.length = vs.length then zbF data vs ts 0 else (0, false)
def zhw (data : List Dat) (v : IT) : Prop := ∀ t : VT, t.nodes ≤ 1000 → ∀ (H : zaa) (K : Kt), K (.tup [.int .i64 (zcb data v t).1, .bool (zcb data v t).2]) H → ACalls tP zh0 [.sl (data.map Dat.cs) .none, .agg t.cs, .agg v.cs] H K
theorem zcI {H : zaa} {K : Kt} {a : Int} {b : Bool} (hs : HSc H) (h : K (.tup [.int .i64 a, .bool b]) H) (J : zaa) : Out H.length K (.tup [.int .i64 a, .bool b]) (H ++ J) := Out.tup hs h ⟨za1 rfl rfl, za1 rfl rfl, trivial⟩
theorem zxx {data : List Dat} (h8 : ∀ D ∈ data, D.cons.length ≤ 8) (vs : List IT) (hv : vs.length ≤ 1000) (hel : ∀ v ∈ vs, zhw data v) (ts : List VT) (ht : ∀ t ∈ ts, t.nodes ≤ 1000) (H : zaa) (K : Kt)
  (hK : K (.tup [.int .i64 (zcy data vs ts).1, .bool (zcy data vs ts).2]) H) : ACalls tP zh7 [.sl (data.map Dat.cs) .none, .sl (VT.css ts) .none, .sl (IT.css vs) .none] H K := by
 refine ACalls.out (zIy fun hs => ?_)
 have h0 : ∀ b J, zcy data vs ts = (0, b) → Out H.length K (.tup [.int .i64 0, .bool b]) (H ++ J) := fun b J h => by rw [h] at hK; exact zcI hs hK J
 by_cases hl : ts.length = vs.length
 case neg =>
  have : ((ts.length : Int) != (vs.length : Int)) = true := by simp [bne]; omega
  simp [zpP, this]
  refine ⟨⟨rfl, rfl⟩, ?_⟩
  simpa using h0 false [] (by simp [zcy, hl])
 have htot : zcy data vs ts = zbF data vs ts 0 := by simp [zcy, hl]
 rw [htot] at hK h0
 simp [zpP, hl]
 refine zIw (Inv := fun q t8 t20 H' => ∃ (i : Nat) (a : Int), i ≤ vs.length ∧ q = vs.length - i ∧ t20 = .int .i64 i ∧ t8 = .int .i64 a ∧ 0 ≤ a ∧ a ≤ 6 * i ∧ zbF data (vs.drop i) (ts.drop i) a = zbF data vs ts 0 ∧ H' = H) vs.length ?_ ?_
 ·intro _; exact ⟨0, 0, by omega, by omega, rfl, rfl, by omega, by omega, by simp, rfl⟩
 ·rintro q t8 t20 H' ⟨i, a, hi, rfl, rfl, rfl, ha0, ha6, ho, rfl⟩ hsc' hlen hsF Kb hKb
  by_cases hlt : i < vs.length
  ·have hlt' : i < ts.length := by omega
   rw [List.drop_eq_getElem_cons hlt, List.drop_eq_getElem_cons hlt'] at ho
   simp only [zbF] at ho
   obtain ⟨x, y, z, hvx, hx, hy, hz⟩ := zaK ts[i]
   obtain ⟨x2, y2, hvx2, hx2, hy2⟩ := it2 vs[i]
   have hti := ht _ (List.getElem_mem hlt')
   have hvi := hel _ (List.getElem_mem hlt)
   simp [zpQ, hl, hlt, hlt', hvx, hvx2, Nat.add_assoc]
   refine ⟨⟨hx, hy, hz⟩, ?_⟩
   rw [← hvx, ← hvx2]
   refine zaF (.tup [.int .i64 (zcb data vs[i] ts[i]).1, .bool (zcb data vs[i] ts[i]).2]) (fun J => hvi _ hti _ _ ⟨rfl, rfl⟩) ?_
   cases hb : (zcb data vs[i] ts[i]).2 with
   | false =>
    rw [hb] at ho
    simp at ho
    simp
    exact ⟨⟨rfl, rfl⟩, h0 _ _ ho.symm⟩
   | true =>
    rw [hb] at ho
    simp at ho
    have hbd := zty h8 _ _ hb
    simp
    rw [zar (by omega) (by omega), zar (by omega) (by omega)]
    refine hKb _ _ ⟨vs.length - (i + 1), by omega, Back.at (J := [_]) rfl (Nat.le_refl _) hs ?_ ⟨_, _, rfl, i + 1, _, by omega, rfl, by simp, rfl, by omega, by simp; omega, ho, rfl⟩⟩
    simp [zkn, AV.sc, AV.scV, AV.scA, AV.scB]
  ·obtain rfl : i = vs.length := by omega
   rw [List.drop_length] at ho
   simp only [zbF] at ho
   rw [← ho] at hK
   simp [zpQ, hl]
   refine ⟨⟨rfl, rfl⟩, ?_⟩
   have := zcI hs hK []
   simpa using this
theorem zFy {data : List Dat} (hk : za5 data) (h8 : ∀ D ∈ data, D.cons.length ≤ 8) : ∀ (m : Nat) (v : IT), v.nodes ≤ m → v.nodes ≤ 900 → zhw data v := by
 intro m
 induction m with
 | zero => intro v h; have := v.nodes_pos; omega
 | succ m ih =>
  intro v hv hb t ht H K hK
  obtain ⟨n, ks⟩ := v
  obtain ⟨tk, tn, tks⟩ := t
  have hnl : IT.nodesL ks + 1 ≤ 900 := by simpa [IT.nodes] using hb
  have hll := IT.len_le ks
  have hkids : ∀ v ∈ ks, zhw data v := fun v hvm => by
   obtain ⟨i, hi, rfl⟩ := List.getElem_of_mem hvm
   have := IT.kid_lt (n := n) hi
   exact ih _ (by omega) (by omega)
  refine ACalls.out (zFw fun hs => ?_)
  rw [zBm] at hK
  by_cases h6 : tk = 6
  ·subst h6
   by_cases hn : n = 0
   ·subst hn
    simp [zda, VT.cs, IT.cs, Nat.add_assoc]
    have htk : ∀ t ∈ tks, t.nodes ≤ 1000 := fun t htm => by
     obtain ⟨i, hi, rfl⟩ := List.getElem_of_mem htm
     have := VT.kid_lt (k := 6) (n := tn) hi
     omega
    refine zxx h8 ks (by omega) hkids tks htk _ _ ?_
    simp
    refine ⟨⟨rfl, rfl⟩, ?_⟩
    exact zcI hs (by simpa [zcy] using hK) _
   ·have : (n != 0) = true := by simp [bne, hn]
    simp [zda, VT.cs, IT.cs, Nat.add_assoc, this]
    simp [hn] at hK
    exact ⟨⟨rfl, rfl⟩, zcI hs hK _⟩
  have h6' : (tk == 6) = false := by simp [h6]
  rw [if_neg h6] at hK
  by_cases h7 : tk = 7
  ·subst h7
   simp only [if_true] at hK
   by_cases g1 : 0 ≤ n
   ·by_cases g2 : n ≤ 6
    ·by_cases g3 : ks.length = 0
     ·simp [zda, VT.cs, IT.cs, Nat.add_assoc, g1, g2, g3]
      simp [g1, g2, g3] at hK
      exact ⟨⟨rfl, rfl⟩, zcI hs hK _⟩
     ·have g3' : ((ks.length : Int) == 0) = false := by simp; exact fun h => g3 (by simp [h])
      simp [zda, VT.cs, IT.cs, Nat.add_assoc, g1, g2, g3, g3']
      simp [g1, g2, g3] at hK
      exact ⟨⟨rfl, rfl⟩, zcI hs hK _⟩
    ·simp [zda, VT.cs, IT.cs, Nat.add_assoc, g1, g2]
     simp [g1, g2] at hK
     exact ⟨⟨rfl, rfl⟩, zcI hs hK _⟩
   ·simp [zda, VT.cs, IT.cs, Nat.add_assoc, g1]
    simp [g1] at hK
    exact ⟨⟨rfl, rfl⟩, zcI hs hK _⟩
  have h7' : (tk == 7) = false := by simp [h7]
  rw [if_neg h7] at hK
  by_cases h5 : tk = 5
  case neg =>
   have h5' : (tk == 5) = false := by simp [h5]
   rw [if_neg h5] at hK
   by_cases g1 : n = 0
   ·by_cases g2 : ks.length = 0
    ·simp [zda, VT.cs, IT.cs, Nat.add_assoc, h6', h7', h5', g1, g2, zae]
     simp [g1, g2] at hK
     exact ⟨⟨rfl, rfl⟩, zcI hs hK _⟩
    ·have g2' : ((ks.length : Int) == 0) = false := by simp; exact fun h => g2 (by simp [h])
     simp [zda, VT.cs, IT.cs, Nat.add_assoc, h6', h7', h5', g1, g2, g2', zae]
     simp [g1, g2] at hK
     exact ⟨⟨rfl, rfl⟩, zcI hs hK _⟩
   ·have g1' : (n == 0) = false := by simp [g1]
    simp [zda, VT.cs, IT.cs, Nat.add_assoc, h6', h7', h5', g1, g1', zae]
    simp [g1] at hK
    exact ⟨⟨rfl, rfl⟩, zcI hs hK _⟩
  subst h5
  simp only [if_true] at hK
  by_cases hn : n = 0
  case neg =>
   have : (n != 0) = true := by simp [bne, hn]
   simp [zda, VT.cs, IT.cs, Nat.add_assoc, this]
   simp [hn] at hK
   exact ⟨⟨rfl, rfl⟩, zcI hs hK _⟩
  subst hn
  simp only [if_true] at hK
  simp [zda, VT.cs, IT.cs, Nat.add_assoc]
  have hT : (VT.mk 5 tn tks).nodes ≤ 1000 := ht
  have hT' : (VT.mk 5 tn tks).cs = [.int .i64 5, .int .i64 tn, .sl (VT.css tks) .none] := rfl
  generalize hTg : VT.mk 5 tn tks = T at *
  have hsc2 : HSc (H ++ [.cells [.int .i64 5, .int .i64 tn, .sl (VT.css tks) .none], .cells [.int .i64 0, .sl (IT.css ks) .none]]) := hs.append (by simp [AB.sc, AV.scA, AV.scB])
  have hF : zcu data ks T 0 = (0, false) → ∀ J, Out H.length K (.tup [.int .i64 0, .bool false]) (H ++ J) := fun h J => zcI hs (by rw [h] at hK; exact hK) J
  refine zFu (Inv := fun q t8 t55 H' => ∃ (i : Nat) (a : Int), i ≤ ks.length ∧ q = ks.length - i ∧ t55 = .int .i64 i ∧ t8 = .int .i64 a ∧ 0 ≤ a ∧ a ≤ 6 ∧ zcu data (ks.drop i) T a = zcu data ks T 0 ∧
   H' = H ++ [.cells [.int .i64 5, .int .i64 tn, .sl (VT.css tks) .none], .cells [.int .i64 0, .sl (IT.css ks) .none]]) ks.length ?_ ?_
  ·intro _; exact ⟨0, 0, by omega, by omega, rfl, rfl, by omega, by omega, by simp, rfl⟩
  ·rintro q t8 t55 H' ⟨i, a, hi, rfl, rfl, rfl, ha0, ha6, ho, rfl⟩ hsc' hlen hsF Kb hKb
   by_cases hlt : i < ks.length
   ·rw [List.drop_eq_getElem_cons hlt] at ho
    have hkn := IT.kid_lt (n := 0) hlt
    obtain ⟨c, es, hx⟩ : ∃ c es, ks[i] = IT.mk c es := by cases h : ks[i] with | mk a b => exact ⟨a, b, rfl⟩
    rw [hx] at ho hkn
    have hesl := IT.len_le es
    have hen : IT.nodesL es + 1 ≤ 900 := by
     have : (IT.mk c es).nodes = IT.nodesL es + 1 := by simp [IT.nodes]
     have : (IT.mk 0 ks).nodes = IT.nodesL ks + 1 := by simp [IT.nodes]
     omega
    have hes : ∀ v ∈ es, zhw data v := fun v hvm => by
     obtain ⟨j, hj, rfl⟩ := List.getElem_of_mem hvm
     have := IT.kid_lt (n := c) hj
     exact ih _ (by omega) (by omega)
    simp only [zcu] at ho
    simp [zo3, hlt, hx, IT.cs, Nat.add_assoc]
    rw [← hT']
    refine zIG data hk T hT c _ _ ?_
    cases hp : zbl data T c with
    | none =>
     rw [hp] at ho
     simp only at ho
     simp [zbN]
     exact ⟨⟨rfl, rfl⟩, hF ho.symm _⟩
    | some ps =>
     rw [hp] at ho
     simp only at ho
     simp [zbN]
     have hpn : ∀ t ∈ ps, t.nodes ≤ 1000 := zt3 hp
     refine zxx h8 es (by omega) hes ps hpn _ _ ?_
     have htb : 0 ≤ (zcy data es ps).1 ∧ (zcy data es ps).1 ≤ 6 * es.length := by
      unfold zcy
      split
      ·have := ztx h8 es ps 0 (by omega); omega
      ·simp; omega
     have ho' : (if (zcy data es ps).2 && decide (a + (1 + (zcy data es ps).1) ≤ 6) then zcu data (ks.drop (i + 1)) T (a + (1 + (zcy data es ps).1)) else (0, false)) = zcu data ks T 0 := by
      rw [← ho]
      unfold zcy
      by_cases hl : ps.length = es.length
      ·simp only [hl, if_true]
      ·simp only [hl, if_false]; rfl
     generalize zcy data es ps = w at *
     obtain ⟨w1, w2⟩ := w
     simp only at htb ho'
     simp
     have q1 : IntKind.i64.wrap (1 + w1) = 1 + w1 := zar (by omega) (by omega)
     have q2 : IntKind.i64.wrap (a + (1 + w1)) = a + (1 + w1) := zar (by omega) (by omega)
     rw [q1, q2]
     cases w2 with
     | false =>
      simp at ho' ⊢
      exact ⟨⟨rfl, rfl⟩, hF ho'.symm _⟩
     | true =>
      by_cases hh : a + (1 + w1) ≤ 6
      ·have hh' : ¬ (6 : Int) < a + (1 + w1) := by omega
       simp [hh] at ho'
       simp [hh']
       rw [zar (by omega) (by omega)]
       refine hKb _ _ ⟨ks.length - (i + 1), by omega, Back.at (J := [.cells [.int .i64 c, .sl (IT.css es) .none]]) (H2 := H ++ [.cells [.int .i64 5, .int .i64 tn, .sl (VT.css tks) .none], .cells [.int .i64 0, .sl (IT.css ks) .none]]) (by simp [hT']) (by simp) hsc2 ?_ ⟨_, _, rfl, i + 1, _, by omega, rfl, by simp, rfl, by omega, by omega, ho', rfl⟩⟩
       simp [zjy, AV.sc, AV.scV, AV.scA, AV.scB]
      ·have hh' : (6 : Int) < a + (1 + w1) := by omega
       simp [hh] at ho'
       simp [hh']
       exact ⟨⟨rfl, rfl⟩, hF ho'.symm _⟩
   ·obtain rfl : i = ks.length := by omega
    rw [List.drop_length] at ho
    simp only [zcu] at ho
    rw [← ho] at hK
    simp [zo3]
    exact ⟨⟨rfl, rfl⟩, zcI hs hK _⟩
theorem zB2 (data : List Dat) (n : Int) (ks : List IT) (tk tn : Int) (tks : List VT) : rdV data (.mk n ks) (.mk tk tn tks) =
  if tk = 6 then (if n = 0 then (if tks.length = ks.length then rdA data ks tks 0 else -1) else -1)
  else if tk = 7 then (if 0 ≤ n ∧ n ≤ 6 ∧ ks.length = 0 then n else -1)
  else if tk = 5 then (if n = 0 ∧ ks.length ≤ 6 then rdE data ks (.mk tk tn tks) 0 else -1)
  else (if n = 0 ∧ ks.length = 0 then 0 else -1) := by
 rw [rdV]
 rfl
theorem zsb {m : Int × Bool} {r : Int} (h : agr m r) : -1 ≤ r ∧ r ≤ 6 := by
 obtain ⟨h1, h2⟩ := h
 cases hb : m.2 with
 | true => have := h1 hb; omega
 | false => have := h2 hb; omega
def zcx (data : List Dat) (vs : List IT) (ts : List VT) : Int := if ts.length = vs.length then rdA data vs ts 0 else -1
theorem zDn {data : List Dat} (h8 : ∀ D ∈ data, D.cons.length ≤ 8) (vs : List IT) (ts : List VT) : -1 ≤ zcx data vs ts ∧ zcx data vs ts ≤ 6 := by
 unfold zcx
 split
 ·exact zsb ((zhA h8 vs ts 0 (by omega)).1 (by omega))
 ·omega
def zhu (data : List Dat) (v : IT) : Prop := ∀ t : VT, t.nodes ≤ 1000 → ∀ (H : zaa) (K : Kt), K (.int .i64 (rdV data v t)) H → ACalls tP ziz [.sl (data.map Dat.cs) .none, .agg t.cs, .agg v.cs] H K
theorem zwi {data : List Dat} (h8 : ∀ D ∈ data, D.cons.length ≤ 8) (vs : List IT) (hv : vs.length ≤ 1000) (hel : ∀ v ∈ vs, zhu data v) (ts : List VT) (ht : ∀ t ∈ ts, t.nodes ≤ 1000) (H : zaa) (K : Kt)
  (hK : K (.int .i64 (zcx data vs ts)) H) : ACalls tP zhZ [.sl (data.map Dat.cs) .none, .sl (VT.css ts) .none, .sl (IT.css vs) .none] H K := by
 refine ACalls.out (zFq fun hs => ?_)
 have hO : ∀ r J, zcx data vs ts = r → Out H.length K (.int .i64 r) (H ++ J) := fun r J h => by subst h; exact Out.int rfl (Nat.le_refl _) hs hK
 have hO0 : ∀ r, zcx data vs ts = r → Out H.length K (.int .i64 r) H := fun r h => by simpa using hO r [] h
 by_cases hl : ts.length = vs.length
 case neg =>
  have : ((ts.length : Int) != (vs.length : Int)) = true := by simp [bne]; omega
  simp [zo0, this]
  exact hO0 _ (by simp [zcx, hl])
 have htot : zcx data vs ts = rdA data vs ts 0 := by simp [zcx, hl]
 simp [zo0, hl]
 refine zFo (Inv := fun q t7 t17 H' => ∃ (i : Nat) (a : Int), i ≤ vs.length ∧ q = vs.length - i ∧ t17 = .int .i64 i ∧ t7 = .int .i64 a ∧ 0 ≤ a ∧ a ≤ 6 ∧ rdA data (vs.drop i) (ts.drop i) a = zcx data vs ts ∧ H' = H) vs.length ?_ ?_
 ·intro _; exact ⟨0, 0, by omega, by omega, rfl, rfl, by omega, by omega, by simp [htot], rfl⟩
 ·rintro q t7 t17 H' ⟨i, a, hi, rfl, rfl, rfl, ha0, ha6, ho, rfl⟩ hsc' hlen hsF Kb hKb
  by_cases hlt : i < vs.length
  ·have hlt' : i < ts.length := by omega
   rw [List.drop_eq_getElem_cons hlt, List.drop_eq_getElem_cons hlt'] at ho
   simp only [rdA] at ho
   have hti := ht _ (List.getElem_mem hlt')
   have hvi := hel _ (List.getElem_mem hlt)
   have hbd := zsb (zf2 h8 vs[i] ts[i])
   simp [zo1, hl, hlt, hlt', Nat.add_assoc]
   refine zaF (.int .i64 (rdV data vs[i] ts[i])) (fun J => hvi _ hti _ _ ⟨rfl, rfl⟩) ?_
   generalize rdV data vs[i] ts[i] = r at *
   by_cases hr : r < 0
   ·rw [if_pos (.inl hr)] at ho
    simp [hr]
    exact hO0 _ ho.symm
   ·have q1 : IntKind.i64.wrap (a + r) = a + r := zar (by omega) (by omega)
    by_cases h6 : a + r > 6
    ·rw [if_pos (.inr h6)] at ho
     simp [hr, q1, h6]
     exact hO0 _ ho.symm
    ·rw [if_neg (by omega)] at ho
     simp [hr, q1, h6]
     rw [zar (by omega) (by omega)]
     refine hKb _ _ ⟨vs.length - (i + 1), by omega, Back.at (J := []) (by simp) (Nat.le_refl _) hs ?_ ⟨_, _, rfl, i + 1, _, by omega, rfl, by simp, rfl, by omega, by omega, ho, rfl⟩⟩
     simp [zjw, AV.sc, AV.scV, AV.scA, AV.scB]
  ·obtain rfl : i = vs.length := by omega
   rw [List.drop_length] at ho
   simp only [rdA] at ho
   simp [zo1, hl]
   exact hO0 _ ho.symm
theorem zLj : ∀ (m : Nat) (v : IT), v.nodes ≤ m → ∀ (left : Int), left ≤ 1000000 → -1 ≤ left → ∀ (H : zaa) (id : Nat), H[id]? = some (.cells [.int .i64 left]) → ∀ (K : AV → zaa → Prop),
  ((v.nodes : Int) ≤ left → K (.bool true) (H.set id (.cells [.int .i64 (left - v.nodes)]))) → (¬ (v.nodes : Int) ≤ left → ∀ l', K (.bool false) (H.set id (.cells [.int .i64 l']))) →
  ACalls tP zij [.agg v.cs, .ptr id 0] H K := by
 intro m
 induction m with
 | zero => intro v h; have := v.nodes_pos; omega
 | succ m ih =>
  intro v hv left hl1 hl0 H id hid K hK hF
  obtain ⟨n, ks⟩ := v
  have hlt := zbY hid
  have hnn : (IT.mk n ks).nodes = IT.nodesL ks + 1 := by simp [IT.nodes]
  refine ACalls.out (zLh fun hs => ?_)
  have hget : (H ++ [AB.cells [.int .i64 n, .sl (IT.css ks) .none]])[id]? = some (.cells [.int .i64 left]) := zbs hid
  have bad : (¬ ((IT.mk n ks).nodes : Int) ≤ left) → ∀ l' H', H' = H.set id (.cells [.int .i64 l']) ++ [.cells [.int .i64 n, .sl (IT.css ks) .none]] → Out H.length K (.bool false) H' := by
   intro h l' H' he
   exact Out.bool he (by simp) (hs.set rfl) (hF h l')
  simp [zyv, IT.cs, hget, AV.known]
  rw [zar (by omega) (by omega), zce _ hid, zbs (zbQ _ hid)]
  by_cases h0 : left - 1 < 0
  ·simp [h0]
   exact bad (by omega) _ _ rfl
  ·simp [h0]
   refine zLf (Inv := fun q t5 H' => ∃ i : Nat, i ≤ ks.length ∧ q = ks.length - i ∧ t5 = .int .i64 i ∧ ((IT.nodesL (ks.take i) : Int) + 1 ≤ left) ∧ H' = H.set id (.cells [.int .i64 (left - 1 - IT.nodesL (ks.take i))]) ++ [.cells [.int .i64 n, .sl (IT.css ks) .none]]) ks.length ?_ ?_
   ·intro _; exact ⟨0, by omega, by omega, rfl, by simp [IT.nodesL]; omega, by simp [IT.nodesL]⟩
   ·rintro q t5 H' ⟨i, hi, rfl, rfl, hb, rfl⟩ hsc hlen hsF Kb hKb
    by_cases hil : i < ks.length
    ·have hki := IT.kid_lt (n := n) hil
     have h1 := IT.nodesL_take hil
     have h2 := IT.nodesL_take_le ks (i + 1)
     have hll := IT.len_le (ks.take i)
     simp only [List.length_take] at hll
     have hge : (H.set id (.cells [.int .i64 (left - 1 - IT.nodesL (ks.take i))]) ++ [AB.cells [.int .i64 n, .sl (IT.css ks) .none]])[id]? = some (.cells [.int .i64 (left - 1 - IT.nodesL (ks.take i))]) := zbs (zbQ _ hid)
     simp [zqz, hil]
     refine ih ks[i] (by omega) (left - 1 - IT.nodesL (ks.take i)) (by omega) (by omega) _ id hge _ ?_ ?_
     ·intro hle
      rw [zce _ (zbQ _ hid), List.set_set]
      simp
      rw [zar (by omega) (by omega)]
      refine hKb _ _ ⟨ks.length - (i + 1), by omega, Back.here (by simp) ((hs.set rfl).snoc rfl) ?_ ⟨_, rfl, i + 1, by omega, rfl, by simp, by omega, ?_⟩⟩
      ·simp [zkW, AV.sc, AV.scV, AV.scA, AV.scB]; omega
      ·rw [h1]; congr 5; omega
     ·intro hle l'
      rw [zce _ (zbQ _ hid), List.set_set]
      simp
      exact bad (by omega) _ _ rfl
    ·obtain rfl : i = ks.length := by omega
     rw [List.take_length] at hb ⊢
     simp [zqz]
     refine Out.bool rfl (by simp) (hs.set rfl) ?_
     have := hK (by omega)
     rw [hnn] at this
     rw [show left - 1 - (IT.nodesL ks : Int) = left - ((IT.nodesL ks + 1 : Nat) : Int) by omega]
     exact this
theorem zDU (v : IT) (H : zaa) (K : Kt) (hK : ∀ b, (b = true → v.nodes ≤ 40) → K (.bool b) H) : ACalls tP zmT [.agg v.cs] H K := by
 refine ACalls.out (zDT fun hs => ?_)
 simp [zvH, AV.known]
 refine zLj _ v (Nat.le_refl _) 40 (by omega) (by omega) _ (H.length + 1) (by simp) _ ?_ ?_
 ·intro h
  exact Out.bool (J := [_, _]) (by simp; exact ⟨rfl, rfl⟩) (Nat.le_refl _) hs (hK true fun _ => by omega)
 ·intro h l'
  exact Out.bool (J := [_, _]) (by simp; exact ⟨rfl, rfl⟩) (Nat.le_refl _) hs (hK false fun h => by cases h)
theorem zOu {data : List Dat} (hk : za5 data) (h8 : ∀ D ∈ data, D.cons.length ≤ 8) : ∀ (m : Nat) (v : IT), v.nodes ≤ m → v.nodes ≤ 900 → zhu data v := by
 intro m
 induction m with
 | zero => intro v h; have := v.nodes_pos; omega
 | succ m ih =>
  intro v hv hb t ht H K hK
  obtain ⟨n, ks⟩ := v
  obtain ⟨tk, tn, tks⟩ := t
  have hnl : IT.nodesL ks + 1 ≤ 900 := by simpa [IT.nodes] using hb
  have hll := IT.len_le ks
  have hkids : ∀ v ∈ ks, zhu data v := fun v hvm => by
   obtain ⟨i, hi, rfl⟩ := List.getElem_of_mem hvm
   have := IT.kid_lt (n := n) hi
   exact ih _ (by omega) (by omega)
  refine ACalls.out (zOs fun hs => ?_)
  rw [zB2] at hK
  have hO : ∀ r J, K (.int .i64 r) H → Out H.length K (.int .i64 r) (H ++ J) := fun r J h => Out.int rfl (Nat.le_refl _) hs h
  by_cases h6 : tk = 6
  ·subst h6
   rw [if_pos rfl] at hK
   by_cases hn : n = 0
   ·subst hn
    rw [if_pos rfl] at hK
    simp [zcW, VT.cs, IT.cs, Nat.add_assoc]
    have htk : ∀ t ∈ tks, t.nodes ≤ 1000 := fun t htm => by
     obtain ⟨i, hi, rfl⟩ := List.getElem_of_mem htm
     have := VT.kid_lt (k := 6) (n := tn) hi
     omega
    refine zwi h8 ks (by omega) hkids tks htk _ _ ?_
    exact hO _ _ hK
   ·have : (n != 0) = true := by simp [bne, hn]
    rw [if_neg hn] at hK
    simp [zcW, VT.cs, IT.cs, Nat.add_assoc, this]
    exact hO _ _ hK
  have h6' : (tk == 6) = false := by simp [h6]
  rw [if_neg h6] at hK
  by_cases h7 : tk = 7
  ·subst h7
   rw [if_pos rfl] at hK
   by_cases g1 : n < 0
   ·rw [if_neg (by omega)] at hK
    simp [zcW, VT.cs, IT.cs, Nat.add_assoc, g1]
    exact hO _ _ hK
   ·by_cases g2 : n > 6
    ·rw [if_neg (by omega)] at hK
     simp [zcW, VT.cs, IT.cs, Nat.add_assoc, g1, g2]
     exact hO _ _ hK
    ·by_cases g3 : 0 < ks.length
     ·rw [if_neg (by omega)] at hK
      have g3' : (0 : Int) < ks.length := by omega
      simp [zcW, VT.cs, IT.cs, Nat.add_assoc, g1, g2, g3, g3']
      exact hO _ _ hK
     ·rw [if_pos (by omega)] at hK
      have g3' : ¬ (0 : Int) < ks.length := by omega
      simp [zcW, VT.cs, IT.cs, Nat.add_assoc, g1, g2, g3, g3']
      exact hO _ _ hK
  have h7' : (tk == 7) = false := by simp [h7]
  rw [if_neg h7] at hK
  by_cases h5 : tk = 5
  case neg =>
   have h5' : (tk == 5) = false := by simp [h5]
   rw [if_neg h5] at hK
   by_cases g1 : n = 0
   ·subst g1
    by_cases g2 : 0 < ks.length
    ·have g2' : (0 : Int) < ks.length := by omega
     rw [if_neg (by omega)] at hK
     simp [zcW, VT.cs, IT.cs, Nat.add_assoc, h6', h7', h5', g2, g2']
     exact hO _ _ hK
    ·have g2' : ¬ (0 : Int) < ks.length := by omega
     rw [if_pos (by omega)] at hK
     simp [zcW, VT.cs, IT.cs, Nat.add_assoc, h6', h7', h5', g2, g2']
     exact hO _ _ hK
   ·have g1' : (n != 0) = true := by simp [bne, g1]
    rw [if_neg (by omega)] at hK
    simp [zcW, VT.cs, IT.cs, Nat.add_assoc, h6', h7', h5', g1, g1']
    exact hO _ _ hK
  subst h5
  rw [if_pos rfl] at hK
  by_cases hn : n = 0
  case neg =>
   have : (n != 0) = true := by simp [bne, hn]
   rw [if_neg (by omega)] at hK
   simp [zcW, VT.cs, IT.cs, Nat.add_assoc, this]
   exact hO _ _ hK
  subst hn
  by_cases hl6 : ks.length > 6
  ·rw [if_neg (by omega)] at hK
   have : (6 : Int) < ks.length := by omega
   simp [zcW, VT.cs, IT.cs, Nat.add_assoc, this]
   exact hO _ _ hK
  have hl6' : ¬ (6 : Int) < ks.length := by omega
  rw [if_pos (by omega)] at hK
  simp [zcW, VT.cs, IT.cs, Nat.add_assoc, hl6']
  have hT : (VT.mk 5 tn tks).nodes ≤ 1000 := ht
  have hT' : (VT.mk 5 tn tks).cs = [.int .i64 5, .int .i64 tn, .sl (VT.css tks) .none] := rfl
  generalize hTg : VT.mk 5 tn tks = T at *
  have hsc2 : HSc (H ++ [.cells [.int .i64 5, .int .i64 tn, .sl (VT.css tks) .none], .cells [.int .i64 0, .sl (IT.css ks) .none]]) := hs.append (by simp [AB.sc, AV.scA, AV.scB])
  have hF : ∀ r, r = rdE data ks T 0 → ∀ J, Out H.length K (.int .i64 r) (H ++ J) := fun r h J => hO _ _ (by rw [h]; exact hK)
  refine zOq (Inv := fun q t7 t58 H' => ∃ (i : Nat) (a : Int), i ≤ ks.length ∧ q = ks.length - i ∧ t58 = .int .i64 i ∧ t7 = .int .i64 a ∧ 0 ≤ a ∧ a ≤ 6 ∧ rdE data (ks.drop i) T a = rdE data ks T 0 ∧
   H' = H ++ [.cells [.int .i64 5, .int .i64 tn, .sl (VT.css tks) .none], .cells [.int .i64 0, .sl (IT.css ks) .none]]) ks.length ?_ ?_
  ·intro _; exact ⟨0, 0, by omega, by omega, rfl, rfl, by omega, by omega, by simp, rfl⟩
  ·rintro q t7 t58 H' ⟨i, a, hi, rfl, rfl, rfl, ha0, ha6, ho, rfl⟩ hsc' hlen hsF Kb hKb
   by_cases hlt : i < ks.length
   ·rw [List.drop_eq_getElem_cons hlt] at ho
    have hkn := IT.kid_lt (n := 0) hlt
    obtain ⟨c, es, hx⟩ : ∃ c es, ks[i] = IT.mk c es := by cases h : ks[i] with | mk a b => exact ⟨a, b, rfl⟩
    rw [hx] at ho hkn
    have hesl := IT.len_le es
    have hen : IT.nodesL es + 1 ≤ 900 := by
     have : (IT.mk c es).nodes = IT.nodesL es + 1 := by simp [IT.nodes]
     have : (IT.mk 0 ks).nodes = IT.nodesL ks + 1 := by simp [IT.nodes]
     omega
    have hes : ∀ v ∈ es, zhu data v := fun v hvm => by
     obtain ⟨j, hj, rfl⟩ := List.getElem_of_mem hvm
     have := IT.kid_lt (n := c) hj
     exact ih _ (by omega) (by omega)
    simp only [rdE] at ho
    by_cases c1 : c < 0
    ·rw [if_pos (.inl c1)] at ho
     simp [zhs, hlt, hx, IT.cs, Nat.add_assoc, c1]
     exact hF _ ho _
    by_cases c2 : 8 ≤ c
    ·rw [if_pos (.inr c2)] at ho
     simp [zhs, hlt, hx, IT.cs, Nat.add_assoc, c1, c2]
     exact hF _ ho _
    rw [if_neg (by omega)] at ho
    simp [zhs, hlt, hx, IT.cs, Nat.add_assoc, c1, c2]
    rw [← hT']
    refine zPc data hk T hT c _ _ ?_
    cases hp : zbl data T c with
    | none =>
     rw [hp] at ho
     simp only at ho
     simp [zbN]
     exact hF _ ho _
    | some ps =>
     rw [hp] at ho
     simp only at ho
     simp [zbN]
     have hpn : ∀ t ∈ ps, t.nodes ≤ 1000 := zt3 hp
     refine zwi h8 es (by omega) hes ps hpn _ _ ?_
     have htb := zDn h8 es ps
     have ho' : (if zcx data es ps < 0 ∨ a + 1 + zcx data es ps > 6 then -1 else rdE data (ks.drop (i + 1)) T (a + (1 + zcx data es ps))) = rdE data ks T 0 := by
      rw [← ho]
      unfold zcx
      by_cases hl : ps.length = es.length
      ·simp only [hl, if_true]
      ·simp only [hl, if_false]; rfl
     generalize zcx data es ps = w at *
     by_cases w0 : w < 0
     ·rw [if_pos (.inl w0)] at ho'
      simp [w0]
      exact hF _ ho' _
     ·have q1 : IntKind.i64.wrap (a + 1) = a + 1 := zar (by omega) (by omega)
      have q2 : IntKind.i64.wrap (a + 1 + w) = a + 1 + w := zar (by omega) (by omega)
      have q3 : IntKind.i64.wrap (1 + w) = 1 + w := zar (by omega) (by omega)
      have q4 : IntKind.i64.wrap (a + (1 + w)) = a + (1 + w) := zar (by omega) (by omega)
      by_cases hh : a + 1 + w > 6
      ·rw [if_pos (.inr hh)] at ho'
       simp [w0, q1, q2, hh]
       exact hF _ ho' _
      ·rw [if_neg (by omega)] at ho'
       simp [w0, q1, q2, hh, q3, q4]
       rw [zar (by omega) (by omega)]
       refine hKb _ _ ⟨ks.length - (i + 1), by omega, Back.at (J := [.cells [.int .i64 c, .sl (IT.css es) .none]]) (H2 := H ++ [.cells [.int .i64 5, .int .i64 tn, .sl (VT.css tks) .none], .cells [.int .i64 0, .sl (IT.css ks) .none]]) (by simp [hT']) (by simp) hsc2 ?_ ⟨_, _, rfl, i + 1, _, by omega, rfl, by simp, rfl, by omega, by omega, ho', rfl⟩⟩
       simp [zlS, AV.sc, AV.scV, AV.scA, AV.scB]
   ·obtain rfl : i = ks.length := by omega
    rw [List.drop_length] at ho
    simp only [rdE] at ho
    simp [zhs]
    exact hF _ ho _
section
variable {data : List Dat} (hD : DOk data)
def zl7 (data : List Dat) (v : VT) : Prop := ∀ (t : VT), zaQ data 0 t = true → ∀ (H : zaa) (K : AV → zaa → Prop), K (.bool (zav data v t)) H → ACalls tP zgK [.sl (data.map Dat.cs) .none, .agg v.cs, .agg t.cs] H K
theorem zAQ {f : VT → VT → Bool} {x y : List VT} {i : Nat} (h : i < x.length) (h' : i < y.length) : zbT f (x.drop i) (y.drop i) = (f x[i] y[i] && zbT f (x.drop (i + 1)) (y.drop (i + 1))) := by
 rw [List.drop_eq_getElem_cons h, List.drop_eq_getElem_cons h', zbT]
theorem zzz (vs ts : List VT) (hl : vs.length ≤ 1000000) (hv : ∀ v ∈ vs, zl7 data v) (ht : ∀ t ∈ ts, zaQ data 0 t = true) (H : zaa) (K : AV → zaa → Prop) (hK : K (.bool (zbx data vs ts)) H) :
  ACalls tP ziy [.sl (data.map Dat.cs) .none, .sl (VT.css vs) .none, .sl (VT.css ts) .none] H K := by
 refine ACalls.out (zOm fun hs => ?_)
 rw [zhQ] at hK
 have hO : ∀ b, zbT (zav data) vs ts = b → Out H.length K (.bool b) H := fun b h => by
  have := Out.bool (J := []) rfl (Nat.le_refl _) hs (h ▸ hK)
  simpa using this
 by_cases hlen : vs.length = ts.length
 case neg =>
  have hl' : ((vs.length : Int) != ts.length) = true := by simp; omega
  simp [zry, hl']
  exact hO _ (zhL hlen)
 simp [zry, hlen]
 refine zOk (Inv := fun q t H' => ∃ i : Nat, i ≤ vs.length ∧ q = vs.length - i ∧ t = .int .i64 i ∧ zbT (zav data) (vs.drop i) (ts.drop i) = zbT (zav data) vs ts ∧ H = H') vs.length ?_ ?_
 ·intro _; exact ⟨0, by omega, by omega, rfl, by simp, rfl⟩
 rintro q t H' ⟨i, hi, rfl, rfl, ho, rfl⟩ hsc hle hsF Kb hKb
 by_cases hlt : i < vs.length
 ·have hlt' : i < ts.length := by omega
  have hlt2 : (i : Int) < ts.length := by omega
  rw [zAQ hlt hlt'] at ho
  obtain ⟨x, y, z, hvx, hx, hy, hz⟩ := zaK vs[i]
  obtain ⟨x2, y2, z2, hvx2, hx2, hy2, hz2⟩ := zaK ts[i]
  simp [zrz, hlt, hlt', hlt2, hvx, hvx2]
  rw [← hvx, ← hvx2]
  refine zaF (.bool (zav data vs[i] ts[i])) (fun J => hv _ (List.getElem_mem hlt) _ (ht _ (List.getElem_mem hlt')) _ _ ⟨rfl, rfl⟩) ?_
  cases hb : zav data vs[i] ts[i] with
  | false =>
   rw [hb, Bool.false_and] at ho
   simp
   exact hO _ ho.symm
  | true =>
   rw [hb, Bool.true_and] at ho
   simp
   rw [zar (by omega) (by omega)]
   refine hKb _ _ ⟨vs.length - (i + 1), by omega, Back.here (Nat.le_refl _) hs ?_ ⟨_, rfl, i + 1, by omega, rfl, by simp, ho, rfl⟩⟩
   simp [zlQ, AV.sc, AV.scV, AV.scA, AV.scB]
 ·obtain rfl : i = vs.length := by omega
  rw [List.drop_length, hlen, List.drop_length, zbT] at ho
  simp [zrz, hlen]
  exact hO _ ho.symm
theorem zA1 {data : List Dat} {vks ks : List VT} (h1 : vks.length = 1) (h2 : ks.length = 1) : zbx data vks ks = zcr data vks (ks[0]'(by omega)) := by
 match vks, ks, h1, h2 with
 | [v], [k], _, _ => simp [zbx, zcr]
include hD in
theorem zLP : ∀ (m : Nat) (v : VT), v.nodes ≤ m → v.nodes ≤ 1000000 → zl7 data v := by
 intro m
 induction m with
 | zero => intro v h; have := v.nodes_pos; omega
 | succ m ih =>
  intro v hm hb t ht H K hK
  obtain ⟨vk, vn, vks⟩ := v
  obtain ⟨k, n, ks⟩ := t
  refine ACalls.out (zLN fun hs => ?_)
  have hO : ∀ b J, zav data (.mk vk vn vks) (.mk k n ks) = b → Out H.length K (.bool b) (H ++ J) := fun b J h => Out.bool rfl (Nat.le_refl _) hs (h ▸ hK)
  have hll := VT.len_le vks
  have hnn : (VT.mk vk vn vks).nodes = VT.nodesL vks + 1 := by simp [VT.nodes]
  have hkids : ∀ x ∈ vks, zl7 data x := fun x hx => ih x (by have := zd8 (k := vk) (n := vn) x hx; omega) (by have := zfm (k := vk) (n := vn) x hx; omega)
  have htk := zi0 ht
  have hto : zaS data 0 (.mk k n ks) = true := by rw [zaQ, Bool.and_eq_true] at ht; exact ht.2
  have htn : (VT.mk k n ks).nodes ≤ 200 := by rw [zaQ, Bool.and_eq_true] at ht; exact of_decide_eq_true ht.1
  obtain ⟨f1, f2, f3⟩ := zc6 hD.k
  have loop : ∀ (hk : ks.length = 1) , zav data (.mk vk vn vks) (.mk k n ks) = zcr data vks (ks[0]'(by omega)) →
    zqO (.sl (data.map Dat.cs) .none) (.ptr H.length 0) (.ptr (H.length + 1) 0) (.int .i64 vks.length) (.int .i64 0) (H ++ [.cells [.int .i64 vk, .int .i64 vn, .sl (VT.css vks) .none], .cells [.int .i64 k, .int .i64 n, .sl (VT.css ks) .none]]) (Out H.length K) := by
   intro hk e
   have hk0 : 0 < ks.length := by omega
   refine zLL (Inv := fun q t10 H' => ∃ i : Nat, i ≤ vks.length ∧ q = vks.length - i ∧ t10 = .int .i64 i ∧ zcr data (vks.drop i) ks[0] = zcr data vks ks[0] ∧ H' = H ++ [.cells [.int .i64 vk, .int .i64 vn, .sl (VT.css vks) .none], .cells [.int .i64 k, .int .i64 n, .sl (VT.css ks) .none]]) vks.length ?_ ?_
   ·intro _; exact ⟨0, by omega, by omega, rfl, by simp, rfl⟩
   rintro q t10 H' ⟨i, hi, rfl, rfl, ho, rfl⟩ hsc hle hsF Kb hKb
   by_cases hlt : i < vks.length
   ·rw [ztd hlt] at ho
    obtain ⟨x, y, z, hvx, hx, hy, hz⟩ := zaK vks[i]
    obtain ⟨x2, y2, z2, hvx2, hx2, hy2, hz2⟩ := zaK ks[0]
    simp [zqM, hlt, hvx, hk0, hvx2]
    rw [← hvx, ← hvx2]
    refine zaF (.bool (zav data vks[i] ks[0])) (fun J => hkids _ (List.getElem_mem hlt) ks[0] (htk _ (List.getElem_mem hk0)) _ _ ⟨rfl, rfl⟩) ?_
    cases hb2 : zav data vks[i] ks[0] with
    | false =>
     rw [hb2, Bool.false_and] at ho
     simp
     exact hO _ _ (e.trans ho.symm)
    | true =>
     rw [hb2, Bool.true_and] at ho
     simp
     rw [zar (by omega) (by omega)]
     refine hKb _ _ ⟨vks.length - (i + 1), by omega, Back.here (by simp) hsc ?_ ⟨_, rfl, i + 1, by omega, rfl, by simp, ho, rfl⟩⟩
     simp [zk7, AV.sc, AV.scV, AV.scA, AV.scB]
   ·obtain rfl : i = vks.length := by omega
    rw [List.drop_length, zcr] at ho
    simp [zqM]
    exact hO _ _ (e.trans ho.symm)
  rcases zvo hto with ⟨rfl, rfl⟩ | ⟨rfl, rfl⟩ | ⟨rfl, rfl⟩ | rfl | ⟨rfl, hk⟩ | ⟨rfl, hk⟩ | ⟨rfl, hk⟩ | ⟨rfl, hk⟩
  ·simp [zdS, VT.cs, Nat.add_assoc]
   cases h1 : (vk == 3) <;> simp
   ·exact hO _ _ (by simp [zav, h1])
   by_cases h2 : -1099511627776 ≤ vn <;> simp [h2]
   ·by_cases h3 : vn ≤ 1099511627776 <;> simp [h3]
    ·exact hO _ _ (by simp [zav, h1, h2, h3, i0])
    ·exact hO _ _ (by simp [zav, h1, h2, h3])
   ·exact hO _ _ (by simp [zav, h1, h2])
  ·simp [zdS, VT.cs, Nat.add_assoc]
   cases h1 : (vk == 2) <;> simp
   ·exact hO _ _ (by simp [zav, h1])
   cases h2 : (vn == 0) <;> simp
   ·cases h3 : (vn == 1) <;> simp
    ·exact hO _ _ (by simp [zav, h1, h2, h3])
    ·exact hO _ _ (by simp [zav, h1, h2, h3, i0])
   ·exact hO _ _ (by simp [zav, h1, h2, i0])
  ·simp [zdS, VT.cs, Nat.add_assoc]
   cases h1 : (vk == 1) <;> simp
   ·exact hO _ _ (by simp [zav, h1])
   cases h2 : (vn == 0) <;> simp
   ·exact hO _ _ (by simp [zav, h1, h2])
   ·exact hO _ _ (by simp [zav, h1, h2, i0])
  ·-- a data type
   simp [zdS, VT.cs, Nat.add_assoc]
   cases h1 : (vk == 5) with
   | false =>
    have : (vk != 5) = true := by simp [bne, h1]
    simp [this]
    exact hO _ _ (by simp [zav, h1])
   | true =>
   have h1' : (vk != 5) = false := by simp [bne, h1]
   by_cases h2 : vn < 0
   ·simp [h1', h2]
    exact hO _ _ (by simp [zav, h1]; omega)
   by_cases h3 : 8 ≤ vn
   ·simp [h1', h2, h3]
    exact hO _ _ (by simp [zav, h1]; omega)
   simp [h1', h2, h3, Nat.add_assoc]
   have e : ∀ o, zaR data (.mk 5 n ks) vn = o → zav data (.mk vk vn vks) (.mk 5 n ks) = zd6 data vks o := fun o ho => by
    have q1 : 0 ≤ vn := by omega
    have q2 : vn < 8 := by omega
    simp [zav, h1, q1, q2, ho]
   have hcs : (VT.mk 5 n ks).cs = [.int .i64 5, .int .i64 n, .sl (VT.css ks) .none] := rfl
   rw [← hcs]
   refine zpW data f1 f2 f3 (.mk 5 n ks) (by omega) vn _ _ ?_
   cases hf : zaR data (.mk 5 n ks) vn with
   | none =>
    simp [zbN]
    exact hO _ _ (by rw [e _ hf, zhP])
   | some l =>
    simp [zbN, hcs]
    refine zzz vks l (by omega) hkids (zgj hD.ok hto hf) _ _ ?_
    exact hO _ _ (by rw [e _ hf, zgn])
  ·simp [zdS, VT.cs, Nat.add_assoc]
   cases h1 : (vk == 4) <;> simp
   ·exact hO _ _ (by simp [zav, h1])
   cases h2 : (vn == 0) <;> simp
   ·exact hO _ _ (by simp [zav, h1, h2])
   refine zzz vks ks (by omega) hkids htk _ _ ?_
   exact hO _ _ (by simp [zav, h1, h2])
  ·-- an array
   simp [zdS, zho, VT.cs, Nat.add_assoc]
   have hk0 : 0 < ks.length := by omega
   cases h1 : (vk == 6) with
   | false =>
    have : (vk != 6) = true := by simp [bne, h1]
    simp [this]
    exact hO _ _ (by simp [zav, h1])
   | true =>
   have h1' : (vk != 6) = false := by simp [bne, h1]
   by_cases h3 : vks.length ≤ 4096
   case neg =>
    have h3' : (4096 : Int) < vks.length := by omega
    simp [h1', h3']
    exact hO _ _ (by simp [zav, h1, h3])
   have h3' : ¬ (4096 : Int) < vks.length := by omega
   cases h2 : (vn == 0) with
   | false =>
    have : (vn != 0) = true := by simp [bne, h2]
    simp [h1', h3', this]
    exact hO _ _ (by simp [zav, h1, h2])
   | true =>
   have h2' : (vn != 0) = false := by simp [bne, h2]
   simp [h1', h3', h2']
   exact loop hk (by have := zs9 hk0; simp [zav, h1, h2, h3, this, hk0])
  ·simp [zdS, zho, VT.cs, Nat.add_assoc]
   have hk0 : 0 < ks.length := by omega
   cases h1 : (vk == 7) with
   | false =>
    have : (vk != 7) = true := by simp [bne, h1]
    simp [this]
    exact hO _ _ (by simp [zav, h1])
   | true =>
   have h1' : (vk != 7) = false := by simp [bne, h1]
   by_cases h3 : vks.length = 1
   case neg =>
    have h3' : ((vks.length : Int) != 1) = true := by simp; omega
    simp [h1', h3']
    refine hO _ _ ?_
    have : zbx data vks ks = false := by rw [zhQ]; exact zhL (by omega)
    simp [zav, h1, this]
   have h3' : ((vks.length : Int) != 1) = false := by simp; omega
   cases h2 : (vn == 0) with
   | false =>
    have : (vn != 0) = true := by simp [bne, h2]
    simp [h1', h3', this]
    exact hO _ _ (by simp [zav, h1, h2])
   | true =>
   have h2' : (vn != 0) = false := by simp [bne, h2]
   simp [h1', h3', h2']
   exact loop hk (by rw [← zA1 h3 hk]; simp [zav, h1, h2])
  ·simp [zdS, zho, VT.cs, Nat.add_assoc]
   cases h1 : (vk == 8) <;> simp
   ·exact hO _ _ (by simp [zav, h1])
   by_cases h2 : 0 ≤ vn <;> simp [h2]
   ·by_cases h3 : vn < 64 <;> simp [h3]
    ·exact hO _ _ (by simp [zav, h1, h2, h3, i0])
    ·exact hO _ _ (by simp [zav, h1, h2, h3])
   ·exact hO _ _ (by simp [zav, h1, h2])
end
def zbX (data : List Dat) (v t : VT) : Bool := zaY data t && zav data v t
theorem ztm {data : List Dat} (h : za5 data) : zhx data := fun D hD => by
 obtain ⟨_, h2⟩ := h
 obtain ⟨_, h3, h4⟩ := h2 D hD
 refine ⟨by omega, fun c hc => ?_⟩
 obtain ⟨_, h5, h6⟩ := h4 c hc
 exact ⟨by omega, fun x hx => by have := h6 x hx; omega⟩
theorem zKY (data : List Dat) (hk : za5 data) (v t : VT) (hv : v.nodes ≤ 5000) (ht : t.nodes ≤ 1000000) (H : zaa) (K : Kt) (hK : K (.bool (zbX data v t)) H) :
  ACalls tP znw [.sl (data.map Dat.cs) .none, .agg v.cs, .agg t.cs] H K := by
 refine ACalls.out (zKX fun hs => ?_)
 have hO : ∀ b J, zbX data v t = b → Out H.length K (.bool b) (H ++ J) := fun b J h => Out.bool rfl (Nat.le_refl _) hs (h ▸ hK)
 obtain ⟨x, y, z, hvx, hx, hy, hz⟩ := zaK v
 obtain ⟨x2, y2, z2, hvx2, hx2, hy2, hz2⟩ := zaK t
 simp [zyq, hvx, hvx2, Nat.add_assoc]
 rw [← hvx, ← hvx2]
 refine zNr data (ztm hk) (by have := hk.1; omega) t ht ?_
 cases hf : zaY data t with
 | false =>
  simp
  exact hO _ _ (by simp [zbX, hf])
 | true =>
  have hf' := hf
  rw [zaY, Bool.and_eq_true] at hf'
  simp [Nat.add_assoc]
  refine zNv _ v (Nat.le_refl _) 5000 (by omega) (by omega) _ (H.length + 2) (by simp) _ ?_
  simp [Nat.add_assoc]
  refine zNz ⟨hf'.1, hk⟩ _ v (Nat.le_refl _) (by omega) t hf'.2 _ _ ?_
  exact hO _ _ (by simp [zbX, hf])
theorem zsO {data : List Dat} : ∀ {l : List Dat} {d : Nat}, zcB data l d = true → ∀ D ∈ l, D.cons.length ≤ 8
 | [], _, _, D, h => by cases h
 | E :: l, d, h, D, hD => by
  simp only [zcB, Bool.and_eq_true] at h
  rcases List.mem_cons.1 hD with rfl | hD
  ·have := h.1
   simp only [zcq, Bool.and_eq_true, decide_eq_true_eq] at this
   exact this.1.2
  ·exact zsO h.2 D hD
theorem zhO {data : List Dat} {t : VT} (h : zaY data t = true) : ∀ D ∈ data, D.cons.length ≤ 8 := by
 simp only [zaY, zbe, Bool.and_eq_true] at h
 exact zsO h.1.1.1.2
def za0 (data : List Dat) (t : VT) (v : IT) : Int := if zaY data t then rdV data v t else -1
theorem zrf (data : List Dat) (hk : za5 data) (t : VT) (ht : t.nodes ≤ 1000000) (H : zaa) (K : Kt) (hK : K (.bool (zaY data t)) H) : ACalls tP zgN [.sl (data.map Dat.cs) .none, .agg t.cs] H K := by
 refine ACalls.out (zNg fun hs => ?_)
 obtain ⟨x, y, z, hvx, hx, hy, hz⟩ := zaK t
 simp [zzd, zax, zaP, hvx, Nat.add_assoc]
 refine zvV data (ztm hk) (by have := hk.1; omega) ?_
 unfold zaY at hK
 cases hd : zbe data with
 | false =>
  rw [hd] at hK
  simp
  exact Out.bool rfl (Nat.le_refl _) hs hK
 | true =>
  rw [hd, Bool.true_and] at hK
  simp
  rw [← hvx]
  refine zoF data 0 t (by omega) _ _ ?_
  exact Out.bool rfl (Nat.le_refl _) hs hK
theorem zK9 (data : List Dat) (hk : za5 data) (t : VT) (ht : t.nodes ≤ 1000000) (H : zaa) (K : Kt) (hK : K (.bool (zaY data t)) H) : ACalls tP zny [.sl (data.map Dat.cs) .none, .agg t.cs] H K := by
 refine ACalls.out (zK8 fun hs => ?_)
 obtain ⟨x, y, z, hvx, hx, hy, hz⟩ := zaK t
 simp [zys, hvx, Nat.add_assoc]
 refine zyG data hk _ _ fun b hb => ?_
 have hbd : b = zbe data := by rw [Bool.eq_iff_iff, hb, zsN]
 subst hbd
 unfold zaY at hK
 cases hd : zbe data with
 | false =>
  rw [hd] at hK
  simp
  exact Out.bool rfl (Nat.le_refl _) hs hK
 | true =>
  rw [hd, Bool.true_and] at hK
  simp
  rw [← hvx]
  refine zqJ data (by have := hk.1; omega) 0 t (by omega) _ _ ?_
  exact Out.bool rfl (Nat.le_refl _) hs hK
theorem zOy (data : List Dat) (hk : za5 data) (t : VT) (ht : t.nodes ≤ 1000) (v : IT) (hv : v.nodes ≤ 900) (H : zaa) (K : Kt) (hK : K (.int .i64 (za0 data t v)) H) : ACalls tP znF [.sl (data.map Dat.cs) .none, .agg t.cs, .agg v.cs] H K := by
 refine ACalls.out (zOx fun hs => ?_)
 have hO : ∀ r J, za0 data t v = r → Out H.length K (.int .i64 r) (H ++ J) := fun r J h => by subst h; exact Out.int rfl (Nat.le_refl _) hs hK
 obtain ⟨x, y, z, hvx, hx, hy, hz⟩ := zaK t
 obtain ⟨x2, y2, hvx2, hx2, hy2⟩ := it2 v
 simp [zzB, hvx, hvx2, Nat.add_assoc]
 rw [← hvx]
 refine zrf data hk t (by omega) _ _ ?_
 cases hf : zaY data t with
 | false =>
  simp
  exact hO _ _ (by simp [za0, hf])
 | true =>
  have h8 := zhO hf
  obtain ⟨g1, g2⟩ := zf2 h8 v t
  simp [Nat.add_assoc]
  rw [← hvx2]
  refine zFy hk h8 _ v (Nat.le_refl _) hv t ht _ _ ?_
  cases hb : (zcb data v t).2 with
  | false =>
   simp
   exact hO _ _ (by simp [za0, hf, g2 hb])
  | true =>
   simp
   exact hO _ _ (by simp [za0, hf, (g1 hb).1])
theorem zLT (data : List Dat) (hk : za5 data) (t : VT) (ht : t.nodes ≤ 1000) (v : IT) (hv : v.nodes ≤ 900) (H : zaa) (K : Kt) (hK : K (.int .i64 (za0 data t v)) H) : ACalls tP znA [.sl (data.map Dat.cs) .none, .agg t.cs, .agg v.cs] H K := by
 refine ACalls.out (zLS fun hs => ?_)
 have hO : ∀ r J, za0 data t v = r → Out H.length K (.int .i64 r) (H ++ J) := fun r J h => by subst h; exact Out.int rfl (Nat.le_refl _) hs hK
 obtain ⟨x, y, z, hvx, hx, hy, hz⟩ := zaK t
 obtain ⟨x2, y2, hvx2, hx2, hy2⟩ := it2 v
 simp [zyK, hvx, hvx2, Nat.add_assoc]
 rw [← hvx]
 refine zK9 data hk t (by omega) _ _ ?_
 cases hf : zaY data t with
 | false =>
  simp
  exact hO _ _ (by simp [za0, hf])
 | true =>
  have h8 := zhO hf
  simp [Nat.add_assoc]
  rw [← hvx2]
  refine zOu hk h8 _ v (Nat.le_refl _) hv t ht _ _ ?_
  exact hO _ _ (by simp [za0, hf])
theorem zyM (data : List Dat) (hk : za5 data) (t : VT) (ht : t.nodes ≤ 1000) (v : IT) (hv : v.nodes ≤ 900) (H : zaa) (K : Kt) (hK : K (.bool (decide (0 ≤ za0 data t v))) H) : ACalls tP zin [.sl (data.map Dat.cs) .none, .agg t.cs, .agg v.cs] H K := by
 refine ACalls.out (zLW fun hs => ?_)
 obtain ⟨x, y, z, hvx, hx, hy, hz⟩ := zaK t
 obtain ⟨x2, y2, hvx2, hx2, hy2⟩ := it2 v
 simp [zyL, hvx, hvx2, Nat.add_assoc]
 rw [← hvx, ← hvx2]
 refine zOy data hk t ht v hv _ _ ?_
 simp
 exact Out.bool rfl (Nat.le_refl _) hs (by simpa using hK)
theorem zFX (data : List Dat) (hk : za5 data) (t : VT) (ht : t.nodes ≤ 1000) (v : IT) (hv : v.nodes ≤ 900) (H : zaa) (K : Kt) (hK : K (.bool (decide (0 ≤ za0 data t v))) H) : ACalls tP zm2 [.sl (data.map Dat.cs) .none, .agg t.cs, .agg v.cs] H K := by
 refine ACalls.out (zFW fun hs => ?_)
 obtain ⟨x, y, z, hvx, hx, hy, hz⟩ := zaK t
 obtain ⟨x2, y2, hvx2, hx2, hy2⟩ := it2 v
 simp [zwm, hvx, hvx2, Nat.add_assoc]
 rw [← hvx, ← hvx2]
 refine zLT data hk t ht v hv _ _ ?_
 simp
 exact Out.bool rfl (Nat.le_refl _) hs (by simpa using hK)
theorem zMg (data : List Dat) (hk : za5 data) (k n : Int) (ks : List VT) (ht : (VT.mk k n ks).nodes ≤ 1000) (c : Int) {l : List VT} {bs : List Bool} (hf : zaR data (.mk k n ks) c = some l)
  (hlb : l.length = bs.length) (hl8 : l.length ≤ 8) (hfine : zaY data (.mk k n ks) = true) (hrec : ∀ H K, K (.sl (zbq bs) .none) H → ACalls tP zdf [.sl (data.map Dat.cs) .none, .int .i64 n, .int .i64 c] H K) (H : zaa) (K : Kt)
  (hK : K (.tup [.sl (zaE (pos false bs bs.length)) .none, .sl (zaE (pos true bs bs.length)) .none, .bool true]) H) :
  ACalls tP znB [.sl (data.map Dat.cs) .none, .agg (VT.mk k n ks).cs, .int .i64 c] H K := by
 refine ACalls.out (zMe fun hs => ?_)
 obtain ⟨f1, f2, f3⟩ := zc6 hk
 simp [zyQ, VT.cs, Nat.add_assoc]
 refine zrf data hk (.mk k n ks) (by omega) _ _ ?_
 simp [hfine]
 refine zfT data f1 f2 f3 (.mk k n ks) ht c _ _ ?_
 rw [hf]
 simp [zbN]
 refine hrec _ _ ?_
 simp [zdd]
 unfold zlg
 refine ALoop.own 6 za8 1 rfl ?_
 refine ALoop.own 7 za8 1 rfl ?_
 have hl1 : (H ++ [AB.cells [AV.int IntKind.i64 k, AV.int IntKind.i64 n, AV.sl (VT.css ks) Tok.none]]).length = H.length + 1 := by simp
 have hl2 : (H ++ [AB.cells [AV.int IntKind.i64 k, AV.int IntKind.i64 n, AV.sl (VT.css ks) Tok.none]] ++ [AB.perm za8 1 0]).length = H.length + 2 := by simp
 rw [hl1, hl2]
 show zlg (.sl [] (.own (H.length + 1))) (.sl [] (.own (H.length + 2))) (.sl (zbq bs) .none) (.int .i64 bs.length) (.int .i64 0) (H ++ [.cells [.int .i64 k, .int .i64 n, .sl (VT.css ks) .none]] ++ [.perm za8 1 0] ++ [.perm za8 1 0]) (Out H.length K)
 have hperm : ∀ m m2, HSc (H ++ [.cells [.int .i64 k, .int .i64 n, .sl (VT.css ks) .none], .perm za8 1 m, .perm za8 1 m2]) := fun m m2 => hs.append (by simp [AB.sc, AV.scA, AV.scB])
 refine zMc (Inv := fun q t6 t7 t32 H' => ∃ i : Nat, i ≤ bs.length ∧ q = bs.length - i ∧ t32 = .int .i64 i ∧ t6 = .sl (zaE (pos false bs i)) (.own (H.length + 1)) ∧ t7 = .sl (zaE (pos true bs i)) (.own (H.length + 2)) ∧
  H' = H ++ [.cells [.int .i64 k, .int .i64 n, .sl (VT.css ks) .none], .perm za8 1 (pos false bs i).length, .perm za8 1 (pos true bs i).length]) bs.length ?_ ?_
 ·intro _; exact ⟨0, by omega, by omega, rfl, by simp [pos, zaE], by simp [pos, zaE], by simp [pos]⟩
 ·rintro q t6 t7 t32 H' ⟨i, hi, rfl, rfl, rfl, rfl, rfl⟩ hsc' hlen hsF Kb hKb
  by_cases hlt : i < bs.length
  ·have hp1 := zfx false bs i hlt
   have hp2 := zfx true bs i hlt
   have hn1 := zdu false bs i
   have hn2 := zdu true bs i
   have hnext : zlf (.sl (zaE (pos false bs (i + 1))) (.own (H.length + 1))) (.sl (zaE (pos true bs (i + 1))) (.own (H.length + 2))) (.sl (zbq bs) .none) (.int .i64 bs.length) (.int .i64 i)
     (H ++ [.cells [.int .i64 k, .int .i64 n, .sl (VT.css ks) .none], .perm za8 1 (pos false bs (i + 1)).length, .perm za8 1 (pos true bs (i + 1)).length]) (Out H.length K) Kb := by
    simp [zlf, zyR]
    rw [zar (by omega) (by omega)]
    refine hKb _ _ ⟨bs.length - (i + 1), by omega, Back.at (J := []) (H2 := H ++ [.cells [.int .i64 k, .int .i64 n, .sl (VT.css ks) .none], .perm za8 1 (pos false bs (i + 1)).length, .perm za8 1 (pos true bs (i + 1)).length]) (by simp) (by simp) (hperm _ _) ?_ ⟨_, _, _, rfl, i + 1, by omega, rfl, by simp, rfl, rfl, rfl⟩⟩
    simp [zle, AV.sc, AV.scV, AV.scA, AV.scB]
   cases hbi : bs[i] with
   | true =>
    rw [hbi] at hp1 hp2
    simp at hp1 hp2
    rw [hp1, hp2] at hnext
    simp [zld, zdd, hlt, zeu, hbi, zaz, za9, zaB, AV.pd, zaw, zaX, zaO, zcc]
    refine ⟨⟨by omega, by omega⟩, ?_⟩
    simpa [zgR, zaE] using hnext
   | false =>
    rw [hbi] at hp1 hp2
    simp at hp1 hp2
    rw [hp1, hp2] at hnext
    simp [zld, zdd, hlt, zeu, hbi, zaz, za9, zaB, AV.pd, zaw, zaX, zaO, zcc]
    refine ⟨⟨by omega, by omega⟩, ?_⟩
    simpa [zgR, zaE] using hnext
  ·obtain rfl : i = bs.length := by omega
   simp [zld]
   refine ⟨⟨rfl, rfl, rfl⟩, ?_⟩
   exact Out.tup (bs := [.sl (zaE (pos false bs bs.length)) .none, .sl (zaE (pos true bs bs.length)) .none, .bool true]) hs hK ⟨slV, slV, za1 rfl rfl, trivial⟩
theorem zKU (data : List Dat) (hk : za5 data) (t : VT) (ht : t.nodes ≤ 1000) (H : zaa) (K : Kt) (hK : zaY data t = true → K (.tup [.agg (zbf t).cs, .bool true]) H) (hf : zaY data t = true) :
  ACalls tP znv [.sl (data.map Dat.cs) .none, .agg t.cs] H K := by
 refine ACalls.out (zKT fun hs => ?_)
 obtain ⟨x, y, z, hvx, hx, hy, hz⟩ := zaK t
 simp [zyp, hvx, hx, hy, hz]
 rw [← hvx]
 refine zrf data hk t (by omega) _ _ ?_
 simp [hf, hvx, hx, hy, hz]
 rw [← hvx]
 refine zNn _ t (Nat.le_refl _) (by omega) _ _ ?_
 obtain ⟨p, q, hzz, hp, hq⟩ := zc5 (zbf t)
 have hK := hK hf
 rw [hzz] at hK ⊢
 simp [hp, hq]
 refine ⟨⟨rfl, rfl⟩, ?_⟩
 exact Out.tup (bs := [.agg [p, q], .bool true]) hs hK ⟨za1 rfl (by have := (zbf t).cs_scA H.length; rw [hzz] at this; simpa [AV.scV] using this), za1 rfl rfl, trivial⟩
theorem zfv {H : zaa} {K : AV → zaa → Prop} {r : AV} (hsc : HSc H) (hv : r.isV = true) (hr : r.scV H.length = true) (h : K r H) : Out H.length K r H := by
 have := Out.same (J := []) rfl hsc hv hr h
 simpa using this
theorem ztI (a : Int) (H : zaa) (K : AV → zaa → Prop) (hK : K (.bool false) H) : ACalls tP zh1 [.int .i64 a] H K := by
 refine ACalls.out (zFM fun hs => ?_)
 simp [zwn]
 exact zfv hs rfl rfl hK
theorem zsz (a b : Int) (H : zaa) (K : AV → zaa → Prop) (hK : K (.int .i64 (icmp a b)) H) : ACalls tP ziD [.int .i64 a, .int .i64 b] H K := by
 refine ACalls.out (zO5 fun hs => ?_)
 unfold zzG
 refine ztI _ _ _ (ztI _ _ _ ?_)
 have hO := zfv (K := K) (H := H) (r := .int .i64 (icmp a b)) hs rfl rfl hK
 by_cases h1 : a < b
 ·simp [h1]; simpa [icmp, h1] using hO
 ·by_cases h2 : b < a
  ·simp [h1, h2]; simpa [icmp, h1, h2] using hO
  ·simp [h1, h2]; simpa [icmp, h1, h2] using hO
def orL : List Int → Int
 | [] => 0
 | a :: l => cor a (orL l)
theorem zBL (l : List Int) (tok : Tok) (hl : l.length ≤ 1000000) (H : zaa) (K : AV → zaa → Prop) (hK : K (.int .i64 (orL l)) H) : ACalls tP znH [.sl (l.map fun x => [.int .i64 x]) tok] H K := by
 refine ACalls.out (zO1 fun hs => ?_)
 simp [zzE]
 refine zOZ (Inv := fun q t8 H' => ∃ i : Nat, i ≤ l.length ∧ q = l.length - i ∧ t8 = .int .i64 i ∧ orL (l.drop i) = orL l ∧ H' = H) l.length ?_ ?_
 ·intro _; exact ⟨0, by omega, by omega, rfl, by simp, rfl⟩
 ·rintro q t8 H' ⟨i, hi, rfl, rfl, ho, rfl⟩ hsc hlen hsF Kb hKb
  by_cases hlt : i < l.length
  ·rw [List.drop_eq_getElem_cons hlt, orL] at ho
   by_cases hz : l[i] = 0
   ·rw [zsF hz] at ho
    simp [zl2, hlt, hz]
    rw [zar (by omega) (by omega)]
    refine hKb _ _ ⟨l.length - (i + 1), by omega, Back.here (Nat.le_refl _) hs ?_ ⟨_, rfl, i + 1, by omega, rfl, by simp, ho, rfl⟩⟩
    simpa [zl3, AV.sc, AV.scV, AV.scA, AV.scB] using hsF
   ·rw [zsE hz] at ho
    have hz : (l[i] != 0) = true := by simpa using hz
    simp [zl2, hlt, hz]
    rw [← ho] at hK
    exact zfv hs rfl rfl hK
  ·simp [zl2, hlt]
   obtain rfl : i = l.length := by omega
   rw [List.drop_length] at ho
   rw [← ho] at hK
   exact zfv hs rfl rfl hK
theorem zsA (ks ks' : List IT) (he : ks.length = ks'.length) (hb : ks.length ≤ 1000000)
  (hc : ∀ (i : Nat) (h : i < ks.length) (h' : i < ks'.length) (H : zaa) (K : AV → zaa → Prop), K (.int .i64 (IT.cmp ks[i] ks'[i])) H → ACalls tP zfs [.agg ks[i].cs, .agg ks'[i].cs] H K)
  (H : zaa) (K : AV → zaa → Prop) (hK : K (.int .i64 (IT.cmpL ks ks')) H) : ACalls tP zio [.sl (IT.css ks) .none, .sl (IT.css ks') .none, .fn zfs []] H K := by
 refine ACalls.out (zMu fun hs => ?_)
 simp [zyY]
 refine zMs (Inv := fun q t13 H' => ∃ i : Nat, i ≤ ks.length ∧ q = ks.length - i ∧ t13 = .int .i64 i ∧ IT.cmpL (ks.drop i) (ks'.drop i) = IT.cmpL ks ks' ∧ H' = H) ks.length ?_ ?_
 ·intro _; exact ⟨0, by omega, by omega, rfl, by simp, rfl⟩
 ·rintro q t8 H' ⟨i, hi, rfl, rfl, ho, rfl⟩ hsc hlen hsF Kb hKb
  by_cases hlt : i < ks.length
  ·have hlt' : i < ks'.length := by omega
   have hle : ¬ ks'.length ≤ i := by omega
   rw [IT.cmpL_drop hlt hlt'] at ho
   simp [zqZ, hlt, hlt', hle]
   refine hc i hlt hlt' _ _ ?_
   by_cases hz : IT.cmp ks[i] ks'[i] = 0
   ·rw [zsF hz] at ho
    simp [hz]
    rw [zar (by omega) (by omega)]
    refine hKb _ _ ⟨ks.length - (i + 1), by omega, Back.same (Nat.le_refl _) hs ?_ ⟨_, rfl, i + 1, by omega, rfl, by simp, ho, rfl⟩⟩
    simp [zlm, AV.sc, AV.scV, AV.scA, AV.scB]
   ·rw [zsE hz] at ho
    have hz : (IT.cmp ks[i] ks'[i] != 0) = true := by simpa using hz
    simp [hz]
    rw [← ho] at hK
    exact Out.same rfl hs rfl rfl hK
  ·have hnl : ¬ ks.length < ks'.length := by omega
   simp [zqZ, hlt, hnl]
   obtain rfl : i = ks.length := by omega
   rw [List.drop_length, he, List.drop_length] at ho
   rw [← ho] at hK
   exact zfv hs rfl rfl hK
theorem zA4 : ∀ (m : Nat) (v w : IT), v.nodes ≤ m → v.nodes ≤ 1000000 → ∀ (H : zaa) (K : AV → zaa → Prop), K (.int .i64 (IT.cmp v w)) H → ACalls tP zfs [.agg v.cs, .agg w.cs] H K := by
 intro m
 induction m with
 | zero => intro v w h; have := v.nodes_pos; omega
 | succ m ih =>
  intro v w hv hb H K hK
  obtain ⟨n, ks⟩ := v
  obtain ⟨n', ks'⟩ := w
  have hnl : IT.nodesL ks + 1 ≤ 1000000 := by simpa [IT.nodes] using hb
  have hll := IT.len_le ks
  refine ACalls.out (zMy fun hs => ?_)
  simp [IT.cs, zy0]
  refine zaF _ (fun J => zsz _ _ _ _ ⟨rfl, rfl⟩) ?_
  refine zaF _ (fun J => zsz _ _ _ _ ⟨rfl, rfl⟩) ?_
  simp [zaz, za9, zaB, List.replicate]
  refine zaF _ (fun J => zBL [icmp n n', icmp ks.length ks'.length] _ (by simp) _ _ ⟨rfl, rfl⟩) ?_
  by_cases hz : orL [icmp n n', icmp ks.length ks'.length] = 0
  ·have hz' := hz
   simp only [orL, zgc] at hz
   have hlen : ks.length = ks'.length := by have := (zmI _ _).mp hz.2.1; omega
   simp [hz']
   refine zsA ks ks' hlen (by omega) (fun i h h' H K hK => ?_) _ _ ?_
   ·have := IT.kid_lt (n := n) h
    exact ih _ _ (by omega) (by omega) H K hK
   ·refine Out.same rfl hs rfl rfl ?_
    simpa [IT.cmp, hz, cor] using hK
  ·have hzb : (orL [icmp n n', icmp ks.length ks'.length] != 0) = true := by simpa using hz
   simp [hzb]
   refine Out.same rfl hs rfl rfl ?_
   have e : IT.cmp (.mk n ks) (.mk n' ks') = orL [icmp n n', icmp ks.length ks'.length] := by
    simp only [IT.cmp, orL, cor] at hz ⊢
    split <;> (try split) <;> (try split) <;> simp_all
   rwa [e] at hK
end Go.Proofs.YtjkkonpjecoieaaGreat
