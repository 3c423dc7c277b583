import Derived.Test.YtacebbdfgbfgiaaGreatKGY3
import Derived.Test.YtacebbdfgbfgiaaGreatTK
import Derived.Test.YtacebbdfgbfgiaaGreatAbsO3
import Derived.Test.YtacebbdfgbfgiaaGreatKGX
import Derived.Test.YtacebbdfgbfgiaaGreatKGH
import Derived.Test.YtacebbdfgbfgiaaGreatIT
set_option linter.unusedSimpArgs false
set_option linter.unusedVariables false
namespace Go.Proofs.YtacebbdfgbfgiaaGreat
open Go Go.Abs
set_option maxRecDepth 8000
def zat (r : List IT) : List AV := (IT.css r).flatten
theorem zdb (x : IT) (r : List IT) : zat (x :: r) = x.cs ++ zat r := by simp [zat, IT.css_map]
theorem zbR : ∀ r : List IT, (zat r).length = r.length * 2
 | [] => rfl
 | x :: r => by rw [zdb, List.length_append, IT.cs_len, zbR r, List.length_cons]; omega
theorem zk7 (r : List IT) : (zat r).all AV.known = true := by
 induction r with
 | nil => rfl
 | cons x r ih => rw [zdb, List.all_append, ih]; simp
theorem zg9 (n : Nat) (r : List IT) : (zat r).all (AV.scA n) = true := by
 induction r with
 | nil => rfl
 | cons x r ih => rw [zdb, List.all_append, ih]; simp
theorem zdy : ∀ (r : List IT) (p : Nat) (x : IT), p < r.length → (zat r).take (p * 2) ++ x.cs ++ (zat r).drop (p * 2 + 2) = zat (r.set p x)
 | [], p, x, h => by simp at h
 | y :: r, 0, x, h => by
  rw [zdb, List.set_cons_zero, zdb]
  obtain ⟨a, b, hy, _, _⟩ := zcE y
  simp [hy]
 | y :: r, p + 1, x, h => by
  have ih := zdy r p x (by simpa using h)
  rw [zdb, List.set_cons_succ, zdb, ← ih]
  obtain ⟨a, b, hy, _, _⟩ := zcE y
  rw [show (p + 1) * 2 = p * 2 + 2 by omega, hy]
  simp
def CellR (H : zaa) (lo id : Nat) (c : AV) (r : List IT) : Prop :=
 (r = [] ∧ c = .sl [] .none) ∨ (r ≠ [] ∧ ∃ b, c = .ov b r.length ∧ lo ≤ b ∧ b ≠ id ∧ H[b]? = some (.vec zaO 2 r.length (zat r)))
def RowsH (H : zaa) (lo id : Nat) (rows : List (List IT)) : Prop :=
 lo ≤ id ∧ ∃ cs, H[id]? = some (.vec zay 1 rows.length cs) ∧ All2 (CellR H lo id) cs rows
theorem CellR.keep {H H' : zaa} {lo id lo' id' : Nat} {c : AV} {r : List IT} (h : CellR H lo id c r) (hlo : lo' ≤ lo) (hid : ∀ b, lo ≤ b → b ≠ id → b < H.length → b ≠ id' ∧ H'[b]? = H[b]?) : CellR H' lo' id' c r := by
 rcases h with h | ⟨h0, b, rfl, h1, h2, h3⟩
 ·exact .inl h
 ·have := hid b h1 h2 (List.getElem?_eq_some_iff.1 h3).1
  exact .inr ⟨h0, b, rfl, by omega, this.1, by rw [this.2]; exact h3⟩
theorem CellR.sc {H : zaa} {lo id : Nat} {c : AV} {r : List IT} (h : CellR H lo id c r) : c.scA H.length = true ∧ c.known = true := by
 rcases h with ⟨_, rfl⟩ | ⟨h0, b, rfl, h1, h2, h3⟩
 ·exact ⟨rfl, rfl⟩
 ·have := (List.getElem?_eq_some_iff.1 h3).1
  exact ⟨by simpa [AV.scA, AV.scB] using this, rfl⟩
theorem ze3 {H : zaa} {lo id : Nat} : ∀ {cs : List AV} {rows : List (List IT)}, All2 (CellR H lo id) cs rows → cs.all (AV.scA H.length) = true ∧ cs.all AV.known = true
 | [], [], _ => ⟨rfl, rfl⟩
 | c :: cs, r :: rows, h => by
  obtain ⟨h1, h2⟩ := ze3 h.2
  obtain ⟨h3, h4⟩ := h.1.sc
  simp only [List.all_cons, h1, h2, h3, h4, Bool.and_self, and_self]
theorem zj2 (ps : List Nat) (row l : List IT) : (zaN row ps l).length ≤ (l.length + 1) ^ ps.length := by
 rw [zep, List.length_map]
 exact zhd _ _
theorem zu1 (row l : List IT) (p : Nat) (ps : List Nat) : zaN row (p :: ps) l = (List.range (l.length + 1)).flatMap fun n => zaN (row.set p (.mk 0 (l.take n))) ps (l.drop n) := rfl
def upR (row l : List IT) (p : Nat) (ps : List Nat) (i : Nat) : List (List IT) := (List.range i).flatMap fun n => zaN (row.set p (.mk 0 (l.take n))) ps (l.drop n)
theorem zhp (row l : List IT) (p : Nat) (ps : List Nat) (i : Nat) : upR row l p ps (i + 1) = upR row l p ps i ++ zaN (row.set p (.mk 0 (l.take i))) ps (l.drop i) := by
 simp [upR, List.range_succ]
theorem zxn (row l : List IT) (p : Nat) (ps : List Nat) (i : Nat) : (upR row l p ps i).length ≤ i * (l.length + 1) ^ ps.length := by
 refine Nat.le_trans (zgn (N := (l.length + 1) ^ ps.length) _ _ fun n _ => ?_) (by simp)
 exact Nat.le_trans (zj2 _ _ _) (Nat.pow_le_pow_left (by simp) _)
theorem zd3 {H X : zaa} {i : Nat} {b : AB} (h : H <+: X) (hi : H.length ≤ i) : H <+: X.set i b := by
 obtain ⟨J, rfl⟩ := h
 rw [List.set_append_right _ _ hi]
 exact ⟨_, rfl⟩
theorem zd2 {H X : zaa} {i : Nat} (h : H <+: X) (hi : i < H.length) : X[i]? = H[i]? := by
 obtain ⟨J, rfl⟩ := h
 exact List.getElem?_append_left hi
theorem RowA.pre {H X : zaa} {a : AV} {n : Nat} {ds : List AV} (h : RowA H a n ds) (hp : H <+: X) : RowA X a n ds := by
 obtain ⟨J, rfl⟩ := hp
 exact h.app
theorem zf7 {e s b id id2 n m e2 : Nat} {cs cs2 : List AV} {H : zaa} {K : Kt} (h1 : H[id]? = some (.vec e s n cs)) (h2 : H[id2]? = some (.vec e2 s m cs2)) (hk : cs2.all AV.known = true) (hl : cs2.length = m * s) (hb1 : (n + m) * b ≤ 140737488355328) (hb2 : n + m ≤ 9223372036854775807)
  (h : K (.ov id (n + m)) (H.set id (.vec e s (n + m) (cs ++ cs2)))) : zar e s b (.ov id n) (.ov id2 m) H K := by
 simp only [zar, zbV, h1, h2, and_self, true_and]
 exact ⟨⟨hk, hl, hb1, hb2⟩, h⟩
theorem zmq : ∀ (ps : List Nat) (H : zaa) (a : AV) (row els : List IT) (K : Kt), RowA H a row.length (zat row) → (∀ p ∈ ps, p < row.length) → row.length ≤ 1000 → els.length ≤ 1000 → ps.length ≤ 1000 → (els.length + 1) ^ ps.length ≤ 100000000 →
  (∀ id H', H <+: H' → HSc H' → RowsH H' H.length id (zaN row ps els) → K (.ov id (zaN row ps els).length) H') →
  ACalls tP zd0 [a, .sl (zaz ps) .none, .sl (IT.css els) .none] H K
 | [], H, a, row, els, K, hr, hps, hrl, hel, hpl, hb, hK => by
  refine ACalls.vecRes zay 1 (ACalls.withSc ?_)
  refine zsb fun hs => ?_
  cases els with
  | cons x els =>
   simp [zie, zaz]
   intro _
   left
   have := hK H.length (H ++ [.vec zay 1 0 []]) ⟨_, rfl⟩ (hs.append (by simp [AB.sc])) ⟨Nat.le_refl _, [], by simp [zaN], by simp [zaN]; trivial⟩
   simpa [zaN] using this
  | nil =>
   simp [zie, zaz, IT.css]
   refine zqs hr (by omega) _ (fun h0 => ?_) (fun h0 => ?_)
   ·have hrow : row = [] := by cases row <;> simp_all
    subst hrow
    simp [zcC, AV.oneK]
    intro hsc
    have := hK H.length (H ++ [.vec zay 1 1 [.sl [] .none]]) ⟨_, rfl⟩ hsc ⟨Nat.le_refl _, [.sl [] .none], by simp [zaN], ⟨.inl ⟨rfl, rfl⟩, trivial⟩⟩
    simpa [zaN] using this
   ·simp [zcC, AV.oneK]
    intro hsc
    have hne : row ≠ [] := by rintro rfl; simp at h0
    have := hK (H.length + 1) (H ++ [.vec zaO 2 row.length (zat row), .vec zay 1 1 [.ov H.length row.length]]) ⟨_, rfl⟩ (by simpa using hsc) ⟨by omega, [.ov H.length row.length], by simp [zaN],
     ⟨.inr ⟨hne, H.length, rfl, Nat.le_refl _, by omega, by simp⟩, trivial⟩⟩
    simpa [zaN] using this
 | p :: ps, H, a, row, els, K, hr, hps, hrl, hel, hpl, hb, hK => by
  refine zsb fun hs => ?_
  have hp := hps p (by simp)
  have hpow : (els.length + 1) ^ (ps.length + 1) = (els.length + 1) ^ ps.length * (els.length + 1) := Nat.pow_succ _ _
  have hb1 : (els.length + 1) ^ ps.length * (els.length + 1) ≤ 100000000 := by rw [← hpow]; simpa using hb
  have hb2 : (els.length + 1) ^ ps.length ≤ 100000000 := Nat.le_trans (Nat.le_mul_of_pos_right _ (by omega)) hb1
  have hnl : ((ps.length + 1 : Nat) : Int) ≠ 0 := by omega
  have hn0 : ((zaz (p :: ps)).length == 0) = false := by simp [zaz]
  simp [zie, zbB]
  rw [zal (by omega) (by omega)]
  unfold zih
  refine ALoop.vec 7 zay 1 rfl ?_
  show zih a (.sl (zaz (p :: ps)) .none) (.sl (IT.css els) .none) (.ov H.length 0) (.int .i64 ((els.length : Int) + 1)) (.int .i64 0) (H ++ [.vec zay 1 0 []]) K
  refine zAP (Inv := fun q t7 t22 H' => ∃ i : Nat, i ≤ els.length + 1 ∧ q = els.length + 1 - i ∧ t22 = .int .i64 i ∧ t7 = .ov H.length (upR row els p ps i).length ∧ H <+: H' ∧ RowsH H' H.length H.length (upR row els p ps i)) (els.length + 1) ?_ ?_
  ·intro _; exact ⟨0, by omega, by omega, rfl, by simp [upR], ⟨_, rfl⟩, Nat.le_refl _, [], by simp [upR], by simp [upR]; trivial⟩
  ·rintro q t7 t22 H' ⟨i, hi, rfl, rfl, rfl, hpre, hlo, cs, hcs, hcells⟩ hsc hlen hsF Kb hKb
   by_cases hlt : i < els.length + 1
   ·have hHl : H.length < H'.length := (List.getElem?_eq_some_iff.1 hcs).1
    have hlt' : ((i : Int) < (els.length : Int) + 1) := by omega
    simp [zmm, hlt']
    refine zqs (hr.pre hpre) (by omega) _ (fun h0 => by omega) (fun h0 => ?_)
    have hn0 : 0 < row.length := by omega
    have hti : (i : Int) ≤ els.length := by omega
    simp [zaz, zav, zaU]
    refine ⟨⟨by omega, by simp [IT.css_map]⟩, hp, by rw [zbR]; omega, ?_⟩
    have htk : List.take i (IT.css els) = IT.css (els.take i) := by rw [IT.css_map, IT.css_map, List.map_take]
    have hset := zdy row p (.mk 0 (els.take i)) hp
    rw [htk]
    simp only [IT.cs, List.append_assoc, List.cons_append, List.nil_append] at hset
    rw [hset]
    have hda : IT.css (els.drop i) = List.drop i (IT.css els) := by rw [IT.css_map, IT.css_map, List.map_drop]
    have hcall : ACalls tP zd0 [.ov H'.length row.length, .sl (zaz ps) .none, .sl (IT.css (els.drop i)) .none] (H' ++ [.vec zaO 2 row.length (zat (row.set p (.mk 0 (els.take i))))]) (fun t43 H2 => zar zay 1 24 (.ov H.length (upR row els p ps i).length) t43 H2 fun t44 H3 => t44 = .ov H.length (upR row els p ps (i + 1)).length ∧ H <+: H3 ∧ HSc H3 ∧ RowsH H3 H.length H.length (upR row els p ps (i + 1))) := by
     refine zmq ps _ _ (row.set p (.mk 0 (els.take i))) (els.drop i) _ ⟨by rw [zbR], zk7 _, .inr ⟨by simpa using hn0, H'.length, zaO, by simp, by simp⟩⟩ (fun q hq => by simpa using hps q (by simp [hq])) (by simpa using hrl) (by simp; omega) (by simp at hpl; omega)
      (Nat.le_trans (Nat.pow_le_pow_left (by simp) _) hb2) ?_
     rintro id H2 hp2 hsc2 ⟨hlo2, cs2, hcs2, hcells2⟩
     have hH1 : H' <+: H2 := List.IsPrefix.trans ⟨_, rfl⟩ hp2
     have hget : H2[H.length]? = some (.vec zay 1 (upR row els p ps i).length cs) := by rw [zd2 hH1 hHl]; exact hcs
     have hlt2 := (List.getElem?_eq_some_iff.1 hcs2).1
     have hne : id ≠ H.length := by simp at hlo2; omega
     have hm1 := zxn row els p ps (i + 1)
     rw [zhp, List.length_append] at hm1
     have hm2 : (i + 1) * (els.length + 1) ^ ps.length ≤ 100000000 := Nat.le_trans (Nat.mul_le_mul_right _ (by omega : i + 1 ≤ els.length + 1)) (by rw [Nat.mul_comm]; exact hb1)
     have hl2 := hcells2.length
     have hk2 := ze3 hcells2
     have hx1 : All2 (CellR H2 H.length H.length) cs (upR row els p ps i) := hcells.mono fun c r hc => hc.keep (Nat.le_refl _) fun b _ hb hb2 => ⟨hb, zd2 hH1 hb2⟩
     have hlg := (List.getElem?_eq_some_iff.1 hget).1
     refine zf7 hget hcs2 hk2.2 (by rw [hl2]; simp) (by omega) (by omega) ?_
     refine ⟨by rw [zhp, List.length_append], zd3 (List.IsPrefix.trans hpre hH1) (Nat.le_refl _), hsc2.set ?_, Nat.le_refl _, cs ++ cs2, ?_, ?_⟩
     ·simp only [AB.sc, List.all_append, hk2.1, (ze3 hx1).1, Bool.and_self]
     ·rw [List.getElem?_set_self hlg, zhp, List.length_append]
     ·rw [zhp]
      have hkp : ∀ b, b < H2.length → b ≠ H.length → (H2.set H.length (.vec zay 1 ((upR row els p ps i).length + (zaN (row.set p (.mk 0 (els.take i))) ps (els.drop i)).length) (cs ++ cs2)))[b]? = H2[b]? := fun b _ hb => List.getElem?_set_ne (fun h => hb h.symm)
      refine (hx1.mono fun c r hc => hc.keep (Nat.le_refl _) fun b _ hb hb2 => ⟨hb, hkp b hb2 hb⟩).append (hcells2.mono fun c r hc => hc.keep (by simp; omega) fun b hb1 hb hb2 => ?_)
      have : b ≠ H.length := by simp at hb1; omega
      exact ⟨this, hkp b hb2 this⟩
    have hasc : ∀ n, H.length ≤ n → a.sc n = true := fun n hn => by
     obtain ⟨_, _, h⟩ := hr
     rcases h with ⟨id, rfl, h⟩ | ⟨_, id, e, rfl, h⟩
     ·have := (List.getElem?_eq_some_iff.1 h).1
      simp [AV.sc, AV.scV, AV.scA, AV.scB]; omega
     ·have := (List.getElem?_eq_some_iff.1 h).1
      simp [AV.sc, AV.scV, AV.scA, AV.scB]; omega
    have hfin : ∀ H3, H <+: H3 → HSc H3 → RowsH H3 H.length H.length (upR row els p ps (i + 1)) → zmo a (.sl (zaz (p :: ps)) .none) (.sl (IT.css els) .none) (.ov H.length (upR row els p ps (i + 1)).length) (.int .i64 ((els.length : Int) + 1)) (.int .i64 i) H3 K Kb := by
     intro H3 g1 g2 g3
     have hl3 := (List.getElem?_eq_some_iff.1 g3.2.choose_spec.1).1
     simp [zmo]
     rw [zal (by omega) (by omega)]
     refine hKb _ _ ⟨els.length + 1 - (i + 1), by omega, Back.at (J := []) (H2 := H3) (by simp) (by simp; omega) g2 ?_ ⟨_, _, rfl, i + 1, by omega, rfl, by simp, rfl, g1, g3⟩⟩
     simp [zig, AV.sc, AV.scV, AV.scA, AV.scB, hl3]
     exact hasc _ (by omega)
    refine zwd zAS ?_
    rw [zAR]
    have hl1 : List.take ps.length (List.map (fun n : Nat => [AV.int .i64 (n : Int)]) ps) = zaz ps := by rw [List.take_of_length_le (by simp)]; rfl
    have hl2 : List.take els.length (IT.css els) = IT.css els := List.take_of_length_le (by simp)
    simp [hl1, hl2, ← hda]
    refine ⟨⟨by omega, by simp [IT.css_map]⟩, ?_⟩
    refine ACalls.monoZ hcall fun t43 H2 h => zom (fun t44 H3 h3 => ?_) h
    obtain ⟨rfl, h1, h2, h3⟩ := h3
    exact zAO fun _ => hfin _ h1 h2 h3
   ·obtain rfl : i = els.length + 1 := by omega
    have hlt' : ¬ ((els.length : Int) + 1 < (els.length : Int) + 1) := by omega
    simp [zmm]
    exact hK H.length H' hpre hsc ⟨Nat.le_refl _, cs, hcs, hcells⟩
theorem zDK (data : List Dat) (hk : za6 data) (t : VT) (ht : t.nodes ≤ 1000) (c : Int) (H : zaa) (K : Kt) (hK : K (zbK (zbG data t c)) H) :
  ACalls tP zkL [.sl (data.map Dat.cs) .none, .agg t.cs, .int .i64 c] H K := by
 refine ACalls.out (zDI fun hs => ?_)
 obtain ⟨f1, f2, f3⟩ := zc6 hk
 obtain ⟨k, n, ks⟩ := t
 simp [zs6, VT.cs, Nat.add_assoc]
 refine zhR data f1 f2 f3 (.mk k n ks) ht c _ _ ?_
 cases hf : zaL data (.mk k n ks) c with
 | none =>
  rw [zp0 hf] at hK
  simp [zbK]
  refine ⟨⟨rfl, rfl⟩, ?_⟩
  exact Out.tup (bs := [.sl [] .none, .bool false]) hs hK ⟨zd5, za4 rfl rfl, trivial⟩
 | some l =>
  obtain ⟨bs, hlb, hl8, hpay, h200, k5, _, hrec⟩ := zk1 hk hf
  rw [hpay] at hK
  simp [zbK]
  refine ztc data hk k n ks ht c hf hlb hl8 hrec _ _ ?_
  simp [zbB]
  unfold zjd
  refine ALoop.own 13 zaP 3 rfl ?_
  have hl1 : (H ++ [AB.cells [AV.int IntKind.i64 k, AV.int IntKind.i64 n, AV.sl (VT.css ks) Tok.none]]).length = H.length + 1 := by simp
  rw [hl1]
  have hpp := zg6 hlb (.mk 0 0 []) l.length (Nat.le_refl _)
  rw [List.take_length, hlb, List.take_length] at hpp
  rw [hpp] at hK
  have hpt : ∀ j ∈ pos false bs bs.length, j < l.length := fun j hj => by have := zfD hj; omega
  have hp8 := zcR false bs bs.length
  generalize pos false bs bs.length = P at *
  show zjd (.sl (VT.css l) .none) (.sl [] (.own (H.length + 1))) (.sl (zaz P) .none) (.int .i64 P.length) (.int .i64 0) (H ++ [.cells [.int .i64 k, .int .i64 n, .sl (VT.css ks) .none]] ++ [.perm zaP 3 0]) (Out H.length K)
  have hperm : ∀ m, HSc (H ++ [.cells [.int .i64 k, .int .i64 n, .sl (VT.css ks) .none], .perm zaP 3 m]) := fun m => hs.append (by simp [AB.sc, AV.scA, AV.scB])
  refine zDG (Inv := fun q t13 t35 H' => ∃ i : Nat, i ≤ P.length ∧ q = P.length - i ∧ t35 = .int .i64 i ∧ t13 = .sl (VT.css ((P.take i).map fun j => l.getD j (.mk 0 0 []))) (.own (H.length + 1)) ∧ H' = H ++ [.cells [.int .i64 k, .int .i64 n, .sl (VT.css ks) .none], .perm zaP 3 i]) P.length ?_ ?_
  ·intro _; exact ⟨0, by omega, by omega, rfl, by simp [VT.css], by simp⟩
  ·rintro q t13 t35 H' ⟨i, hi, rfl, rfl, rfl, rfl⟩ hsc' hlen hsF Kb hKb
   by_cases hlt : i < P.length
   ·have hj := hpt _ (List.getElem_mem hlt)
    simp [zns, zbB, zfz, hlt, hj]
    rw [zdQ]
    simp [zar, zaW, zaI, Nat.min_eq_left hi]
    refine ⟨⟨by omega, by omega⟩, ?_⟩
    rw [zal (by omega) (by omega)]
    have hst : VT.css (List.take i (List.map (fun j => l[j]?.getD (VT.mk 0 0 [])) P)) ++ [(l[P[i]]'hj).cs] = VT.css ((P.take (i + 1)).map fun j => l.getD j (.mk 0 0 [])) := by
     rw [List.take_succ_eq_append_getElem hlt, VT.css_map, VT.css_map, List.map_append, List.map_append, List.map_take]
     simp [List.getD_eq_getElem?_getD, hj]
    rw [hst]
    refine hKb _ _ ⟨P.length - (i + 1), by omega, Back.at (J := []) (H2 := H ++ [.cells [.int .i64 k, .int .i64 n, .sl (VT.css ks) .none], .perm zaP 3 (i + 1)]) (by simp) (by simp) (hperm _) ?_ ⟨_, _, rfl, i + 1, by omega, rfl, by simp, rfl, rfl⟩⟩
    simp [zjc, AV.sc, AV.scV, AV.scA, AV.scB]
   ·obtain rfl : i = P.length := by omega
    rw [List.take_length] at *
    simp [zns, zbB]
    refine ⟨⟨rfl, rfl⟩, ?_⟩
    exact Out.tup (bs := [.sl (VT.css (P.map fun j => l.getD j (.mk 0 0 []))) .none, .bool true]) hs hK ⟨slV, za4 rfl rfl, trivial⟩
theorem it2 (v : IT) : ∃ a b, v.cs = [a, b] ∧ a.known = true ∧ b.known = true := by
 obtain ⟨n, ks⟩ := v; exact ⟨_, _, rfl, rfl, rfl⟩
theorem zpy {data : List Dat} (h8 : ∀ D ∈ data, D.cons.length ≤ 8) (v : IT) (t : VT) (h : (zbO data v t).2 = true) : 0 ≤ (zbO data v t).1 ∧ (zbO data v t).1 ≤ 6 := by
 obtain ⟨e1, e2, e3⟩ := (zgb h8 v t).1 h
 omega
theorem zpx {data : List Dat} (h8 : ∀ D ∈ data, D.cons.length ≤ 8) : ∀ (vs : List IT) (ts : List VT) (a : Int), 0 ≤ a → 0 ≤ (zbq data vs ts a).1 ∧ (zbq data vs ts a).1 ≤ a + 6 * vs.length
 | [], ts, a, h => by simp [zbq]; omega
 | v :: vs, [], a, h => by simp [zbq]; omega
 | v :: vs, t :: ts, a, h => by
  simp only [zbq]
  split
  ·rename_i hb
   have := zpy h8 v t hb
   have := zpx h8 vs ts (a + (zbO data v t).1) (by omega)
   simp only [List.length_cons]
   omega
  ·simp; omega
theorem zk2 {x : VT} : ∀ {l : List VT} {bs : List Bool}, x ∈ pick l bs → x ∈ l
 | [], _, h => by simp [pick] at h
 | _ :: _, [], h => by simp [pick] at h
 | c :: l, b :: bs, h => by
  cases b with
  | true => simp [pick] at h; exact List.mem_cons_of_mem _ (zk2 h)
  | false =>
   simp [pick] at h
   rcases h with rfl | h
   ·exact List.mem_cons_self
   ·exact List.mem_cons_of_mem _ (zk2 h)
theorem zpZ {data : List Dat} {t : VT} {c : Int} {ps : List VT} (h : zbG data t c = some ps) : ∀ x ∈ ps, x.nodes ≤ 1000 := by
 unfold zbG at h
 obtain ⟨k, n, ks⟩ := t
 cases hf : zaL data (.mk k n ks) c with
 | none => rw [hf] at h; cases h
 | some l =>
  rw [hf] at h
  obtain ⟨_, _, _, _, _, _, _, h2⟩ := zfa hf
  simp at h
  subst h
  exact fun x hx => by have := h2 x (zk2 hx); omega
theorem zvv (data : List Dat) (n : Int) (ks : List IT) (tk tn : Int) (tks : List VT) : zbO data (.mk n ks) (.mk tk tn tks) =
  if tk = 6 then (if n = 0 then (if tks.length = ks.length then zbq data ks tks 0 else (0, false)) else (0, false))
  else if tk = 7 then (n, decide (0 ≤ n) && decide (n ≤ 6) && decide (ks.length = 0))
  else if tk = 5 then (if n = 0 then zcb data ks (.mk tk tn tks) 0 else (0, false))
  else (0, decide (n = 0) && decide (ks.length = 0)) := by
 rw [zbO]
 rfl
def zb6 (data : List Dat) (vs : List IT) (ts : List VT) : Int × Bool := if ts.length = vs.length then zbq data vs ts 0 else (0, false)
def zf6 (data : List Dat) (v : IT) : Prop := ∀ t : VT, t.nodes ≤ 1000 → ∀ (H : zaa) (K : Kt), K (.tup [.int .i64 (zbO data v t).1, .bool (zbO data v t).2]) H → ACalls tP zgT [.sl (data.map Dat.cs) .none, .agg t.cs, .agg v.cs] H K
theorem zcg {H : zaa} {K : Kt} {a : Int} {b : Bool} (hs : HSc H) (h : K (.tup [.int .i64 a, .bool b]) H) (J : zaa) : Out H.length K (.tup [.int .i64 a, .bool b]) (H ++ J) := Out.tup hs h ⟨za4 rfl rfl, za4 rfl rfl, trivial⟩
theorem ztr {data : List Dat} (h8 : ∀ D ∈ data, D.cons.length ≤ 8) (vs : List IT) (hv : vs.length ≤ 1000) (hel : ∀ v ∈ vs, zf6 data v) (ts : List VT) (ht : ∀ t ∈ ts, t.nodes ≤ 1000) (H : zaa) (K : Kt)
  (hK : K (.tup [.int .i64 (zb6 data vs ts).1, .bool (zb6 data vs ts).2]) H) : ACalls tP zgZ [.sl (data.map Dat.cs) .none, .sl (VT.css ts) .none, .sl (IT.css vs) .none] H K := by
 refine ACalls.out (zEN fun hs => ?_)
 have h0 : ∀ b J, zb6 data vs ts = (0, b) → Out H.length K (.tup [.int .i64 0, .bool b]) (H ++ J) := fun b J h => by rw [h] at hK; exact zcg hs hK J
 by_cases hl : ts.length = vs.length
 case neg =>
  have : ((ts.length : Int) != (vs.length : Int)) = true := by simp [bne]; omega
  simp [znH, this]
  refine ⟨⟨rfl, rfl⟩, ?_⟩
  simpa using h0 false [] (by simp [zb6, hl])
 have htot : zb6 data vs ts = zbq data vs ts 0 := by simp [zb6, hl]
 rw [htot] at hK h0
 simp [znH, hl]
 refine zEL (Inv := fun q t8 t20 H' => ∃ (i : Nat) (a : Int), i ≤ vs.length ∧ q = vs.length - i ∧ t20 = .int .i64 i ∧ t8 = .int .i64 a ∧ 0 ≤ a ∧ a ≤ 6 * i ∧ zbq data (vs.drop i) (ts.drop i) a = zbq data vs ts 0 ∧ H' = H) vs.length ?_ ?_
 ·intro _; exact ⟨0, 0, by omega, by omega, rfl, rfl, by omega, by omega, by simp, rfl⟩
 ·rintro q t8 t20 H' ⟨i, a, hi, rfl, rfl, rfl, ha0, ha6, ho, rfl⟩ hsc' hlen hsF Kb hKb
  by_cases hlt : i < vs.length
  ·have hlt' : i < ts.length := by omega
   rw [List.drop_eq_getElem_cons hlt, List.drop_eq_getElem_cons hlt'] at ho
   simp only [zbq] at ho
   obtain ⟨x, y, z, hvx, hx, hy, hz⟩ := zbj ts[i]
   obtain ⟨x2, y2, hvx2, hx2, hy2⟩ := it2 vs[i]
   have hti := ht _ (List.getElem_mem hlt')
   have hvi := hel _ (List.getElem_mem hlt)
   simp [znI, hl, hlt, hlt', hvx, hvx2, Nat.add_assoc]
   refine ⟨⟨hx, hy, hz⟩, ?_⟩
   rw [← hvx, ← hvx2]
   refine zbE (.tup [.int .i64 (zbO data vs[i] ts[i]).1, .bool (zbO data vs[i] ts[i]).2]) (fun J => hvi _ hti _ _ ⟨rfl, rfl⟩) ?_
   cases hb : (zbO data vs[i] ts[i]).2 with
   | false =>
    rw [hb] at ho
    simp at ho
    simp
    exact ⟨⟨rfl, rfl⟩, h0 _ _ ho.symm⟩
   | true =>
    rw [hb] at ho
    simp at ho
    have hbd := zpy h8 _ _ hb
    simp
    rw [zal (by omega) (by omega), zal (by omega) (by omega)]
    refine hKb _ _ ⟨vs.length - (i + 1), by omega, Back.at (J := [_]) rfl (Nat.le_refl _) hs ?_ ⟨_, _, rfl, i + 1, _, by omega, rfl, by simp, rfl, by omega, by simp; omega, ho, rfl⟩⟩
    simp [zju, AV.sc, AV.scV, AV.scA, AV.scB]
  ·obtain rfl : i = vs.length := by omega
   rw [List.drop_length] at ho
   simp only [zbq] at ho
   rw [← ho] at hK
   simp [znI, hl]
   refine ⟨⟨rfl, rfl⟩, ?_⟩
   have := zcg hs hK []
   simpa using this
theorem zDX {data : List Dat} (hk : za6 data) (h8 : ∀ D ∈ data, D.cons.length ≤ 8) : ∀ (m : Nat) (v : IT), v.nodes ≤ m → v.nodes ≤ 900 → zf6 data v := by
 intro m
 induction m with
 | zero => intro v h; have := v.nodes_pos; omega
 | succ m ih =>
  intro v hv hb t ht H K hK
  obtain ⟨n, ks⟩ := v
  obtain ⟨tk, tn, tks⟩ := t
  have hnl : IT.nodesL ks + 1 ≤ 900 := by simpa [IT.nodes] using hb
  have hll := IT.len_le ks
  have hkids : ∀ v ∈ ks, zf6 data v := fun v hvm => by
   obtain ⟨i, hi, rfl⟩ := List.getElem_of_mem hvm
   have := IT.kid_lt (n := n) hi
   exact ih _ (by omega) (by omega)
  refine ACalls.out (zDV fun hs => ?_)
  rw [zvv] at hK
  by_cases h6 : tk = 6
  ·subst h6
   by_cases hn : n = 0
   ·subst hn
    simp [zcA, VT.cs, IT.cs, Nat.add_assoc]
    have htk : ∀ t ∈ tks, t.nodes ≤ 1000 := fun t htm => by
     obtain ⟨i, hi, rfl⟩ := List.getElem_of_mem htm
     have := VT.kid_lt (k := 6) (n := tn) hi
     omega
    refine ztr h8 ks (by omega) hkids tks htk _ _ ?_
    simp
    refine ⟨⟨rfl, rfl⟩, ?_⟩
    exact zcg hs (by simpa [zb6] using hK) _
   ·have : (n != 0) = true := by simp [bne, hn]
    simp [zcA, VT.cs, IT.cs, Nat.add_assoc, this]
    simp [hn] at hK
    exact ⟨⟨rfl, rfl⟩, zcg hs hK _⟩
  have h6' : (tk == 6) = false := by simp [h6]
  rw [if_neg h6] at hK
  by_cases h7 : tk = 7
  ·subst h7
   simp only [if_true] at hK
   by_cases g1 : 0 ≤ n
   ·by_cases g2 : n ≤ 6
    ·by_cases g3 : ks.length = 0
     ·simp [zcA, VT.cs, IT.cs, Nat.add_assoc, g1, g2, g3]
      simp [g1, g2, g3] at hK
      exact ⟨⟨rfl, rfl⟩, zcg hs hK _⟩
     ·have g3' : ((ks.length : Int) == 0) = false := by simp; exact fun h => g3 (by simp [h])
      simp [zcA, VT.cs, IT.cs, Nat.add_assoc, g1, g2, g3, g3']
      simp [g1, g2, g3] at hK
      exact ⟨⟨rfl, rfl⟩, zcg hs hK _⟩
    ·simp [zcA, VT.cs, IT.cs, Nat.add_assoc, g1, g2]
     simp [g1, g2] at hK
     exact ⟨⟨rfl, rfl⟩, zcg hs hK _⟩
   ·simp [zcA, VT.cs, IT.cs, Nat.add_assoc, g1]
    simp [g1] at hK
    exact ⟨⟨rfl, rfl⟩, zcg hs hK _⟩
  have h7' : (tk == 7) = false := by simp [h7]
  rw [if_neg h7] at hK
  by_cases h5 : tk = 5
  case neg =>
   have h5' : (tk == 5) = false := by simp [h5]
   rw [if_neg h5] at hK
   by_cases g1 : n = 0
   ·by_cases g2 : ks.length = 0
    ·simp [zcA, VT.cs, IT.cs, Nat.add_assoc, h6', h7', h5', g1, g2, zae]
     simp [g1, g2] at hK
     exact ⟨⟨rfl, rfl⟩, zcg hs hK _⟩
    ·have g2' : ((ks.length : Int) == 0) = false := by simp; exact fun h => g2 (by simp [h])
     simp [zcA, VT.cs, IT.cs, Nat.add_assoc, h6', h7', h5', g1, g2, g2', zae]
     simp [g1, g2] at hK
     exact ⟨⟨rfl, rfl⟩, zcg hs hK _⟩
   ·have g1' : (n == 0) = false := by simp [g1]
    simp [zcA, VT.cs, IT.cs, Nat.add_assoc, h6', h7', h5', g1, g1', zae]
    simp [g1] at hK
    exact ⟨⟨rfl, rfl⟩, zcg hs hK _⟩
  subst h5
  simp only [if_true] at hK
  by_cases hn : n = 0
  case neg =>
   have : (n != 0) = true := by simp [bne, hn]
   simp [zcA, VT.cs, IT.cs, Nat.add_assoc, this]
   simp [hn] at hK
   exact ⟨⟨rfl, rfl⟩, zcg hs hK _⟩
  subst hn
  simp only [if_true] at hK
  simp [zcA, VT.cs, IT.cs, Nat.add_assoc]
  have hT : (VT.mk 5 tn tks).nodes ≤ 1000 := ht
  have hT' : (VT.mk 5 tn tks).cs = [.int .i64 5, .int .i64 tn, .sl (VT.css tks) .none] := rfl
  generalize hTg : VT.mk 5 tn tks = T at *
  have hsc2 : HSc (H ++ [.cells [.int .i64 5, .int .i64 tn, .sl (VT.css tks) .none], .cells [.int .i64 0, .sl (IT.css ks) .none]]) := hs.append (by simp [AB.sc, AV.scA, AV.scB])
  have hF : zcb data ks T 0 = (0, false) → ∀ J, Out H.length K (.tup [.int .i64 0, .bool false]) (H ++ J) := fun h J => zcg hs (by rw [h] at hK; exact hK) J
  refine zDT (Inv := fun q t8 t55 H' => ∃ (i : Nat) (a : Int), i ≤ ks.length ∧ q = ks.length - i ∧ t55 = .int .i64 i ∧ t8 = .int .i64 a ∧ 0 ≤ a ∧ a ≤ 6 ∧ zcb data (ks.drop i) T a = zcb data ks T 0 ∧
   H' = H ++ [.cells [.int .i64 5, .int .i64 tn, .sl (VT.css tks) .none], .cells [.int .i64 0, .sl (IT.css ks) .none]]) ks.length ?_ ?_
  ·intro _; exact ⟨0, 0, by omega, by omega, rfl, rfl, by omega, by omega, by simp, rfl⟩
  ·rintro q t8 t55 H' ⟨i, a, hi, rfl, rfl, rfl, ha0, ha6, ho, rfl⟩ hsc' hlen hsF Kb hKb
   by_cases hlt : i < ks.length
   ·rw [List.drop_eq_getElem_cons hlt] at ho
    have hkn := IT.kid_lt (n := 0) hlt
    obtain ⟨c, es, hx⟩ : ∃ c es, ks[i] = IT.mk c es := by cases h : ks[i] with | mk a b => exact ⟨a, b, rfl⟩
    rw [hx] at ho hkn
    have hesl := IT.len_le es
    have hen : IT.nodesL es + 1 ≤ 900 := by
     have : (IT.mk c es).nodes = IT.nodesL es + 1 := by simp [IT.nodes]
     have : (IT.mk 0 ks).nodes = IT.nodesL ks + 1 := by simp [IT.nodes]
     omega
    have hes : ∀ v ∈ es, zf6 data v := fun v hvm => by
     obtain ⟨j, hj, rfl⟩ := List.getElem_of_mem hvm
     have := IT.kid_lt (n := c) hj
     exact ih _ (by omega) (by omega)
    simp only [zcb] at ho
    simp [znw, hlt, hx, IT.cs, Nat.add_assoc]
    rw [← hT']
    refine zEV data hk T hT c _ _ ?_
    cases hp : zbG data T c with
    | none =>
     rw [hp] at ho
     simp only at ho
     simp [zbK]
     exact ⟨⟨rfl, rfl⟩, hF ho.symm _⟩
    | some ps =>
     rw [hp] at ho
     simp only at ho
     simp [zbK]
     have hpn : ∀ t ∈ ps, t.nodes ≤ 1000 := zpZ hp
     refine ztr h8 es (by omega) hes ps hpn _ _ ?_
     have htb : 0 ≤ (zb6 data es ps).1 ∧ (zb6 data es ps).1 ≤ 6 * es.length := by
      unfold zb6
      split
      ·have := zpx h8 es ps 0 (by omega); omega
      ·simp; omega
     have ho' : (if (zb6 data es ps).2 && decide (a + (1 + (zb6 data es ps).1) ≤ 6) then zcb data (ks.drop (i + 1)) T (a + (1 + (zb6 data es ps).1)) else (0, false)) = zcb data ks T 0 := by
      rw [← ho]
      unfold zb6
      by_cases hl : ps.length = es.length
      ·simp only [hl, if_true]
      ·simp only [hl, if_false]; rfl
     generalize zb6 data es ps = w at *
     obtain ⟨w1, w2⟩ := w
     simp only at htb ho'
     simp
     have q1 : IntKind.i64.wrap (1 + w1) = 1 + w1 := zal (by omega) (by omega)
     have q2 : IntKind.i64.wrap (a + (1 + w1)) = a + (1 + w1) := zal (by omega) (by omega)
     rw [q1, q2]
     cases w2 with
     | false =>
      simp at ho' ⊢
      exact ⟨⟨rfl, rfl⟩, hF ho'.symm _⟩
     | true =>
      by_cases hh : a + (1 + w1) ≤ 6
      ·have hh' : ¬ (6 : Int) < a + (1 + w1) := by omega
       simp [hh] at ho'
       simp [hh']
       rw [zal (by omega) (by omega)]
       refine hKb _ _ ⟨ks.length - (i + 1), by omega, Back.at (J := [.cells [.int .i64 c, .sl (IT.css es) .none]]) (H2 := H ++ [.cells [.int .i64 5, .int .i64 tn, .sl (VT.css tks) .none], .cells [.int .i64 0, .sl (IT.css ks) .none]]) (by simp [hT']) (by simp) hsc2 ?_ ⟨_, _, rfl, i + 1, _, by omega, rfl, by simp, rfl, by omega, by omega, ho', rfl⟩⟩
       simp [zjh, AV.sc, AV.scV, AV.scA, AV.scB]
      ·have hh' : (6 : Int) < a + (1 + w1) := by omega
       simp [hh] at ho'
       simp [hh']
       exact ⟨⟨rfl, rfl⟩, hF ho'.symm _⟩
   ·obtain rfl : i = ks.length := by omega
    rw [List.drop_length] at ho
    simp only [zcb] at ho
    rw [← ho] at hK
    simp [znw]
    exact ⟨⟨rfl, rfl⟩, zcg hs hK _⟩
theorem zv2 (data : List Dat) (n : Int) (ks : List IT) (tk tn : Int) (tks : List VT) : rdV data (.mk n ks) (.mk tk tn tks) =
  if tk = 6 then (if n = 0 then (if tks.length = ks.length then rdA data ks tks 0 else -1) else -1)
  else if tk = 7 then (if 0 ≤ n ∧ n ≤ 6 ∧ ks.length = 0 then n else -1)
  else if tk = 5 then (if n = 0 ∧ ks.length ≤ 6 then rdE data ks (.mk tk tn tks) 0 else -1)
  else (if n = 0 ∧ ks.length = 0 then 0 else -1) := by
 rw [rdV]
 rfl
theorem zou {m : Int × Bool} {r : Int} (h : agr m r) : -1 ≤ r ∧ r ≤ 6 := by
 obtain ⟨h1, h2⟩ := h
 cases hb : m.2 with
 | true => have := h1 hb; omega
 | false => have := h2 hb; omega
def zb5 (data : List Dat) (vs : List IT) (ts : List VT) : Int := if ts.length = vs.length then rdA data vs ts 0 else -1
theorem zxj {data : List Dat} (h8 : ∀ D ∈ data, D.cons.length ≤ 8) (vs : List IT) (ts : List VT) : -1 ≤ zb5 data vs ts ∧ zb5 data vs ts ≤ 6 := by
 unfold zb5
 split
 ·exact zou ((zga h8 vs ts 0 (by omega)).1 (by omega))
 ·omega
def zf4 (data : List Dat) (v : IT) : Prop := ∀ t : VT, t.nodes ≤ 1000 → ∀ (H : zaa) (K : Kt), K (.int .i64 (rdV data v t)) H → ACalls tP zgF [.sl (data.map Dat.cs) .none, .agg t.cs, .agg v.cs] H K
theorem zs5 {data : List Dat} (h8 : ∀ D ∈ data, D.cons.length ≤ 8) (vs : List IT) (hv : vs.length ≤ 1000) (hel : ∀ v ∈ vs, zf4 data v) (ts : List VT) (ht : ∀ t ∈ ts, t.nodes ≤ 1000) (H : zaa) (K : Kt)
  (hK : K (.int .i64 (zb5 data vs ts)) H) : ACalls tP zgR [.sl (data.map Dat.cs) .none, .sl (VT.css ts) .none, .sl (IT.css vs) .none] H K := by
 refine ACalls.out (zDC fun hs => ?_)
 have hO : ∀ r J, zb5 data vs ts = r → Out H.length K (.int .i64 r) (H ++ J) := fun r J h => by subst h; exact Out.int rfl (Nat.le_refl _) hs hK
 have hO0 : ∀ r, zb5 data vs ts = r → Out H.length K (.int .i64 r) H := fun r h => by simpa using hO r [] h
 by_cases hl : ts.length = vs.length
 case neg =>
  have : ((ts.length : Int) != (vs.length : Int)) = true := by simp [bne]; omega
  simp [znp, this]
  exact hO0 _ (by simp [zb5, hl])
 have htot : zb5 data vs ts = rdA data vs ts 0 := by simp [zb5, hl]
 simp [znp, hl]
 refine zDA (Inv := fun q t7 t17 H' => ∃ (i : Nat) (a : Int), i ≤ vs.length ∧ q = vs.length - i ∧ t17 = .int .i64 i ∧ t7 = .int .i64 a ∧ 0 ≤ a ∧ a ≤ 6 ∧ rdA data (vs.drop i) (ts.drop i) a = zb5 data vs ts ∧ H' = H) vs.length ?_ ?_
 ·intro _; exact ⟨0, 0, by omega, by omega, rfl, rfl, by omega, by omega, by simp [htot], rfl⟩
 ·rintro q t7 t17 H' ⟨i, a, hi, rfl, rfl, rfl, ha0, ha6, ho, rfl⟩ hsc' hlen hsF Kb hKb
  by_cases hlt : i < vs.length
  ·have hlt' : i < ts.length := by omega
   rw [List.drop_eq_getElem_cons hlt, List.drop_eq_getElem_cons hlt'] at ho
   simp only [rdA] at ho
   have hti := ht _ (List.getElem_mem hlt')
   have hvi := hel _ (List.getElem_mem hlt)
   have hbd := zou (zgb h8 vs[i] ts[i])
   simp [znq, hl, hlt, hlt', Nat.add_assoc]
   refine zbE (.int .i64 (rdV data vs[i] ts[i])) (fun J => hvi _ hti _ _ ⟨rfl, rfl⟩) ?_
   generalize rdV data vs[i] ts[i] = r at *
   by_cases hr : r < 0
   ·rw [if_pos (.inl hr)] at ho
    simp [hr]
    exact hO0 _ ho.symm
   ·have q1 : IntKind.i64.wrap (a + r) = a + r := zal (by omega) (by omega)
    by_cases h6 : a + r > 6
    ·rw [if_pos (.inr h6)] at ho
     simp [hr, q1, h6]
     exact hO0 _ ho.symm
    ·rw [if_neg (by omega)] at ho
     simp [hr, q1, h6]
     rw [zal (by omega) (by omega)]
     refine hKb _ _ ⟨vs.length - (i + 1), by omega, Back.at (J := []) (by simp) (Nat.le_refl _) hs ?_ ⟨_, _, rfl, i + 1, _, by omega, rfl, by simp, rfl, by omega, by omega, ho, rfl⟩⟩
     simp [zja, AV.sc, AV.scV, AV.scA, AV.scB]
  ·obtain rfl : i = vs.length := by omega
   rw [List.drop_length] at ho
   simp only [rdA] at ho
   simp [znq, hl]
   exact hO0 _ ho.symm
theorem zAk : ∀ (m : Nat) (v : IT), v.nodes ≤ m → ∀ (left : Int), left ≤ 1000000 → -1 ≤ left → ∀ (H : zaa) (id : Nat), H[id]? = some (.cells [.int .i64 left]) → ∀ (K : AV → zaa → Prop),
  ((v.nodes : Int) ≤ left → K (.bool true) (H.set id (.cells [.int .i64 (left - v.nodes)]))) → (¬ (v.nodes : Int) ≤ left → ∀ l', K (.bool false) (H.set id (.cells [.int .i64 l']))) →
  ACalls tP zgB [.agg v.cs, .ptr id 0] H K := by
 intro m
 induction m with
 | zero => intro v h; have := v.nodes_pos; omega
 | succ m ih =>
  intro v hv left hl1 hl0 H id hid K hK hF
  obtain ⟨n, ks⟩ := v
  have hlt := zeu hid
  have hnn : (IT.mk n ks).nodes = IT.nodesL ks + 1 := by simp [IT.nodes]
  refine ACalls.out (zAi fun hs => ?_)
  have hget : (H ++ [AB.cells [.int .i64 n, .sl (IT.css ks) .none]])[id]? = some (.cells [.int .i64 left]) := zcD hid
  have bad : (¬ ((IT.mk n ks).nodes : Int) ≤ left) → ∀ l' H', H' = H.set id (.cells [.int .i64 l']) ++ [.cells [.int .i64 n, .sl (IT.css ks) .none]] → Out H.length K (.bool false) H' := by
   intro h l' H' he
   exact Out.bool he (by simp) (hs.set rfl) (hF h l')
  simp [zrY, IT.cs, hget, AV.known]
  rw [zal (by omega) (by omega), zc2 _ hid, zcD (zcy _ hid)]
  by_cases h0 : left - 1 < 0
  ·simp [h0]
   exact bad (by omega) _ _ rfl
  ·simp [h0]
   refine zAg (Inv := fun q t5 H' => ∃ i : Nat, i ≤ ks.length ∧ q = ks.length - i ∧ t5 = .int .i64 i ∧ ((IT.nodesL (ks.take i) : Int) + 1 ≤ left) ∧ H' = H.set id (.cells [.int .i64 (left - 1 - IT.nodesL (ks.take i))]) ++ [.cells [.int .i64 n, .sl (IT.css ks) .none]]) ks.length ?_ ?_
   ·intro _; exact ⟨0, by omega, by omega, rfl, by simp [IT.nodesL]; omega, by simp [IT.nodesL]⟩
   ·rintro q t5 H' ⟨i, hi, rfl, rfl, hb, rfl⟩ hsc hlen hsF Kb hKb
    by_cases hil : i < ks.length
    ·have hki := IT.kid_lt (n := n) hil
     have h1 := IT.nodesL_take hil
     have h2 := IT.nodesL_take_le ks (i + 1)
     have hll := IT.len_le (ks.take i)
     simp only [List.length_take] at hll
     have hge : (H.set id (.cells [.int .i64 (left - 1 - IT.nodesL (ks.take i))]) ++ [AB.cells [.int .i64 n, .sl (IT.css ks) .none]])[id]? = some (.cells [.int .i64 (left - 1 - IT.nodesL (ks.take i))]) := zcD (zcy _ hid)
     simp [zme, hil]
     refine ih ks[i] (by omega) (left - 1 - IT.nodesL (ks.take i)) (by omega) (by omega) _ id hge _ ?_ ?_
     ·intro hle
      rw [zc2 _ (zcy _ hid), List.set_set]
      simp
      rw [zal (by omega) (by omega)]
      refine hKb _ _ ⟨ks.length - (i + 1), by omega, Back.here (by simp) ((hs.set rfl).snoc rfl) ?_ ⟨_, rfl, i + 1, by omega, rfl, by simp, by omega, ?_⟩⟩
      ·simp [zh4, AV.sc, AV.scV, AV.scA, AV.scB]; omega
      ·rw [h1]; congr 5; omega
     ·intro hle l'
      rw [zc2 _ (zcy _ hid), List.set_set]
      simp
      exact bad (by omega) _ _ rfl
    ·obtain rfl : i = ks.length := by omega
     rw [List.take_length] at hb ⊢
     simp [zme]
     refine Out.bool rfl (by simp) (hs.set rfl) ?_
     have := hK (by omega)
     rw [hnn] at this
     rw [show left - 1 - (IT.nodesL ks : Int) = left - ((IT.nodesL ks + 1 : Nat) : Int) by omega]
     exact this
theorem zEh (v : IT) (H : zaa) (K : Kt) (hK : ∀ b, (b = true → v.nodes ≤ 40) → K (.bool b) H) : ACalls tP zkN [.agg v.cs] H K := by
 refine ACalls.out (zEg fun hs => ?_)
 simp [zq7, AV.known]
 refine zAk _ v (Nat.le_refl _) 40 (by omega) (by omega) _ (H.length + 1) (by simp) _ ?_ ?_
 ·intro h
  exact Out.bool (J := [_, _]) (by simp; exact ⟨rfl, rfl⟩) (Nat.le_refl _) hs (hK true fun _ => by omega)
 ·intro h l'
  exact Out.bool (J := [_, _]) (by simp; exact ⟨rfl, rfl⟩) (Nat.le_refl _) hs (hK false fun h => by cases h)
theorem zBH {data : List Dat} (hk : za6 data) (h8 : ∀ D ∈ data, D.cons.length ≤ 8) : ∀ (m : Nat) (v : IT), v.nodes ≤ m → v.nodes ≤ 900 → zf4 data v := by
 intro m
 induction m with
 | zero => intro v h; have := v.nodes_pos; omega
 | succ m ih =>
  intro v hv hb t ht H K hK
  obtain ⟨n, ks⟩ := v
  obtain ⟨tk, tn, tks⟩ := t
  have hnl : IT.nodesL ks + 1 ≤ 900 := by simpa [IT.nodes] using hb
  have hll := IT.len_le ks
  have hkids : ∀ v ∈ ks, zf4 data v := fun v hvm => by
   obtain ⟨i, hi, rfl⟩ := List.getElem_of_mem hvm
   have := IT.kid_lt (n := n) hi
   exact ih _ (by omega) (by omega)
  refine ACalls.out (zBF fun hs => ?_)
  rw [zv2] at hK
  have hO : ∀ r J, K (.int .i64 r) H → Out H.length K (.int .i64 r) (H ++ J) := fun r J h => Out.int rfl (Nat.le_refl _) hs h
  by_cases h6 : tk = 6
  ·subst h6
   rw [if_pos rfl] at hK
   by_cases hn : n = 0
   ·subst hn
    rw [if_pos rfl] at hK
    simp [zcn, VT.cs, IT.cs, Nat.add_assoc]
    have htk : ∀ t ∈ tks, t.nodes ≤ 1000 := fun t htm => by
     obtain ⟨i, hi, rfl⟩ := List.getElem_of_mem htm
     have := VT.kid_lt (k := 6) (n := tn) hi
     omega
    refine zs5 h8 ks (by omega) hkids tks htk _ _ ?_
    exact hO _ _ hK
   ·have : (n != 0) = true := by simp [bne, hn]
    rw [if_neg hn] at hK
    simp [zcn, VT.cs, IT.cs, Nat.add_assoc, this]
    exact hO _ _ hK
  have h6' : (tk == 6) = false := by simp [h6]
  rw [if_neg h6] at hK
  by_cases h7 : tk = 7
  ·subst h7
   rw [if_pos rfl] at hK
   by_cases g1 : n < 0
   ·rw [if_neg (by omega)] at hK
    simp [zcn, VT.cs, IT.cs, Nat.add_assoc, g1]
    exact hO _ _ hK
   ·by_cases g2 : n > 6
    ·rw [if_neg (by omega)] at hK
     simp [zcn, VT.cs, IT.cs, Nat.add_assoc, g1, g2]
     exact hO _ _ hK
    ·by_cases g3 : 0 < ks.length
     ·rw [if_neg (by omega)] at hK
      have g3' : (0 : Int) < ks.length := by omega
      simp [zcn, VT.cs, IT.cs, Nat.add_assoc, g1, g2, g3, g3']
      exact hO _ _ hK
     ·rw [if_pos (by omega)] at hK
      have g3' : ¬ (0 : Int) < ks.length := by omega
      simp [zcn, VT.cs, IT.cs, Nat.add_assoc, g1, g2, g3, g3']
      exact hO _ _ hK
  have h7' : (tk == 7) = false := by simp [h7]
  rw [if_neg h7] at hK
  by_cases h5 : tk = 5
  case neg =>
   have h5' : (tk == 5) = false := by simp [h5]
   rw [if_neg h5] at hK
   by_cases g1 : n = 0
   ·subst g1
    by_cases g2 : 0 < ks.length
    ·have g2' : (0 : Int) < ks.length := by omega
     rw [if_neg (by omega)] at hK
     simp [zcn, VT.cs, IT.cs, Nat.add_assoc, h6', h7', h5', g2, g2']
     exact hO _ _ hK
    ·have g2' : ¬ (0 : Int) < ks.length := by omega
     rw [if_pos (by omega)] at hK
     simp [zcn, VT.cs, IT.cs, Nat.add_assoc, h6', h7', h5', g2, g2']
     exact hO _ _ hK
   ·have g1' : (n != 0) = true := by simp [bne, g1]
    rw [if_neg (by omega)] at hK
    simp [zcn, VT.cs, IT.cs, Nat.add_assoc, h6', h7', h5', g1, g1']
    exact hO _ _ hK
  subst h5
  rw [if_pos rfl] at hK
  by_cases hn : n = 0
  case neg =>
   have : (n != 0) = true := by simp [bne, hn]
   rw [if_neg (by omega)] at hK
   simp [zcn, VT.cs, IT.cs, Nat.add_assoc, this]
   exact hO _ _ hK
  subst hn
  by_cases hl6 : ks.length > 6
  ·rw [if_neg (by omega)] at hK
   have : (6 : Int) < ks.length := by omega
   simp [zcn, VT.cs, IT.cs, Nat.add_assoc, this]
   exact hO _ _ hK
  have hl6' : ¬ (6 : Int) < ks.length := by omega
  rw [if_pos (by omega)] at hK
  simp [zcn, VT.cs, IT.cs, Nat.add_assoc, hl6']
  have hT : (VT.mk 5 tn tks).nodes ≤ 1000 := ht
  have hT' : (VT.mk 5 tn tks).cs = [.int .i64 5, .int .i64 tn, .sl (VT.css tks) .none] := rfl
  generalize hTg : VT.mk 5 tn tks = T at *
  have hsc2 : HSc (H ++ [.cells [.int .i64 5, .int .i64 tn, .sl (VT.css tks) .none], .cells [.int .i64 0, .sl (IT.css ks) .none]]) := hs.append (by simp [AB.sc, AV.scA, AV.scB])
  have hF : ∀ r, r = rdE data ks T 0 → ∀ J, Out H.length K (.int .i64 r) (H ++ J) := fun r h J => hO _ _ (by rw [h]; exact hK)
  refine zBD (Inv := fun q t7 t58 H' => ∃ (i : Nat) (a : Int), i ≤ ks.length ∧ q = ks.length - i ∧ t58 = .int .i64 i ∧ t7 = .int .i64 a ∧ 0 ≤ a ∧ a ≤ 6 ∧ rdE data (ks.drop i) T a = rdE data ks T 0 ∧
   H' = H ++ [.cells [.int .i64 5, .int .i64 tn, .sl (VT.css tks) .none], .cells [.int .i64 0, .sl (IT.css ks) .none]]) ks.length ?_ ?_
  ·intro _; exact ⟨0, 0, by omega, by omega, rfl, rfl, by omega, by omega, by simp, rfl⟩
  ·rintro q t7 t58 H' ⟨i, a, hi, rfl, rfl, rfl, ha0, ha6, ho, rfl⟩ hsc' hlen hsF Kb hKb
   by_cases hlt : i < ks.length
   ·rw [List.drop_eq_getElem_cons hlt] at ho
    have hkn := IT.kid_lt (n := 0) hlt
    obtain ⟨c, es, hx⟩ : ∃ c es, ks[i] = IT.mk c es := by cases h : ks[i] with | mk a b => exact ⟨a, b, rfl⟩
    rw [hx] at ho hkn
    have hesl := IT.len_le es
    have hen : IT.nodesL es + 1 ≤ 900 := by
     have : (IT.mk c es).nodes = IT.nodesL es + 1 := by simp [IT.nodes]
     have : (IT.mk 0 ks).nodes = IT.nodesL ks + 1 := by simp [IT.nodes]
     omega
    have hes : ∀ v ∈ es, zf4 data v := fun v hvm => by
     obtain ⟨j, hj, rfl⟩ := List.getElem_of_mem hvm
     have := IT.kid_lt (n := c) hj
     exact ih _ (by omega) (by omega)
    simp only [rdE] at ho
    by_cases c1 : c < 0
    ·rw [if_pos (.inl c1)] at ho
     simp [zfV, hlt, hx, IT.cs, Nat.add_assoc, c1]
     exact hF _ ho _
    by_cases c2 : 8 ≤ c
    ·rw [if_pos (.inr c2)] at ho
     simp [zfV, hlt, hx, IT.cs, Nat.add_assoc, c1, c2]
     exact hF _ ho _
    rw [if_neg (by omega)] at ho
    simp [zfV, hlt, hx, IT.cs, Nat.add_assoc, c1, c2]
    rw [← hT']
    refine zDK data hk T hT c _ _ ?_
    cases hp : zbG data T c with
    | none =>
     rw [hp] at ho
     simp only at ho
     simp [zbK]
     exact hF _ ho _
    | some ps =>
     rw [hp] at ho
     simp only at ho
     simp [zbK]
     have hpn : ∀ t ∈ ps, t.nodes ≤ 1000 := zpZ hp
     refine zs5 h8 es (by omega) hes ps hpn _ _ ?_
     have htb := zxj h8 es ps
     have ho' : (if zb5 data es ps < 0 ∨ a + 1 + zb5 data es ps > 6 then -1 else rdE data (ks.drop (i + 1)) T (a + (1 + zb5 data es ps))) = rdE data ks T 0 := by
      rw [← ho]
      unfold zb5
      by_cases hl : ps.length = es.length
      ·simp only [hl, if_true]
      ·simp only [hl, if_false]; rfl
     generalize zb5 data es ps = w at *
     by_cases w0 : w < 0
     ·rw [if_pos (.inl w0)] at ho'
      simp [w0]
      exact hF _ ho' _
     ·have q1 : IntKind.i64.wrap (a + 1) = a + 1 := zal (by omega) (by omega)
      have q2 : IntKind.i64.wrap (a + 1 + w) = a + 1 + w := zal (by omega) (by omega)
      have q3 : IntKind.i64.wrap (1 + w) = 1 + w := zal (by omega) (by omega)
      have q4 : IntKind.i64.wrap (a + (1 + w)) = a + (1 + w) := zal (by omega) (by omega)
      by_cases hh : a + 1 + w > 6
      ·rw [if_pos (.inr hh)] at ho'
       simp [w0, q1, q2, hh]
       exact hF _ ho' _
      ·rw [if_neg (by omega)] at ho'
       simp [w0, q1, q2, hh, q3, q4]
       rw [zal (by omega) (by omega)]
       refine hKb _ _ ⟨ks.length - (i + 1), by omega, Back.at (J := [.cells [.int .i64 c, .sl (IT.css es) .none]]) (H2 := H ++ [.cells [.int .i64 5, .int .i64 tn, .sl (VT.css tks) .none], .cells [.int .i64 0, .sl (IT.css ks) .none]]) (by simp [hT']) (by simp) hsc2 ?_ ⟨_, _, rfl, i + 1, _, by omega, rfl, by simp, rfl, by omega, by omega, ho', rfl⟩⟩
       simp [ziv, AV.sc, AV.scV, AV.scA, AV.scB]
   ·obtain rfl : i = ks.length := by omega
    rw [List.drop_length] at ho
    simp only [rdE] at ho
    simp [zfV]
    exact hF _ ho _
section
variable {data : List Dat} (hD : DOk data)
end
theorem zvp {data : List Dat} (h : za6 data) : zjO data := fun D hD => by
 obtain ⟨_, h2⟩ := h
 obtain ⟨_, h3, h4⟩ := h2 D hD
 refine ⟨by omega, fun c hc => ?_⟩
 obtain ⟨_, h5, h6⟩ := h4 c hc
 exact ⟨by omega, fun x hx => by have := h6 x hx; omega⟩
theorem zoX {data : List Dat} : ∀ {l : List Dat} {d : Nat}, zb9 data l d = true → ∀ D ∈ l, D.cons.length ≤ 8
 | [], _, _, D, h => by cases h
 | E :: l, d, h, D, hD => by
  simp only [zb9, Bool.and_eq_true] at h
  rcases List.mem_cons.1 hD with rfl | hD
  ·have := h.1
   simp only [zb1, Bool.and_eq_true, decide_eq_true_eq] at this
   exact this.1.2
  ·exact zoX h.2 D hD
theorem zpa {data : List Dat} {t : VT} (h : zbp data t = true) : ∀ D ∈ data, D.cons.length ≤ 8 := by
 simp only [zbp, zbh, Bool.and_eq_true] at h
 exact zoX h.1.1.1.2
def zbc (data : List Dat) (t : VT) (v : IT) : Int := if zbp data t then rdV data v t else -1
theorem zm3 (data : List Dat) (hk : za6 data) (t : VT) (ht : t.nodes ≤ 1000000) (H : zaa) (K : Kt) (hK : K (.bool (zbp data t)) H) : ACalls tP zfv [.sl (data.map Dat.cs) .none, .agg t.cs] H K := by
 refine ACalls.out (zCE fun hs => ?_)
 obtain ⟨x, y, z, hvx, hx, hy, hz⟩ := zbj t
 simp [zsG, zav, zaU, hvx, Nat.add_assoc]
 refine zD6 data (zvp hk) (by have := hk.1; omega) ?_
 unfold zbp at hK
 cases hd : zbh data with
 | false =>
  rw [hd] at hK
  simp
  exact Out.bool rfl (Nat.le_refl _) hs hK
 | true =>
  rw [hd, Bool.true_and] at hK
  simp
  rw [← hvx]
  refine ztf data 0 t (by omega) _ _ ?_
  exact Out.bool rfl (Nat.le_refl _) hs hK
theorem zBA (data : List Dat) (hk : za6 data) (t : VT) (ht : t.nodes ≤ 1000000) (H : zaa) (K : Kt) (hK : K (.bool (zbp data t)) H) : ACalls tP zkF [.sl (data.map Dat.cs) .none, .agg t.cs] H K := by
 refine ACalls.out (zBz fun hs => ?_)
 obtain ⟨x, y, z, hvx, hx, hy, hz⟩ := zbj t
 simp [zss, hvx, Nat.add_assoc]
 refine zDu data hk _ _ fun b hb => ?_
 have hbd : b = zbh data := by rw [Bool.eq_iff_iff, hb, zu4]
 subst hbd
 unfold zbp at hK
 cases hd : zbh data with
 | false =>
  rw [hd] at hK
  simp
  exact Out.bool rfl (Nat.le_refl _) hs hK
 | true =>
  rw [hd, Bool.true_and] at hK
  simp
  rw [← hvx]
  refine zs3 data (by have := hk.1; omega) 0 t (by omega) _ _ ?_
  exact Out.bool rfl (Nat.le_refl _) hs hK
theorem zCa (data : List Dat) (hk : za6 data) (t : VT) (ht : t.nodes ≤ 1000) (v : IT) (hv : v.nodes ≤ 900) (H : zaa) (K : Kt) (hK : K (.int .i64 (zbc data t v)) H) : ACalls tP zkG [.sl (data.map Dat.cs) .none, .agg t.cs, .agg v.cs] H K := by
 refine ACalls.out (zB9 fun hs => ?_)
 have hO : ∀ r J, zbc data t v = r → Out H.length K (.int .i64 r) (H ++ J) := fun r J h => by subst h; exact Out.int rfl (Nat.le_refl _) hs hK
 obtain ⟨x, y, z, hvx, hx, hy, hz⟩ := zbj t
 obtain ⟨x2, y2, hvx2, hx2, hy2⟩ := it2 v
 simp [zsA, hvx, hvx2, Nat.add_assoc]
 rw [← hvx]
 refine zm3 data hk t (by omega) _ _ ?_
 cases hf : zbp data t with
 | false =>
  simp
  exact hO _ _ (by simp [zbc, hf])
 | true =>
  have h8 := zpa hf
  obtain ⟨g1, g2⟩ := zgb h8 v t
  simp [Nat.add_assoc]
  rw [← hvx2]
  refine zDX hk h8 _ v (Nat.le_refl _) hv t ht _ _ ?_
  cases hb : (zbO data v t).2 with
  | false =>
   simp
   exact hO _ _ (by simp [zbc, hf, g2 hb])
  | true =>
   simp
   exact hO _ _ (by simp [zbc, hf, (g1 hb).1])
theorem zyZ (data : List Dat) (hk : za6 data) (t : VT) (ht : t.nodes ≤ 1000) (v : IT) (hv : v.nodes ≤ 900) (H : zaa) (K : Kt) (hK : K (.int .i64 (zbc data t v)) H) : ACalls tP zkr [.sl (data.map Dat.cs) .none, .agg t.cs, .agg v.cs] H K := by
 refine ACalls.out (zyY fun hs => ?_)
 have hO : ∀ r J, zbc data t v = r → Out H.length K (.int .i64 r) (H ++ J) := fun r J h => by subst h; exact Out.int rfl (Nat.le_refl _) hs hK
 obtain ⟨x, y, z, hvx, hx, hy, hz⟩ := zbj t
 obtain ⟨x2, y2, hvx2, hx2, hy2⟩ := it2 v
 simp [zrt, hvx, hvx2, Nat.add_assoc]
 rw [← hvx]
 refine zBA data hk t (by omega) _ _ ?_
 cases hf : zbp data t with
 | false =>
  simp
  exact hO _ _ (by simp [zbc, hf])
 | true =>
  have h8 := zpa hf
  simp [Nat.add_assoc]
  rw [← hvx2]
  refine zBH hk h8 _ v (Nat.le_refl _) hv t ht _ _ ?_
  exact hO _ _ (by simp [zbc, hf])
theorem zAo (data : List Dat) (hk : za6 data) (t : VT) (ht : t.nodes ≤ 1000) (v : IT) (hv : v.nodes ≤ 900) (H : zaa) (K : Kt) (hK : K (.bool (decide (0 ≤ zbc data t v))) H) : ACalls tP zkA [.sl (data.map Dat.cs) .none, .agg t.cs, .agg v.cs] H K := by
 refine ACalls.out (zAn fun hs => ?_)
 obtain ⟨x, y, z, hvx, hx, hy, hz⟩ := zbj t
 obtain ⟨x2, y2, hvx2, hx2, hy2⟩ := it2 v
 simp [zr0, hvx, hvx2, Nat.add_assoc]
 rw [← hvx, ← hvx2]
 refine zCa data hk t ht v hv _ _ ?_
 simp
 exact Out.bool rfl (Nat.le_refl _) hs (by simpa using hK)
theorem zBf (data : List Dat) (hk : za6 data) (t : VT) (ht : t.nodes ≤ 1000) (v : IT) (hv : v.nodes ≤ 900) (H : zaa) (K : Kt) (hK : K (.bool (decide (0 ≤ zbc data t v))) H) : ACalls tP zkE [.sl (data.map Dat.cs) .none, .agg t.cs, .agg v.cs] H K := by
 refine ACalls.out (zBe fun hs => ?_)
 obtain ⟨x, y, z, hvx, hx, hy, hz⟩ := zbj t
 obtain ⟨x2, y2, hvx2, hx2, hy2⟩ := it2 v
 simp [zsh, hvx, hvx2, Nat.add_assoc]
 rw [← hvx, ← hvx2]
 refine zyZ data hk t ht v hv _ _ ?_
 simp
 exact Out.bool rfl (Nat.le_refl _) hs (by simpa using hK)
theorem zAI (data : List Dat) (hk : za6 data) (k n : Int) (ks : List VT) (ht : (VT.mk k n ks).nodes ≤ 1000) (c : Int) {l : List VT} {bs : List Bool} (hf : zaL data (.mk k n ks) c = some l)
  (hlb : l.length = bs.length) (hl8 : l.length ≤ 8) (hfine : zbp data (.mk k n ks) = true) (hrec : ∀ H K, K (.sl (zaY bs) .none) H → ACalls tP zc7 [.sl (data.map Dat.cs) .none, .int .i64 n, .int .i64 c] H K) (H : zaa) (K : Kt)
  (hK : K (.tup [.sl (zaz (pos false bs bs.length)) .none, .sl (zaz (pos true bs bs.length)) .none, .bool true]) H) :
  ACalls tP zkB [.sl (data.map Dat.cs) .none, .agg (VT.mk k n ks).cs, .int .i64 c] H K := by
 refine ACalls.out (zAG fun hs => ?_)
 obtain ⟨f1, f2, f3⟩ := zc6 hk
 simp [zr4, VT.cs, Nat.add_assoc]
 refine zm3 data hk (.mk k n ks) (by omega) _ _ ?_
 simp [hfine]
 refine zmk data f1 f2 f3 (.mk k n ks) ht c _ _ ?_
 rw [hf]
 simp [zbK]
 refine hrec _ _ ?_
 simp [zdo]
 unfold zid
 refine ALoop.own 6 zaZ 1 rfl ?_
 refine ALoop.own 7 zaZ 1 rfl ?_
 have hl1 : (H ++ [AB.cells [AV.int IntKind.i64 k, AV.int IntKind.i64 n, AV.sl (VT.css ks) Tok.none]]).length = H.length + 1 := by simp
 have hl2 : (H ++ [AB.cells [AV.int IntKind.i64 k, AV.int IntKind.i64 n, AV.sl (VT.css ks) Tok.none]] ++ [AB.perm zaZ 1 0]).length = H.length + 2 := by simp
 rw [hl1, hl2]
 show zid (.sl [] (.own (H.length + 1))) (.sl [] (.own (H.length + 2))) (.sl (zaY bs) .none) (.int .i64 bs.length) (.int .i64 0) (H ++ [.cells [.int .i64 k, .int .i64 n, .sl (VT.css ks) .none]] ++ [.perm zaZ 1 0] ++ [.perm zaZ 1 0]) (Out H.length K)
 have hperm : ∀ m m2, HSc (H ++ [.cells [.int .i64 k, .int .i64 n, .sl (VT.css ks) .none], .perm zaZ 1 m, .perm zaZ 1 m2]) := fun m m2 => hs.append (by simp [AB.sc, AV.scA, AV.scB])
 refine zAE (Inv := fun q t6 t7 t32 H' => ∃ i : Nat, i ≤ bs.length ∧ q = bs.length - i ∧ t32 = .int .i64 i ∧ t6 = .sl (zaz (pos false bs i)) (.own (H.length + 1)) ∧ t7 = .sl (zaz (pos true bs i)) (.own (H.length + 2)) ∧
  H' = H ++ [.cells [.int .i64 k, .int .i64 n, .sl (VT.css ks) .none], .perm zaZ 1 (pos false bs i).length, .perm zaZ 1 (pos true bs i).length]) bs.length ?_ ?_
 ·intro _; exact ⟨0, by omega, by omega, rfl, by simp [pos, zaz], by simp [pos, zaz], by simp [pos]⟩
 ·rintro q t6 t7 t32 H' ⟨i, hi, rfl, rfl, rfl, rfl, rfl⟩ hsc' hlen hsF Kb hKb
  by_cases hlt : i < bs.length
  ·have hp1 := zfE false bs i hlt
   have hp2 := zfE true bs i hlt
   have hn1 := zcR false bs i
   have hn2 := zcR true bs i
   have hnext : zic (.sl (zaz (pos false bs (i + 1))) (.own (H.length + 1))) (.sl (zaz (pos true bs (i + 1))) (.own (H.length + 2))) (.sl (zaY bs) .none) (.int .i64 bs.length) (.int .i64 i)
     (H ++ [.cells [.int .i64 k, .int .i64 n, .sl (VT.css ks) .none], .perm zaZ 1 (pos false bs (i + 1)).length, .perm zaZ 1 (pos true bs (i + 1)).length]) (Out H.length K) Kb := by
    simp [zic, zr5]
    rw [zal (by omega) (by omega)]
    refine hKb _ _ ⟨bs.length - (i + 1), by omega, Back.at (J := []) (H2 := H ++ [.cells [.int .i64 k, .int .i64 n, .sl (VT.css ks) .none], .perm zaZ 1 (pos false bs (i + 1)).length, .perm zaZ 1 (pos true bs (i + 1)).length]) (by simp) (by simp) (hperm _ _) ?_ ⟨_, _, _, rfl, i + 1, by omega, rfl, by simp, rfl, rfl, rfl⟩⟩
    simp [zib, AV.sc, AV.scV, AV.scA, AV.scB]
   cases hbi : bs[i] with
   | true =>
    rw [hbi] at hp1 hp2
    simp at hp1 hp2
    rw [hp1, hp2] at hnext
    simp [zia, zdo, hlt, ze0, hbi, zaA, zbt, zaB, AV.pd, zar, zaW, zaI, zbB]
    refine ⟨⟨by omega, by omega⟩, ?_⟩
    simpa [zg1, zaz] using hnext
   | false =>
    rw [hbi] at hp1 hp2
    simp at hp1 hp2
    rw [hp1, hp2] at hnext
    simp [zia, zdo, hlt, ze0, hbi, zaA, zbt, zaB, AV.pd, zar, zaW, zaI, zbB]
    refine ⟨⟨by omega, by omega⟩, ?_⟩
    simpa [zg1, zaz] using hnext
  ·obtain rfl : i = bs.length := by omega
   simp [zia]
   refine ⟨⟨rfl, rfl, rfl⟩, ?_⟩
   exact Out.tup (bs := [.sl (zaz (pos false bs bs.length)) .none, .sl (zaz (pos true bs bs.length)) .none, .bool true]) hs hK ⟨slV, slV, za4 rfl rfl, trivial⟩
theorem zAM (data : List Dat) (hk : za6 data) (t : VT) (ht : t.nodes ≤ 1000) (H : zaa) (K : Kt) (hK : zbp data t = true → K (.tup [.agg (zaG t).cs, .bool true]) H) (hf : zbp data t = true) :
  ACalls tP zkC [.sl (data.map Dat.cs) .none, .agg t.cs] H K := by
 refine ACalls.out (zAL fun hs => ?_)
 obtain ⟨x, y, z, hvx, hx, hy, hz⟩ := zbj t
 simp [zr6, hvx, hx, hy, hz]
 rw [← hvx]
 refine zm3 data hk t (by omega) _ _ ?_
 simp [hf, hvx, hx, hy, hz]
 rw [← hvx]
 refine zCS _ t (Nat.le_refl _) (by omega) _ _ ?_
 obtain ⟨p, q, hzz, hp, hq⟩ := zcE (zaG t)
 have hK := hK hf
 rw [hzz] at hK ⊢
 simp [hp, hq]
 refine ⟨⟨rfl, rfl⟩, ?_⟩
 exact Out.tup (bs := [.agg [p, q], .bool true]) hs hK ⟨za4 rfl (by have := (zaG t).cs_scA H.length; rw [hzz] at this; simpa [AV.scV] using this), za4 rfl rfl, trivial⟩
theorem zC8 (data : List Dat) (hk : za6 data) (k n : Int) (ks : List VT) (ht : (VT.mk k n ks).nodes ≤ 1000) (c : Int) {l : List VT} {bs : List Bool} (hf : zaL data (.mk k n ks) c = some l)
  (hlb : l.length = bs.length) (hl8 : l.length ≤ 8) (hrec : ∀ H K, K (.sl (zaY bs) .none) H → ACalls tP zc8 [.sl (data.map Dat.cs) .none, .int .i64 n, .int .i64 c] H K) (H : zaa) (K : Kt)
  (hK : K (.tup [.sl (zaz (pos false bs bs.length)) .none, .sl (zaz (pos true bs bs.length)) .none]) H) :
  ACalls tP zkI [.sl (data.map Dat.cs) .none, .agg (VT.mk k n ks).cs, .int .i64 c] H K := by
 refine ACalls.out (zC7 fun hs => ?_)
 simp [zsP, VT.cs]
 refine ztc data hk k n ks ht c hf hlb hl8 hrec _ _ ?_
 simp
 refine ⟨⟨rfl, rfl⟩, ?_⟩
 exact Out.tup (bs := [.sl (zaz (pos false bs bs.length)) .none, .sl (zaz (pos true bs bs.length)) .none]) hs hK ⟨slV, slV, trivial⟩
theorem zcQ {H : zaa} {K : AV → zaa → Prop} {r : AV} (hsc : HSc H) (hv : r.isV = true) (hr : r.scV H.length = true) (h : K r H) : Out H.length K r H := by
 have := Out.same (J := []) rfl hsc hv hr h
 simpa using this
theorem zpE (a : Int) (H : zaa) (K : AV → zaa → Prop) (hK : K (.bool false) H) : ACalls tP zgV [.int .i64 a] H K := by
 refine ACalls.out (zEk fun hs => ?_)
 simp [ztg]
 exact zcQ hs rfl rfl hK
theorem zoO (a b : Int) (H : zaa) (K : AV → zaa → Prop) (hK : K (.int .i64 (icmp a b)) H) : ACalls tP zgN [.int .i64 a, .int .i64 b] H K := by
 refine ACalls.out (zC4 fun hs => ?_)
 unfold zsO
 refine zpE _ _ _ (zpE _ _ _ ?_)
 have hO := zcQ (K := K) (H := H) (r := .int .i64 (icmp a b)) hs rfl rfl hK
 by_cases h1 : a < b
 ·simp [h1]; simpa [icmp, h1] using hO
 ·by_cases h2 : b < a
  ·simp [h1, h2]; simpa [icmp, h1, h2] using hO
  ·simp [h1, h2]; simpa [icmp, h1, h2] using hO
def orL : List Int → Int
 | [] => 0
 | a :: l => cor a (orL l)
theorem zvR (l : List Int) (tok : Tok) (hl : l.length ≤ 1000000) (H : zaa) (K : AV → zaa → Prop) (hK : K (.int .i64 (orL l)) H) : ACalls tP zkH [.sl (l.map fun x => [.int .i64 x]) tok] H K := by
 refine ACalls.out (zC0 fun hs => ?_)
 simp [zsM]
 refine zCY (Inv := fun q t8 H' => ∃ i : Nat, i ≤ l.length ∧ q = l.length - i ∧ t8 = .int .i64 i ∧ orL (l.drop i) = orL l ∧ H' = H) l.length ?_ ?_
 ·intro _; exact ⟨0, by omega, by omega, rfl, by simp, rfl⟩
 ·rintro q t8 H' ⟨i, hi, rfl, rfl, ho, rfl⟩ hsc hlen hsF Kb hKb
  by_cases hlt : i < l.length
  ·rw [List.drop_eq_getElem_cons hlt, orL] at ho
   by_cases hz : l[i] = 0
   ·rw [zj1 hz] at ho
    simp [ziU, hlt, hz]
    rw [zal (by omega) (by omega)]
    refine hKb _ _ ⟨l.length - (i + 1), by omega, Back.here (Nat.le_refl _) hs ?_ ⟨_, rfl, i + 1, by omega, rfl, by simp, ho, rfl⟩⟩
    simpa [ziV, AV.sc, AV.scV, AV.scA, AV.scB] using hsF
   ·rw [zgj hz] at ho
    have hz : (l[i] != 0) = true := by simpa using hz
    simp [ziU, hlt, hz]
    rw [← ho] at hK
    exact zcQ hs rfl rfl hK
  ·simp [ziU, hlt]
   obtain rfl : i = l.length := by omega
   rw [List.drop_length] at ho
   rw [← ho] at hK
   exact zcQ hs rfl rfl hK
theorem zoP (ks ks' : List IT) (he : ks.length = ks'.length) (hb : ks.length ≤ 1000000)
  (hc : ∀ (i : Nat) (h : i < ks.length) (h' : i < ks'.length) (H : zaa) (K : AV → zaa → Prop), K (.int .i64 (IT.cmp ks[i] ks'[i])) H → ACalls tP zex [.agg ks[i].cs, .agg ks'[i].cs] H K)
  (H : zaa) (K : AV → zaa → Prop) (hK : K (.int .i64 (IT.cmpL ks ks')) H) : ACalls tP zgC [.sl (IT.css ks) .none, .sl (IT.css ks') .none, .fn zex []] H K := by
 refine ACalls.out (zA0 fun hs => ?_)
 simp [zsd]
 refine zAY (Inv := fun q t13 H' => ∃ i : Nat, i ≤ ks.length ∧ q = ks.length - i ∧ t13 = .int .i64 i ∧ IT.cmpL (ks.drop i) (ks'.drop i) = IT.cmpL ks ks' ∧ H' = H) ks.length ?_ ?_
 ·intro _; exact ⟨0, by omega, by omega, rfl, by simp, rfl⟩
 ·rintro q t8 H' ⟨i, hi, rfl, rfl, ho, rfl⟩ hsc hlen hsF Kb hKb
  by_cases hlt : i < ks.length
  ·have hlt' : i < ks'.length := by omega
   have hle : ¬ ks'.length ≤ i := by omega
   rw [IT.cmpL_drop hlt hlt'] at ho
   simp [zmr, hlt, hlt', hle]
   refine hc i hlt hlt' _ _ ?_
   by_cases hz : IT.cmp ks[i] ks'[i] = 0
   ·rw [zj1 hz] at ho
    simp [hz]
    rw [zal (by omega) (by omega)]
    refine hKb _ _ ⟨ks.length - (i + 1), by omega, Back.same (Nat.le_refl _) hs ?_ ⟨_, rfl, i + 1, by omega, rfl, by simp, ho, rfl⟩⟩
    simp [zij, AV.sc, AV.scV, AV.scA, AV.scB]
   ·rw [zgj hz] at ho
    have hz : (IT.cmp ks[i] ks'[i] != 0) = true := by simpa using hz
    simp [hz]
    rw [← ho] at hK
    exact Out.same rfl hs rfl rfl hK
  ·have hnl : ¬ ks.length < ks'.length := by omega
   simp [zmr, hlt, hnl]
   obtain rfl : i = ks.length := by omega
   rw [List.drop_length, he, List.drop_length] at ho
   rw [← ho] at hK
   exact zcQ hs rfl rfl hK
theorem zvj : ∀ (m : Nat) (v w : IT), v.nodes ≤ m → v.nodes ≤ 1000000 → ∀ (H : zaa) (K : AV → zaa → Prop), K (.int .i64 (IT.cmp v w)) H → ACalls tP zex [.agg v.cs, .agg w.cs] H K := by
 intro m
 induction m with
 | zero => intro v w h; have := v.nodes_pos; omega
 | succ m ih =>
  intro v w hv hb H K hK
  obtain ⟨n, ks⟩ := v
  obtain ⟨n', ks'⟩ := w
  have hnl : IT.nodesL ks + 1 ≤ 1000000 := by simpa [IT.nodes] using hb
  have hll := IT.len_le ks
  refine ACalls.out (zA4 fun hs => ?_)
  simp [IT.cs, zsf]
  refine zbE _ (fun J => zoO _ _ _ _ ⟨rfl, rfl⟩) ?_
  refine zbE _ (fun J => zoO _ _ _ _ ⟨rfl, rfl⟩) ?_
  simp [zaA, zbt, zaB, List.replicate]
  refine zbE _ (fun J => zvR [icmp n n', icmp ks.length ks'.length] _ (by simp) _ _ ⟨rfl, rfl⟩) ?_
  by_cases hz : orL [icmp n n', icmp ks.length ks'.length] = 0
  ·have hz' := hz
   simp only [orL, ze4] at hz
   have hlen : ks.length = ks'.length := by have := (zgo _ _).mp hz.2.1; omega
   simp [hz']
   refine zoP ks ks' hlen (by omega) (fun i h h' H K hK => ?_) _ _ ?_
   ·have := IT.kid_lt (n := n) h
    exact ih _ _ (by omega) (by omega) H K hK
   ·refine Out.same rfl hs rfl rfl ?_
    simpa [IT.cmp, hz, cor] using hK
  ·have hzb : (orL [icmp n n', icmp ks.length ks'.length] != 0) = true := by simpa using hz
   simp [hzb]
   refine Out.same rfl hs rfl rfl ?_
   have e : IT.cmp (.mk n ks) (.mk n' ks') = orL [icmp n n', icmp ks.length ks'.length] := by
    simp only [IT.cmp, orL, cor] at hz ⊢
    split <;> (try split) <;> (try split) <;> simp_all
   rwa [e] at hK
theorem zpR (b : Bool) (H : zaa) (K : AV → zaa → Prop) (hK : K (.int .i64 (if b then -1 else 1)) H) : ACalls tP zgH [.bool b] H K := by
 refine ACalls.out (zBX fun hs => ?_)
 have hO := zcQ (K := K) (H := H) (r := .int .i64 (if b then -1 else 1)) hs rfl rfl hK
 cases b <;> simp [zsx] <;> simpa using hO
theorem zow (ks ks' : List IT) (hb : ks.length ≤ 1000000)
  (hc : ∀ (i : Nat) (h : i < ks.length) (h' : i < ks'.length) (H : zaa) (K : AV → zaa → Prop), K (.int .i64 (IT.cmp ks[i] ks'[i])) H → ACalls tP zgI [.agg ks[i].cs, .agg ks'[i].cs] H K)
  (H : zaa) (K : AV → zaa → Prop) (hK : K (.int .i64 (cor (icmp ks.length ks'.length) (IT.cmpL ks ks'))) H) : ACalls tP zdY [.sl (IT.css ks) .none, .sl (IT.css ks') .none] H K := by
 refine ACalls.out (zzN fun hs => ?_)
 have fin := zcQ (K := K) (H := H) (r := .int .i64 (cor (icmp ks.length ks'.length) (IT.cmpL ks ks'))) hs rfl rfl hK
 by_cases he : ks.length = ks'.length
 ·have e : cor (icmp ks.length ks'.length) (IT.cmpL ks ks') = IT.cmpL ks ks' := by simp [he, zkf, cor]
  rw [e] at fin
  simp [zlW, he]
  refine zzL (Inv := fun q t13 H' => ∃ i : Nat, i ≤ ks.length ∧ q = ks.length - i ∧ t13 = .int .i64 i ∧ IT.cmpL (ks.drop i) (ks'.drop i) = IT.cmpL ks ks' ∧ H' = H) ks.length ?_ ?_
  ·intro _; exact ⟨0, by omega, by omega, rfl, by simp, rfl⟩
  ·rintro q t8 H' ⟨i, hi, rfl, rfl, ho, rfl⟩ hsc hlen hsF Kb hKb
   by_cases hlt : i < ks.length
   ·have hlt' : i < ks'.length := by omega
    rw [IT.cmpL_drop hlt hlt'] at ho
    simp [zl1, hlt, hlt']
    refine zbE _ (fun J => hc i hlt hlt' _ _ ⟨rfl, rfl⟩) ?_
    by_cases hz : IT.cmp ks[i] ks'[i] = 0
    ·rw [zj1 hz] at ho
     simp [hz]
     rw [zal (by omega) (by omega)]
     refine hKb _ _ ⟨ks.length - (i + 1), by omega, Back.here (Nat.le_refl _) hs ?_ ⟨_, rfl, i + 1, by omega, rfl, by simp, ho, rfl⟩⟩
     simp [zhY, AV.sc, AV.scV, AV.scA, AV.scB]
    ·rw [zgj hz] at ho
     have hz : (IT.cmp ks[i] ks'[i] != 0) = true := by simpa using hz
     simp [hz]
     rw [ho]
     exact fin
   ·have hlt' : ¬ i < ks'.length := by omega
    simp [zl1, hlt, hlt']
    obtain rfl : i = ks.length := by omega
    rw [List.drop_length, he, List.drop_length] at ho
    simp only [IT.cmpL] at ho
    rw [← ho] at fin
    exact fin
 ·have hb : ((ks.length : Int) != ks'.length) = true := by simp; omega
  simp [zlW, hb]
  refine zpR _ _ _ ?_
  have e : cor (icmp ks.length ks'.length) (IT.cmpL ks ks') = if decide (ks.length < ks'.length) = true then -1 else 1 := by
   rw [zpn (by omega), zgj (by split <;> omega)]; simp
  rw [e] at fin
  exact fin
theorem zv4 : ∀ (m : Nat) (v w : IT), v.nodes ≤ m → v.nodes ≤ 1000000 → ∀ (H : zaa) (K : AV → zaa → Prop), K (.int .i64 (IT.cmp v w)) H → ACalls tP zgI [.agg v.cs, .agg w.cs] H K := by
 intro m
 induction m with
 | zero => intro v w h; have := v.nodes_pos; omega
 | succ m ih =>
  intro v w hv hb H K hK
  obtain ⟨n, ks⟩ := v
  obtain ⟨n', ks'⟩ := w
  have hnl : IT.nodesL ks + 1 ≤ 1000000 := by simpa [IT.nodes] using hb
  have hll := IT.len_le ks
  refine ACalls.out (zB0 fun hs => ?_)
  have fin : ∀ J, Out H.length K (.int .i64 (IT.cmp (.mk n ks) (.mk n' ks'))) (H ++ J) := fun J => Out.same rfl hs rfl rfl hK
  by_cases h2 : n = n'
  ·subst h2
   simp [IT.cs, zmO]
   have e : IT.cmp (.mk n ks) (.mk n ks') = cor (icmp ks.length ks'.length) (IT.cmpL ks ks') := by simp [IT.cmp, zkf, cor]
   rw [e] at fin
   refine zow ks ks' (by omega) (fun i h h' H K hK => ?_) _ _ (fin _)
   have := IT.kid_lt (n := n) h
   exact ih _ _ (by omega) (by omega) H K hK
  ·have hb : (n != n') = true := by simpa using h2
   simp [IT.cs, zmO, hb]
   refine zpR _ _ _ ?_
   have e : IT.cmp (.mk n ks) (.mk n' ks') = if decide (n < n') = true then -1 else 1 := by
    simp only [IT.cmp, cor]
    rw [zpn h2]; split <;> simp <;> omega
   rw [e] at fin
   exact fin _
end Go.Proofs.YtacebbdfgbfgiaaGreat
