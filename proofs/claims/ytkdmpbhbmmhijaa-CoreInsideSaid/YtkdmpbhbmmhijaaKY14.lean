import Derived.Test.YtkdmpbhbmmhijaaTK
import Derived.Test.YtkdmpbhbmmhijaaKTW6
import Derived.Test.YtkdmpbhbmmhijaaKGR
set_option linter.unusedSimpArgs false
set_option linter.unusedVariables false
namespace Go.Proofs.Ytkdmpbhbmmhijaa
open Go Go.Abs
set_option maxRecDepth 8000
theorem zc7 {k : AV → Prop} (a b : AV) (vs : List AV) : za3 (.tup (a :: b :: vs)) 1 k = k b := propext Iff.rfl
theorem zc8 {k : AV → Prop} (a b c : AV) (vs : List AV) : za3 (.tup (a :: b :: c :: vs)) 2 k = k c := propext Iff.rfl
def zfr (s : List UInt8) : List Tk × Int × Int :=
 if s.length > 16384 then ([], 0, 9) else
 match zby (kwF kwds) s 0 with
 | .error (p, e) => ([], p, e)
 | .ok l => (l, 0, 0)
theorem zuz (s : List UInt8) : zeI s = .tup [.sl ((zfr s).1.map Tk.cs) .none, .int .i64 (zfr s).2.1, .int .i64 (zfr s).2.2] := by
 unfold zeI zfr
 split
 ·rfl
 ·split <;> (rename_i h; simp [h])
def zbX (s : List UInt8) (x : List Tk × Int × Int) : Bool := x.2.2 == 0 && match x.1 with
 | [a, _] => a.kind == 2 && a.text == s
 | _ => false
def zcL (s : List UInt8) : Bool := zbX s (zfr s)
theorem zAy (s : List UInt8) (H : zaa) (K : AV → zaa → Prop) (hK : K (.bool (zcL s)) H) : ACalls tP zko [.str s] H K := by
 refine ACalls.out (zMA fun hs => ?_)
 have hO : Out H.length K (.bool (zcL s)) H := Out.bool (J := []) (by simp) (Nat.le_refl _) hs hK
 simp only [zrE]
 refine zGH s _ _ ?_
 rw [zuz]
 rw [zcL] at hO
 generalize zfr s = x at hO ⊢
 obtain ⟨l, p, e⟩ := x
 clear hK
 cases h0 : e == 0 with
 | false =>
  rw [show zbX s (l, p, e) = false by simp [zbX, h0]] at hO
  simp [zc7, zc8, h0]; exact hO
 | true =>
 match l with
 | [] =>
  rw [show zbX s ([], p, e) = false by simp [zbX]] at hO
  simp [zc7, zc8, h0]; exact hO
 | [x] =>
  rw [show zbX s ([x], p, e) = false by simp [zbX]] at hO
  simp [zc7, zc8, h0]; exact hO
 | [a, x] =>
  rw [show zbX s ([a, x], p, e) = (a.kind == 2 && a.text == s) by simp [zbX, h0]] at hO
  cases hk : a.kind == 2 with
  | false => rw [hk] at hO; simp [zc7, zc8, h0, Tk.cs, hk]; exact hO
  | true => rw [hk] at hO; simp [zc7, zc8, h0, Tk.cs, hk]; exact hO
 | a :: b :: c :: r =>
  rw [show zbX s (a :: b :: c :: r, p, e) = false by simp [zbX]] at hO
  have : ¬ ((r.length : Int) + 1 + 1 + 1 = 2) := by omega
  have h2 : ((r.length : Int) + 1 + 1 + 1 == 2) = false := by simpa using this
  simp [zc7, zc8, h0, h2]; exact hO
theorem zBf (s : List UInt8) (H : zaa) (K : AV → zaa → Prop) (hK : K (.bool (zcL s)) H) : ACalls tP zkr [.str s] H K := by
 refine ACalls.out (zNj fun hs => ?_)
 have hO : Out H.length K (.bool (zcL s)) H := Out.bool (J := []) (by simp) (Nat.le_refl _) hs hK
 simp only [zrT]
 refine zGI s _ _ ?_
 rw [zuz]
 rw [zcL] at hO
 generalize zfr s = x at hO ⊢
 obtain ⟨l, p, e⟩ := x
 clear hK
 cases h0 : e == 0 with
 | false =>
  rw [show zbX s (l, p, e) = false by simp [zbX, h0]] at hO
  simp [zc7, zc8, h0]; exact hO
 | true =>
 match l with
 | [] =>
  rw [show zbX s ([], p, e) = false by simp [zbX]] at hO
  simp [zc7, zc8, h0]; exact hO
 | [x] =>
  rw [show zbX s ([x], p, e) = false by simp [zbX]] at hO
  simp [zc7, zc8, h0]; exact hO
 | [a, x] =>
  rw [show zbX s ([a, x], p, e) = (a.kind == 2 && a.text == s) by simp [zbX, h0]] at hO
  cases hk : a.kind == 2 with
  | false => rw [hk] at hO; simp [zc7, zc8, h0, Tk.cs, hk]; exact hO
  | true => rw [hk] at hO; simp [zc7, zc8, h0, Tk.cs, hk]; exact hO
 | a :: b :: c :: r =>
  rw [show zbX s (a :: b :: c :: r, p, e) = false by simp [zbX]] at hO
  have : ¬ ((r.length : Int) + 1 + 1 + 1 = 2) := by omega
  have h2 : ((r.length : Int) + 1 + 1 + 1 == 2) = false := by simpa using this
  simp [zc7, zc8, h0, h2]; exact hO
def zb0 (l : List (List UInt8)) : Bool := !decide l.Nodup
def strs (l : List (List UInt8)) : List (List AV) := l.map fun s => [.str s]
@[simp] theorem zSN (l : List (List UInt8)) : (strs l).length = l.length := by simp [strs]
theorem zGN {l : List (List UInt8)} {i : Nat} (h : i < (strs l).length) : (strs l)[i] = [.str (l[i]'(by simpa using h))] := by simp [strs]
theorem zFv {l : List (List UInt8)} {i j : Nat} (hi : i < l.length) (hj : j < i) (h : l[i] = l[j]) : zb0 l = true := by
 simp only [zb0, Bool.not_eq_true', decide_eq_false_iff_not]
 intro hn
 exact (List.pairwise_iff_getElem.mp hn) j i (by omega) hi hj h.symm
theorem zLz (l : List (List UInt8)) (hl : l.length ≤ 1000000) (H : zaa) (K : AV → zaa → Prop) (hK : K (.bool (zb0 l)) H) : ACalls tP zhl [.sl (strs l) .none] H K := by
 refine ACalls.out (zLy fun hs => ?_)
 have hO : Out H.length K (.bool (zb0 l)) H := Out.bool (J := []) (by simp) (Nat.le_refl _) hs hK
 simp [zrd]
 refine zLw (Inv := fun q t3 H' => ∃ i : Nat, i ≤ l.length ∧ q = l.length - i ∧ t3 = .int .i64 i ∧ (∀ a b (ha : a < i) (hb : b < a) (h' : a < l.length), l[a] ≠ l[b]) ∧ H = H') l.length ?_ ?_
 ·intro _; exact ⟨0, by omega, by omega, rfl, by omega, rfl⟩
 ·rintro q t3 H' ⟨i, hi, rfl, rfl, hne, rfl⟩ hsc hlen hsF Kb hKb
  by_cases hlt : i < l.length
  ·simp [zmq, hlt]
   refine zLx (Inv := fun q t4 H' => ∃ j : Nat, j ≤ i ∧ q = i - j ∧ t4 = .int .i64 j ∧ (∀ b (hb : b < j) (hb' : b < l.length), l[i] ≠ l[b]) ∧ H = H') i ?_ ?_
   ·intro _; exact ⟨0, by omega, by omega, rfl, by omega, rfl⟩
   ·rintro q t4 H' ⟨j, hj, rfl, rfl, hnj, rfl⟩ hsc1 hlen1 hsF1 Kb1 hKb1
    by_cases hjl : j < i
    ·simp [zmr, hjl, hlt, show j < l.length by omega, zGN]
     cases he : l[i] == l[j] with
     | true =>
      rw [zFv hlt hjl (by simpa using he)] at hO
      simpa using hO
     | false =>
      simp
      rw [zar (by omega) (by omega)]
      refine hKb1 _ _ ⟨i - (j + 1), by omega, Back.at (J := []) (H2 := H) (by simp) (Nat.le_refl _) hs ?_ ⟨_, rfl, j + 1, by omega, rfl, by simp, ?_, rfl⟩⟩
      ·simp [zgu, AV.sc, AV.scV, AV.scA, AV.scB]
      ·intro b hb hb'
       by_cases hbj : b = j
       ·subst hbj; simpa using he
       ·exact hnj b (by omega) hb'
    ·obtain rfl : j = i := by omega
     simp [zmr]
     rw [zar (by omega) (by omega)]
     refine hKb _ _ ⟨l.length - (j + 1), by omega, Back.at (J := []) (H2 := H) (by simp) (Nat.le_refl _) hs ?_ ⟨_, rfl, j + 1, by omega, rfl, by simp, ?_, rfl⟩⟩
     ·simp [zgt, AV.sc, AV.scV, AV.scA, AV.scB]
     ·intro a b ha hb h'
      by_cases haj : a = j
      ·subst haj; exact hnj b hb (by omega)
      ·exact hne a b (by omega) hb h'
  ·obtain rfl : i = l.length := by omega
   have : zb0 l = false := by
    simp only [zb0, Bool.not_eq_false', decide_eq_true_eq]
    refine List.pairwise_iff_getElem.mpr fun a b ha hb hab he => ?_
    exact hne b a hb hab hb he.symm
   rw [this] at hO
   simp [zmq]
   exact hO
end Go.Proofs.Ytkdmpbhbmmhijaa
