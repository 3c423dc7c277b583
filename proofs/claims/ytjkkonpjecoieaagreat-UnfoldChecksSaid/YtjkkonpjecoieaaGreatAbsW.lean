import Derived.Test.YtjkkonpjecoieaaGreatKNum
import Derived.Test.YtjkkonpjecoieaaGreatProg
import Derived.KernelRfl
import Derived.Test.YtjkkonpjecoieaaGreatAbsQ1
import Derived.IntWalk
import Derived.Lib.AppendStr
import Derived.Lib.UnsafeStr
import Derived.Sort.Grow
import Derived.Deep.Draws
set_option linter.unusedSimpArgs false
set_option linter.unusedVariables false
namespace Go.Proofs.YtjkkonpjecoieaaGreat
open Go Go.Abs
set_option maxRecDepth 100000
end Go.Proofs.YtjkkonpjecoieaaGreat
namespace Go.Abs
def zaq : List Nat → Nat
 | [] => 0
 | x :: l => x + 1000000000 * zaq l
def lim (n : Nat) : List Nat := if _h : n = 0 then [] else n % 1000000000 :: lim (n / 1000000000)
termination_by n
decreasing_by exact Nat.div_lt_self (by omega) (by decide)
@[simp] theorem zBh : lim 0 = [] := by rw [lim]; rfl
theorem zcm {n : Nat} (h : n ≠ 0) : lim n = n % 1000000000 :: lim (n / 1000000000) := by rw [lim, dif_neg h]
theorem zca (n : Nat) : zaq (lim n) = n := by
 induction n using Nat.strongRecOn with
 | _ n ih =>
  by_cases h : n = 0
  ·subst h; simp [zaq]
  ·rw [zcm h, zaq, ih _ (Nat.div_lt_self (by omega) (by decide))]
   exact Nat.mod_add_div n 1000000000
theorem zcQ (n : Nat) : ∀ x ∈ lim n, x < 1000000000 := by
 induction n using Nat.strongRecOn with
 | _ n ih =>
  by_cases h : n = 0
  ·subst h; simp
  ·rw [zcm h]
   intro x hx
   rcases List.mem_cons.1 hx with rfl | hx
   ·exact Nat.mod_lt _ (by decide)
   ·exact ih _ (Nat.div_lt_self (by omega) (by decide)) x hx
theorem lim_nil {n : Nat} : lim n = [] ↔ n = 0 := by
 by_cases h : n = 0
 ·simp [h]
 ·rw [zcm h]; simp [h]
def zbH : List Nat → List Nat
 | [] => []
 | x :: l => if x = 0 ∧ zbH l = [] then [] else x :: zbH l
theorem zgs : ∀ (a b : List Nat), zaq (a ++ b) = zaq a + 1000000000 ^ a.length * zaq b
 | [], b => by simp [zaq]
 | x :: a, b => by
  simp only [List.cons_append, zaq, zgs a b, List.length_cons, Nat.pow_succ]
  grind
theorem ziV : ∀ (l : List Nat), (∀ x ∈ l, x < 1000000000) → zbH l = lim (zaq l)
 | [], _ => by simp [zbH, zaq]
 | x :: l, h => by
  have hx := h x (by simp)
  have ih := ziV l (fun y hy => h y (by simp [hy]))
  rw [zbH, zaq, ih]
  have e1 : (x + 1000000000 * zaq l) % 1000000000 = x := by rw [Nat.add_mul_mod_self_left, Nat.mod_eq_of_lt hx]
  have e2 : (x + 1000000000 * zaq l) / 1000000000 = zaq l := by rw [Nat.add_mul_div_left _ _ (by decide), Nat.div_eq_of_lt hx]; omega
  by_cases h0 : x = 0 ∧ lim (zaq l) = []
  ·rw [if_pos h0]
   have := lim_nil.1 h0.2
   rw [this, h0.1]; simp
  ·rw [if_neg h0]
   have : x + 1000000000 * zaq l ≠ 0 := by
    intro h1
    refine h0 ⟨by omega, lim_nil.2 ?_⟩
    have : 1000000000 * zaq l = 0 := by omega
    rcases Nat.mul_eq_zero.1 this with h2 | h2
    ·cases h2
    ·exact h2
   rw [zcm this, e1, e2]
theorem zeE : ∀ (l : List Nat), (∀ x ∈ l, x < 1000000000) → zaq l < 1000000000 ^ l.length
 | [], _ => by simp [zaq]
 | x :: l, h => by
  have hx := h x (by simp)
  have ih := zeE l (fun y hy => h y (by simp [hy]))
  simp only [zaq, List.length_cons, Nat.pow_succ]
  have : 1000000000 * (zaq l + 1) ≤ 1000000000 * 1000000000 ^ l.length := Nat.mul_le_mul_left _ ih
  rw [Nat.mul_comm (1000000000 ^ l.length)]
  rw [Nat.mul_succ] at this
  omega
theorem zbO {n k : Nat} (h : n < 1000000000 ^ k) : (lim n).length ≤ k := by
 induction k generalizing n with
 | zero => have : n = 0 := by simp at h; omega
           subst this; simp
 | succ k ih =>
  by_cases h0 : n = 0
  ·subst h0; simp
  ·rw [zcm h0, List.length_cons]
   have := ih (n := n / 1000000000) (Nat.div_lt_of_lt_mul (by rw [Nat.pow_succ, Nat.mul_comm] at h; exact h))
   omega
theorem ztp {n : Nat} (h : n ≠ 0) : 1000000000 ^ ((lim n).length - 1) ≤ n := by
 induction n using Nat.strongRecOn with
 | _ n ih =>
  rw [zcm h, List.length_cons, Nat.add_sub_cancel]
  by_cases h1 : n / 1000000000 = 0
  ·rw [h1]; simp; omega
  ·have := ih (n / 1000000000) (Nat.div_lt_self (by omega) (by decide)) h1
   have hl : 0 < (lim (n / 1000000000)).length := by rw [zcm h1]; simp
   have e : (lim (n / 1000000000)).length = (lim (n / 1000000000)).length - 1 + 1 := by omega
   rw [e, Nat.pow_succ]
   calc _ ≤ (n / 1000000000) * 1000000000 := Nat.mul_le_mul_right _ this
    _ ≤ n := Nat.div_mul_le_self _ _
theorem ztq {n : Nat} (h0 : n ≠ 0) (h : n < 1000000000) : lim n = [n] := by
 rw [zcm h0, Nat.mod_eq_of_lt h, Nat.div_eq_of_lt h]; simp
theorem zmQ : ∀ (l : List Nat) (j : Nat) (x : Nat) (h : j < l.length), zaq (l.set j x) + l[j] * 1000000000 ^ j = zaq l + x * 1000000000 ^ j
 | [], j, x, h => by simp at h
 | y :: l, 0, x, h => by simp [zaq]; omega
 | y :: l, j + 1, x, h => by
  have := zmQ l j x (by simpa using h)
  simp only [List.set_cons_succ, zaq, List.getElem_cons_succ, Nat.pow_succ]
  grind
theorem zgu (l : List Nat) (i : Nat) (h : i < l.length) : zaq (l.take (i + 1)) = zaq (l.take i) + l[i] * 1000000000 ^ i := by
 rw [List.take_succ_eq_append_getElem h, zgs]
 simp [zaq, Nat.min_eq_left (Nat.le_of_lt h)]
 exact Nat.mul_comm _ _
theorem zBl (n : Nat) : zaq (List.replicate n 0) = 0 := by
 induction n with
 | zero => rfl
 | succ n ih => rw [List.replicate_succ, zaq, ih]
theorem zmP (l : List Nat) (i : Nat) (h : i < l.length) : zaq (l.drop i) = l[i] + 1000000000 * zaq (l.drop (i + 1)) := by
 rw [List.drop_eq_getElem_cons h, zaq]
theorem ztu {a b : Nat} (h : (lim a).length < (lim b).length) : a < b := by
 by_cases hb : b = 0
 ·subst hb; simp at h
 ·have h1 := ztp hb
  have h2 := zeE (lim a) (zcQ a)
  rw [zca] at h2
  exact Nat.lt_of_lt_of_le h2 (Nat.le_trans (Nat.pow_le_pow_right (by decide) (by omega)) h1)
end Go.Abs
namespace Go.Abs
open Go Go.RowKit

section
variable {H : zaa} {K : AV → zaa → Prop} {k : AV → Prop}
@[simp] theorem zQo (p q : Prop) : aIf true p q = p := propext Iff.rfl
@[simp] theorem zQn (p q : Prop) : aIf false p q = q := propext Iff.rfl
theorem zr7 (b : Bool) (p q : Prop) : zag (.bool b) p q = (if b = true then p else q) := rfl
@[simp] theorem zRP (p q : Prop) : zag (.bool true) p q = p := propext Iff.rfl
@[simp] theorem zRO (p q : Prop) : zag (.bool false) p q = q := propext Iff.rfl
@[simp] theorem zRf (x y : AV) : zai (.bool true) x y k = k x := propext Iff.rfl
@[simp] theorem zRe (x y : AV) : zai (.bool false) x y k = k y := propext Iff.rfl
@[simp] theorem zQe (p q : Prop) : zcZ (.bool true) true p q = p := propext Iff.rfl
@[simp] theorem zQb (p q : Prop) : zcZ (.bool false) false p q = p := propext Iff.rfl
@[simp] theorem zQd (p q : Prop) : zcZ (.bool true) false p q = q := propext Iff.rfl
@[simp] theorem zQc (p q : Prop) : zcZ (.bool false) true p q = q := propext Iff.rfl
@[simp] theorem zQf (want : Bool) (p q : Prop) : zcZ (.tup []) want p q = q := propext Iff.rfl
@[simp] theorem zP8 (p : (AV → zaa → Prop) → Prop) (J : AV → zaa → Prop) : zab (.bool true) true H p J = p J := propext Iff.rfl
@[simp] theorem zP5 (p : (AV → zaa → Prop) → Prop) (J : AV → zaa → Prop) : zab (.bool false) false H p J = p J := propext Iff.rfl
@[simp] theorem zP7 (p : (AV → zaa → Prop) → Prop) (J : AV → zaa → Prop) : zab (.bool true) false H p J = J (.tup []) H := propext Iff.rfl
@[simp] theorem zP6 (p : (AV → zaa → Prop) → Prop) (J : AV → zaa → Prop) : zab (.bool false) true H p J = J (.tup []) H := propext Iff.rfl
@[simp] theorem zP9 (want : Bool) (p : (AV → zaa → Prop) → Prop) (J : AV → zaa → Prop) : zab (.tup []) want H p J = J (.tup []) H := propext Iff.rfl
@[simp] theorem zRV (cs : List AV) : (AV.agg cs).cs? = some cs := rfl
@[simp] theorem zRY (j : IntKind) (n : Int) : (AV.int j n).cs? = some [.int j n] := rfl
@[simp] theorem zRW (b : Bool) : (AV.bool b).cs? = some [.bool b] := rfl
@[simp] theorem zR8 (s : List UInt8) : (AV.str s).cs? = some [.str s] := rfl
@[simp] theorem zR6 (es : List (List AV)) (t : Tok) : (AV.sl es t).cs? = some [.sl es t] := rfl
@[simp] theorem zR7 : (AV.snil).cs? = some [.snil] := rfl
@[simp] theorem zR5 (i o : Nat) : (AV.ptr i o).cs? = some [.ptr i o] := rfl
@[simp] theorem zR0 (i o l c : Nat) : (AV.ms i o l c).cs? = some [.ms i o l c] := rfl
@[simp] theorem zRX (f : Nat) (c : List AV) : (AV.fn f c).cs? = some [.fn f c] := rfl
@[simp] theorem zR3 : (AV.nilp).cs? = some [.nilp] := rfl
@[simp] theorem zR2 : (AV.nili).cs? = some [.nili] := rfl
@[simp] theorem zR4 (i n : Nat) : (AV.ov i n).cs? = some [.ov i n] := rfl
@[simp] theorem zR9 (i n o : Nat) : (AV.vp i n o).cs? = some [.vp i n o] := rfl
@[simp] theorem zR1 : (AV.nilfn).cs? = some [.nilfn] := rfl
@[simp] theorem zQ2 (cs : List AV) : zau cs H K = K (.ptr H.length 0) (H ++ [.cells cs]) := propext Iff.rfl
@[simp] theorem zPr (cs : List AV) : zao (.agg cs) H K = K (.ptr H.length 0) (H ++ [.cells cs]) := propext Iff.rfl
@[simp] theorem zPv (j : IntKind) (n : Int) : zao (.int j n) H K = K (.ptr H.length 0) (H ++ [.cells [.int j n]]) := propext Iff.rfl
@[simp] theorem zPC (s : List UInt8) : zao (.str s) H K = K (.ptr H.length 0) (H ++ [.cells [.str s]]) := propext Iff.rfl
@[simp] theorem zPs (b : Bool) : zao (.bool b) H K = K (.ptr H.length 0) (H ++ [.cells [.bool b]]) := propext Iff.rfl
@[simp] theorem zPA (es : List (List AV)) (t : Tok) : zao (.sl es t) H K = K (.ptr H.length 0) (H ++ [.cells [.sl es t]]) := propext Iff.rfl
@[simp] theorem zPG (n off : Nat) (cs : List AV) : zbc true n off cs k = (off + n ≤ cs.length ∧ k (.agg ((cs.drop off).take n))) := propext Iff.rfl
theorem zzU {cs : List AV} {off : Nat} {c : AV} (n : Nat) (h : cs[off]? = some c) : zbc false n off cs k = k c := by simp [zbc, h]
@[simp] theorem zPJ (n : Nat) (c : AV) (cs : List AV) : zbc false n 0 (c :: cs) k = k c := propext Iff.rfl
@[simp] theorem zPI (n i : Nat) (c : AV) (cs : List AV) : zbc false n (i + 1) (c :: cs) k = zbc false n i cs k := by simp [zbc]
@[simp] theorem zQH (g : Bool) (n : Nat) (cs : List AV) : zad g n (.view cs) H k = zbc g n 0 cs k := propext Iff.rfl
def zhz (g : Bool) (n off : Nat) (b : Option AB) (k : AV → Prop) : Prop :=
 match b with
 | some (.cells cs) => zbc g n off cs k
 | _ => False
@[simp] theorem zzX (g : Bool) (n off : Nat) (cs : List AV) : zhz g n off (some (.cells cs)) k = zbc g n off cs k := propext Iff.rfl
@[simp] theorem zQG (g : Bool) (n id off : Nat) : zad g n (.ptr id off) H k = zhz g n off H[id]? k := by
 rw [zf0]; rfl
def zes (n off id : Nat) (xs : Option (List AV)) (b : Option AB) (H : zaa) (K : zaa → Prop) : Prop :=
 match xs, b with
 | some xs, some (.cells cs) => (xs.length = n ∧ off + n ≤ cs.length ∧ xs.all AV.known = true) ∧ K (H.set id (.cells (cs.take off ++ xs ++ cs.drop (off + n))))
 | _, _ => False
@[simp] theorem zRI {K' : zaa → Prop} (n off id : Nat) (xs cs : List AV) : zes n off id (some xs) (some (.cells cs)) H K' = ((xs.length = n ∧ off + n ≤ cs.length ∧ xs.all AV.known = true) ∧ K' (H.set id (.cells (cs.take off ++ xs ++ cs.drop (off + n))))) := propext Iff.rfl
@[simp] theorem zRK {K' : zaa → Prop} (n id off : Nat) (x : AV) : zak n (.ptr id off) x H K' = zes n off id x.cs? H[id]? H K' := by
 cases hx : x.cs? with
 | none => simp [zdZ, zes, hx]
 | some xs => cases hb : H[id]? with
  | none => simp [zdZ, zes, hx, hb]
  | some b => cases b <;> simp [zdZ, zes, hx, hb]
def zr1 (g : Bool) (n m off : Nat) (b : Option AB) (k : AV → Prop) : Prop :=
 match b with
 | some (.vec _ _ m' cs) => m' = m ∧ zbc g n off cs k
 | _ => False
@[simp] theorem zQE (g : Bool) (n m off e s m' : Nat) (cs : List AV) : zr1 g n m off (some (.vec e s m' cs)) k = (m' = m ∧ zbc g n off cs k) := propext Iff.rfl
@[simp] theorem zQI (g : Bool) (n id m off : Nat) : zad g n (.vp id m off) H k = zr1 g n m off H[id]? k := by
 rw [zf0]; rfl
def zf1 (n m off id : Nat) (xs : Option (List AV)) (b : Option AB) (H : zaa) (K' : zaa → Prop) : Prop :=
 match xs, b with
 | some xs, some (.vec e s m' cs) => (m' = m ∧ xs.length = n ∧ off + n ≤ cs.length ∧ xs.all AV.known = true) ∧ K' (H.set id (.vec e s m' (cs.take off ++ xs ++ cs.drop (off + n))))
 | _, _ => False
@[simp] theorem zme {K' : zaa → Prop} (n m off id e s m' : Nat) (xs cs : List AV) : zf1 n m off id (some xs) (some (.vec e s m' cs)) H K' = ((m' = m ∧ xs.length = n ∧ off + n ≤ cs.length ∧ xs.all AV.known = true) ∧ K' (H.set id (.vec e s m' (cs.take off ++ xs ++ cs.drop (off + n))))) := propext Iff.rfl
@[simp] theorem zRL {K' : zaa → Prop} (n id m off : Nat) (x : AV) : zak n (.vp id m off) x H K' = zf1 n m off id x.cs? H[id]? H K' := by
 cases hx : x.cs? with
 | none => simp [zdZ, zf1, hx]
 | some xs => cases hb : H[id]? with
  | none => simp [zdZ, zf1, hx, hb]
  | some b => cases b <;> simp [zdZ, zf1, hx, hb]
def zma (e size bytes n id : Nat) (ys : List (List AV)) (b : Option AB) (H : zaa) (K : AV → zaa → Prop) : Prop :=
 match b with
 | some (.vec e' s' n' cs) => ((e' = e ∧ s' = size ∧ n' = n) ∧ (n + ys.length) * bytes ≤ 140737488355328 ∧ n + ys.length ≤ 9223372036854775807) ∧ K (.ov id (n + ys.length)) (H.set id (.vec e size (n + ys.length) (cs ++ ys.flatten)))
 | _ => False
@[simp] theorem zPn (e size bytes n id e' s' n' : Nat) (ys : List (List AV)) (cs : List AV) : zma e size bytes n id ys (some (.vec e' s' n' cs)) H K = (((e' = e ∧ s' = size ∧ n' = n) ∧ (n + ys.length) * bytes ≤ 140737488355328 ∧ n + ys.length ≤ 9223372036854775807) ∧ K (.ov id (n + ys.length)) (H.set id (.vec e size (n + ys.length) (cs ++ ys.flatten)))) := propext Iff.rfl
@[simp] theorem zPm (e size bytes id n : Nat) (ys : List (List AV)) : zaO e size bytes (.ov id n) ys H K = zma e size bytes n id ys H[id]? H K := by
 unfold zaO zma; rfl
@[simp] theorem zQi (esz id m : Nat) (j : IntKind) (n : Int) : zaj esz (.ov id m) (.int j n) k = ((0 ≤ n ∧ n < m) ∧ k (.vp id m (n.toNat * esz))) := zhy ..
@[simp] theorem zQr (id n : Nat) : zah 1 (.ov id n) k = k (.int .i64 n) := propext Iff.rfl
@[simp] theorem zP1 (off i m o : Nat) : zaf off (.vp i m o) k = k (.vp i m (o + off)) := propext Iff.rfl
@[simp] theorem zRb (i m o : Nat) : za3 (.vp i m o) k = k (.vp i m o) := propext Iff.rfl
@[simp] theorem zPy (i n : Nat) : zao (.ov i n) H K = K (.ptr H.length 0) (H ++ [.cells [.ov i n]]) := propext Iff.rfl
@[simp] theorem zSk (i n : Nat) : (AV.ov i n).known = true := rfl
@[simp] theorem zSB (m i n : Nat) : (AV.ov i n).scA m = decide (i < m) := rfl
@[simp] theorem zQ9 (i o : Nat) : za3 (.ptr i o) k = k (.ptr i o) := propext Iff.rfl
@[simp] theorem zRa (cs : List AV) : za3 (.view cs) k = k (.view cs) := propext Iff.rfl
@[simp] theorem zQ8 (f : Nat) (c : List AV) : za3 (.fn f c) k = k (.fn f c) := propext Iff.rfl
@[simp] theorem zPZ (off i o : Nat) : zaf off (.ptr i o) k = k (.ptr i (o + off)) := propext Iff.rfl
@[simp] theorem zP0 (off : Nat) (cs : List AV) : zaf off (.view cs) k = (off ≤ cs.length ∧ k (.view (cs.drop off))) := zr0 ..
@[simp] theorem zPW (g : Bool) (n off : Nat) (cs : List AV) : zdo g n off (.agg cs) k = zbc g n off cs k := propext Iff.rfl
@[simp] theorem zQj (esz : Nat) (es : List (List AV)) (t : Tok) (j : IntKind) (n : Int) : zaj esz (.sl es t) (.int j n) k = ((0 ≤ n ∧ n < es.length) ∧ ((es.getD n.toNat []).length = esz ∧ k (.view (es.getD n.toNat [])))) := zhy ..
@[simp] theorem zQh (esz id off len cap : Nat) (j : IntKind) (n : Int) : zaj esz (.ms id off len cap) (.int j n) k = ((0 ≤ n ∧ n < len) ∧ k (.ptr id (off + n.toNat * esz))) := zhy ..
@[simp] theorem zQl (s : List UInt8) (j : IntKind) (n : Int) : zbw (.str s) (.int j n) k = ((0 ≤ n ∧ n < s.length) ∧ k (.int .u8 (s.getD n.toNat 0).toNat)) := propext Iff.rfl
@[simp] theorem zQu (s : List UInt8) : zah 0 (.str s) k = k (.int .i64 s.length) := propext Iff.rfl
@[simp] theorem zQs (es : List (List AV)) (t : Tok) : zah 1 (.sl es t) k = k (.int .i64 es.length) := propext Iff.rfl
@[simp] theorem zQt : zah 1 .snil k = k (.int .i64 0) := propext Iff.rfl
@[simp] theorem zQq (i o l c : Nat) : zah 1 (.ms i o l c) k = k (.int .i64 l) := propext Iff.rfl
@[simp] theorem zzT (d : Nat) (q : Nat → Prop) : zbC none d q = q d := propext Iff.rfl
@[simp] theorem zzS (j : IntKind) (n : Int) (d : Nat) (q : Nat → Prop) : zbC (some (.int j n)) d q = (0 ≤ n ∧ q n.toNat) := propext Iff.rfl
@[simp] theorem zQQ {K : AV → zaa → Prop} {H : zaa} (e s b : Nat) (c : Int) : zdX e s b (.int .i64 c) H K = ((0 ≤ c ∧ c * b ≤ 140737488355328 ∧ c ≤ 9223372036854775807) ∧ K (.ov H.length 0) (H ++ [.vec e s 0 []])) := propext Iff.rfl
@[congr] theorem zQP {K : AV → zaa → Prop} {H H' : zaa} {e s b : Nat} {c c' : AV} (hc : c = c') (hH : H = H') : zdX e s b c H K = zdX e s b c' H' K := by rw [hc, hH]
@[simp] theorem zQT {K : AV → Prop} (k k' : IntKind) (m n : Int) : zfc (.int k m) (.int k' n) K = K (.int k (if n > m then n else m)) := propext Iff.rfl
@[congr] theorem zQS {K : AV → Prop} {x x' y y' : AV} (h : x = x') (hy : y = y') : zfc x y K = zfc x' y' K := by rw [h, hy]
@[simp] theorem zz3 (s : List UInt8) (lo hi : Option AV) : zaL 0 0 (.str s) lo hi k = zbC hi s.length fun h => zbC lo 0 fun l => (l ≤ h ∧ h ≤ s.length) ∧ k (.str ((s.take h).drop l)) := propext Iff.rfl
@[simp] theorem zRF (esz : Nat) (es : List (List AV)) (t : Tok) (lo hi : Option AV) : zaL 1 esz (.sl es t) lo hi k = zbC hi es.length fun h => zbC lo 0 fun l => (l ≤ h ∧ h ≤ es.length ∧ ∀ c ∈ es, c.length = esz) ∧ k (.sl ((es.take h).drop l) .none) := propext Iff.rfl
@[simp] theorem zPj (b : Bool) (j : IntKind) (m n : Int) : zac .add b (.int j m) (.int j n) k = k (.int j (j.wrap (m + n))) := by simp [zb9]
@[simp] theorem zRM (b : Bool) (j : IntKind) (m n : Int) : zac .sub b (.int j m) (.int j n) k = k (.int j (j.wrap (m - n))) := by simp [zb9]
@[simp] theorem zQW (b : Bool) (j : IntKind) (m n : Int) : zac .mul b (.int j m) (.int j n) k = k (.int j (j.wrap (m * n))) := by simp [zb9]
@[simp] theorem zPR (b : Bool) (j : IntKind) (m n : Int) : zac .eql b (.int j m) (.int j n) k = k (.bool (m == n)) := by simp [zb9]
@[simp] theorem zQZ (b : Bool) (j : IntKind) (m n : Int) : zac .neq b (.int j m) (.int j n) k = k (.bool (m != n)) := by simp [zb9]
@[simp] theorem zQJ (b : Bool) (j : IntKind) (m n : Int) : zac .lss b (.int j m) (.int j n) k = k (.bool (decide (m < n))) := by simp [zb9]
@[simp] theorem zQv (b : Bool) (j : IntKind) (m n : Int) : zac .leq b (.int j m) (.int j n) k = k (.bool (decide (m ≤ n))) := by simp [zb9]
@[simp] theorem zP3 (b : Bool) (j : IntKind) (m n : Int) : zac .gtr b (.int j m) (.int j n) k = k (.bool (decide (m > n))) := by simp [zb9]
@[simp] theorem zP2 (b : Bool) (j : IntKind) (m n : Int) : zac .geq b (.int j m) (.int j n) k = k (.bool (decide (m ≥ n))) := by simp [zb9]
@[simp] theorem zPS (b : Bool) (s t : List UInt8) : zac .eql b (.str s) (.str t) k = k (.bool (s == t)) := propext Iff.rfl
@[simp] theorem zQ0 (b : Bool) (s t : List UInt8) : zac .neq b (.str s) (.str t) k = k (.bool (!(s == t))) := rfl
@[simp] theorem zPk (b : Bool) (s t : List UInt8) : zac .add b (.str s) (.str t) k = (s.length + t.length ≤ 9223372036854775807 ∧ k (.str (s ++ t))) := zb9 ..
@[simp] theorem zPQ (m n : Bool) : zac .eql true (.bool m) (.bool n) k = k (.bool (m == n)) := by simp [zb9]
@[simp] theorem zQY (m n : Bool) : zac .neq true (.bool m) (.bool n) k = k (.bool (!(m == n))) := by simp [zb9]
@[simp] theorem zRc (b : Bool) : aUn .not (.bool b) k = k (.bool (!b)) := rfl
@[simp] theorem zQX (j : IntKind) (n : Int) : aUn .neg (.int j n) k = k (.int j (j.wrap (0 - n))) := rfl
@[simp] theorem zPP (j i : IntKind) (n : Int) : zbo j (.int i n) k = k (.int j (j.wrap n)) := propext Iff.rfl
@[simp] theorem zPN (s : List UInt8) : zdn (.str s) k = k (.str s) := propext Iff.rfl
@[simp] theorem zPT (v : AV) (vs : List AV) : zay (.tup (v :: vs)) 0 k = k v := propext Iff.rfl
@[simp] theorem zPV (v : AV) (vs : List AV) (i : Nat) : zay (.tup (v :: vs)) (i + 1) k = zay (.tup vs) i k := by simp [zay]
@[simp] theorem zPL (f : Nat) (caps : List AV) : zb2 f caps k = (caps.all AV.isB = true ∧ k (.fn f caps)) := propext Iff.rfl
@[simp] theorem zRC (v : AV) : zaD [v] k = k v := propext Iff.rfl
@[simp] theorem zRD (v u : AV) (vs : List AV) : zaD (v :: u :: vs) k = ((v :: u :: vs).all AV.isV = true ∧ k (.tup (v :: u :: vs))) := propext Iff.rfl
end


section
variable {H : zaa} {K : AV → zaa → Prop} {k : AV → Prop} {kh : zaa → Prop}
@[simp] theorem zRZ (i : Nat) : (AV.map i).cs? = some [.map i] := rfl
@[simp] theorem zQV : zdY H K = K (.map H.length) (H ++ [.map []]) := propext Iff.rfl
def zfa (zero : AV) (ok : Bool) (s : List UInt8) (b : Option AB) (k : AV → Prop) : Prop :=
 match b with
 | some (.map kvs) => k (match ok with
   | true => .tup [(zb4 kvs s).getD zero, .bool (zb4 kvs s).isSome]
   | false => (zb4 kvs s).getD zero)
 | _ => False
@[simp] theorem zQA (z : AV) (ok : Bool) (id : Nat) (s : List UInt8) : zdp z ok (.map id) (.str s) H k = zfa z ok s H[id]? k := by unfold zdp zfa; rfl
@[simp] theorem zQx (z : AV) (s : List UInt8) (kvs : List (List UInt8 × AV)) : zfa z false s (some (.map kvs)) k = k ((zb4 kvs s).getD z) := propext Iff.rfl
@[simp] theorem zQy (z : AV) (s : List UInt8) (kvs : List (List UInt8 × AV)) : zfa z true s (some (.map kvs)) k = k (.tup [(zb4 kvs s).getD z, .bool (zb4 kvs s).isSome]) := propext Iff.rfl
def zfb (id : Nat) (s : List UInt8) (x : AV) (b : Option AB) (H : zaa) (kh : zaa → Prop) : Prop :=
 match b with
 | some (.map kvs) => (match x with
   | .tup _ => False
   | x => kh (H.set id (.map (zc7 kvs s x))))
 | _ => False
@[simp] theorem zQO (id : Nat) (s : List UInt8) (x : AV) : zcK (.map id) (.str s) x H kh = zfb id s x H[id]? H kh := by unfold zcK zfb; rfl
@[simp] theorem zQK (id : Nat) (s : List UInt8) (b : Bool) (kvs : List (List UInt8 × AV)) : zfb id s (.bool b) (some (.map kvs)) H kh = kh (H.set id (.map (zc7 kvs s (.bool b)))) := propext Iff.rfl
@[simp] theorem zQM (id : Nat) (s : List UInt8) (j : IntKind) (n : Int) (kvs : List (List UInt8 × AV)) : zfb id s (.int j n) (some (.map kvs)) H kh = kh (H.set id (.map (zc7 kvs s (.int j n)))) := propext Iff.rfl
@[congr] theorem zQU {H' : zaa} (hH : H = H') : zdY H K = zdY H' K := by rw [hH]
@[congr] theorem zQz {H' : zaa} {z : AV} {ok : Bool} {m m' x x' : AV} (hm : m = m') (hx : x = x') (hH : H = H') : zdp z ok m x H k = zdp z ok m' x' H' k := by rw [hm, hx, hH]
@[congr] theorem zQw {z : AV} {ok : Bool} {s s' : List UInt8} {b b' : Option AB} (hs : s = s') (hb : b = b') : zfa z ok s b k = zfa z ok s' b' k := by rw [hs, hb]
@[congr] theorem zQN {H' : zaa} {m m' y y' x x' : AV} (hm : m = m') (hy : y = y') (hx : x = x') (hH : H = H') : zcK m y x H kh = zcK m' y' x' H' kh := by rw [hm, hy, hx, hH]
@[congr] theorem zQL {H' : zaa} {id id' : Nat} {s s' : List UInt8} {x x' : AV} {b b' : Option AB} (hi : id = id') (hs : s = s') (hx : x = x') (hb : b = b') (hH : H = H') : zfb id s x b H kh = zfb id' s' x' b' H' kh := by rw [hi, hs, hx, hb, hH]
end

section
variable {H H' : zaa} {K : AV → zaa → Prop} {k : AV → Prop} {kh : zaa → Prop}
@[congr] theorem zQm {b b' : Bool} {p q : Prop} (h : b = b') : aIf b p q = aIf b' p q := by rw [h]
@[congr] theorem zRN {c c' : AV} {p q : Prop} (h : c = c') : zag c p q = zag c' p q := by rw [h]
@[congr] theorem zQa {c c' : AV} {w : Bool} {p q : Prop} (h : c = c') : zcZ c w p q = zcZ c' w p q := by rw [h]
@[congr] theorem zP4 {c c' : AV} {w : Bool} {p : (AV → zaa → Prop) → Prop} {J : AV → zaa → Prop} (h : c = c') (hH : H = H') : zab c w H p J = zab c' w H' p J := by rw [h, hH]
@[congr] theorem zRd {c c' a a' b b' : AV} (h : c = c') (ha : a = a') (hb : b = b') : zai c a b k = zai c' a' b' k := by rw [h, ha, hb]
@[congr] theorem zPt {x x' : AV} (h : x = x') (hH : H = H') : zao x H K = zao x' H' K := by rw [h, hH]
@[congr] theorem zQ1 {x x' : List AV} (h : x = x') (hH : H = H') : zau x H K = zau x' H' K := by rw [h, hH]
@[congr] theorem zPH {g : Bool} {n n' o o' : Nat} {c c' : List AV} (hn : n = n') (ho : o = o') (hc : c = c') : zbc g n o c k = zbc g n' o' c' k := by rw [hn, ho, hc]
@[congr] theorem zQF {g : Bool} {n : Nat} {x x' : AV} (h : x = x') (hH : H = H') : zad g n x H k = zad g n x' H' k := by rw [h, hH]
@[congr] theorem zQB {g : Bool} {n o o' : Nat} {b b' : Option AB} (ho : o = o') (h : b = b') : zhz g n o b k = zhz g n o' b' k := by rw [h, ho]
@[congr] theorem zRJ {n : Nat} {a a' x x' : AV} (ha : a = a') (h : x = x') (hH : H = H') : zak n a x H kh = zak n a' x' H' kh := by rw [ha, h, hH]
@[congr] theorem zRH {n o o' i i' : Nat} {x x' : Option (List AV)} {b b' : Option AB} (ho : o = o') (hi : i = i') (h : x = x') (hb : b = b') (hH : H = H') : zes n o i x b H kh = zes n o' i' x' b' H' kh := by rw [ho, hi, h, hb, hH]
@[congr] theorem zPY {n : Nat} {x x' : AV} (h : x = x') : zaf n x k = zaf n x' k := by rw [h]
@[congr] theorem zPX {g : Bool} {n o : Nat} {x x' : AV} (h : x = x') : zdo g n o x k = zdo g n o x' k := by rw [h]
@[congr] theorem zQg {n : Nat} {x x' i i' : AV} (h : x = x') (hi : i = i') : zaj n x i k = zaj n x' i' k := by rw [h, hi]
@[congr] theorem zQk {x x' i i' : AV} (h : x = x') (hi : i = i') : zbw x i k = zbw x' i' k := by rw [h, hi]
@[congr] theorem zQp {u : Nat} {x x' : AV} (h : x = x') : zah u x k = zah u x' k := by rw [h]
@[congr] theorem zPq {x x' : Option AV} {d d' : Nat} {q : Nat → Prop} (h : x = x') (hd : d = d') : zbC x d q = zbC x' d' q := by rw [h, hd]
@[congr] theorem zRE {u e : Nat} {x x' : AV} {l l' h h' : Option AV} (hx : x = x') (hl : l = l') (hh : h = h') : zaL u e x l h k = zaL u e x' l' h' k := by rw [hx, hl, hh]
@[congr] theorem zPp {o : BinOp} {b : Bool} {x x' y y' : AV} (h : x = x') (hy : y = y') : zac o b x y k = zac o b x' y' k := by rw [h, hy]
@[congr] theorem zRQ {o : UnOp} {x x' : AV} (h : x = x') : aUn o x k = aUn o x' k := by rw [h]
@[congr] theorem zPO {o : IntKind} {x x' : AV} (h : x = x') : zbo o x k = zbo o x' k := by rw [h]
@[congr] theorem zPM {x x' : AV} (h : x = x') : zdn x k = zdn x' k := by rw [h]
@[congr] theorem zPU {x x' : AV} {i : Nat} (h : x = x') : zay x i k = zay x' i k := by rw [h]
@[congr] theorem zPK {f : Nat} {x x' : List AV} (h : x = x') : zb2 f x k = zb2 f x' k := by rw [h]
@[congr] theorem zQ7 {x x' : AV} (h : x = x') : za3 x k = za3 x' k := by rw [h]
@[congr] theorem zPE {z : List AV} {p : List (Nat × Nat)} {x x' : List (Nat × AV)} (h : x = x') : zax z p x k = zax z p x' k := by rw [h]
@[congr] theorem zPD {e : Nat} {z : List AV} {l : Nat} {x x' : List (Nat × AV)} (h : x = x') : zaz e z l x k = zaz e z l x' k := by rw [h]
@[congr] theorem zQR {b : Nat} {z : List AV} {l l' c c' : AV} (h : l = l') (hc : c = c') (hH : H = H') : zbp b z l c H K = zbp b z l' c' H' K := by rw [h, hc, hH]
@[congr] theorem zPo {e s b : Nat} {x x' y y' : AV} (h : x = x') (hy : y = y') (hH : H = H') : zaw e s b x y H K = zaw e s b x' y' H' K := by rw [h, hy, hH]
@[congr] theorem zPl {e s b : Nat} {x x' : AV} {y y' : List (List AV)} (h : x = x') (hy : y = y') (hH : H = H') : zaO e s b x y H K = zaO e s b x' y' H' K := by rw [h, hy, hH]
@[congr] theorem zRG {x x' : AV} {q : List (List AV) → Prop} (h : x = x') : zaX x q = zaX x' q := by rw [h]
@[congr] theorem zPh {P : Program} {f : FuncId} {x x' : List AV} (h : x = x') (hH : H = H') : ACalls P f x H K = ACalls P f x' H' K := by rw [h, hH]
@[congr] theorem zPF {P : Program} {g g' : AV} {x x' : List AV} (hg : g = g') (h : x = x') (hH : H = H') : aCallV P g x H K = aCallV P g' x' H' K := by rw [hg, h, hH]
@[congr] theorem zRj {p : (AV → zaa → Prop) → Prop} : zae H p k = zae H p k := rfl
@[congr] theorem zPi {n : Nat} {r r' : AV} (hr : r = r') (hH : H = H') : Out n K r H = Out n K r' H' := by rw [hr, hH]
end
section
variable {H : zaa} {k : AV → Prop}
theorem zbZ {p : (AV → Prop) → Prop} (h : ∀ q : AV → Prop, p q ↔ ∃ v, p (fun u => u = v) ∧ q v) : zae H (fun K' => p fun v => K' v H) k = p k := by
 unfold zae
 rw [eq_iff_iff, h k]
 simp only [and_true]
@[simp] theorem zRr (x : AV) : zae H (fun K' => K' x H) k = k x := by simp [zae]
theorem zmo (g : Bool) (n o : Nat) (cs : List AV) (q : AV → Prop) : zbc g n o cs q ↔ ∃ v, zbc g n o cs (fun u => u = v) ∧ q v := by
 unfold zbc
 split
 ·constructor
  ·rintro ⟨h1, h2⟩; exact ⟨_, ⟨h1, rfl⟩, h2⟩
  ·rintro ⟨v, ⟨h1, rfl⟩, h2⟩; exact ⟨h1, h2⟩
 ·split <;> simp
theorem zz9 {a : Prop} {p : Prop} {p' : AV → Prop} {q : AV → Prop} (h : p ↔ ∃ v, p' v ∧ q v) : (a ∧ p) ↔ ∃ v, (a ∧ p' v) ∧ q v := by
 constructor
 ·rintro ⟨h1, h2⟩; obtain ⟨v, h3, h4⟩ := h.1 h2; exact ⟨v, ⟨h1, h3⟩, h4⟩
 ·rintro ⟨v, ⟨h1, h3⟩, h4⟩; exact ⟨h1, h.2 ⟨v, h3, h4⟩⟩
@[simp] theorem zRv (g : Bool) (n : Nat) (a : AV) : zae H (fun K' => zad g n a H fun v => K' v H) k = zad g n a H k := zbZ (p := fun q => zad g n a H q) fun q => by
 unfold zad
 split
 ·exact zmo _ _ _ _ q
 ·simp
@[simp] theorem zQC (g : Bool) (n id off : Nat) : zal g n (.ptr id off) H k = zad g n (.ptr id off) H k := propext Iff.rfl
@[simp] theorem zQD (g : Bool) (n : Nat) (cs : List AV) : zal g n (.view cs) H k = zad g n (.view cs) H k := propext Iff.rfl
@[simp] theorem zRw (g : Bool) (n : Nat) (a : AV) : zae H (fun K' => zal g n a H fun v => K' v H) k = zal g n a H k := zbZ (p := fun q => zal g n a H q) fun q => by
 unfold zal
 split
 ·simp
 unfold zad
 split
 ·exact zmo _ _ _ _ q
 ·simp
@[simp] theorem zRy (b : Bool) (o : BinOp) (x : AV) : zae H (fun K' => zcz b o x fun v => K' v H) k = zcz b o x k := zbZ (p := fun q => zcz b o x q) fun q => by
 unfold zcz
 refine zz9 ?_
 split
 ·split <;> simp
 ·split <;> simp
 ·simp
@[simp] theorem zQ6 : zcz true .neq .nili k = k (.bool false) := by simp [zcz]
@[simp] theorem zQ4 : zcz true .neq .ifc k = k (.bool true) := by simp [zcz]
@[simp] theorem zQ5 : zcz true .eql .nili k = k (.bool true) := by simp [zcz]
@[simp] theorem zQ3 : zcz true .eql .ifc k = k (.bool false) := by simp [zcz]
@[simp] theorem zRz (c a b : AV) : zae H (fun K' => zai c a b fun v => K' v H) k = zai c a b k := zbZ (p := fun q => zai c a b q) fun q => by
 unfold zai; split <;> simp
@[simp] theorem zRp (o : Nat) (a : AV) : zae H (fun K' => zaf o a fun v => K' v H) k = zaf o a k := zbZ (p := fun q => zaf o a q) fun q => by
 unfold zaf; split <;> simp
@[simp] theorem zRq (g : Bool) (n o : Nat) (a : AV) : zae H (fun K' => zdo g n o a fun v => K' v H) k = zdo g n o a k := zbZ (p := fun q => zdo g n o a q) fun q => by
 unfold zdo
 split
 ·exact zmo _ _ _ _ q
 ·simp
@[simp] theorem zRs (n : Nat) (x i : AV) : zae H (fun K' => zaj n x i fun v => K' v H) k = zaj n x i k := zbZ (p := fun q => zaj n x i q) fun q => by
 unfold zaj; split <;> simp
@[simp] theorem zRt (x i : AV) : zae H (fun K' => zbw x i fun v => K' v H) k = zbw x i k := zbZ (p := fun q => zbw x i q) fun q => by
 unfold zbw
 split
 ·constructor
  ·rintro ⟨h1, h2⟩; exact ⟨_, ⟨h1, rfl⟩, h2⟩
  ·rintro ⟨v, ⟨h1, rfl⟩, h2⟩; exact ⟨h1, h2⟩
 ·simp
@[simp] theorem zRu (u : Nat) (x : AV) : zae H (fun K' => zah u x fun v => K' v H) k = zah u x k := zbZ (p := fun q => zah u x q) fun q => by
 unfold zah; split <;> simp
@[simp] theorem zRB (o : UnOp) (x : AV) : zae H (fun K' => aUn o x fun v => K' v H) k = aUn o x k := zbZ (p := fun q => aUn o x q) fun q => by
 unfold aUn; split <;> simp
@[simp] theorem zRl (o : IntKind) (x : AV) : zae H (fun K' => zbo o x fun v => K' v H) k = zbo o x k := zbZ (p := fun q => zbo o x q) fun q => by
 unfold zbo; split <;> simp
@[simp] theorem zRn (x : AV) : zae H (fun K' => zdn x fun v => K' v H) k = zdn x k := zbZ (p := fun q => zdn x q) fun q => by
 unfold zdn; split <;> simp
@[simp] theorem zRm (x : AV) : zae H (fun K' => zeq x fun v => K' v H) k = zeq x k := zbZ (p := fun q => zeq x q) fun q => by
 unfold zeq
 split
 ·split <;> simp
 ·simp
 ·simp
@[simp] theorem zRx (x : AV) : zae H (fun K' => za3 x fun v => K' v H) k = za3 x k := zbZ (p := fun q => za3 x q) fun q => by
 unfold za3; split <;> simp
@[simp] theorem zRo (x : AV) (i : Nat) : zae H (fun K' => zay x i fun v => K' v H) k = zay x i k := zbZ (p := fun q => zay x i q) fun q => by
 unfold zay
 split
 ·split <;> simp
 ·simp
@[simp] theorem zRh (z : List AV) (ps : List (Nat × Nat)) (x : List (Nat × AV)) : zae H (fun K' => zax z ps x fun v => K' v H) k = zax z ps x k := zbZ (p := fun q => zax z ps x q) fun q => by
 unfold zax; split <;> simp
@[simp] theorem zRi (e : Nat) (z : List AV) (l : Nat) (x : List (Nat × AV)) : zae H (fun K' => zaz e z l x fun v => K' v H) k = zaz e z l x k := zbZ (p := fun q => zaz e z l x q) fun q => by
 unfold zaz
 split
 ·split <;> simp
 ·simp
@[simp] theorem zRg (o : BinOp) (b : Bool) (x y : AV) : zae H (fun K' => zac o b x y fun v => K' v H) k = zac o b x y k := zbZ (p := fun q => zac o b x y q) fun q => by
 unfold zac; split <;> simp
@[simp] theorem zRk (f : Nat) (x : List AV) : zae H (fun K' => zb2 f x fun v => K' v H) k = zb2 f x k := zbZ (p := fun q => zb2 f x q) fun q => by
 unfold zb2
 constructor
 ·rintro ⟨h1, h2⟩; exact ⟨_, ⟨h1, rfl⟩, h2⟩
 ·rintro ⟨v, ⟨h1, rfl⟩, h2⟩; exact ⟨h1, h2⟩
end
@[simp] theorem zAZ (A l : zaa) : (A ++ l)[A.length]? = l[0]? := by rw [List.getElem?_append_right (Nat.le_refl _)]; simp
@[simp] theorem zta (A l : zaa) (k : Nat) : (A ++ l)[A.length + k]? = l[k]? := by rw [List.getElem?_append_right (by omega)]; congr 1; omega
@[simp] theorem zCr (A l : zaa) (x : AB) : (A ++ l).set A.length x = A ++ l.set 0 x := by rw [List.set_append_right _ _ (Nat.le_refl _)]; simp
@[simp] theorem zuK (A l : zaa) (k : Nat) (x : AB) : (A ++ l).set (A.length + k) x = A ++ l.set k x := by rw [List.set_append_right _ _ (by omega)]; congr 2; omega
@[simp] theorem zSb (A l : zaa) (i : Nat) (y : AB) : (A.set i y ++ l)[A.length]? = l[0]? := by have := zAZ (A.set i y) l; rwa [List.length_set] at this
@[simp] theorem zSc (A l : zaa) (i : Nat) (y : AB) (k : Nat) : (A.set i y ++ l)[A.length + k]? = l[k]? := by have := zta (A.set i y) l k; rwa [List.length_set] at this
@[simp] theorem zSH (A l : zaa) (i : Nat) (x y : AB) : (A.set i y ++ l).set A.length x = A.set i y ++ l.set 0 x := by have := zCr (A.set i y) l x; rwa [List.length_set] at this
@[simp] theorem zSI (A l : zaa) (i : Nat) (y : AB) (k : Nat) (x : AB) : (A.set i y ++ l).set (A.length + k) x = A.set i y ++ l.set k x := by have := zuK (A.set i y) l k x; rwa [List.length_set] at this
theorem zbs {H J : zaa} {id : Nat} {b : AB} (h : H[id]? = some b) : (H ++ J)[id]? = some b := by
 rw [List.getElem?_append_left (List.getElem?_eq_some_iff.1 h).1]; exact h
theorem zbY {H : zaa} {id : Nat} {b : AB} (h : H[id]? = some b) : id < H.length := (List.getElem?_eq_some_iff.1 h).1
theorem zce {H J : zaa} {id : Nat} {b : AB} (x : AB) (h : H[id]? = some b) : (H ++ J).set id x = H.set id x ++ J := List.set_append_left _ _ (zbY h)
theorem zbQ {H : zaa} {id : Nat} {b : AB} (x : AB) (h : H[id]? = some b) : (H.set id x)[id]? = some x := List.getElem?_set_self (zbY h)

theorem zar {n : Int} (h1 : -9223372036854775808 ≤ n) (h2 : n ≤ 9223372036854775807) : IntKind.i64.wrap n = n := IntWalk.i64_in n ⟨h1, h2⟩

theorem HSc.set {H : zaa} {id : Nat} {b : AB} (h : HSc H) (hb : b.sc H.length = true) : HSc (H.set id b) := by
 intro x hx
 rw [List.length_set]
 rcases List.mem_or_eq_of_mem_set hx with h1 | h1
 ·exact h x h1
 ·rw [h1]; exact hb
theorem zci {n m : Nat} (h : n ≤ m) : ∀ {a : AV}, a.sc n = true → a.sc m = true := by
 have hB : ∀ {a : AV}, a.scB n = true → a.scB m = true := by
  intro a ha
  cases a with
  | sl es t => cases t <;> simp_all [AV.scB]; omega
  | _ => simp_all [AV.scB] <;> omega
 have hA : ∀ {a : AV}, a.scA n = true → a.scA m = true := by
  intro a ha
  cases a with
  | fn f caps => simp only [AV.scA, List.all_eq_true] at ha ⊢; exact fun x hx => hB (ha x hx)
  | _ => simp only [AV.scA] at ha ⊢; exact hB ha
 have hV : ∀ {a : AV}, a.scV n = true → a.scV m = true := by
  intro a ha
  cases a with
  | agg caps => simp only [AV.scV, List.all_eq_true] at ha ⊢; exact fun x hx => hA (ha x hx)
  | _ => simp only [AV.scV] at ha ⊢; exact hA ha
 intro a ha
 cases a with
 | tup caps => simp only [AV.sc, List.all_eq_true] at ha ⊢; exact fun x hx => hV (ha x hx)
 | _ => simp only [AV.sc] at ha ⊢; exact hV ha
theorem Back.here {n0 : Nat} {Inv : List AV → zaa → Prop} {F : List AV} {H : zaa} (hn : n0 ≤ H.length) (hsc : HSc H) (hs : F.all (AV.sc H.length) = true) (h : Inv F H) : Back n0 Inv F H := by
 have := Back.same (J := []) hn hsc hs h
 simpa using this
theorem zn4 {n m : Nat} (h : n ≤ m) {a : AV} (ha : a.scA n = true) : a.scA m = true := by
 cases a with
 | agg cs => rfl
 | tup vs => rfl
 | fn f caps => exact zci h (a := .fn f caps) ha
 | sl es t => exact zci h (a := .sl es t) ha
 | ptr i o => exact zci h (a := .ptr i o) ha
 | ms i o l c => exact zci h (a := .ms i o l c) ha
 | ov i n => exact zci h (a := .ov i n) ha
 | vp i n o => exact zci h (a := .vp i n o) ha
 | map i => exact zci h (a := .map i) ha
 | _ => rfl
theorem zCm {n m : Nat} (h : n ≤ m) {a : AV} (ha : a.scV n = true) : a.scV m = true := by
 cases a with
 | tup vs => rfl
 | agg cs => exact zci h (a := .agg cs) ha
 | fn f caps => exact zci h (a := .fn f caps) ha
 | sl es t => exact zci h (a := .sl es t) ha
 | ptr i o => exact zci h (a := .ptr i o) ha
 | ms i o l c => exact zci h (a := .ms i o l c) ha
 | ov i n => exact zci h (a := .ov i n) ha
 | vp i n o => exact zci h (a := .vp i n o) ha
 | map i => exact zci h (a := .map i) ha
 | _ => rfl
theorem zzJ {n m : Nat} (h : n ≤ m) {b : AB} (hb : b.sc n = true) : b.sc m = true := by
 cases b with
 | cells cs => simp only [AB.sc, List.all_eq_true] at hb ⊢; exact fun x hx => zn4 h (hb x hx)
 | perm e s n => rfl
 | gap => rfl
 | dead => rfl
 | fact φ => rfl
 | map kvs => simp only [AB.sc, List.all_eq_true] at hb ⊢; exact fun x hx => zCm h (hb x hx)
 | bld t cs => simp only [AB.sc, List.all_eq_true] at hb ⊢; exact fun x hx => zn4 h (hb x hx)
 | vec e s n cs => simp only [AB.sc, List.all_eq_true] at hb ⊢; exact fun x hx => zn4 h (hb x hx)
theorem HSc.append {A J : zaa} (hA : HSc A) (hJ : J.all (AB.sc (A.length + J.length)) = true) : HSc (A ++ J) := by
 intro x hx
 rw [List.length_append]
 rcases List.mem_append.1 hx with h1 | h1
 ·exact zzJ (by omega) (hA x h1)
 ·exact List.all_eq_true.1 hJ x h1
end Go.Abs
namespace Go.Abs
open Go
theorem Out.tup {H J : zaa} {K : AV → zaa → Prop} {asx bs : List AV} (hs : HSc H) (h : K (.tup bs) H) (hw : All2 (fun a b => WkV a b ∧ b.isV = true ∧ b.scV H.length = true) asx bs) : Out H.length K (.tup asx) (H ++ J) :=
 ⟨_, H, J, rfl, Nat.le_refl _, hs, .tup (hw.mono fun _ _ h => .wk h.1 h.2.1 h.2.2), h⟩
theorem Out.tup0 {H : zaa} {K : AV → zaa → Prop} {asx bs : List AV} (hs : HSc H) (h : K (.tup bs) H) (hw : All2 (fun a b => WkV a b ∧ b.isV = true ∧ b.scV H.length = true) asx bs) : Out H.length K (.tup asx) H := by
 have := Out.tup (J := []) hs h hw
 simpa using this
theorem Out.one {H J : zaa} {K : AV → zaa → Prop} {a b : AV} (hs : HSc H) (hw : WkV a b) (hv : b.isV = true) (hc : b.scV H.length = true) (h : K b H) : Out H.length K a (H ++ J) :=
 ⟨_, H, J, rfl, Nat.le_refl _, hs, .one (.wk hw hv hc), h⟩
theorem Out.one0 {H : zaa} {K : AV → zaa → Prop} {a b : AV} (hs : HSc H) (hw : WkV a b) (hv : b.isV = true) (hc : b.scV H.length = true) (h : K b H) : Out H.length K a H := by
 have := Out.one (J := []) hs hw hv hc h
 simpa using this
@[simp] theorem zSg (k : IntKind) (n : Int) : (AV.int k n).known = true := rfl
@[simp] theorem zSn (s : List UInt8) : (AV.str s).known = true := rfl
@[simp] theorem zSe (b : Bool) : (AV.bool b).known = true := rfl
@[simp] theorem zSm (es : List (List AV)) (t : Tok) : (AV.sl es t).known = true := rfl
@[simp] theorem zct : AV.snil.known = true := rfl
@[simp] theorem zSj : AV.nilp.known = true := rfl
@[simp] theorem zSl (i o : Nat) : (AV.ptr i o).known = true := rfl
@[simp] theorem zSi (i o l c : Nat) : (AV.ms i o l c).known = true := rfl
@[simp] theorem zSf (f : Nat) (c : List AV) : (AV.fn f c).known = true := rfl
@[simp] theorem zSh (i : Nat) : (AV.map i).known = true := rfl
@[simp] theorem zSo (cs : List AV) : (AV.view cs).known = true := rfl
section
variable {H : zaa} {K : AV → zaa → Prop}
@[simp] theorem zPz (i o : Nat) : zao (.ptr i o) H K = K (.ptr H.length 0) (H ++ [.cells [.ptr i o]]) := propext Iff.rfl
@[simp] theorem zPx (i o l c : Nat) : zao (.ms i o l c) H K = K (.ptr H.length 0) (H ++ [.cells [.ms i o l c]]) := propext Iff.rfl
@[simp] theorem zPw (i : Nat) : zao (.map i) H K = K (.ptr H.length 0) (H ++ [.cells [.map i]]) := propext Iff.rfl
@[simp] theorem zPu (f : Nat) (c : List AV) : zao (.fn f c) H K = K (.ptr H.length 0) (H ++ [.cells [.fn f c]]) := propext Iff.rfl
@[simp] theorem zPB : zao .snil H K = K (.ptr H.length 0) (H ++ [.cells [.snil]]) := propext Iff.rfl
end
theorem zaF {H : zaa} {p : zaa → (AV → zaa → Prop) → Prop} {k : AV → Prop} (r : AV) (h : ∀ J : zaa, p (H ++ J) fun v H' => v = r ∧ H' = H ++ J) (hk : k r) : zaG H p k := ⟨r, h, hk⟩
@[simp] theorem zSy (m : Nat) (k : IntKind) (n : Int) : (AV.int k n).scA m = true := rfl
@[simp] theorem zSG (m : Nat) (s : List UInt8) : (AV.str s).scA m = true := rfl
@[simp] theorem zSx (m : Nat) (b : Bool) : (AV.bool b).scA m = true := rfl
@[simp] theorem zSE (m : Nat) (es : List (List AV)) : (AV.sl es .none).scA m = true := rfl
@[simp] theorem zSF (m : Nat) : AV.snil.scA m = true := rfl
@[simp] theorem zSD (m i o : Nat) : (AV.ptr i o).scA m = decide (i < m) := rfl
@[simp] theorem zSA (m i o l c : Nat) : (AV.ms i o l c).scA m = decide (i < m) := rfl
@[simp] theorem zSz (m i : Nat) : (AV.map i).scA m = decide (i < m) := rfl
@[simp] theorem zSC (m : Nat) (es : List (List AV)) (i : Nat) : (AV.sl es (.own i)).scA m = decide (i < m) := rfl
theorem WkV.rfl' {a : AV} : WkV a a := .atom (.refl a)
theorem za1 {n : Nat} {a : AV} (h1 : a.isV = true) (h2 : a.scV n = true) : WkV a a ∧ a.isV = true ∧ a.scV n = true := ⟨.rfl', h1, h2⟩
theorem slV {n : Nat} {es : List (List AV)} {t : Tok} : WkV (.sl es t) (.sl es .none) ∧ (AV.sl es .none).isV = true ∧ (AV.sl es .none).scV n = true := ⟨.atom (.sl es t), rfl, rfl⟩
theorem zeg {n : Nat} : WkV .snil (.sl [] .none) ∧ (AV.sl [] .none).isV = true ∧ (AV.sl [] .none).scV n = true := ⟨.atom .snil, rfl, rfl⟩
theorem zd2 {x : Option AV} {d : Nat} {p : Nat → Prop} {p' : AV → Nat → Prop} {q : AV → Prop} (hp : ∀ n, p n ↔ ∃ v, p' v n ∧ q v) : zbC x d p ↔ ∃ v, zbC x d (p' v) ∧ q v := by
 unfold zbC
 split
 ·exact hp d
 ·rename_i n
  constructor
  ·rintro ⟨h1, h2⟩
   obtain ⟨v, h3, h4⟩ := (hp _).1 h2
   exact ⟨v, ⟨h1, h3⟩, h4⟩
  ·rintro ⟨v, ⟨h1, h3⟩, h4⟩
   exact ⟨h1, (hp _).2 ⟨v, h3, h4⟩⟩
 ·simp
theorem zhS {a : Prop} {q : AV → Prop} {x : AV} : (a ∧ q x) ↔ ∃ v, (a ∧ x = v) ∧ q v := by
 constructor
 ·rintro ⟨h1, h2⟩; exact ⟨_, ⟨h1, rfl⟩, h2⟩
 ·rintro ⟨v, ⟨h1, rfl⟩, h2⟩; exact ⟨h1, h2⟩
@[simp] theorem zRA {H : zaa} {k : AV → Prop} (u e : Nat) (x : AV) (lo hi : Option AV) : zae H (fun K' => zaL u e x lo hi fun v => K' v H) k = zaL u e x lo hi k := zbZ (p := fun q => zaL u e x lo hi q) fun q => by
 unfold zaL
 split
 ·exact zd2 fun h => zd2 fun l => zhS
 ·exact zd2 fun h => zd2 fun l => zhS
 ·exact zd2 fun h => zd2 fun l => zhS
 ·exact zd2 fun h => zd2 fun l => zhS
 ·simp
end Go.Abs
namespace Go.Abs
open Go
theorem Out.at {n : Nat} {H2 J H' : zaa} {K : AV → zaa → Prop} {a b : AV} (he : H' = H2 ++ J) (hn : n ≤ H2.length) (hs : HSc H2) (hw : WkV a b) (hv : b.isV = true) (hc : b.scV H2.length = true) (h : K b H2) : Out n K a H' := by
 subst he
 exact ⟨_, H2, J, rfl, hn, hs, .one (.wk hw hv hc), h⟩
theorem Out.bool {n : Nat} {H2 J H' : zaa} {K : AV → zaa → Prop} {b : Bool} (he : H' = H2 ++ J) (hn : n ≤ H2.length) (hs : HSc H2) (h : K (.bool b) H2) : Out n K (.bool b) H' := Out.at he hn hs .rfl' rfl rfl h
theorem Out.int {n : Nat} {H2 J H' : zaa} {K : AV → zaa → Prop} {k : IntKind} {b : Int} (he : H' = H2 ++ J) (hn : n ≤ H2.length) (hs : HSc H2) (h : K (.int k b) H2) : Out n K (.int k b) H' := Out.at he hn hs .rfl' rfl rfl h
theorem Back.at {n0 : Nat} {Inv : List AV → zaa → Prop} {F : List AV} {H2 J H' : zaa} (he : H' = H2 ++ J) (hn : n0 ≤ H2.length) (hsc : HSc H2) (hs : F.all (AV.sc H2.length) = true) (h : Inv F H2) : Back n0 Inv F H' := by
 subst he
 exact Back.same hn hsc hs h
theorem HSc.snoc {H : zaa} {b : AB} (h : HSc H) (hb : b.sc (H.length + 1) = true) : HSc (H ++ [b]) := h.append (by simpa using hb)
end Go.Abs
namespace Go.Abs
open Go
theorem zAT {B : Nat} {w w' : World} {G G' : Gh} (h : Ext B w G w' G') : G.μ.length ≤ G'.μ.length := by
 by_cases h0 : G.μ.length = 0
 ·omega
 ·obtain ⟨g, h1, _⟩ := h.ids (G.μ.length - 1) _ (List.getElem?_eq_getElem (by omega))
  have := (List.getElem?_eq_some_iff.1 h1).1
  omega
theorem ACalls.mono' {P : Program} {f : FuncId} {args : List AV} {H : zaa} {K K' : AV → zaa → Prop} (h : ACalls P f args H K) (hk : ∀ r H', HSc H' → H.length ≤ H'.length → K r H' → K' r H') : ACalls P f args H K' :=
 fun B w G vs hH hv => (h B w G vs hH hv).mono fun _ _ ⟨v, r, H', G', h1, h2, h3, h4, h5⟩ => ⟨v, r, H', G', h1, h2, h3, h4, hk _ _ h3.sc (by have := zAT h2; rw [hH.len, h3.len] at this; exact this) h5⟩
theorem aCallV.mono' {P : Program} {g : AV} {args : List AV} {H : zaa} {K K' : AV → zaa → Prop} (h : aCallV P g args H K) (hk : ∀ r H', HSc H' → H.length ≤ H'.length → K r H' → K' r H') : aCallV P g args H K' := by
 unfold aCallV at *
 split at h
 ·split at h
  ·exact ACalls.mono' h hk
  ·exact h.elim
 ·exact h.elim
end Go.Abs
namespace Go.Abs
open Go Go.RowKit
theorem HRel.reCell {B : Nat} {w : World} {G : Gh} {H : zaa} (h : HRel B w G H) {id : Nat} {cs cs' : List AV} (hid : H[id]? = some (.cells cs)) (hc : ∀ vs : List Value, All2 (ARel w G) vs cs → All2 (ARel w G) vs cs') : HRel B w G (H.set id (.cells cs')) := by
 refine ⟨by simp [h.len], ?_, h.dist, h.fresh, h.lt, h.base⟩
 intro i ab gi h1 h2
 by_cases hi : i = id
 ·subst hi
  rw [List.getElem?_set_self (List.getElem?_eq_some_iff.1 hid).1] at h1
  cases h1
  have hok := h.ok i _ _ hid h2
  cases gi with
  | blk b =>
   obtain ⟨k1, k2, vs, e, k3, k4⟩ := hok
   exact ⟨k1, k2, vs, e, k3, hc _ k4⟩
  | own v s n => exact hok.elim
  | gap => exact hok.elim
 ·rw [List.getElem?_set_ne (fun h => hi h.symm)] at h1
  exact h.ok i ab gi h1 h2
theorem HRel.ownCell {B : Nat} {w : World} {G : Gh} {H : zaa} (h : HRel B w G H) {id j : Nat} {cs : List AV} (e size : Nat) (hid : H[id]? = some (.cells cs)) (hj : cs[j]? = some .snil) :
  ∃ G', Ext B w G w G' ∧ HRel B w G' (H.set id (.cells (cs.set j (.sl [] (.own H.length)))) ++ [.perm e size 0]) := by
 obtain ⟨hE, hH'⟩ := h.newOwn e size
 refine ⟨_, hE, ?_⟩
 have hlt := (List.getElem?_eq_some_iff.1 hid).1
 have := hH'.reCell (id := id) (cs := cs) (cs' := cs.set j (.sl [] (.own H.length))) (by rw [List.getElem?_append_left hlt]; exact hid) (fun vs hvs => by
  obtain ⟨v, h1, h2⟩ := All2.get hvs hj
  have h2 : v = .slice none 0 0 := h2
  subst h2
  have hset : vs = vs.set j (.slice none 0 0) := by
   apply List.ext_getElem?
   intro k
   by_cases hk : k = j
   ·subst hk; rw [List.getElem?_set_self (List.getElem?_eq_some_iff.1 h1).1]; exact h1
   ·rw [List.getElem?_set_ne (fun h => hk h.symm)]
  rw [hset]
  refine All2.set j hvs ?_
  refine ⟨.slE _ _, .slice none 0 0, size, 0, ?_, Nat.le_refl _, fun _ => ⟨rfl, by simp⟩⟩
  rw [← h.len]
  simp)
 rwa [List.set_append_left _ _ hlt] at this
theorem ALoop.ownC {P : Program} {c : Code} {Q : AExit → List AV → zaa → Prop} {F : List AV} {H : zaa} {cs : List AV} (id j e size : Nat) (hid : H[id]? = some (.cells cs)) (hj : cs[j]? = some .snil)
  (h : ALoop P c Q F (H.set id (.cells (cs.set j (.sl [] (.own H.length)))) ++ [.perm e size 0])) : ALoop P c Q F H := by
 intro B w G a hH hF hd
 obtain ⟨G', hE, hH'⟩ := hH.ownCell e size hid hj
 refine wp_mono (h B w G' a hH' (hF.ext hE) hd) fun e a' w' hp => ?_
 obtain ⟨F'', H'', G'', e'', rfl, k1, k2, k3, k4, k5⟩ := hp
 exact ⟨F'', H'', G'', e'', rfl, hE.trans k1, k2, k3, k4, k5⟩
end Go.Abs
namespace Go.Abs
open Go Go.RowKit
def zap (l : List Nat) : List (List AV) := l.map fun (n : Nat) => [AV.int .u32 (n : Int)]
@[simp] theorem zSN (l : List Nat) : (zap l).length = l.length := by simp [zap]
theorem zDu (l : List Nat) (n : Nat) : (zap l).take n = zap (l.take n) := by simp [zap, List.map_take]
theorem zSM {l : List Nat} {i : Nat} (h : i < l.length) : (zap l)[i]?.getD [] = [.int .u32 ((l[i] : Nat) : Int)] := by simp [zap, h]
@[simp] theorem zSL {l : List Nat} {i : Nat} (h : i < (zap l).length) : (zap l)[i] = [.int .u32 (((l[i]'(by simpa using h)) : Nat) : Int)] := by simp [zap]
theorem zfJ (l : List Nat) : ∀ c ∈ zap l, c.length = 1 := by
 intro c hc
 simp only [zap, List.mem_map] at hc
 obtain ⟨n, _, rfl⟩ := hc
 rfl
theorem zDf {L : List Nat} {n : Nat} (hn : 0 < n) (h : n ≤ L.length) (h0 : L[n - 1] = 0) : zbH (L.take n) = zbH (L.take (n - 1)) := by
 obtain ⟨m, rfl⟩ : ∃ m, n = m + 1 := ⟨n - 1, by omega⟩
 simp only [Nat.add_sub_cancel] at h0 ⊢
 rw [List.take_succ_eq_append_getElem (by omega), h0]
 generalize L.take m = A
 induction A with
 | nil => simp [zbH]
 | cons a A ih => rw [List.cons_append, zbH, zbH, ih]
theorem zDe {L : List Nat} {n : Nat} (hn : 0 < n) (h : n ≤ L.length) (h0 : L[n - 1] ≠ 0) : zbH (L.take n) = L.take n := by
 obtain ⟨m, rfl⟩ : ∃ m, n = m + 1 := ⟨n - 1, by omega⟩
 simp only [Nat.add_sub_cancel] at h0
 rw [List.take_succ_eq_append_getElem (by omega)]
 generalize hx : L[m] = x at h0
 generalize L.take m = A
 induction A with
 | nil => simp [zbH, h0]
 | cons a A ih =>
  rw [List.cons_append, zbH, ih, if_neg]
  rintro ⟨_, h⟩
  simp at h
theorem zeQ {n : Nat} (h : n < 4294967296) : IntKind.u32.wrap (n : Int) = n := IntWalk.u32_in _ ⟨by omega, by omega⟩
theorem zb7 {n : Nat} (h : n < 18446744073709551616) : IntKind.u64.wrap (n : Int) = n := IntWalk.u64_in _ ⟨by omega, by omega⟩
theorem zr5 {k : AV → Prop} (b : Bool) (j : IntKind) (m n : Nat) (hn : n ≠ 0) : zac .rem b (.int j m) (.int j n) k = k (.int j ((m % n : Nat) : Int)) := by
 simp only [zb9, ne_eq, Int.natCast_eq_zero, hn, not_false_eq_true, true_and]
 rfl
theorem zr3 {k : AV → Prop} (b : Bool) (j : IntKind) (m n : Nat) (hn : n ≠ 0) : zac .quo b (.int j m) (.int j n) k = k (.int j (j.wrap ((m / n : Nat) : Int))) := by
 simp only [zb9, ne_eq, Int.natCast_eq_zero, hn, not_false_eq_true, true_and]
 rfl
theorem zr4 {k : AV → Prop} (b : Bool) (j : IntKind) (m : Nat) : zac .rem b (.int j m) (.int j 1000000000) k = k (.int j ((m % 1000000000 : Nat) : Int)) := zr5 b j m 1000000000 (by decide)
theorem zr2 {k : AV → Prop} (b : Bool) (j : IntKind) (m : Nat) : zac .quo b (.int j m) (.int j 1000000000) k = k (.int j (j.wrap ((m / 1000000000 : Nat) : Int))) := zr3 b j m 1000000000 (by decide)
theorem zz1 {k : AV → Prop} (b : Bool) {m : Nat} (h : m < 18446744073709551616) : zac .quo b (.int .u64 m) (.int .u64 1000000000) k = k (.int .u64 ((m / 1000000000 : Nat) : Int)) := by
 rw [zr2, zb7 (by have := Nat.div_le_self m 1000000000; omega)]
theorem zz0 {k : AV → Prop} (b : Bool) {m : Nat} (h : m < 4294967296) : zac .quo b (.int .u32 m) (.int .u32 1000000000) k = k (.int .u32 ((m / 1000000000 : Nat) : Int)) := by
 rw [zr2, zeQ (by have := Nat.div_le_self m 1000000000; omega)]
theorem ztD (m : Nat) : m % 1000000000 < 1000000000 := Nat.mod_lt _ (by decide)
theorem sN (l : List Nat) (x : Nat) : zap l ++ [[AV.int .u32 (x : Int)]] = zap (l ++ [x]) := by simp [zap]
theorem zhK (s : Nat) (h : s < 18446744073709551616) : ∃ x c : Nat, x < 1000000000 ∧ s = x + 1000000000 * c ∧ IntKind.u32.wrap (x : Int) = x ∧
  (∀ (b : Bool) (k : AV → Prop), zac .rem b (.int .u64 s) (.int .u64 1000000000) k = k (.int .u64 x)) ∧ ∀ (b : Bool) (k : AV → Prop), zac .quo b (.int .u64 s) (.int .u64 1000000000) k = k (.int .u64 c) :=
 ⟨s % 1000000000, s / 1000000000, ztD s, by omega, zeQ (by omega), fun b k => zr4 b .u64 s, fun b k => zz1 b h⟩
theorem zAN (s : Nat) (h : s < 4294967296) : ∃ x c : Nat, x < 1000000000 ∧ s = x + 1000000000 * c ∧
  (∀ (b : Bool) (k : AV → Prop), zac .rem b (.int .u32 s) (.int .u32 1000000000) k = k (.int .u32 x)) ∧ ∀ (b : Bool) (k : AV → Prop), zac .quo b (.int .u32 s) (.int .u32 1000000000) k = k (.int .u32 c) :=
 ⟨s % 1000000000, s / 1000000000, ztD s, by omega, fun b k => zr4 b .u32 s, fun b k => zz0 b h⟩
theorem zsR (s d : Nat) (hd : 0 < d) (h : s < 18446744073709551616) : ∃ x c : Nat, x < d ∧ s = x + d * c ∧
  (∀ (b : Bool) (k : AV → Prop), zac .rem b (.int .u64 s) (.int .u64 d) k = k (.int .u64 x)) ∧ ∀ (b : Bool) (k : AV → Prop), zac .quo b (.int .u64 s) (.int .u64 d) k = k (.int .u64 c) :=
 ⟨s % d, s / d, Nat.mod_lt _ hd, (Nat.mod_add_div s d).symm, fun b k => zr5 b .u64 s d (by omega), fun b k => by rw [zr3 b .u64 s d (by omega), zb7 (by have := Nat.div_le_self s d; omega)]⟩
theorem wi (i : Nat) (h : i < 1000000000) : IntKind.i64.wrap ((i : Int) + 1) = ((i + 1 : Nat) : Int) := by rw [zar (by omega) (by omega)]; omega
theorem wd (i : Nat) (h : i < 1000000000) (h0 : 0 < i) : IntKind.i64.wrap ((i : Int) - 1) = ((i - 1 : Nat) : Int) := by rw [zar (by omega) (by omega)]; omega
theorem zuW : ∀ l : List Nat, (zbH l).length ≤ l.length ∧ ((zbH l).length = l.length → zbH l = l)
 | [] => by simp [zbH]
 | x :: l => by
  obtain ⟨h1, h2⟩ := zuW l
  rw [zbH]
  split
  ·simp
  ·simp only [List.length_cons]
   exact ⟨by omega, fun h => by rw [h2 (by omega)]⟩
theorem zto {n k : Nat} (h : 1000000000 ^ k ≤ n) : k < (lim n).length := by
 have h1 := zeE (lim n) (zcQ n)
 rw [zca] at h1
 refine Nat.lt_of_not_le fun h2 => ?_
 have := Nat.pow_le_pow_right (show 0 < 1000000000 by omega) h2
 omega
theorem zst {R : List Nat} (hR : ∀ x ∈ R, x < 1000000000) (h : R.length ≤ (lim (zaq R)).length) : R = lim (zaq R) := by
 have h1 := ziV R hR
 obtain ⟨h2, h3⟩ := zuW R
 rw [← h1, h3 (by rw [h1] at h2 ⊢; omega)]
end Go.Abs
namespace Go.Proofs.YtjkkonpjecoieaaGreat
open Go Go.Abs
set_option maxRecDepth 8000
end Go.Proofs.YtjkkonpjecoieaaGreat
namespace Go.Abs
open Go Go.RowKit
variable {P : Program} {B : Nat} {w : World} {G : Gh} {H : zaa}
theorem HRel.frz (h : HRel B w G H) {id : Nat} {cs : List AV} (hH : H[id]? = some (.cells cs)) :
  ∃ G', Ext B w G w G' ∧ HRel B w G' (H.set id .dead) ∧ ∃ b, G.μ[id]? = some (.blk b) ∧ G'.L b = cs.length ∧ ∃ (vs : Array Value) (e : TypeId), w.heap[b]? = some (.cells vs e (0, 0)) ∧ All2 (ARel w G) vs.toList cs := by
 have hlt : id < G.μ.length := by rw [h.len]; exact (List.getElem?_eq_some_iff.1 hH).1
 obtain ⟨gi, hgi⟩ : ∃ gi, G.μ[id]? = some gi := ⟨_, List.getElem?_eq_getElem hlt⟩
 have hok := h.ok id _ _ hH hgi
 cases gi with
 | gap => exact hok.elim
 | own v s n => exact hok.elim
 | blk b =>
  obtain ⟨hB, hL, vs, e, hw, hcs⟩ := hok
  have hl : vs.size = cs.length := by simpa using hcs.length
  have he : Ext B w G w ⟨fun x => if x = b then cs.length else G.L x, G.μ⟩ :=
   ⟨Nat.le_refl _, Below.refl _ _, fun x => by by_cases hx : x = b <;> simp [hx, hL], fun _ _ _ => rfl, fun _ gi h => ⟨gi, h, gi.le_refl⟩⟩
  refine ⟨_, he, ⟨by simp [h.len], ?_, h.dist, fun x hx => ?_, h.lt, h.base⟩, b, hgi, by simp, vs, e, hw, hcs⟩
  ·intro id' ab gi h1 h2
   by_cases hid : id' = id
   ·subst hid
    rw [List.getElem?_set_self (List.getElem?_eq_some_iff.1 hH).1] at h1
    cases h1
    have h2 : G.μ[id']? = some gi := h2
    rw [hgi] at h2
    cases h2
    exact ⟨vs, e, (0, 0), hw, by simp [hl]⟩
   ·rw [List.getElem?_set_ne (fun h => hid h.symm)] at h1
    refine (h.ok id' ab gi h1 h2).keep he (fun x hx => ⟨rfl, ?_⟩)
    have : ¬ x = b := fun hxb => hid (h.dist id' id gi _ b h2 hgi (by rw [hx, hxb]) rfl)
    simp [this]
  ·have := h.lt id _ b hgi rfl
   have h3 : ¬ x = b := by omega
   simp [h3, h.fresh x hx]
inductive FzA (id off len cap : Nat) (es : List (List AV)) : AV → AV → Prop
 | refl (a : AV) : FzA id off len cap es a a
 | ms : FzA id off len cap es (.ms id off len cap) (.sl es .none)
inductive FzT (id off len cap : Nat) (es : List (List AV)) : AV → AV → Prop
 | one {a b : AV} (h : FzA id off len cap es a b) : FzT id off len cap es a b
 | agg {asx bs : List AV} (h : All2 (FzA id off len cap es) asx bs) : FzT id off len cap es (.agg asx) (.agg bs)
theorem FzA.rel {id off len cap size : Nat} {cs : List AV} {es : List (List AV)} (hfit : off + len * size ≤ cs.length)
  (hp : zaB ((cs.drop off).take (len * size)) = some es.flatten) (hlen : es.length = len) (hsz : ∀ c ∈ es, c.length = size) (hcap : len ≤ cap) {G' : Gh} (hE : Ext B w G w G') {b : Nat} (hμ : G.μ[id]? = some (.blk b)) (hLb : G'.L b = cs.length)
  {vs0 : Array Value} {e : TypeId} (hw : w.heap[b]? = some (.cells vs0 e (0, 0))) (hcs : All2 (ARel w G) vs0.toList cs) {v : Value} {a b' : AV} (hab : FzA id off len cap es a b') (hr : ARel w G v a) : ARel w G' v b' := by
 cases hab with
 | refl a => exact hE.arel hr
 | ms =>
  obtain ⟨b2, hb2, rfl⟩ := hr
  rw [hμ] at hb2
  cases hb2
  show DRel w G'.L _ _
  subst hlen
  by_cases hne : es = []
  ·subst hne; exact .slE _ _
  ·have hl := hcs.length
   have hd := zdk ((hcs.drop off).take (es.length * size)) hp
   refine DRel.of_flat_at (zs := (vs0.toList.drop off).take (es.length * size)) hsz hne hcap (by rw [hLb]; exact hfit) (hd.mono fun _ _ => hE.drel) ?_
   intro j u hj
   rw [List.getElem?_take] at hj
   split at hj
   ·simp only [World.cell?, hw]
    simpa using hj
   ·cases hj
theorem zmg {R R' : Value → AV → Prop} {S : AV → AV → Prop} (h : ∀ v a b, S a b → R v a → R' v b) {vs : List Value} {asx bs : List AV} (hr : All2 R vs asx) (hs : All2 S asx bs) : All2 R' vs bs :=
 All2.of_get (hr.length.trans hs.length) fun i x y hx hy => by
  obtain ⟨a, ha, hxa⟩ := All2.get' hr hx
  obtain ⟨y', hy', hay⟩ := All2.get' hs ha
  rw [hy] at hy'
  cases hy'
  exact h _ _ _ hay hxa
theorem ACalls.frz {f : FuncId} {args args' : List AV} {K : Kt} (id off len cap size : Nat) (cs : List AV) (es : List (List AV)) (hH : H[id]? = some (.cells cs)) (hfit : off + len * size ≤ cs.length)
  (hp : zaB ((cs.drop off).take (len * size)) = some es.flatten) (hlen : es.length = len) (hsz : ∀ c ∈ es, c.length = size) (hcap : len ≤ cap) (ha : All2 (FzT id off len cap es) args args')
  (h : ACalls P f args' (H.set id .dead) K) : ACalls P f args H K := by
 intro B w G vs hR hv
 obtain ⟨G', hE, hR', b, hμ, hLb, vs0, e, hw, hcs⟩ := hR.frz hH
 have h1 : ∀ v a b, FzA id off len cap es a b → ARel w G v a → ARel w G' v b := fun v a b' hab hr => FzA.rel hfit hp hlen hsz hcap hE hμ hLb hw hcs hab hr
 have h2 : ∀ v a b, FzT id off len cap es a b → TRel w G v a → TRel w G' v b := by
  intro v a b' hab hr
  cases hab with
  | one hab =>
   cases hab with
   | refl a => exact hE.trel hr
   | ms => exact TRel.of_v (VRel.of_a (h1 _ _ _ .ms hr))
  | agg hab =>
   obtain ⟨us, hu, hr⟩ := hr
   exact ⟨us, hu, zmg h1 hr hab⟩
 refine (h B w G' vs hR' (zmg h2 hv ha)).mono fun e w' ⟨v, r, H', G'', k1, k2, k3, k4, k5⟩ => ⟨v, r, H', G'', k1, hE.trans k2, k3, k4, k5⟩
theorem AWp.frz {c : Code} {Q : AExit → List AV → zaa → Prop} {F : List AV} (id off len cap size : Nat) (cs : List AV) (es : List (List AV)) (id2 : Nat) (cs2 cs2' : List AV) (hH : H[id]? = some (.cells cs)) (hfit : off + len * size ≤ cs.length)
  (hp : zaB ((cs.drop off).take (len * size)) = some es.flatten) (hlen : es.length = len) (hsz : ∀ c ∈ es, c.length = size) (hcap : len ≤ cap) (hne : id ≠ id2) (hH2 : H[id2]? = some (.cells cs2)) (ha : All2 (FzA id off len cap es) cs2 cs2')
  (h : AWp P c Q F ((H.set id .dead).set id2 (.cells cs2'))) : AWp P c Q F H := by
 intro B w G a hR hF hd
 obtain ⟨G', hE, hR', b, hμ, hLb, vs0, e, hw, hcs⟩ := hR.frz hH
 have h1 : ∀ v a b, FzA id off len cap es a b → ARel w G v a → ARel w G' v b := fun v a b' hab hr => FzA.rel hfit hp hlen hsz hcap hE hμ hLb hw hcs hab hr
 have hlt2 : id2 < G.μ.length := by rw [hR.len]; exact (List.getElem?_eq_some_iff.1 hH2).1
 have hH2' : (H.set id .dead)[id2]? = some (.cells cs2) := by rw [List.getElem?_set_ne hne]; exact hH2
 have hR2 : HRel B w G' ((H.set id .dead).set id2 (.cells cs2')) := by
  refine ⟨by simp [hR'.len], ?_, hR'.dist, hR'.fresh, hR'.lt, hR'.base⟩
  intro i ab gi k1 k2
  by_cases hi : i = id2
  ·subst hi
   rw [List.getElem?_set_self (List.getElem?_eq_some_iff.1 hH2').1] at k1
   cases k1
   have hok := hR'.ok i _ _ hH2' k2
   have hgi : G.μ[i]? = some gi := by
    obtain ⟨gi0, hgi0⟩ : ∃ gi0, G.μ[i]? = some gi0 := ⟨_, List.getElem?_eq_getElem hlt2⟩
    have hok0 := hR.ok i _ _ hH2 hgi0
    obtain ⟨gi1, hg1, hle⟩ := hE.ids i gi0 hgi0
    rw [k2] at hg1
    cases hg1
    cases gi0 with
    | blk x => cases gi with
     | blk y => obtain rfl : x = y := hle; exact hgi0
     | own v s n => exact hle.elim
     | gap => exact hle.elim
    | own v s n => exact hok0.elim
    | gap => exact hok0.elim
   have hok0 := hR.ok i _ _ hH2 hgi
   cases gi with
   | blk x =>
    obtain ⟨k3, k4, vs, e', k5, k6⟩ := hok
    obtain ⟨_, _, vs1, e1, k7, k8⟩ := hok0
    rw [k5] at k7
    cases k7
    exact ⟨k3, k4, vs, e', k5, zmg h1 k8 ha⟩
   | own v s n => exact hok.elim
   | gap => exact hok.elim
  ·rw [List.getElem?_set_ne (fun h => hi h.symm)] at k1
   exact hR'.ok i ab gi k1 k2
 refine wp_mono (h B w G' a hR2 (hF.ext hE) hd) fun e a' w' hp => ?_
 obtain ⟨F', H', G'', e', rfl, k1, k2, k3, k4, k5⟩ := hp
 exact ⟨F', H', G'', e', rfl, hE.trans k1, k2, k3, k4, k5⟩
end Go.Abs
namespace Go.Abs
open Go Go.RowKit
variable {P : Program} {B : Nat} {w : World} {G : Gh} {H : zaa}
inductive OutW (H : zaa) (n : Nat) : AV → AV → Prop
 | one {a b : AV} (h : OutV H n a b) : OutW H n a b
 | rows (id e m : Nat) (cs : List AV) (rs : List (List (List AV))) (hid : n ≤ id) (hH : H[id]? = some (.vec e 1 m cs)) (hm : rs.length = m)
   (hall : All2 (OutV H n) cs (rs.map fun r => .sl r .none)) : OutW H n (.ov id m) (.sl (rs.map fun r => [.sl r .none]) .none)
theorem OutW.vrel (hH : HRel B w G H) {n : Nat} {v : Value} {a b : AV} (h : OutW H n a b) (hr : TRel w G v a) : VRel w (G.cut w n) v b := by
 cases h with
 | one h => exact h.vrel hH hr
 | rows id e m cs rs hid hHid hm hall =>
  obtain ⟨⟨a, cap0, rfl, _⟩, v', s0, n', hμ, _, heq⟩ := hr
  obtain ⟨rfl, rfl, ⟨xs, hown, hcs⟩, _⟩ := hH.ok id _ _ hHid hμ
  obtain rfl := heq rfl
  subst hm
  show DRel w (G.cut w n).L _ _
  by_cases hne : rs = []
  ·subst hne; exact .slE _ _
  ·have hown2 := hown
   obtain ⟨hl, hrow⟩ := hown2
   have hd : All2 (DRel w (G.cut w n).L) xs (rs.map fun r => AV.sl r .none) := All2.of_get (hcs.length.trans hall.length) fun i x y hx hy => by
    obtain ⟨a, ha, hxa⟩ := All2.get' hcs hx
    obtain ⟨y', hy', hay⟩ := All2.get' hall ha
    rw [hy] at hy'
    cases hy'
    obtain ⟨r, hr, rfl⟩ : ∃ r, rs[i]? = some r ∧ AV.sl r .none = y := by simpa using hy
    exact hay.vrel hH (TRel.of_v (VRel.of_a hxa))
   rcases hrow with ⟨h1, h2⟩ | ⟨g, cap, cur, h1, h2, h3, h4, h5, h6, h7⟩
   ·cases rs <;> simp_all
   ·simp at h1
    obtain ⟨rfl, rfl⟩ := h1
    obtain ⟨_, _, _, hcell⟩ := zdj hown
    have hfl : ∀ l : List (List (List AV)), (l.map fun r => [AV.sl r .none]).flatten = l.map fun r => AV.sl r .none := by
     intro l
     induction l with
     | nil => rfl
     | cons r l ih => simp [ih]
    have := DRel.of_flat_at (w := w) (L := (G.cut w n).L) (g := g) (off := 0) (size := 1) (cap := cap0) (es := rs.map fun r => [AV.sl r .none]) (zs := xs) (by simp) (by simpa using hne) (by simpa using h4) ?_ (by rw [hfl rs]; exact hd) ?_
    ·simpa using this
    ·have : (G.cut w n).L g = cur.size := by
      simp only [Gh.cut]
      rw [if_pos (cut_dropped.2 ⟨id, _, hid, hμ, rfl⟩), h3]
     rw [this, h6]
     simpa using h4
    ·intro j u hj
     rw [Nat.zero_add, hcell j (by rw [← hl]; exact (List.getElem?_eq_some_iff.1 hj).1)]
     exact hj
inductive OutT2 (H : zaa) (n : Nat) : AV → AV → Prop
 | one {a b : AV} (h : OutW H n a b) : OutT2 H n a b
 | tup {asx bs : List AV} (h : All2 (OutW H n) asx bs) : OutT2 H n (.tup asx) (.tup bs)
theorem zBN (hH : HRel B w G H) {n : Nat} {asx bs : List AV} (h : All2 (OutW H n) asx bs) {vs : List Value} (hr : All2 (VRel w G) vs asx) : All2 (VRel w (G.cut w n)) vs bs :=
 All2.of_get (hr.length.trans h.length) fun i x y hx hy => by
  obtain ⟨a, ha, hxa⟩ := All2.get' hr hx
  obtain ⟨y', hy', hay⟩ := All2.get' h ha
  rw [hy] at hy'
  cases hy'
  exact hay.vrel hH (TRel.of_v hxa)
def ze8 (n : Nat) (K : AV → zaa → Prop) (r : AV) (H' : zaa) : Prop := ∃ r2 H2 J, H' = H2 ++ J ∧ n ≤ H2.length ∧ HSc H2 ∧ OutT2 H' H2.length r r2 ∧ K r2 H2
theorem ACalls.out2 {f : FuncId} {args : List AV} {K : AV → zaa → Prop} (h : ACalls P f args H (ze8 H.length K)) : ACalls P f args H K := by
 intro B w G vs hH hv
 refine (h B w G vs hH hv).mono fun e w' ⟨v, r, H', G', h1, h2, h3, h4, h5⟩ => ?_
 obtain ⟨r2, H2, J, hJ, hn, hsc, ho, hk⟩ := h5
 subst hJ
 refine ⟨v, r2, H2, G'.cut w' H2.length, h1, zms h3 h2 (by rw [hH.len]; exact hn), h3.cut hsc, ?_, hk⟩
 cases ho with
 | one ho => exact TRel.of_v (ho.vrel h3 h4)
 | tup ho =>
  obtain ⟨us, hu, hr⟩ := h4
  exact ⟨us, hu, zBN h3 ho hr⟩
theorem Out.two {n : Nat} {K : AV → zaa → Prop} {r : AV} (h : Out n K r H) : ze8 n K r H := by
 obtain ⟨r2, H2, J, hJ, hn, hsc, ho, hk⟩ := h
 refine ⟨r2, H2, J, hJ, hn, hsc, ?_, hk⟩
 cases ho with
 | one h => exact .one (.one h)
 | tup h => exact .tup (All2.of_get h.length fun i x y hx hy => by
   obtain ⟨y', hy', hay⟩ := All2.get' h hx
   rw [hy] at hy'
   cases hy'
   exact .one hay)
end Go.Abs
namespace Go.Abs
open Go Go.RowKit Go.Lib
variable {P : Program} {B : Nat} {w : World}
end Go.Abs
namespace Go.Abs
open Go Go.RowKit Go.Lib
variable {P : Program} {B : Nat} {w : World} {G : Gh} {H : zaa}
theorem HRel.dead (h : HRel B w G H) {id e s n : Nat} (hH : H[id]? = some (.perm e s n)) : HRel B w G (H.set id .dead) := by
 refine ⟨by simp [h.len], ?_, h.dist, h.fresh, h.lt, h.base⟩
 intro i ab gi h1 h2
 by_cases hi : i = id
 ·subst hi
  rw [List.getElem?_set_self (List.getElem?_eq_some_iff.1 hH).1] at h1
  cases h1
  have hok := h.ok i _ _ hH h2
  cases gi with
  | blk b => exact hok.elim
  | gap => exact hok.elim
  | own v s' n' =>
   obtain ⟨rfl, rfl, ⟨xs, hl, ⟨rfl, _⟩ | ⟨g, cap, cur, rfl, k1, k2, k3, k4, k5, k6⟩⟩, hL⟩ := hok
   ·intro b hb
    cases hb
   ·intro b hb
    simp [Value.ownBlock] at hb
    subst hb
    exact ⟨cur, e, _, k2, by rw [hL g rfl, k5]; exact Nat.mul_le_mul_right _ k3⟩
 ·rw [List.getElem?_set_ne (fun h => hi h.symm)] at h1
  exact h.ok i ab gi h1 h2
theorem HRel.other (h : HRel B w G H) (o : Obj) : Ext B w G (w.alloc o) G ∧ HRel B (w.alloc o) G H := by
 have he := Ext.alloc h o G.L (fun _ _ => rfl) []
 simp only [List.append_nil] at he
 refine ⟨he, h.keep he rfl (fun id gi b h1 h2 => ⟨zdc (h.lt id gi b h1 h2), rfl⟩) (fun b hb => ?_)⟩
 rw [zcp] at hb
 exact h.fresh b (by omega)
end Go.Abs
namespace Go.Abs
open Go Go.RowKit Go.Sort
variable {P : Program} {B : Nat} {w : World} {G : Gh} {H : zaa}
end Go.Abs
namespace Go.Abs
open Go Go.RowKit
variable {P : Program} {B : Nat} {w : World} {G : Gh} {H : zaa}
theorem HRel.newVec (h : HRel B w G H) (e size : Nat) : Ext B w G w ⟨G.L, G.μ ++ [.own (.slice none 0 0) size 0]⟩ ∧ HRel B w ⟨G.L, G.μ ++ [.own (.slice none 0 0) size 0]⟩ (H ++ [.vec e size 0 []]) := by
 obtain ⟨hE, hH⟩ := h.newOwn e size
 refine ⟨hE, by simpa using hH.len, fun id ab gi h1 h2 => ?_, hH.dist, hH.fresh, hH.lt, hH.base⟩
 by_cases hlt : id < H.length
 ·rw [List.getElem?_append_left hlt] at h1
  exact hH.ok id ab gi (by rw [List.getElem?_append_left hlt]; exact h1) h2
 ·have hlt2 := (List.getElem?_eq_some_iff.1 h2).1
  simp [h.len] at hlt2
  obtain rfl : id = H.length := by omega
  simp at h1
  have h2 : (G.μ ++ [GI.own (.slice none 0 0) size 0])[H.length]? = some gi := h2
  rw [← h.len] at h2
  simp at h2
  subst h1 h2
  exact ⟨rfl, rfl, ⟨[], World.ownsRow_nil w B e size, trivial⟩, fun b hb => by simp [Value.ownBlock] at hb⟩
theorem HRel.ovCell (h : HRel B w G H) {id j : Nat} {cs : List AV} (e size : Nat) (hid : H[id]? = some (.cells cs)) (hj : cs[j]? = some .snil) :
  ∃ G', Ext B w G w G' ∧ HRel B w G' (H.set id (.cells (cs.set j (.ov H.length 0))) ++ [.vec e size 0 []]) := by
 obtain ⟨hE, hH'⟩ := h.newVec e size
 refine ⟨_, hE, ?_⟩
 have hlt := (List.getElem?_eq_some_iff.1 hid).1
 have := hH'.reCell (id := id) (cs := cs) (cs' := cs.set j (.ov H.length 0)) (by rw [List.getElem?_append_left hlt]; exact hid) (fun vs hvs => by
  obtain ⟨v, h1, h2⟩ := All2.get hvs hj
  have h2 : v = .slice none 0 0 := h2
  subst h2
  have hset : vs = vs.set j (.slice none 0 0) := by
   apply List.ext_getElem?
   intro k
   by_cases hk : k = j
   ·subst hk; rw [List.getElem?_set_self (List.getElem?_eq_some_iff.1 h1).1]; exact h1
   ·rw [List.getElem?_set_ne (fun h => hk h.symm)]
  rw [hset]
  refine All2.set j hvs ?_
  refine ⟨⟨none, 0, rfl, fun h => absurd h (by omega)⟩, .slice none 0 0, size, 0, ?_, Nat.le_refl _, fun _ => rfl⟩
  rw [← h.len]
  simp)
 rwa [List.set_append_left _ _ hlt] at this
theorem ACalls.ovC {f : FuncId} {args : List AV} {K : AV → zaa → Prop} {id j : Nat} {cs : List AV} (e size : Nat) (hid : H[id]? = some (.cells cs)) (hj : cs[j]? = some .snil)
  (h : ACalls P f args (H.set id (.cells (cs.set j (.ov H.length 0))) ++ [.vec e size 0 []]) K) : ACalls P f args H K := by
 intro B w G vs hH hv
 obtain ⟨G', hE, hH'⟩ := hH.ovCell e size hid hj
 refine (h B w G' vs hH' (hv.mono fun _ _ => hE.trel)).mono fun e' w' hp => ?_
 obtain ⟨v, r, H', G'', h1, h2, h3⟩ := hp
 exact ⟨v, r, H', G'', h1, hE.trans h2, h3⟩
end Go.Abs
