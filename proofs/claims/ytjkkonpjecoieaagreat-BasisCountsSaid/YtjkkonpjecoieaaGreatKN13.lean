import Derived.Test.YtjkkonpjecoieaaGreatKZ2
import Derived.Test.YtjkkonpjecoieaaGreatKI5
import Derived.Test.YtjkkonpjecoieaaGreatKGB7
import Derived.Test.YtjkkonpjecoieaaGreatAbsQ1
import Derived.Test.YtjkkonpjecoieaaGreatIT
import Derived.Test.YtjkkonpjecoieaaGreatKGR7
import Derived.Test.YtjkkonpjecoieaaGreatKY11
import Derived.Shelf.SlSortCmp.NoneTotal
import Derived.Test.YtjkkonpjecoieaaGreatProg
import Derived.Test.YtjkkonpjecoieaaGreatKNum
import Derived.KernelRfl
set_option linter.unusedSimpArgs false
set_option linter.unusedVariables false
namespace Go.Proofs.YtjkkonpjecoieaaGreat
open Go Go.Abs
set_option maxRecDepth 8000
theorem zrY (O : List Nat) (i x : Nat) (h : i < O.length) : List.take i (us O) ++ AV.int .u32 (x : Int) :: List.drop (i + 1) (us O) = us (O.set i x) := by rw [← zrX O i x h]; simp
theorem zrf {O : List Nat} (hO : ∀ x ∈ O, x < 1000000000) {i x : Nat} (hx : x < 1000000000) : ∀ y ∈ O.set i x, y < 1000000000 := by
 intro y hy
 rcases List.mem_or_eq_of_mem_set hy with hy | rfl
 ·exact hO y hy
 ·exact hx
theorem zBc (A : List Nat) (lA : ∀ x ∈ A, x < 1000000000) (ha : A.length ≤ 1000) (d : Nat) (hd0 : 0 < d) (hd : d < 4294967296) (hdB : d ≤ 1000000000) (H : zaa) (K : Kt)
  (hK : K (.tup [.sl (zal (lim (zao A / d))) .none, .int .u64 ((zao A % d : Nat) : Int)]) H) :
  ACalls tP zkR [.sl (zal A) .none, .int .u64 d] H K := by
 refine ACalls.out (zBa fun hs => ?_)
 have hst : IntKind.i64.wrap ((A.length : Int) - 1) = (A.length : Int) - 1 := zaq (by omega) (by omega)
 simp [zsG, zba, hst]
 rw [zlV]
 refine ⟨⟨by omega, by omega⟩, ?_⟩
 have hsc : ∀ O : List Nat, HSc (H ++ [.cells (us O)]) := fun O => hs.append (by simp [AB.sc, us, AV.scA, AV.scB])
 refine zA8 (Inv := fun q t7 t8 H' => ∃ (i r : Nat) (O : List Nat), i ≤ A.length ∧ i = q ∧ t8 = .int .i64 ((i : Int) - 1) ∧ t7 = .int .u64 r ∧ r < d ∧ O.length = A.length ∧ (∀ x ∈ O, x < 1000000000) ∧
  zao (A.drop i) = d * zao (O.drop i) + r ∧ H' = H ++ [.cells (us O)]) A.length ?_ ?_
 ·intro _; exact ⟨A.length, 0, _, by omega, rfl, rfl, rfl, by omega, by simp, by simp, by simp [zao], rfl⟩
 ·rintro q t7 t8 H' ⟨i, r, O, hi, rfl, rfl, rfl, hr, hOl, hO, hv, rfl⟩ hsc' hlen hsF Kb hKb
  by_cases h0 : i = 0
  ·subst h0
   simp [zms]
   rw [List.drop_zero, List.drop_zero] at hv
   rw [← hOl]
   refine zwH O hO (by omega) (by simp) ?_
   have e1 : zao A / d = zao O := by rw [hv, Nat.mul_add_div hd0, Nat.div_eq_of_lt hr]; simp
   have e2 : zao A % d = r := by rw [hv, Nat.mul_add_mod, Nat.mod_eq_of_lt hr]
   rw [e1, e2] at hK
   simp
   exact ⟨⟨rfl, rfl⟩, Out.tup (bs := [.sl (zal (lim (zao O))) .none, .int .u64 (r : Int)]) hs hK ⟨slV, zaQ rfl rfl, trivial⟩⟩
  ·obtain ⟨j, rfl⟩ : ∃ j, i = j + 1 := ⟨i - 1, by omega⟩
   have hja : j < A.length := by omega
   have hjO : j < O.length := by omega
   have hxa := lA A[j] (List.getElem_mem hja)
   have ej : ((j + 1 : Nat) : Int) - 1 = (j : Int) := by omega
   have hstep : IntKind.i64.wrap ((j : Int) - 1) = (j : Int) - 1 := zaq (by omega) (by omega)
   have hrB : r * 1000000000 ≤ 1000000000 * 1000000000 := Nat.mul_le_mul_right _ (by omega)
   obtain ⟨m, hm⟩ : ∃ m, m = r * 1000000000 := ⟨_, rfl⟩
   have w1 : IntKind.u64.wrap ((r : Int) * 1000000000) = (m : Int) := by rw [show (r : Int) * 1000000000 = (m : Int) by omega]; exact zbh (by omega)
   have w2 : IntKind.u64.wrap ((A[j] : Nat) : Int) = A[j] := zbh (by omega)
   obtain ⟨s, hs1⟩ : ∃ s, s = m + A[j] := ⟨_, rfl⟩
   have w3 : IntKind.u64.wrap ((m : Int) + (A[j] : Nat)) = (s : Int) := by rw [hs1, ← Int.natCast_add]; exact zbh (by omega)
   obtain ⟨x, c, hx1, hx2, e1, e2⟩ := zkr s d hd0 (by omega)
   have hcB : c < 1000000000 := by
    refine Nat.lt_of_not_le fun h => ?_
    have h1 : d * 1000000000 ≤ d * c := Nat.mul_le_mul_left _ h
    have h2 : r * 1000000000 + 1000000000 ≤ d * 1000000000 := by
     rw [← Nat.succ_mul]; exact Nat.mul_le_mul_right _ hr
    omega
   have w4 : IntKind.u32.wrap (c : Int) = c := zd6 (by omega)
   rw [ej]
   simp only [zms]
   simp [hja, w1, w2, w3, e1, e2, w4, hstep, zrY O j c hjO, hOl]
   refine ⟨by omega, hKb _ _ ⟨j, by omega, Back.here (by simp) (hsc _) (by simp [zhZ, ux, AV.sc, AV.scA, AV.scB, AV.scV]) ⟨_, _, rfl, j, x, O.set j c, by omega, rfl, rfl, rfl, hx1, by simp [hOl], zrf hO hcB, ?_, rfl⟩⟩⟩
   rw [zfo A j hja, zfo (O.set j c) j (by simpa using hjO), List.getElem_set_self, List.drop_set_of_lt (by omega), hv]
   rw [hs1, hm] at hx2
   generalize zao (O.drop (j + 1)) = Z at *
   grind
theorem zl4 (a b : Nat) (ha : (lim a).length ≤ 1000) (hb0 : 0 < b) (hb : b < 1000000000) (H : zaa) (K : Kt)
  (hK : K (.tup [.sl (zal (lim (a / b))) .none, .sl (zal (lim (a % b))) .none]) H) :
  ACalls tP zfr [.sl (zal (lim a)) .none, .sl (zal (lim b)) .none] H K := by
 refine ACalls.out (zzC fun hs => ?_)
 have hlb : lim b = [b] := zdU (by omega) hb
 simp only [zsd]
 refine zHn a b ha (by rw [hlb]; simp) _ _ ?_
 have hcz : (zbU a b < 0) ↔ a < b := by
  unfold zbU
  split
  ·simp; assumption
  ·split <;> simp <;> omega
 by_cases hlt : a < b
 ·simp [hcz, hlt]
  refine zl6 (lim a) (by omega) _ _ ?_
  rw [zeL _ (zcu a), zb1]
  rw [Nat.div_eq_of_lt hlt, Nat.mod_eq_of_lt hlt, zqa] at hK
  refine ⟨⟨rfl, rfl⟩, ?_⟩
  exact Out.tup0 (bs := [.sl (zal []) .none, .sl (zal (lim a)) .none]) hs hK ⟨zdA, slV, trivial⟩
 ·have w1 : IntKind.u64.wrap (b : Int) = b := zbh (by omega)
  have hm : a % b < b := Nat.mod_lt _ hb0
  simp [hcz, hlt, hlb, w1]
  refine zBc (lim a) (zcu a) ha b hb0 (by omega) (by omega) _ _ ?_
  rw [zb1]
  simp
  refine zuY (a % b) (by omega) _ _ ?_
  refine ⟨⟨rfl, rfl⟩, ?_⟩
  exact Out.tup0 (bs := [.sl (zal (lim (a / b))) .none, .sl (zal (lim (a % b))) .none]) hs hK ⟨slV, slV, trivial⟩
theorem zzx (a b : Nat) (ha : (lim a).length ≤ 1000) (hb : b < 1000000000) (H : zaa) (K : Kt) (hK : K (.sl (zal (lim (Nat.gcd a b))) .none) H) :
  ACalls tP zkK [.sl (zal (lim a)) .none, .sl (zal (lim b)) .none] H K := by
 refine ACalls.out (zzv fun hs => ?_)
 unfold zsb
 refine zzt (Inv := fun q t0 t1 H' => ∃ x y : Nat, y = q ∧ t0 = .sl (zal (lim x)) .none ∧ t1 = .sl (zal (lim y)) .none ∧ (lim x).length ≤ 1000 ∧ y < 1000000000 ∧ Nat.gcd x y = Nat.gcd a b ∧ H' = H) b ?_ ?_
 ·intro _; exact ⟨a, b, rfl, rfl, rfl, ha, hb, rfl, rfl⟩
 ·rintro q t0 t1 H' ⟨x, y, rfl, rfl, rfl, hx, hy, hg, rfl⟩ hsc' hlen hsF Kb hKb
  by_cases h0 : y = 0
  ·subst h0
   rw [Nat.gcd_zero_right] at hg
   subst hg
   simp [zl1]
   exact Out.one0 hs (.atom (.sl _ _)) rfl rfl hK
  ·have hly : lim y = [y] := zdU h0 hy
   have hm : x % y < y := Nat.mod_lt _ (by omega)
   simp [zl1, show 0 < (lim y).length by rw [hly]; simp]
   refine zl4 x y hx (by omega) hy _ _ ?_
   simp
   refine hKb _ _ ⟨x % y, hm, Back.here (by simp) hs (by simp [zhB, ux, AV.sc, AV.scA, AV.scB, AV.scV]) ⟨_, _, rfl, y, x % y, rfl, rfl, rfl, by rw [hly]; simp, by omega, ?_, rfl⟩⟩
   rw [← hg, Nat.gcd_comm x y, Nat.gcd_rec y x, Nat.gcd_comm]
def zaG (z : Int) : List AV := [.bool (decide (z < 0)), .sl (zal (lim z.natAbs)) .none, .sl (zal [1]) .none]
theorem zHa (neg : Bool) (N D : List Nat) (hN : ∀ x ∈ N, x < 4294967296) (hD : ∀ x ∈ D, x < 4294967296) (hNl : N.length ≤ 10000) (hDl : D.length ≤ 10000) (n : Nat) (hnl : (lim n).length ≤ 900) (d : Nat) (hd0 : 0 < d) (hd : d < 1000000000)
  (hn : zao N = n * d) (hdv : zao D = d) (H : zaa) (K : Kt) (hK : K (.agg (zaG (if neg then -(n : Int) else n))) H) :
  ACalls tP zeB [.bool neg, .sl (zal N) .none, .sl (zal D) .none] H K := by
 refine ACalls.out (zG9 fun hs => ?_)
 have hld : lim d = [d] := zdU (by omega) hd
 simp [zuW]
 refine zsa N hN (by omega) _ _ ?_
 refine zsa D hD (by omega) _ _ ?_
 rw [hn, hdv]
 have hnd : (lim (n * d)).length ≤ 1000 := by
  have h1 := zdV (lim n) (zcu n)
  rw [zb1] at h1
  have h2 : n * d < 1000000000 ^ ((lim n).length + 1) := by
   rw [Nat.pow_succ]
   exact Nat.mul_lt_mul'' h1 hd
  have := zbV h2
  omega
 by_cases h0 : n = 0
 ·subst h0
  have e0 : (if neg = true then -((0 : Nat) : Int) else ((0 : Nat) : Int)) = 0 := by cases neg <;> rfl
  rw [e0] at hK
  simp [zaB, zbj, zaz, AV.pd, zav, zaO, zcW]
  have e1 : zaG 0 = [.bool false, .sl [] .none, .sl [[.int .u32 1]] .none] := by simp [zaG, zal]
  rw [e1] at hK
  exact Out.one hs (WkV.agg (ds := [.bool false, .sl [] .none, .sl [[.int .u32 1]] .none]) ⟨.refl _, .snil, .sl _ _, trivial⟩) rfl (by simp [AV.scV, AV.scA, AV.scB]) hK
 ·have hpos : 0 < (lim (n * d)).length := by
   rw [zb0 (Nat.mul_ne_zero h0 (by omega))]; simp
  have hg : Nat.gcd (n * d) d = d := Nat.gcd_eq_right (Nat.dvd_mul_left d n)
  have hb0 : (((lim (n * d)).length : Int) == 0) = false := by
   generalize (lim (n * d)).length = q at hpos
   simp; omega
  have hfin : zjm (.bool neg) (.sl (zal (lim n)) .none) (.sl (zal [1]) .none) (.ptr H.length 0) (H ++ [.cells [.bool false, .snil, .snil]]) (Out H.length K) := by
   simp [zjm, zav, zaO, zcW]
   have e1 : zaG (if neg = true then -(n : Int) else n) = [.bool neg, .sl (zal (lim n)) .none, .sl (zal [1]) .none] := by
    cases neg
    ·simp [zaG]
    ·simp [zaG]; omega
   rw [e1] at hK
   exact Out.one hs (WkV.agg (ds := [.bool neg, .sl (zal (lim n)) .none, .sl (zal [1]) .none]) ⟨.refl _, .sl _ _, .sl _ _, trivial⟩) rfl (by simp [AV.scV, AV.scA, AV.scB]) hK
  simp [hb0, hld]
  rw [show ([d] : List Nat) = lim d from hld.symm]
  refine zzx (n * d) d hnd hd _ _ ?_
  rw [hg, hld]
  by_cases hd1 : d = 1
  ·subst hd1
   simp
   simpa using hfin
  ·have hne : ((d : Int) != 1) = true := by simp; omega
   simp [hne]
   rw [show ([d] : List Nat) = lim d from hld.symm]
   refine zl4 (n * d) d hnd hd0 hd _ _ ?_
   simp
   refine zl4 d d (by rw [hld]; simp) hd0 hd _ _ ?_
   rw [Nat.div_self hd0, Nat.mul_div_cancel _ hd0, show lim 1 = [1] from zdU (by omega) (by omega)]
   simp
   exact hfin
def Sm (z : Int) : Prop := z.natAbs < 1000000000 ^ 30
theorem Sm.len {z : Int} (h : Sm z) : (lim z.natAbs).length ≤ 30 := zbV h
theorem zes : lim 1 = [1] := zdU (by omega) (by omega)
theorem zgq (n : Nat) : ∀ x ∈ lim n, x < 4294967296 := fun x hx => by have := zcu n x hx; omega
@[simp] theorem zxR (z : Int) : (zaG z).length = 3 := rfl
@[simp] theorem zqT (z : Int) : (zaG z).all AV.known = true := rfl
theorem zd2 {H J : zaa} {K : Kt} {z : Int} (hs : HSc H) (hK : K (.agg (zaG z)) H) : Out H.length K (.agg (zaG z)) (H ++ J) := Out.one hs .rfl' rfl rfl hK
theorem zwm (neg : Bool) (n d : Nat) (hn : n * d < 1000000000 ^ 100) (hd0 : 0 < d) (hd : d < 1000000000) {z : Int} (hz : (if neg = true then -(n : Int) else n) = z) (H : zaa) (K : Kt) (hK : K (.agg (zaG z)) H) :
  ACalls tP zeB [.bool neg, .sl (zal (lim (n * d))) .none, .sl (zal (lim d)) .none] H K := by
 subst hz
 have h1 := zbV hn
 have h2 : n < 1000000000 ^ 100 := Nat.lt_of_le_of_lt (Nat.le_mul_of_pos_right n hd0) hn
 have h3 := zbV h2
 exact zHa neg _ _ (zgq _) (zgq _) (by omega) (by rw [zdU (by omega) hd]; simp) n (by omega) d hd0 hd (zb1 _) (zb1 _) H K hK
theorem zwl (neg : Bool) (n : Nat) (hn : n < 1000000000 ^ 100) {z : Int} (hz : (if neg = true then -(n : Int) else n) = z) (H : zaa) (K : Kt) (hK : K (.agg (zaG z)) H) :
  ACalls tP zeB [.bool neg, .sl (zal (lim n)) .none, .sl (zal [1]) .none] H K := by
 have := zwm neg n 1 (by simpa using hn) (by omega) (by omega) hz H K hK
 rwa [zes, Nat.mul_one] at this
theorem zEa (n : Nat) (hn : n < 9223372036854775808) (H : zaa) (K : Kt) (hK : K (.agg (zaG n)) H) : ACalls tP zk6 [.int .i64 n] H K := by
 refine ACalls.out (zD9 fun hs => ?_)
 have w1 : IntKind.u64.wrap (n : Int) = n := zbh (by omega)
 have h0 : ¬ ((n : Int) < 0) := by omega
 simp [ztJ, h0, w1]
 refine zuY n (by omega) _ _ ?_
 simp [zaB, zbj, zaz, AV.pd]
 refine ACalls.wk (args' := [.bool false, .sl (zal (lim n)) .none, .sl (zal [1]) .none]) (zwl false n (by omega) (z := n) (by simp) _ _ ?_) ⟨.rfl', .rfl', .atom (.sl _ _), trivial⟩
 simp [zqT]
 exact zd2 hs hK
theorem zxt : (1 : Nat) < 1000000000 ^ 30 := by decide
theorem Sm.neg {z : Int} (h : Sm z) : Sm (-z) := by unfold Sm at h ⊢; rwa [Int.natAbs_neg]
theorem zkE (L : List Nat) (hL : L.length ≤ 100000) (H : zaa) (K : Kt) (hK : K (.bool (decide (L = [1]))) H) : ACalls tP zgK [.sl (zal L) .none] H K := by
 refine ACalls.out (zDG fun hs => ?_)
 have hO : ∀ b, b = decide (L = [1]) → Out H.length K (.bool b) H := fun b hb => Out.bool (J := []) (by simp) (Nat.le_refl _) hs (by rw [hb]; exact hK)
 match L with
 | [] => simp [ziG]; exact hO false (by simp)
 | [x] =>
  simp [ziG, zal]
  refine hO _ ?_
  by_cases h : x = 1
  ·subst h; rfl
  ·have hb : ((x : Int) == 1) = false := by simp; omega
   rw [hb]; simp [h]
 | x :: y :: l =>
  have hb : ((l.length : Int) + 1 + 1 == 1) = false := by simp; omega
  simp [ziG, hb]
  exact hO false (by simp)
theorem zxe (neg : Bool) (n : Nat) (hn : (lim n).length ≤ 1000) (H : zaa) (K : Kt) (hK : K (.agg (zaG (if neg = true then -(n : Int) else n))) H) :
  ACalls tP zgE [.agg [.bool neg, .sl (zal (lim n)) .none, .sl (zal [1]) .none]] H K := by
 refine ACalls.out (zsJ fun hs => ?_)
 by_cases h0 : n = 0
 ·subst h0
  have e0 : (if neg = true then -((0 : Nat) : Int) else ((0 : Nat) : Int)) = 0 := by cases neg <;> rfl
  have e1 : zaG 0 = [.bool false, .sl [] .none, .sl [[.int .u32 1]] .none] := by simp [zaG, zal]
  rw [e0, e1] at hK
  simp [zh3, zaB, zbj, zaz, AV.pd, zav, zaO, zcW, Nat.add_assoc]
  exact Out.one hs (WkV.agg (ds := [.bool false, .sl [] .none, .sl [[.int .u32 1]] .none]) ⟨.refl _, .snil, .sl _ _, trivial⟩) rfl (by simp [AV.scV, AV.scA, AV.scB]) hK
 ·have hp : 0 < (lim n).length := by rw [zb0 h0]; simp
  have hb : (((lim n).length : Int) == 0) = false := by
   generalize (lim n).length = q at hp
   simp; omega
  have e1 : zaG (if neg = true then -(n : Int) else n) = [.bool neg, .sl (zal (lim n)) .none, .sl (zal [1]) .none] := by
   cases neg
   ·simp [zaG]
   ·simp [zaG]; omega
  rw [e1] at hK
  simp [zh3, hb, Nat.add_assoc]
  refine zkE [1] (by simp) _ _ ?_
  simp [Nat.add_assoc]
  exact Out.one hs (WkV.agg (ds := [.bool neg, .sl (zal (lim n)) .none, .sl (zal [1]) .none]) ⟨.refl _, .sl _ _, .sl _ _, trivial⟩) rfl (by simp [AV.scV, AV.scA, AV.scB]) hK
theorem zyQ (neg : Bool) (n : Nat) (hn : (lim n).length ≤ 1000) {z : Int} (hz : (if neg = true then -(n : Int) else n) = z) (H : zaa) (K : Kt) (hK : K (.agg (zaG z)) H) :
  ACalls tP zev [.agg [.bool neg, .sl (zal (lim n)) .none, .sl (zal [1]) .none]] H K := by
 refine ACalls.out (zsj fun hs => ?_)
 simp [zl7, Nat.add_assoc]
 refine zxe neg n hn _ _ ?_
 rw [hz]
 simp [zaG, zav, zaO, zcW, AV.known, Nat.add_assoc]
 exact zd2 hs hK
theorem zkI (n : Nat) (hn : n < 9223372036854775808) (H : zaa) (K : Kt) (hK : K (.sl (zal (lim n)) .none) H) : ACalls tP zfs [.int .i64 n] H K := by
 refine ACalls.out (zzM fun hs => ?_)
 have w1 : IntKind.u64.wrap (n : Int) = n := zbh (by omega)
 have h0 : ¬ ((n : Int) < 0) := by omega
 simp [zsi, h0, w1]
 refine zku n (by omega) _ _ ?_
 exact Out.one0 hs (.atom (.sl _ _)) rfl rfl hK
theorem zoc (n : Nat) (hn : n < 9223372036854775808) (H : zaa) (K : Kt) (hK : K (.agg (zaG n)) H) : ACalls tP zd0 [.int .i64 n] H K := by
 refine ACalls.out (zHA fun hs => ?_)
 have h0 : decide ((n : Int) < 0) = false := by simp
 have hl := zbV (n := n) (k := 3) (by omega)
 simp [zu3, Nat.add_assoc]
 refine zkI n hn _ _ ?_
 simp [h0, zaB, zbj, zaz, AV.pd, zav, zaO, zcW, AV.known, Nat.add_assoc]
 refine ACalls.wk (args' := [.agg [.bool false, .sl (zal (lim n)) .none, .sl (zal [1]) .none]]) (zyQ false n (by omega) (z := n) (by simp) _ _ ?_) ⟨.agg ⟨.refl _, .refl _, .sl _ _, trivial⟩, trivial⟩
 simp [zqT, Nat.add_assoc]
 exact zd2 hs hK
theorem zqm (a b : Nat) (ha : a < 1000000000 ^ 30) (hb : b < 1000000000 ^ 30) (H : zaa) (K : Kt) (hK : K (.sl (zal (lim (a * b))) .none) H) : ACalls tP zew [.sl (zal (lim a)) .none, .sl (zal (lim b)) .none] H K := by
 have h1 := zbV ha
 have h2 := zbV hb
 refine zxj (lim a) (lim b) (zcu a) (zcu b) (by omega) (by omega) _ _ ?_
 rw [zb1, zb1]; exact hK
theorem zwC (a b : Nat) (ha : (lim a).length ≤ 1000) (hb : (lim b).length ≤ 1000) (H : zaa) (K : Kt) (hK : K (.int .i64 (zbU a b)) H) :
  ACalls tP zkM [.sl (zal (lim a)) .none, .sl (zal (lim b)) .none] H K := by
 refine ACalls.out (zz3 fun hs => ?_)
 have hO : ∀ r, r = zbU a b → Out H.length K (.int .i64 r) H := fun r hr => Out.int (J := []) (by simp) (Nat.le_refl _) hs (by rw [hr]; exact hK)
 have lA := zcu a
 have lB := zcu b
 have vA := zb1 a
 have vB := zb1 b
 by_cases hne : (lim a).length = (lim b).length
 ·simp [zhH, hne]
  generalize hLA : lim a = A at *
  generalize hLB : lim b = B at *
  have hstart : IntKind.i64.wrap ((B.length : Int) - 1) = (B.length : Int) - 1 := zaq (by omega) (by omega)
  rw [hstart]
  refine zz1 (Inv := fun q t5 H' => ∃ i : Nat, i ≤ B.length ∧ i = q ∧ t5 = .int .i64 ((i : Int) - 1) ∧ H' = H ∧ A.drop i = B.drop i) B.length ?_ ?_
  ·intro _; exact ⟨B.length, by omega, rfl, rfl, rfl, by rw [List.drop_of_length_le (by omega), List.drop_of_length_le (by omega)]⟩
  ·rintro q t5 H' ⟨i, hi, rfl, rfl, rfl, hd⟩ hsc' hlen hsF Kb hKb
   by_cases h0 : i = 0
   ·subst h0
    simp [zfS]
    refine hO _ ?_
    simp at hd
    rw [← vA, ← vB, hd]
    simp [zbU]
   ·obtain ⟨j, rfl⟩ : ∃ j, i = j + 1 := ⟨i - 1, by omega⟩
    have hja : j < A.length := by omega
    have hjb : j < B.length := by omega
    have ej : ((j + 1 : Nat) : Int) - 1 = (j : Int) := by omega
    have hstep : IntKind.i64.wrap ((j : Int) - 1) = (j : Int) - 1 := zaq (by omega) (by omega)
    rw [ej]
    rcases Nat.lt_trichotomy A[j] B[j] with h | h | h
    ·have := zgs hne lA j hja hd h
     simp [zfS, hja, hjb, h]
     exact hO _ (by rw [← vA, ← vB]; simp [zbU, this])
    ·simp [zfS, hja, hjb, h, hstep]
     refine hKb _ _ ⟨j, by omega, Back.here (by simp) hs (by simp [zhJ, ux, AV.sc, AV.scA, AV.scB, AV.scV]) ⟨_, rfl, j, by omega, rfl, rfl, rfl, ?_⟩⟩
     rw [List.drop_eq_getElem_cons hja, List.drop_eq_getElem_cons hjb, hd, h]
    ·have := zgs hne.symm lB j hjb hd.symm h
     simp [zfS, hja, hjb, h, Nat.le_of_lt h, Nat.not_lt.2 (Nat.le_of_lt h)]
     exact hO _ (by rw [← vA, ← vB]; simp [zbU, this, Nat.not_lt.2 (Nat.le_of_lt this)])
 ·have hnb : (((lim a).length : Int) != ((lim b).length : Int)) = true := by simp; omega
  by_cases hlt : (lim a).length < (lim b).length
  ·have := zgr hlt
   simp [zhH, hnb, hlt]
   exact hO (-1) (by simp [zbU, this])
  ·have := zgr (show (lim b).length < (lim a).length by omega)
   simp [zhH, hnb, hlt]
   exact hO 1 (by simp [zbU, this, Nat.not_lt.2 (Nat.le_of_lt this)])
theorem zwN (A : List Nat) (lA : ∀ x ∈ A, x < 1000000000) (ha : A.length ≤ 1000) (d : Nat) (hd0 : 0 < d) (hd : d < 4294967296) (hdB : d ≤ 1000000000) (H : zaa) (K : Kt)
  (hK : K (.tup [.sl (zal (lim (zao A / d))) .none, .int .u64 ((zao A % d : Nat) : Int)]) H) :
  ACalls tP zla [.sl (zal A) .none, .int .u64 d] H K := by
 refine ACalls.out (zEv fun hs => ?_)
 have hst : IntKind.i64.wrap ((A.length : Int) - 1) = (A.length : Int) - 1 := zaq (by omega) (by omega)
 simp [zt0, zba, hst]
 rw [zlV]
 refine ⟨⟨by omega, by omega⟩, ?_⟩
 have hsc : ∀ O : List Nat, HSc (H ++ [.cells (us O)]) := fun O => hs.append (by simp [AB.sc, us, AV.scA, AV.scB])
 refine zEt (Inv := fun q t7 t8 H' => ∃ (i r : Nat) (O : List Nat), i ≤ A.length ∧ i = q ∧ t8 = .int .i64 ((i : Int) - 1) ∧ t7 = .int .u64 r ∧ r < d ∧ O.length = A.length ∧ (∀ x ∈ O, x < 1000000000) ∧
  zao (A.drop i) = d * zao (O.drop i) + r ∧ H' = H ++ [.cells (us O)]) A.length ?_ ?_
 ·intro _; exact ⟨A.length, 0, _, by omega, rfl, rfl, rfl, by omega, by simp, by simp, by simp [zao], rfl⟩
 ·rintro q t7 t8 H' ⟨i, r, O, hi, rfl, rfl, rfl, hr, hOl, hO, hv, rfl⟩ hsc' hlen hsF Kb hKb
  by_cases h0 : i = 0
  ·subst h0
   simp [znk]
   rw [List.drop_zero, List.drop_zero] at hv
   rw [← hOl]
   refine zrF O hO (by omega) (by simp) ?_
   have e1 : zao A / d = zao O := by rw [hv, Nat.mul_add_div hd0, Nat.div_eq_of_lt hr]; simp
   have e2 : zao A % d = r := by rw [hv, Nat.mul_add_mod, Nat.mod_eq_of_lt hr]
   rw [e1, e2] at hK
   simp
   exact ⟨⟨rfl, rfl⟩, Out.tup (bs := [.sl (zal (lim (zao O))) .none, .int .u64 (r : Int)]) hs hK ⟨slV, zaQ rfl rfl, trivial⟩⟩
  ·obtain ⟨j, rfl⟩ : ∃ j, i = j + 1 := ⟨i - 1, by omega⟩
   have hja : j < A.length := by omega
   have hjO : j < O.length := by omega
   have hxa := lA A[j] (List.getElem_mem hja)
   have ej : ((j + 1 : Nat) : Int) - 1 = (j : Int) := by omega
   have hstep : IntKind.i64.wrap ((j : Int) - 1) = (j : Int) - 1 := zaq (by omega) (by omega)
   have hrB : r * 1000000000 ≤ 1000000000 * 1000000000 := Nat.mul_le_mul_right _ (by omega)
   obtain ⟨m, hm⟩ : ∃ m, m = r * 1000000000 := ⟨_, rfl⟩
   have w1 : IntKind.u64.wrap ((r : Int) * 1000000000) = (m : Int) := by rw [show (r : Int) * 1000000000 = (m : Int) by omega]; exact zbh (by omega)
   have w2 : IntKind.u64.wrap ((A[j] : Nat) : Int) = A[j] := zbh (by omega)
   obtain ⟨s, hs1⟩ : ∃ s, s = m + A[j] := ⟨_, rfl⟩
   have w3 : IntKind.u64.wrap ((m : Int) + (A[j] : Nat)) = (s : Int) := by rw [hs1, ← Int.natCast_add]; exact zbh (by omega)
   obtain ⟨x, c, hx1, hx2, e1, e2⟩ := zkr s d hd0 (by omega)
   have hcB : c < 1000000000 := by
    refine Nat.lt_of_not_le fun h => ?_
    have h1 : d * 1000000000 ≤ d * c := Nat.mul_le_mul_left _ h
    have h2 : r * 1000000000 + 1000000000 ≤ d * 1000000000 := by
     rw [← Nat.succ_mul]; exact Nat.mul_le_mul_right _ hr
    omega
   have w4 : IntKind.u32.wrap (c : Int) = c := zd6 (by omega)
   rw [ej]
   simp only [znk]
   simp [hja, w1, w2, w3, e1, e2, w4, hstep, zrY O j c hjO, hOl]
   refine ⟨by omega, hKb _ _ ⟨j, by omega, Back.here (by simp) (hsc _) (by simp [ziM, ux, AV.sc, AV.scA, AV.scB, AV.scV]) ⟨_, _, rfl, j, x, O.set j c, by omega, rfl, rfl, rfl, hx1, by simp [hOl], zrf hO hcB, ?_, rfl⟩⟩⟩
   rw [zfo A j hja, zfo (O.set j c) j (by simpa using hjO), List.getElem_set_self, List.drop_set_of_lt (by omega), hv]
   rw [hs1, hm] at hx2
   generalize zao (O.drop (j + 1)) = Z at *
   grind
theorem zpG (a b : Nat) (ha : (lim a).length ≤ 1000) (hb0 : 0 < b) (hb : b < 1000000000) (H : zaa) (K : Kt)
  (hK : K (.tup [.sl (zal (lim (a / b))) .none, .sl (zal (lim (a % b))) .none]) H) :
  ACalls tP zfv [.sl (zal (lim a)) .none, .sl (zal (lim b)) .none] H K := by
 refine ACalls.out (zDS fun hs => ?_)
 have hlb : lim b = [b] := zdU (by omega) hb
 simp only [ztP]
 refine zwC a b ha (by rw [hlb]; simp) _ _ ?_
 have hcz : (zbU a b < 0) ↔ a < b := by
  unfold zbU
  split
  ·simp; assumption
  ·split <;> simp <;> omega
 by_cases hlt : a < b
 ·simp [hcz, hlt]
  rw [Nat.div_eq_of_lt hlt, Nat.mod_eq_of_lt hlt, zqa] at hK
  simp [zaA, zaV, zaN]
  refine ⟨zdf _, ⟨by omega, by omega⟩, ⟨rfl, rfl⟩, ?_⟩
  exact Out.tup (bs := [.sl (zal []) .none, .sl (zal (lim a)) .none]) hs hK ⟨zdA, slV, trivial⟩
 ·have w1 : IntKind.u64.wrap (b : Int) = b := zbh (by omega)
  have hm : a % b < b := Nat.mod_lt _ hb0
  simp [hcz, hlt, hlb, w1]
  refine zwN (lim a) (zcu a) ha b hb0 (by omega) (by omega) _ _ ?_
  rw [zb1]
  simp
  refine zku (a % b) (by omega) _ _ ?_
  refine ⟨⟨rfl, rfl⟩, ?_⟩
  exact Out.tup0 (bs := [.sl (zal (lim (a / b))) .none, .sl (zal (lim (a % b))) .none]) hs hK ⟨slV, slV, trivial⟩
theorem zr4 (n : Nat) (hn : n < 1000000000000000000) (H : zaa) (K : Kt) (hK : K (.tup [.int .u64 n, .bool true]) H) : ACalls tP zgN [.sl (zal (lim n)) .none] H K := by
 refine ACalls.out (zEp fun hs => ?_)
 have hl2 : (lim n).length ≤ 2 := zbV (by omega)
 have lA := zcu n
 have vA := zb1 n
 generalize lim n = L at *
 simp [ztY]
 refine zEn (Inv := fun q t4 t9 H' => ∃ i : Nat, i ≤ L.length ∧ L.length - i = q ∧ t9 = .int .i64 i ∧ t4 = .int .u64 ((zao (L.drop (L.length - i)) : Nat) : Int) ∧ H' = H) L.length ?_ ?_
 ·intro _; exact ⟨0, by omega, rfl, rfl, by simp [zao], rfl⟩
 ·rintro q t4 t9 H' ⟨i, hi, rfl, rfl, rfl, rfl⟩ hsc' hlen hsF Kb hKb
  by_cases hlt : i < L.length
  ·have w1 : IntKind.i64.wrap ((L.length : Int) - 1) = ((L.length - 1 : Nat) : Int) := by rw [zaq (by omega) (by omega)]; omega
   have w2 : IntKind.i64.wrap (((L.length - 1 : Nat) : Int) - i) = ((L.length - 1 - i : Nat) : Int) := by rw [zaq (by omega) (by omega)]; omega
   have hj : L.length - 1 - i < L.length := by omega
   have hx := lA L[L.length - 1 - i] (List.getElem_mem hj)
   obtain ⟨x, hx0⟩ : ∃ x, x = L[L.length - 1 - i] := ⟨_, rfl⟩
   have w3 : IntKind.u64.wrap ((L[L.length - 1 - i] : Nat) : Int) = (x : Int) := by rw [← hx0]; exact zbh (by omega)
   have hdr := zfo L (L.length - 1 - i) hj
   rw [show L.length - 1 - i + 1 = L.length - i by omega, ← hx0] at hdr
   have hsm : zao (L.drop (L.length - i)) < 1000000000 := by
    have h1 := zdV (L.drop (L.length - i)) (fun y hy => lA y (List.mem_of_mem_drop hy))
    have h2 : (L.drop (L.length - i)).length ≤ 1 := by simp; omega
    have h3 : 1000000000 ^ (L.drop (L.length - i)).length ≤ 1000000000 ^ 1 := Nat.pow_le_pow_right (by omega) h2
    omega
   have hnext : zao (L.drop (L.length - (i + 1))) = zao (L.drop (L.length - i)) * 1000000000 + x := by
    rw [show L.length - (i + 1) = L.length - 1 - i by omega, hdr]; omega
   generalize hW : zao (L.drop (L.length - i)) = W at *
   have w4 : IntKind.u64.wrap (18446744073709551615 - (x : Int)) = ((18446744073709551615 - x : Nat) : Int) := by
    rw [show (18446744073709551615 : Int) - x = ((18446744073709551615 - x : Nat) : Int) by omega]; exact zbh (by omega)
   obtain ⟨y, hy0⟩ : ∃ y, y = 18446744073709551615 - x := ⟨_, rfl⟩
   rw [← hy0] at w4
   obtain ⟨r, c, hr1, hr2, hr3, e1, e2⟩ := zfe y (by omega)
   have hc : ¬ (c < W) := by omega
   have w5 : IntKind.u64.wrap ((W : Int) * 1000000000) = ((W * 1000000000 : Nat) : Int) := by
    rw [show (W : Int) * 1000000000 = ((W * 1000000000 : Nat) : Int) by omega]; exact zbh (by omega)
   obtain ⟨m, hm0⟩ : ∃ m, m = W * 1000000000 := ⟨_, rfl⟩
   rw [← hm0] at w5
   obtain ⟨s, hs0⟩ : ∃ s, s = m + x := ⟨_, rfl⟩
   have w6 : IntKind.u64.wrap ((m : Int) + x) = (s : Int) := by rw [hs0, ← Int.natCast_add]; exact zbh (by omega)
   simp only [zni]
   simp [hlt, w1, w2, hj, w3, w4, e2, hc, w5, w6, wi i (by omega)]
   exact hKb _ _ ⟨L.length - (i + 1), by omega, Back.here (by simp) hs (by simp [ziK, ux, AV.sc, AV.scA, AV.scB, AV.scV]) ⟨_, _, rfl, i + 1, by omega, rfl, rfl, by rw [hnext, hs0, hm0], rfl⟩⟩
  ·obtain rfl : i = L.length := by omega
   rw [Nat.sub_self, List.drop_zero, vA]
   simp [zni]
   exact ⟨⟨rfl, rfl⟩, Out.tup0 (bs := [.int .u64 (n : Int), .bool true]) hs hK ⟨zaQ rfl rfl, zaQ rfl rfl, trivial⟩⟩
theorem zwZ (a b : Nat) (ha : a < 1000000000000000000) (hb : b < 1000000000000000000) (H : zaa) (K : Kt) (hK : K (.sl (zal (lim (Nat.gcd a b))) .none) H) :
  ACalls tP zk7 [.sl (zal (lim a)) .none, .sl (zal (lim b)) .none] H K := by
 refine ACalls.out (zDM fun hs => ?_)
 have la : (lim a).length ≤ 2 := zbV (by omega)
 have lb : (lim b).length ≤ 2 := zbV (by omega)
 unfold ztK
 refine zDJ (Inv := fun q t0 t1 H' => t0 = .sl (zal (lim a)) .none ∧ t1 = .sl (zal (lim b)) .none ∧ H' = H) 0 ?_ ?_
 ·intro _; exact ⟨rfl, rfl, rfl⟩
 ·rintro q t0 t1 H' ⟨rfl, rfl, rfl⟩ hsc' hlen hsF Kb hKb
  by_cases h0 : b = 0
  ·subst h0
   rw [Nat.gcd_zero_right] at hK
   simp [zna]
   exact Out.one0 hs (.atom (.sl _ _)) rfl rfl hK
  ·have hp : 0 < (lim b).length := by rw [zb0 h0]; simp
   have hla : decide (((lim a).length : Int) ≤ 2) = true := by simp; omega
   have hlb : decide (((lim b).length : Int) ≤ 2) = true := by simp; omega
   simp [zna, hp, hla, hlb]
   refine zr4 a ha _ _ ?_
   simp
   refine zr4 b hb _ _ ?_
   simp
   refine zDK (Inv := fun q t5 t7 H2 => ∃ x y : Nat, y = q ∧ t5 = .int .u64 x ∧ t7 = .int .u64 y ∧ x < 1000000000000000000 ∧ y < 1000000000000000000 ∧ Nat.gcd x y = Nat.gcd a b ∧ H2 = H') b ?_ ?_
   ·intro _; exact ⟨a, b, rfl, rfl, rfl, ha, hb, rfl, rfl⟩
   ·rintro q t5 t7 H2 ⟨x, y, rfl, rfl, rfl, hx, hy, hg, rfl⟩ hsc2 hlen2 hsF2 Kb2 hKb2
    by_cases hy0 : y = 0
    ·subst hy0
     rw [Nat.gcd_zero_right] at hg
     subst hg
     simp [znb]
     refine zku _ (by omega) _ _ ?_
     exact Out.one0 hs (.atom (.sl _ _)) rfl rfl hK
    ·obtain ⟨r, c, hr1, hr2, e1, _⟩ := zkr x y (by omega) (by omega)
     simp only [znb]
     simp [show 0 < y by omega, e1]
     refine hKb2 _ _ ⟨r, by omega, Back.here (by simp) hs (by simp [ziH, ux, AV.sc, AV.scA, AV.scB, AV.scV]) ⟨_, _, rfl, y, r, rfl, rfl, rfl, hy, by omega, ?_, rfl⟩⟩
     have hrx : r = x % y := by rw [hr2, Nat.add_mul_mod_self_left, Nat.mod_eq_of_lt hr1]
     rw [← hg, hrx, Nat.gcd_comm x y, Nat.gcd_rec y x, Nat.gcd_comm]
def zbg (neg : Bool) (n d : Nat) : List AV := [.bool neg, .sl (zal (lim n)) .none, .sl (zal (lim d)) .none]
@[simp] theorem zMQ (b : Bool) (n d : Nat) : (zbg b n d).length = 3 := rfl
@[simp] theorem zMP (b : Bool) (n d : Nat) : (∀ x ∈ zbg b n d, x.known = true) = True := by simp [zbg, AV.known]
@[simp] theorem zMR (b : Bool) (n d : Nat) : List.take 3 (zbg b n d) = zbg b n d := rfl
theorem zeE {H J : zaa} {K : Kt} {b : Bool} {n d : Nat} (hs : HSc H) (hK : K (.agg (zbg b n d)) H) : Out H.length K (.agg (zbg b n d)) (H ++ J) := Out.one hs .rfl' rfl rfl hK
theorem zgp {n : Nat} : lim n = [1] ↔ n = 1 := by
 constructor
 ·intro h
  have := zb1 n
  rw [h] at this
  simp [zao] at this
  omega
 ·rintro rfl; exact zes
theorem zxd (neg : Bool) (n d : Nat) (hn0 : n ≠ 0) (hd0 : d ≠ 0) (hn : n < 1000000000000000000) (hd : d < 1000000000000000000) (hg : Nat.gcd n d < 1000000000) (H : zaa) (K : Kt) (hK : K (.agg (zbg neg (n / Nat.gcd n d) (d / Nat.gcd n d))) H) :
  ACalls tP zgE [.agg (zbg neg n d)] H K := by
 refine ACalls.out (zsJ fun hs => ?_)
 have ln : (lim n).length ≤ 2 := zbV (by omega)
 have ld : (lim d).length ≤ 2 := zbV (by omega)
 have hp : 0 < (lim n).length := by rw [zb0 hn0]; simp
 have hb : (((lim n).length : Int) == 0) = false := by
  generalize (lim n).length = q at hp
  simp; omega
 have hg0 : 0 < Nat.gcd n d := Nat.gcd_pos_of_pos_left d (by omega)
 have lg : (lim (Nat.gcd n d)).length ≤ 2 := zbV (by omega)
 simp [zh3, zbg, hb, Nat.add_assoc]
 refine zkE (lim d) (by omega) _ _ ?_
 by_cases hd1 : d = 1
 ·subst hd1
  rw [Nat.gcd_one_right, Nat.div_one, Nat.div_one] at hK
  simp [zgp, Nat.add_assoc]
  exact zeE hs hK
 ·simp [zgp, hd1, Nat.add_assoc]
  refine zwZ n d hn hd _ _ ?_
  refine zkE _ (by omega) _ _ ?_
  by_cases hg1 : Nat.gcd n d = 1
  ·rw [hg1, Nat.div_one, Nat.div_one] at hK
   simp [zgp, hg1, Nat.add_assoc]
   exact zeE hs hK
  ·simp [zgp, hg1, Nat.add_assoc]
   refine zpG n _ (by omega) hg0 hg _ _ ?_
   simp [Nat.add_assoc]
   refine zpG d _ (by omega) hg0 hg _ _ ?_
   simp [zav, zaO, zcW, AV.known, Nat.add_assoc]
   exact zeE hs hK
theorem zro (neg : Bool) (n d : Nat) (hn0 : n ≠ 0) (hd0 : d ≠ 0) (hn : n < 1000000000000000000) (hd : d < 1000000000000000000) (hg : Nat.gcd n d < 1000000000) (H : zaa) (K : Kt) (hK : K (.agg (zbg neg (n / Nat.gcd n d) (d / Nat.gcd n d))) H) :
  ACalls tP zev [.agg (zbg neg n d)] H K := by
 refine ACalls.out (zsj fun hs => ?_)
 simp [zl7, zbg, Nat.add_assoc]
 refine zxd neg n d hn0 hd0 hn hd hg _ _ ?_
 simp [zbg, zav, zaO, zcW, AV.known, Nat.add_assoc]
 exact zeE hs hK
theorem zEh (a b : Nat) (ha0 : a ≠ 0) (hb0 : b ≠ 0) (ha : a < 1000000000) (hb : b < 1000000000) (H : zaa) (K : Kt) (hK : K (.agg (zbg false (a / Nat.gcd a b) (b / Nat.gcd a b))) H) :
  ACalls tP zk9 [.int .i64 a, .int .i64 b] H K := by
 refine ACalls.out (zEg fun hs => ?_)
 have h0 : decide ((a : Int) < 0) = false := by simp
 have h1 : decide ((b : Int) < 0) = false := by simp
 have h2 : ((b : Int) == 0) = false := by simp; omega
 have hg : Nat.gcd a b < 1000000000 := Nat.lt_of_le_of_lt (Nat.gcd_le_right a (by omega)) hb
 simp [ztX, h2, h0, h1, Nat.add_assoc]
 refine zkI a (by omega) _ _ ?_
 refine zkI b (by omega) _ _ ?_
 simp [zav, zaO, zcW, AV.known, Nat.add_assoc]
 refine zro false a b ha0 hb0 (by omega) (by omega) hg _ _ ?_
 simp [Nat.add_assoc]
 exact zeE hs hK
theorem zqb (neg : Bool) (n d : Nat) (hn0 : n ≠ 0) (hd0 : d ≠ 0) (hn : (lim n).length ≤ 1000) (hd : (lim d).length ≤ 1000) (H : zaa) (K : Kt) (hK : K (.agg (zbg neg n d)) H) : ACalls tP zgx [.agg (zbg neg n d)] H K := by
 refine ACalls.out (zzR fun hs => ?_)
 have hz : ∀ m : Nat, m ≠ 0 → (((lim m).length : Int) == 0) = false := fun m hm => by
  have hp : 0 < (lim m).length := by rw [zb0 hm]; simp
  generalize (lim m).length = q at hp
  simp; omega
 simp [zsk, zbg, Nat.add_assoc]
 refine zbq (.sl (zal (lim n)) .none) (fun J => zqu _ (zgq _) (by omega) _ _ (by rw [zb1]; exact ⟨rfl, rfl⟩)) ?_
 refine zbq (.sl (zal (lim d)) .none) (fun J => zqu _ (zgq _) (by omega) _ _ (by rw [zb1]; exact ⟨rfl, rfl⟩)) ?_
 simp [hz n hn0, hz d hd0, zav, zaO, zcW, AV.known, Nat.add_assoc]
 exact zeE hs hK
theorem zqS (n : Nat) : zbg false n 1 = zaG (n : Int) := by
 unfold zbg zaG
 rw [zes, Int.natAbs_natCast, decide_eq_false (by omega)]
theorem zxi (a : Nat) (ha : a < 1000000000 ^ 30) (H : zaa) (K : Kt) (hK : K (.sl (zal (lim a)) .none) H) : ACalls tP zew [.sl (zal [1]) .none, .sl (zal (lim a)) .none] H K := by
 have := zqm 1 a zxt ha H K (by rw [Nat.one_mul]; exact hK)
 rwa [zes] at this
theorem zvL (c p q r : Nat) (hp0 : p ≠ 0) (hq0 : q ≠ 0) (hc0 : c ≠ 0) (hp : p < 1000000000) (hq : q < 1000000000) (hcp : c * p < 1000000000000000000) (hr : c * p = r * q) (H : zaa) (K : Kt) (hK : K (.agg (zaG (r : Int))) H) :
  ACalls tP zls [.agg (zaG (c : Int)), .agg (zbg false p q)] H K := by
 refine ACalls.out (zHD fun hs => ?_)
 have hc : c < 1000000000000000000 := Nat.lt_of_le_of_lt (Nat.le_mul_of_pos_right c (by omega)) hcp
 have lc := zbV (n := c) (k := 2) (by omega)
 have lp := zbV (n := p) (k := 1) (by omega)
 have lq := zbV (n := q) (k := 1) (by omega)
 have b30 : (1000000000000000000 : Nat) ≤ 1000000000 ^ 30 := by decide
 have hg : Nat.gcd (c * p) q = q := by rw [hr]; exact Nat.gcd_eq_right (Nat.dvd_mul_left q r)
 have hcp0 : c * p ≠ 0 := Nat.mul_ne_zero hc0 hp0
 rw [← zqS c]
 simp [zu4, zbg, Nat.add_assoc]
 refine zbq (.agg (zbg false c 1)) (fun J => zqb false c 1 hc0 (by omega) (by omega) (by rw [zes]; simp) _ _ ⟨rfl, rfl⟩) ?_
 refine zbq (.agg (zbg false p q)) (fun J => zqb false p q hp0 hq0 (by omega) (by omega) _ _ ⟨rfl, rfl⟩) ?_
 simp [zbg, AV.known, Nat.add_assoc]
 refine zbq (.sl (zal (lim (c * p))) .none) (fun J => zqm _ _ (by omega) (by omega) _ _ ⟨rfl, rfl⟩) ?_
 rw [zes]
 refine zbq (.sl (zal (lim q)) .none) (fun J => zxi _ (by omega) _ _ ⟨rfl, rfl⟩) ?_
 simp [zav, zaO, zcW, AV.known, Nat.add_assoc]
 refine zbq (.agg (zaG (r : Int))) (fun J => zro false (c * p) q hcp0 hq0 hcp (by omega) (by rw [hg]; exact hq) _ _ (by
  rw [hg, Nat.div_self (by omega), hr, Nat.mul_div_cancel _ (by omega), zqS]; exact ⟨rfl, rfl⟩)) ?_
 simp [Nat.add_assoc]
 exact zd2 hs hK
end Go.Proofs.YtjkkonpjecoieaaGreat
namespace Go.Abs
def chs : Nat → Nat → Nat
 | _, 0 => 1
 | 0, _ + 1 => 0
 | n + 1, k + 1 => chs n k + chs n (k + 1)
@[simp] theorem zwz (n : Nat) : chs n 0 = 1 := by cases n <;> rfl
theorem ze8 : ∀ {n k : Nat}, n < k → chs n k = 0
 | 0, k + 1, _ => rfl
 | n + 1, k + 1, h => by rw [chs, ze8 (by omega), ze8 (by omega)]
theorem zgg : ∀ (n k : Nat), (k + 1) * chs n (k + 1) = chs n k * (n - k)
 | 0, k => by simp [chs]
 | n + 1, 0 => by
  have := zgg n 0
  simp only [chs, zwz] at this ⊢
  omega
 | n + 1, k + 1 => by
  have h1 := zgg n k
  have h2 := zgg n (k + 1)
  simp only [chs]
  rw [show n + 1 - (k + 1) = n - k by omega]
  by_cases hk : k + 1 ≤ n
  ·obtain ⟨m, rfl⟩ : ∃ m, n = k + 1 + m := ⟨n - (k + 1), by omega⟩
   rw [show k + 1 + m - k = m + 1 by omega] at h1 ⊢
   rw [show k + 1 + m - (k + 1) = m by omega] at h2
   grind
  ·rw [ze8 (show n < k + 1 by omega), ze8 (show n < k + 1 + 1 by omega), show n - k = 0 by omega]
   simp
theorem zgf : ∀ (n k : Nat), chs n k ≤ n ^ k
 | n, 0 => by simp
 | 0, k + 1 => by simp [chs]
 | n + 1, k + 1 => by
  have h1 := zgf n k
  have h2 := zgf n (k + 1)
  have h3 : n ^ k ≤ (n + 1) ^ k := Nat.pow_le_pow_left (by omega) k
  simp only [chs, Nat.pow_succ] at h2 ⊢
  have h4 : n ^ k * n ≤ (n + 1) ^ k * n := Nat.mul_le_mul_right _ h3
  rw [Nat.mul_add]
  omega
end Go.Abs
namespace Go.Proofs.YtjkkonpjecoieaaGreat
open Go Go.Abs
set_option maxRecDepth 8000
theorem zu2 (L : List Nat) (hL : L.length ≤ 1000) (H : zaa) (K : Kt) (hK : K (.bool true) H) : ACalls tP zgZ [.sl (zal L) .none, .sl (zal L) .none] H K := by
 refine ACalls.out (zHw fun hs => ?_)
 simp [zu0]
 refine zHu (Inv := fun q t13 H' => ∃ i : Nat, i ≤ L.length ∧ L.length - i = q ∧ t13 = .int .i64 i ∧ H' = H) L.length ?_ ?_
 ·intro _; exact ⟨0, by omega, rfl, rfl, rfl⟩
 ·rintro q t13 H' ⟨i, hi, rfl, rfl, rfl⟩ hsc' hlen hsF Kb hKb
  by_cases hlt : i < L.length
  ·simp [zoa, hlt, wi i (by omega)]
   exact hKb _ _ ⟨L.length - (i + 1), by omega, Back.here (by simp) hs (by simp [zju, ux, AV.sc, AV.scA, AV.scB, AV.scV]) ⟨_, rfl, i + 1, by omega, rfl, rfl, rfl⟩⟩
  ·simp [zoa, hlt]
   exact Out.bool (J := []) (by simp) (Nat.le_refl _) hs hK
theorem zE0 (z : Int) (hz : Sm z) (H : zaa) (K : Kt) (hK : K (.bool true) H) : ACalls tP zld [.agg (zaG z), .agg (zaG z)] H K := by
 refine ACalls.out (zEZ fun hs => ?_)
 have := hz.len
 simp [zt9, zaG, Nat.add_assoc]
 refine zu2 _ (by omega) _ _ ?_
 simp [Nat.add_assoc]
 refine zu2 _ (by simp) _ _ ?_
 exact Out.bool rfl (Nat.le_refl _) hs hK
theorem zyi {n : Nat} (h : n < 1000000000 ^ 30) : Sm (n : Int) := by unfold Sm; rw [Int.natAbs_natCast]; exact h
@[simp] theorem zMU (z : Int) : List.take 3 (zaG z) = zaG z := rfl
@[simp] theorem zMS (z : Int) : List.drop 3 (zaG z) = [] := rfl
@[simp] theorem zMT (z : Int) : (∀ x ∈ zaG z, x.known = true) = True := by simp [zaG, AV.known]
theorem zps : ∀ {n k : Nat}, k ≤ n → 0 < chs n k
 | n, 0, _ => by simp
 | n + 1, k + 1, h => by
  have := zps (n := n) (k := k) (by omega)
  rw [chs]; omega
theorem zwT (n k : Nat) (hn : n ≤ 900) (hk : k ≤ 6) (H : zaa) (K : Kt) (hK : K (.agg (zaG (chs n k))) H) : ACalls tP zk2 [.int .i64 n, .int .i64 k] H K := by
 refine ACalls.out (zCR fun hs => ?_)
 simp [ztw, Nat.add_assoc]
 refine zoc 1 (by omega) _ _ ?_
 simp [Nat.add_assoc]
 have hsc : ∀ z : Int, HSc (H ++ [.cells [.bool false, .snil, .snil], .cells (zaG z)]) := fun z => hs.append (by simp [AB.sc, zaG, AV.scA, AV.scB])
 refine zCP (Inv := fun q t9 H' => ∃ i : Nat, i ≤ k ∧ i ≤ n ∧ k - i = q ∧ t9 = .int .i64 i ∧ H' = H ++ [.cells [.bool false, .snil, .snil], .cells (zaG ((chs n i : Nat) : Int))]) k ?_ ?_
 ·intro _; exact ⟨0, by omega, by omega, rfl, rfl, by simp⟩
 ·rintro q t9 H' ⟨i, hi, hin, rfl, rfl, rfl⟩ hsc' hlen hsF Kb hKb
  by_cases hlt : i < k
  ·by_cases hni : n = i
   ·subst hni
    rw [ze8 hlt] at hK
    simp [zin, hlt, Nat.add_assoc]
    refine zoc 0 (by omega) _ _ ?_
    simp [Nat.add_assoc]
    exact zd2 hs hK
   ·have hb : ((n : Int) == (i : Int)) = false := by simp; omega
    have hci : chs n i ≤ 900 ^ 5 := by
     refine Nat.le_trans (zgf n i) (Nat.le_trans (Nat.pow_le_pow_left hn i) (Nat.pow_le_pow_right (by omega) (by omega)))
    have w1 : IntKind.i64.wrap ((n : Int) - i) = ((n - i : Nat) : Int) := by rw [zaq (by omega) (by omega)]; omega
    obtain ⟨d, hd⟩ : ∃ d, d = n - i := ⟨_, rfl⟩
    rw [← hd] at w1
    obtain ⟨j, hj⟩ : ∃ j, j = i + 1 := ⟨_, rfl⟩
    have w2 : IntKind.i64.wrap ((i : Int) + 1) = (j : Int) := by rw [wi i (by omega), hj]
    have hg0 : 0 < Nat.gcd d j := Nat.gcd_pos_of_pos_left j (by omega)
    have hp := Nat.div_mul_cancel (Nat.gcd_dvd_left d j)
    have hq := Nat.div_mul_cancel (Nat.gcd_dvd_right d j)
    have hstep := zgg n i
    rw [← hd, ← hj] at hstep
    have hpd := Nat.div_le_self d (Nat.gcd d j)
    have hqj := Nat.div_le_self j (Nat.gcd d j)
    have hp0 : d / Nat.gcd d j ≠ 0 := fun h => by rw [h] at hp; omega
    have hq0 : j / Nat.gcd d j ≠ 0 := fun h => by rw [h] at hq; omega
    have hr : chs n i * (d / Nat.gcd d j) = chs n j * (j / Nat.gcd d j) := by
     refine Nat.eq_of_mul_eq_mul_right hg0 ?_
     rw [Nat.mul_assoc, hp, Nat.mul_assoc, hq, ← hstep, Nat.mul_comm]
    have hcb : chs n i * (d / Nat.gcd d j) < 1000000000000000000 := Nat.lt_of_le_of_lt (Nat.mul_le_mul hci (Nat.le_trans hpd (show d ≤ 900 by omega))) (by decide)
    simp [zin, hlt, hb, w1, w2, Nat.add_assoc]
    refine zbq (.agg (zbg false (d / Nat.gcd d j) (j / Nat.gcd d j))) (fun J => zEh d j (by omega) (by omega) (by omega) (by omega) _ _ ⟨rfl, rfl⟩) ?_
    refine zbq (.agg (zaG ((chs n j : Nat) : Int))) (fun J => zvL _ _ _ _ hp0 hq0 (by have := zps hin; omega) (by omega) (by omega) hcb hr _ _ ⟨rfl, rfl⟩) ?_
    simp [Nat.add_assoc]
    exact hKb _ _ ⟨k - (i + 1), by omega, Back.here (by simp) (hsc _) (by simp [zio, ux, AV.sc, AV.scA, AV.scB, AV.scV]) ⟨_, rfl, j, by omega, by omega, by omega, rfl, rfl⟩⟩
  ·obtain rfl : i = k := by omega
   simp [zin, Nat.add_assoc]
   exact zd2 hs hK
theorem zvJ (n k : Nat) (hn : n ≤ 900) (hk : k ≤ 6) (H : zaa) (K : Kt) (hK : K (.tup [.agg (zaG (chs n k)), .bool true]) H) : ACalls tP zkP [.int .i64 n, .int .i64 k] H K := by
 refine ACalls.out (zAz fun hs => ?_)
 have h0 : decide ((k : Int) < 0) = false := by simp
 have h1 : decide ((64 : Int) < (k : Int)) = false := by simp; omega
 have hm : (if 0 < n then (n : Int) else 0) = (n : Int) := by split <;> omega
 simp [zsA, h0, h1, hm, Nat.add_assoc]
 refine zwT n k hn hk _ _ ?_
 simp [Nat.add_assoc]
 refine ⟨⟨rfl, rfl⟩, ?_⟩
 exact Out.tup (bs := [.agg (zaG ((chs n k : Nat) : Int)), .bool true]) hs hK ⟨zaQ rfl rfl, zaQ rfl rfl, trivial⟩
theorem zIy (data : List AV) (D : AV) (tn : Int) (tks vks : List VT) (j : Nat) (ks : List IT) (vk vn : Int) (hj : j ≤ 6) (hv : vks.length ≤ 900) (H : zaa) (K : Kt) (hK : K (.agg (zaG (chs vks.length j))) H) :
  ACalls tP zlv [D, .agg (VT.mk 7 tn tks).cs, .agg (IT.mk j ks).cs, .agg (VT.mk vk vn vks).cs] H K := by
 refine ACalls.out (zIC fun hs => ?_)
 simp [zvn, VT.cs, IT.cs, Nat.add_assoc]
 refine zoc 1 (by omega) _ _ ?_
 simp [Nat.add_assoc]
 refine zvJ vks.length j hv hj _ _ ?_
 simp [zov, zvp, Nat.add_assoc]
 exact zd2 hs hK
def tA : VT := .mk 7 0 [.mk 1 0 []]
def iA : IT := .mk 2 []
def vA : VT := .mk 6 0 [.mk 3 1 [], .mk 3 1 [], .mk 3 1 []]
theorem zwI : decide (0 ≤ zdT [] tA iA) = true := by kernel_rfl
theorem zwJ : zbN [] vA tA = true := by kernel_rfl
theorem zwy : chs 3 2 = 3 := by decide
theorem zF3 (hk : zbp []) (H : zaa) (K : Kt) (hK : K (.tup [.agg (zaG 3), .int .i64 0]) H) : ACalls tP zln [.sl [] .none, .agg tA.cs, .agg iA.cs, .agg vA.cs] H K := by
 refine ACalls.out (zF6 fun hs => ?_)
 simp [zuA, tA, iA, vA, VT.cs, VT.css, IT.cs, IT.css, Nat.add_assoc]
 refine zGG [] hk tA (by decide) iA (by decide) _ _ ?_
 rw [zwI]
 simp [Nat.add_assoc]
 refine zuw [] hk vA tA (by decide) (by decide) _ _ ?_
 rw [zwJ]
 simp [Nat.add_assoc]
 refine zIy [] _ 0 [.mk 1 0 []] [.mk 3 1 [], .mk 3 1 [], .mk 3 1 []] 2 [] 6 0 (by omega) (by simp) _ _ ?_
 rw [show ([VT.mk 3 1 [], VT.mk 3 1 [], VT.mk 3 1 []] : List VT).length = 3 from rfl, zwy]
 simp [Nat.add_assoc]
 refine ⟨⟨rfl, rfl⟩, ?_⟩
 exact Out.tup (bs := [.agg (zaG 3), .int .i64 0]) hs hK ⟨zaQ rfl rfl, zaQ rfl rfl, trivial⟩
theorem zwc (H : zaa) (K : Kt) (hK : K (.bool true) H) : ACalls tP zlw [] H K := by
 refine ACalls.out (zJG fun hs => ?_)
 simp [zq8, zav, zaO, zaB, zbj, zaz, AV.pd, AV.known, Nat.add_assoc]
 refine ACalls.wk (args' := [.sl [] .none, .agg tA.cs, .agg iA.cs, .agg vA.cs]) (zF3 ⟨by simp, by simp⟩ _ _ ?_) ⟨.atom .snil, .agg ⟨.refl _, .refl _, .sl _ _, trivial⟩, .agg ⟨.refl _, .snil, trivial⟩, .agg ⟨.refl _, .refl _, .sl _ _, trivial⟩, trivial⟩
 simp [Nat.add_assoc]
 refine zbq (.agg (zaG 3)) (fun J => zEa 3 (by omega) _ _ ⟨rfl, rfl⟩) ?_
 refine zbq (.bool true) (fun J => zE0 3 (zyi (n := 3) (by decide)) _ _ ⟨rfl, rfl⟩) ?_
 exact Out.bool rfl (Nat.le_refl _) hs hK
end Go.Proofs.YtjkkonpjecoieaaGreat
namespace Go.Proofs.YtjkkonpjecoieaaGreat
open Go Go.Abs
variable {data : List Dat}
theorem zxT {h8 : ∀ D ∈ data, D.cons.length ≤ 8} (v : IT) (t : VT) : -1 ≤ rdV data v t ∧ rdV data v t ≤ 6 := by
 obtain ⟨h1, h2⟩ := zgb h8 v t
 cases hb : (zbW data v t).2 with
 | true => have := h1 hb; omega
 | false => have := h2 hb; omega
def ad (a r : Int) : Int := if r < 0 then -1 else if a + r > 6 then -1 else a + r
theorem zxS (v : IT) (vs : List IT) (t : VT) (ts : List VT) (a : Int) : rdA data (v :: vs) (t :: ts) a = if rdV data v t < 0 ∨ a + rdV data v t > 6 then -1 else rdA data vs ts (a + rdV data v t) := by simp only [rdA]
theorem zqV (c : Int) (ks es : List IT) (t : VT) (a : Int) : rdE data (.mk c ks :: es) t a = if c < 0 ∨ 8 ≤ c then -1 else match zb3 data t c with
  | none => -1
  | some ps => if ps.length = ks.length then (if rdA data ks ps 0 < 0 ∨ a + 1 + rdA data ks ps 0 > 6 then -1 else rdE data es t (a + (1 + rdA data ks ps 0))) else -1 := by simp only [rdE] <;> rfl
theorem zqW : ∀ (es : List IT) (t : VT) (a : Int), 0 ≤ a → rdE data es t a = -1 ∨ a + es.length ≤ rdE data es t a
 | [], _, a, h => by simp [rdE]
 | .mk c ks :: es, t, a, h => by
  rw [zqV]
  by_cases hc : c < 0 ∨ 8 ≤ c
  ·rw [if_pos hc]; exact .inl rfl
  ·rw [if_neg hc]
   cases zb3 data t c with
   | none => exact .inl rfl
   | some ps =>
    simp only
    by_cases hl : ps.length = ks.length
    ·rw [if_pos hl]
     by_cases h0 : rdA data ks ps 0 < 0 ∨ a + 1 + rdA data ks ps 0 > 6
     ·rw [if_pos h0]; exact .inl rfl
     ·rw [if_neg h0]
      rcases zqW es t (a + (1 + rdA data ks ps 0)) (by omega) with h2 | h2
      ·exact .inl h2
      ·right; simp only [List.length_cons]; omega
    ·rw [if_neg hl]; exact .inl rfl
end Go.Proofs.YtjkkonpjecoieaaGreat
namespace Go.Proofs.YtjkkonpjecoieaaGreat
open Go Go.Abs
set_option maxRecDepth 8000
def RowA (H : zaa) (a : AV) (n : Nat) (ds : List AV) : Prop :=
 ds.length = n * 2 ∧ ds.all AV.known = true ∧ ((∃ id, a = .ms id 0 n n ∧ H[id]? = some (.cells ds)) ∨ (0 < n ∧ ∃ id e, a = .ov id n ∧ H[id]? = some (.vec e 2 n ds)))
theorem RowA.app {H J : zaa} {a : AV} {n : Nat} {ds : List AV} (h : RowA H a n ds) : RowA (H ++ J) a n ds := by
 obtain ⟨h1, h2, h3⟩ := h
 refine ⟨h1, h2, ?_⟩
 rcases h3 with ⟨id, rfl, h⟩ | ⟨h0, id, e, rfl, h⟩
 ·exact .inl ⟨id, rfl, by rw [List.getElem?_append_left (List.getElem?_eq_some_iff.1 h).1]; exact h⟩
 ·exact .inr ⟨h0, id, e, rfl, by rw [List.getElem?_append_left (List.getElem?_eq_some_iff.1 h).1]; exact h⟩
def zxY (r : List IT) : List AV := (IT.css r).flatten
def CellR (H : zaa) (lo id : Nat) (c : AV) (r : List IT) : Prop :=
 (r = [] ∧ c = .sl [] .none) ∨ (r ≠ [] ∧ ∃ b, c = .ov b r.length ∧ lo ≤ b ∧ b ≠ id ∧ H[b]? = some (.vec zdr 2 r.length (zxY r)))
theorem CellR.keep {H H' : zaa} {lo id lo' id' : Nat} {c : AV} {r : List IT} (h : CellR H lo id c r) (hlo : lo' ≤ lo) (hid : ∀ b, lo ≤ b → b ≠ id → b < H.length → b ≠ id' ∧ H'[b]? = H[b]?) : CellR H' lo' id' c r := by
 rcases h with h | ⟨h0, b, rfl, h1, h2, h3⟩
 ·exact .inl h
 ·have := hid b h1 h2 (List.getElem?_eq_some_iff.1 h3).1
  exact .inr ⟨h0, b, rfl, by omega, this.1, by rw [this.2]; exact h3⟩
theorem CellR.sc {H : zaa} {lo id : Nat} {c : AV} {r : List IT} (h : CellR H lo id c r) : c.scA H.length = true ∧ c.known = true := by
 rcases h with ⟨_, rfl⟩ | ⟨h0, b, rfl, h1, h2, h3⟩
 ·exact ⟨rfl, rfl⟩
 ·have := (List.getElem?_eq_some_iff.1 h3).1
  exact ⟨by simpa [AV.scA, AV.scB] using this, rfl⟩
theorem RowA.pre {H X : zaa} {a : AV} {n : Nat} {ds : List AV} (h : RowA H a n ds) (hp : H <+: X) : RowA X a n ds := by
 obtain ⟨J, rfl⟩ := hp
 exact h.app
end Go.Proofs.YtjkkonpjecoieaaGreat
namespace Go.Abs
open Go Go.RowKit
open Go.Sort (grow putRow putCells mapBlock onCells ahead SWO PermIn SortedIn Holds)
open Go.Proofs (sortWorld ltOf CmpLays1)
variable {P : Program} {B : Nat} {w : World} {G : Gh} {H : zaa}
theorem HRel.alone (h : HRel B w G H) (o : Obj) : Ext B w G (w.alloc o) G ∧ HRel B (w.alloc o) G H := by
 have he := Ext.alloc h o G.L (fun _ _ => rfl) []
 simp only [List.append_nil] at he
 refine ⟨he, h.keep he rfl (fun id gi b h1 h2 => ⟨zcK (h.lt id gi b h1 h2), rfl⟩) (fun b hb => ?_)⟩
 rw [zca] at hb
 exact h.fresh b (by omega)
theorem HRel.grown : ∀ (os : List Obj) {w : World}, HRel B w G H → Ext B w G (grow w os.toArray) G ∧ HRel B (grow w os.toArray) G H
 | [], w, h => by
  have : grow w #[] = w := by simp [grow]
  rw [show ([] : List Obj).toArray = #[] from rfl, this]
  exact ⟨Ext.refl _ _ _, h⟩
 | o :: l, w, h => by
  obtain ⟨h1, h2⟩ := h.alone o
  obtain ⟨h3, h4⟩ := HRel.grown l h2
  have : grow w (o :: l).toArray = grow (w.alloc o) l.toArray := by
   rw [Go.Sort.alloc_eq_grow, Go.Sort.grow_grow]
   simp
  rw [this]
  exact ⟨h1.trans h3, h4⟩
def Lx (w : World) (G : Gh) (blk b : Nat) : Nat := if b = blk then 0 else max (G.L b) (zbZ w b)
def Rd (H : zaa) (id0 : Nat) (a : AV) (row : List (List AV)) : Prop :=
 a = .sl row .none ∨
 (∃ id off len cap size cs, a = .ms id off len cap ∧ H[id]? = some (.cells cs) ∧ off + len * size ≤ cs.length ∧ zaz ((cs.drop off).take (len * size)) = some row.flatten ∧ row.length = len ∧ (∀ c ∈ row, c.length = size) ∧ len ≤ cap) ∨
 (∃ id e size m cs, a = .ov id m ∧ id ≠ id0 ∧ H[id]? = some (.vec e size m cs) ∧ zaz cs = some row.flatten ∧ row.length = m ∧ ∀ c ∈ row, c.length = size)
theorem Rd.rel (h : HRel B w G H) {id e n g cap : Nat} {cs : List AV} (hH : H[id]? = some (.vec e 1 n cs)) (hμ : G.μ[id]? = some (.own (.slice (some ⟨g, 0, none⟩) n cap) 1 n)) {a : AV} {row : List (List AV)} (hr : Rd H id a row) {v : Value} (hv : ARel w G v a) :
  DRel w (Lx w G g) v (.sl row .none) := by
 obtain ⟨_, _, _, hL0⟩ := h.ok id _ _ hH hμ
 have hLg : G.L g = 0 := hL0 g rfl
 have hlev : ∀ b, G.L b ≤ Lx w G g b := fun b => by
  unfold Lx
  split
  ·rename_i hb; rw [hb, hLg]; exact Nat.le_refl _
  ·exact Nat.le_max_left _ _
 have hmono : ∀ {v : Value} {a : AV}, DRel w G.L v a → DRel w (Lx w G g) v a := fun h => h.mono hlev fun _ _ _ => rfl
 rcases hr with rfl | ⟨i2, off, len, cap2, size, cs2, rfl, hH2, hfit, hp, hlen, hsz, hcap⟩ | ⟨i2, e2, size, m, cs2, rfl, hne, hH2, hp, hlen, hsz⟩
 ·exact hmono hv
 ·obtain ⟨b, hb, rfl⟩ := hv
  obtain ⟨_, _, vs, _, hw, hcs⟩ := h.ok i2 _ _ hH2 hb
  have hbg : b ≠ g := fun hbg => by
   have := h.dist i2 id _ _ b hb hμ rfl (by rw [hbg]; rfl)
   subst this
   rw [hH] at hH2
   cases hH2
  subst hlen
  by_cases hes : row = []
  ·subst hes; exact .slE _ _
  ·have hl := hcs.length
   refine DRel.of_flat_at (zs := (vs.toList.drop off).take (row.length * size)) hsz hes hcap ?_ ((zcP ((hcs.drop off).take _) hp).mono fun _ _ => hmono) ?_
   ·unfold Lx
    rw [if_neg hbg]
    refine Nat.le_trans ?_ (Nat.le_max_right _ _)
    simp [zbZ, hw]
    simp at hl
    omega
   ·intro j u hj
    rw [List.getElem?_take] at hj
    split at hj
    ·simp only [World.cell?, hw]
     simpa using hj
    ·cases hj
 ·obtain ⟨⟨a, cap0, rfl, _⟩, v', s0, n', hμ2, _, heq⟩ := hv
  obtain ⟨rfl, rfl, ⟨xs, hown, hcs⟩, _⟩ := h.ok i2 _ _ hH2 hμ2
  obtain rfl := heq rfl
  subst hlen
  by_cases hes : row = []
  ·subst hes; exact .slE _ _
  ·have hown2 := hown
   obtain ⟨hl, hrow⟩ := hown2
   rcases hrow with ⟨h1, h2⟩ | ⟨g2, cap2, cur, h1, h2, h3, h4, h5, h6, h7⟩
   ·cases row <;> simp_all
   ·simp at h1
    obtain ⟨rfl, rfl⟩ := h1
    obtain ⟨_, _, _, hcell⟩ := zcO hown
    have hbg : g2 ≠ g := fun hbg => hne (h.dist i2 id _ _ g2 hμ2 hμ rfl (by rw [hbg]; rfl))
    refine DRel.of_flat_at (zs := xs) hsz hes h4 ?_ ((zcP hcs hp).mono fun _ _ => hmono) ?_
    ·unfold Lx
     rw [if_neg hbg]
     refine Nat.le_trans ?_ (Nat.le_max_right _ _)
     simp only [zbZ, h3, h6, Nat.zero_add]
     exact Nat.mul_le_mul_right _ h4
    ·intro j u hj
     rw [Nat.zero_add, hcell j (by rw [← hl]; exact (List.getElem?_eq_some_iff.1 hj).1)]
     exact hj
end Go.Abs
namespace Go.Proofs.YtjkkonpjecoieaaGreat
open Go Go.Shelf Go.Abs
end Go.Proofs.YtjkkonpjecoieaaGreat
namespace Go.Abs
open Go Go.RowKit
variable {P : Program} {B : Nat} {w : World} {G : Gh} {H : zaa}
def Lmx (w : World) (G : Gh) (b : Nat) : Nat := Nat.max (G.L b) (zbZ w b)
inductive RdA (H : zaa) : AV → AV → Prop
 | sl (es : List (List AV)) : RdA H (.sl es .none) (.sl es .none)
 | int (k : IntKind) (n : Int) : RdA H (.int k n) (.int k n)
 | bool (b : Bool) : RdA H (.bool b) (.bool b)
 | str (s : List UInt8) : RdA H (.str s) (.str s)
 | ms (id off len cap size : Nat) (cs : List AV) (row : List (List AV)) (hH : H[id]? = some (.cells cs)) (hfit : off + len * size ≤ cs.length) (hp : zaz ((cs.drop off).take (len * size)) = some row.flatten) (hlen : row.length = len)
   (hsz : ∀ c ∈ row, c.length = size) (hcap : len ≤ cap) : RdA H (.ms id off len cap) (.sl row .none)
 | ov (id e size m : Nat) (cs : List AV) (row : List (List AV)) (hH : H[id]? = some (.vec e size m cs)) (hp : zaz cs = some row.flatten) (hlen : row.length = m) (hsz : ∀ c ∈ row, c.length = size) : RdA H (.ov id m) (.sl row .none)
theorem RdA.rel (h : HRel B w G H) {a b : AV} (hr : RdA H a b) {v : Value} (hv : ARel w G v a) : DRel w (Lmx w G) v b := by
 have hmono : ∀ {v : Value} {a : AV}, DRel w G.L v a → DRel w (Lmx w G) v a := fun h => h.mono (fun b => Nat.le_max_left _ _) fun _ _ _ => rfl
 cases hr with
 | sl es => exact hmono hv
 | int k n => have hv : v = .int k n := hv; subst hv; exact .int k n
 | bool b => have hv : v = .bool b := hv; subst hv; exact .bool b
 | str s => have hv : v = .string ⟨s.toArray⟩ := hv; subst hv; exact .str s
 | ms i2 off len cap2 size cs2 row hH2 hfit hp hlen hsz hcap =>
  obtain ⟨b, hb, rfl⟩ := hv
  obtain ⟨_, _, vs, _, hw, hcs⟩ := h.ok i2 _ _ hH2 hb
  subst hlen
  by_cases hes : row = []
  ·subst hes; exact .slE _ _
  ·have hl := hcs.length
   refine DRel.of_flat_at (zs := (vs.toList.drop off).take (row.length * size)) hsz hes hcap ?_ ((zcP ((hcs.drop off).take _) hp).mono fun _ _ => hmono) ?_
   ·refine Nat.le_trans ?_ (Nat.le_max_right _ _)
    simp [zbZ, hw]
    simp at hl
    omega
   ·intro j u hj
    rw [List.getElem?_take] at hj
    split at hj
    ·simp only [World.cell?, hw]
     simpa using hj
    ·cases hj
 | ov i2 e2 size m cs2 row hH2 hp hlen hsz =>
  obtain ⟨⟨a, cap0, rfl, _⟩, v', s0, n', hμ2, _, heq⟩ := hv
  obtain ⟨rfl, rfl, ⟨xs, hown, hcs⟩, _⟩ := h.ok i2 _ _ hH2 hμ2
  obtain rfl := heq rfl
  subst hlen
  by_cases hes : row = []
  ·subst hes; exact .slE _ _
  ·have hown2 := hown
   obtain ⟨hl, hrow⟩ := hown2
   rcases hrow with ⟨h1, h2⟩ | ⟨g2, cap2, cur, h1, h2, h3, h4, h5, h6, h7⟩
   ·cases row <;> simp_all
   ·simp at h1
    obtain ⟨rfl, rfl⟩ := h1
    obtain ⟨_, _, _, hcell⟩ := zcO hown
    refine DRel.of_flat_at (zs := xs) hsz hes h4 ?_ ((zcP hcs hp).mono fun _ _ => hmono) ?_
    ·refine Nat.le_trans ?_ (Nat.le_max_right _ _)
     simp only [zbZ, h3, h6, Nat.zero_add]
     exact Nat.mul_le_mul_right _ h4
    ·intro j u hj
     rw [Nat.zero_add, hcell j (by rw [← hl]; exact (List.getElem?_eq_some_iff.1 hj).1)]
     exact hj
theorem RdA.trel (h : HRel B w G H) {a b : AV} (hr : RdA H a b) {v : Value} (hv : ARel w G v a) : ARel w ⟨Lmx w G, []⟩ v b := by
 have hd := hr.rel h hv
 cases hr with
 | sl es => exact hd
 | int k n => exact hv
 | bool b => exact hv
 | str s => exact hv
 | ms i2 off len cap2 size cs2 row hH2 hfit hp hlen hsz hcap => exact hd
 | ov i2 e2 size m cs2 row hH2 hp hlen hsz => exact hd
inductive RdT (H : zaa) : AV → AV → Prop
 | one {a b : AV} (h : RdA H a b) : RdT H a b
 | agg {asx bs : List AV} (h : All2 (RdA H) asx bs) : RdT H (.agg asx) (.agg bs)
theorem RdT.rel (h : HRel B w G H) {a b : AV} (hr : RdT H a b) {v : Value} (hv : TRel w G v a) : TRel w ⟨Lmx w G, []⟩ v b := by
 cases hr with
 | one hr =>
  have hv' : ARel w G v a := by cases hr <;> exact hv
  exact TRel.of_v (VRel.of_a (hr.trel h hv'))
 | agg hr =>
  obtain ⟨us, hu, hv⟩ := hv
  refine ⟨us, hu, ?_⟩
  exact All2.of_get (hv.length.trans hr.length) fun i x y hx hy => by
   obtain ⟨a, ha, hxa⟩ := All2.get' hv hx
   obtain ⟨y', hy', hay⟩ := All2.get' hr ha
   rw [hy] at hy'
   cases hy'
   exact hay.trel h hxa
end Go.Abs
namespace Go.Proofs.YtjkkonpjecoieaaGreat
open Go Go.Abs
set_option maxRecDepth 8000
mutual
theorem zzd : ∀ t : VT, (zbF t).nodes ≤ t.nodes
 | .mk k n ks => by
  have := zr5 ks
  simp only [zbF, VT.nodes, IT.nodes]
  split
  ·omega
  ·simp [IT.nodesL]
theorem zr5 : ∀ ts : List VT, IT.nodesL (zbo ts) ≤ VT.nodesL ts
 | [] => by simp [zbo, IT.nodesL, VT.nodesL]
 | t :: ts => by
  have := zzd t
  have := zr5 ts
  simp only [zbo, IT.nodesL, VT.nodesL]
  omega
end
def d0 : IT := .mk 0 []
mutual
theorem zze {data : List Dat} : ∀ x : VT, rdV data (zbF x) x = 0
 | .mk k n ks => by
  have hA := zr6 (data := data) ks 0 (by omega) (by omega)
  by_cases h6 : k = 6
  ·subst h6
   have : rdV data (zbF (.mk 6 n ks)) (.mk 6 n ks) = rdA data (zbo ks) ks 0 := by simp [zbF, rdV, VT.kind, VT.kids, zfQ]
   rw [this, hA]
  ·by_cases h7 : k = 7
   ·subst h7
    simp [zbF, rdV, VT.kind]
   ·by_cases h5 : k = 5
    ·subst h5
     simp [zbF, rdV, VT.kind, rdE]
    ·simp [zbF, rdV, VT.kind, h6, h7, h5]
theorem zr6 {data : List Dat} : ∀ (ts : List VT) (a : Int), 0 ≤ a → a ≤ 6 → rdA data (zbo ts) ts a = a
 | [], a, _, _ => by simp only [zbo, rdA]
 | t :: ts, a, h, h6 => by
  have h1 := zze (data := data) t
  rw [zbo, zxS, h1, if_neg (by omega), Int.add_zero, zr6 ts a h h6]
end
end Go.Proofs.YtjkkonpjecoieaaGreat
namespace Go.Abs
def zb5 {α : Type} : List (α → Nat) → List α → Nat
 | [], _ => 1
 | _ :: _, [] => 0
 | w :: ws, n :: ns => w n * zb5 ws ns + zb5 (w :: ws) ns
def zd5 (l : List Nat) : Nat := l.foldr (· + ·) 0
@[simp] theorem zNa : zd5 [] = 0 := rfl
@[simp] theorem zrx (a : Nat) (l : List Nat) : zd5 (a :: l) = a + zd5 l := rfl
theorem zya {α : Type} (ws : List (α → Nat)) (a : α) (l : List α) : zb5 ws l ≤ zb5 ws (a :: l) := by
 cases ws <;> simp [zb5]
theorem zrc {α : Type} (w : α → Nat) (ws : List (α → Nat)) : ∀ l : List α, zb5 (w :: ws) l ≤ zd5 (l.map w) * zb5 ws l
 | [] => by simp [zb5]
 | a :: l => by
  have ih := zrc w ws l
  have h1 := zya ws a l
  simp only [zb5, List.map_cons, zrx, Nat.add_mul]
  have h2 : w a * zb5 ws l ≤ w a * zb5 ws (a :: l) := Nat.mul_le_mul_left _ h1
  have h3 : zd5 (l.map w) * zb5 ws l ≤ zd5 (l.map w) * zb5 ws (a :: l) := Nat.mul_le_mul_left _ h1
  omega
theorem zry {α : Type} {w : α → Nat} {b : Nat} : ∀ l : List α, (∀ a ∈ l, w a ≤ b) → zd5 (l.map w) ≤ l.length * b
 | [], _ => by simp
 | a :: l, h => by
  have h1 := h a (by simp)
  have h2 := zry l (fun x hx => h x (by simp [hx]))
  simp only [List.map_cons, zrx, List.length_cons, Nat.succ_mul]
  omega
end Go.Abs
namespace Go.Abs
open Go
end Go.Abs
namespace Go.Proofs.YtjkkonpjecoieaaGreat
open Go Go.Abs
mutual
def atV (data : List Dat) : IT → VT → VT → Nat
 | .mk n ks, t, v =>
  if t.kind = 6 then atL data ks t.kids v.kids
  else if t.kind = 7 then chs v.kids.length n.toNat
  else if t.kind = 5 then zb5 (wtL data ks t) (za2 (za8 data t.num.toNat) v)
  else 1
def atL (data : List Dat) : List IT → List VT → List VT → Nat
 | [], _, _ => 1
 | i :: l, ts, vs => match ts, vs with
  | t :: ts, v :: vs => atV data i t v * atL data l ts vs
  | _, _ => 1
def wtL (data : List Dat) : List IT → VT → List (VT → Nat)
 | [], _ => []
 | e :: es, t => wtE data e t :: wtL data es t
def wtE (data : List Dat) : IT → VT → VT → Nat
 | .mk c ks, t, n => if n.num = c then atL data ks ((zb3 data t c).getD []) (pick n.kids ((za8 data t.num.toNat).getD c.toNat [])) else 0
end
mutual
theorem zwb (data : List Dat) : ∀ (t v : VT), atV data (zbF t) t v = 1
 | .mk k n ks, v => by
  have := zpg data ks v.kids
  unfold zbF
  rw [atV]
  by_cases h6 : k = 6
  ·simp [h6, VT.kind, VT.kids]
   simpa [VT.kids] using this
  ·by_cases h7 : k = 7
   ·simp [h6, h7, VT.kind, VT.kids]
   ·simp only [h6, VT.kind, if_false, h7]
    split <;> simp [wtL, zb5]
theorem zpg (data : List Dat) : ∀ (ts vs : List VT), atL data (zbo ts) ts vs = 1
 | [], vs => by simp [zbo, atL]
 | t :: ts, [] => by simp [zbo, atL]
 | t :: ts, v :: vs => by simp [zbo, atL, zwb data t v, zpg data ts vs]
end
end Go.Proofs.YtjkkonpjecoieaaGreat
namespace Go.Proofs.YtjkkonpjecoieaaGreat
open Go Go.Abs
theorem zqU {data : List Dat} : ∀ (l : List IT) (ts : List VT) (a : Int), 0 ≤ a → 0 ≤ rdA data l ts a → a ≤ rdA data l ts a
 | [], ts, a, _, _ => by rw [rdA]; exact Int.le_refl _
 | i :: l, [], a, _, h => by simp [rdA] at h
 | i :: l, t :: ts, a, ha, h => by
  simp only [rdA] at h ⊢
  by_cases hc : rdV data i t < 0 ∨ a + rdV data i t > 6
  ·rw [if_pos hc] at h; omega
  ·rw [if_neg hc] at h ⊢
   have := zqU l ts _ (by omega) h
   omega
mutual
theorem zph {data : List Dat} {N : Nat} (hN : 1 ≤ N) : ∀ (i : IT) (t v : VT), v.nodes ≤ N → 0 ≤ rdV data i t → atV data i t v ≤ N ^ (rdV data i t).toNat
 | .mk n ks, t, v, hv, hd => by
  have hvk : ∀ x ∈ v.kids, x.nodes ≤ N := by
   obtain ⟨a, b, c⟩ := v
   intro x hx
   simp only [VT.kids] at hx
   have := zfm (k := a) (n := b) x hx
   omega
  rw [rdV] at hd ⊢
  rw [atV]
  by_cases h6 : t.kind = 6
  ·simp only [h6, if_true] at hd ⊢
   by_cases hn : n = 0
   ·by_cases hl : t.kids.length = ks.length
    ·simp only [hn, hl, if_true] at hd ⊢
     have := zkh hN ks t.kids v.kids 0 (by omega) hvk hd
     simpa using this
    ·simp [hn, hl] at hd
   ·simp [hn] at hd
  ·by_cases h7 : t.kind = 7
   ·simp only [h6, h7, if_false, if_true] at hd ⊢
    by_cases hc : 0 ≤ n ∧ n ≤ 6 ∧ ks.length = 0
    ·simp only [hc, and_self, if_true] at hd ⊢
     simp
     refine Nat.le_trans (zgf _ _) (Nat.pow_le_pow_left ?_ _)
     obtain ⟨a, b, c⟩ := v
     have := VT.len_le c
     simp only [VT.kids, VT.nodes] at hv ⊢
     omega
    ·rw [if_neg hc] at hd; omega
   ·by_cases h5 : t.kind = 5
    ·simp only [h6, h7, h5, if_false, if_true] at hd ⊢
     by_cases hc : n = 0 ∧ ks.length ≤ 6
     ·simp only [hc, and_self, if_true] at hd ⊢
      have hpl := zeF (za8 data t.num.toNat) v
      have := zrd hN ks t (za2 (za8 data t.num.toNat) v) 0 (by omega) (by omega) (zxP _ N v hv) hd
      simpa using this
     ·rw [if_neg hc] at hd; omega
    ·simp only [h6, h7, h5, if_false] at hd ⊢
     exact Nat.pow_pos hN
theorem zkh {data : List Dat} {N : Nat} (hN : 1 ≤ N) : ∀ (l : List IT) (ts vs : List VT) (a : Int), 0 ≤ a → (∀ x ∈ vs, x.nodes ≤ N) → 0 ≤ rdA data l ts a → atL data l ts vs ≤ N ^ (rdA data l ts a - a).toNat
 | [], ts, vs, a, _, _, _ => by rw [atL]; exact Nat.pow_pos hN
 | i :: l, [], vs, a, _, _, _ => by simp only [atL]; exact Nat.pow_pos hN
 | i :: l, t :: ts, [], a, _, _, _ => by simp only [atL]; exact Nat.pow_pos hN
 | i :: l, t :: ts, v :: vs, a, ha, hv, hd => by
  simp only [rdA] at hd ⊢
  by_cases hc : rdV data i t < 0 ∨ a + rdV data i t > 6
  ·rw [if_pos hc] at hd; omega
  ·rw [if_neg hc] at hd ⊢
   have h1 := zph (data := data) hN i t v (hv v (by simp)) (by omega)
   have h2 := zkh hN l ts vs (a + rdV data i t) (by omega) (fun x hx => hv x (by simp [hx])) hd
   have hge := (zqU l ts (a + rdV data i t) (by omega) hd)
   simp only [atL]
   refine Nat.le_trans (Nat.mul_le_mul h1 h2) ?_
   rw [← Nat.pow_add]
   exact Nat.pow_le_pow_right hN (by omega)
theorem zrd {data : List Dat} {N : Nat} (hN : 1 ≤ N) : ∀ (es : List IT) (t : VT) (nodes : List VT) (a : Int), 0 ≤ a → nodes.length ≤ N → (∀ x ∈ nodes, x.nodes ≤ N) → 0 ≤ rdE data es t a → zb5 (wtL data es t) nodes ≤ N ^ (rdE data es t a - a).toNat
 | [], t, nodes, a, _, _, _, _ => by simp only [wtL, zb5]; exact Nat.pow_pos hN
 | .mk c ks :: es, t, nodes, a, ha, hl, hv, hd => by
  rw [zqV] at hd ⊢
  by_cases hc : c < 0 ∨ 8 ≤ c
  ·rw [if_pos hc] at hd; omega
  ·rw [if_neg hc] at hd ⊢
   cases hp : zb3 data t c with
   | none => rw [hp] at hd; simp at hd
   | some ps =>
    rw [hp] at hd
    simp only at hd ⊢
    by_cases hlen : ps.length = ks.length
    ·rw [if_pos hlen] at hd ⊢
     by_cases hx : rdA data ks ps 0 < 0 ∨ a + 1 + rdA data ks ps 0 > 6
     ·rw [if_pos hx] at hd; omega
     ·rw [if_neg hx] at hd ⊢
      have h2 := zrd hN es t nodes (a + (1 + rdA data ks ps 0)) (by omega) hl hv hd
      have hw : ∀ x ∈ nodes, wtE data (.mk c ks) t x ≤ N ^ (rdA data ks ps 0).toNat := by
       intro x hxm
       rw [wtE]
       split
       ·rw [hp]
        have hpk : ∀ y ∈ pick x.kids ((za8 data t.num.toNat).getD c.toNat []), y.nodes ≤ N := by
         intro y hy
         have h3 := hv x hxm
         obtain ⟨p, q, r⟩ := x
         have hy' : y ∈ r := zhc hy
         have := zfm (k := p) (n := q) y hy'
         omega
        have := zkh (data := data) hN ks ps (pick x.kids ((za8 data t.num.toNat).getD c.toNat [])) 0 (by omega) hpk (by omega)
        simpa using this
       ·exact Nat.zero_le _
      have h3 := zrc (wtE data (.mk c ks) t) (wtL data es t) nodes
      have h4 := zry nodes hw
      have hge : rdE data es t (a + (1 + rdA data ks ps 0)) = -1 ∨ (a + (1 + rdA data ks ps 0)) + es.length ≤ rdE data es t (a + (1 + rdA data ks ps 0)) := zqW es t _ (by omega)
      rw [wtL]
      refine Nat.le_trans h3 (Nat.le_trans (Nat.mul_le_mul (Nat.le_trans h4 (Nat.mul_le_mul_right _ hl)) h2) ?_)
      rw [show N * N ^ (rdA data ks ps 0).toNat = N ^ ((rdA data ks ps 0).toNat + 1) by rw [Nat.pow_succ, Nat.mul_comm], ← Nat.pow_add]
      exact Nat.pow_le_pow_right hN (by omega)
    ·rw [if_neg hlen] at hd; omega
end
end Go.Proofs.YtjkkonpjecoieaaGreat
namespace Go.Proofs.YtjkkonpjecoieaaGreat
open Go Go.Abs
set_option maxRecDepth 8000
structure AtOk (data : List Dat) (i : IT) (t v : VT) : Prop where
 tn : t.nodes ≤ 1000
 tv : zaH data 0 t = true
 rd : 0 ≤ rdV data i t
 hv : zat data v t = true
 vn : v.nodes ≤ 1000
 inn : i.nodes ≤ 900
theorem AtOk.le {data : List Dat} {i : IT} {t v : VT} (h8 : ∀ D ∈ data, D.cons.length ≤ 8) (h : AtOk data i t v) : atV data i t v ≤ 1000 ^ 6 := by
 have h1 := zph (N := 1000) (by omega) i t v h.vn h.rd
 have h2 := zxT (h8 := h8) i t
 exact Nat.le_trans h1 (Nat.pow_le_pow_right (by omega) (by omega))
def zrC : List AV := [.bool false, .snil, .snil]
def rz (l : List Nat) : List AV := (l.map fun (z : Nat) => zaG (z : Int)).flatten
def zz (m : Nat) : List AV := (List.replicate m zrC).flatten
@[simp] theorem zMW (l : List Nat) : (rz l).length = l.length * 3 := by
 induction l with
 | nil => rfl
 | cons x l ih => simp only [rz, List.map_cons, List.flatten_cons, List.length_append, zxR, List.length_cons] at ih ⊢; omega
@[simp] theorem zNg (m : Nat) : (zz m).length = m * 3 := by
 induction m with
 | zero => rfl
 | succ m ih => simp only [zz, List.replicate_succ, List.flatten_cons, List.length_append] at ih ⊢; rw [ih]; simp [zrC]; omega
end Go.Proofs.YtjkkonpjecoieaaGreat
