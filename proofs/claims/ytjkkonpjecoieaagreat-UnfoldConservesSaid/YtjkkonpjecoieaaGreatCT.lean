import Derived.Test.YtjkkonpjecoieaaGreatKN6
import Derived.Test.YtjkkonpjecoieaaGreatKNum
import Derived.Test.YtjkkonpjecoieaaGreatProg
import Derived.KernelRfl
import Derived.Test.YtjkkonpjecoieaaGreatAbsU
set_option linter.unusedSimpArgs false
set_option linter.unusedVariables false
namespace Go.Proofs.YtjkkonpjecoieaaGreat
open Go Go.Abs
set_option maxRecDepth 8000
theorem zn3 (a b : Nat) (ha : (lim a).length ≤ 1000) (hb0 : 0 < b) (hb : b < 1000000000) (H : zaa) (K : Kt)
  (hK : K (.tup [.sl (zaq (lim (a / b))) .none, .sl (zaq (lim (a % b))) .none]) H) :
  ACalls tP zgc [.sl (zaq (lim a)) .none, .sl (zaq (lim b)) .none] H K := by
 refine ACalls.out (zCT fun hs => ?_)
 have hlb : lim b = [b] := zew (by omega) hb
 simp only [zuV]
 refine zx2 a b ha (by rw [hlb]; simp) _ _ ?_
 have hcz : (zc2 a b < 0) ↔ a < b := by
  unfold zc2
  split
  ·simp; assumption
  ·split <;> simp <;> omega
 by_cases hlt : a < b
 ·simp [hcz, hlt]
  refine zn5 (lim a) (by omega) _ _ ?_
  rw [zgG _ (zct a), zbX]
  rw [Nat.div_eq_of_lt hlt, Nat.mod_eq_of_lt hlt, zAe] at hK
  refine ⟨⟨rfl, rfl⟩, ?_⟩
  exact Out.tup0 (bs := [.sl (zaq []) .none, .sl (zaq (lim a)) .none]) hs hK ⟨zea, slV, trivial⟩
 ·have w1 : IntKind.u64.wrap (b : Int) = b := zcb (by omega)
  have hm : a % b < b := Nat.mod_lt _ hb0
  simp [hcz, hlt, hlb, w1]
  refine zEx (lim a) (zct a) ha b hb0 (by omega) (by omega) _ _ ?_
  rw [zbX]
  simp
  refine zxT (a % b) (by omega) _ _ ?_
  refine ⟨⟨rfl, rfl⟩, ?_⟩
  exact Out.tup0 (bs := [.sl (zaq (lim (a / b))) .none, .sl (zaq (lim (a % b))) .none]) hs hK ⟨slV, slV, trivial⟩
theorem zCO (a b : Nat) (ha : (lim a).length ≤ 1000) (hb : b < 1000000000) (H : zaa) (K : Kt) (hK : K (.sl (zaq (lim (Nat.gcd a b))) .none) H) :
  ACalls tP zmr [.sl (zaq (lim a)) .none, .sl (zaq (lim b)) .none] H K := by
 refine ACalls.out (zCM fun hs => ?_)
 unfold zuT
 refine zCK (Inv := fun q t0 t1 H' => ∃ x y : Nat, y = q ∧ t0 = .sl (zaq (lim x)) .none ∧ t1 = .sl (zaq (lim y)) .none ∧ (lim x).length ≤ 1000 ∧ y < 1000000000 ∧ Nat.gcd x y = Nat.gcd a b ∧ H' = H) b ?_ ?_
 ·intro _; exact ⟨a, b, rfl, rfl, rfl, ha, hb, rfl, rfl⟩
 ·rintro q t0 t1 H' ⟨x, y, rfl, rfl, rfl, hx, hy, hg, rfl⟩ hsc' hlen hsF Kb hKb
  by_cases h0 : y = 0
  ·subst h0
   rw [Nat.gcd_zero_right] at hg
   subst hg
   simp [zn0]
   exact Out.one0 hs (.atom (.sl _ _)) rfl rfl hK
  ·have hly : lim y = [y] := zew h0 hy
   have hm : x % y < y := Nat.mod_lt _ (by omega)
   simp [zn0, show 0 < (lim y).length by rw [hly]; simp]
   refine zn3 x y hx (by omega) hy _ _ ?_
   simp
   refine hKb _ _ ⟨x % y, hm, Back.here (by simp) hs (by simp [ziO, ux, AV.sc, AV.scA, AV.scB, AV.scV]) ⟨_, _, rfl, y, x % y, rfl, rfl, rfl, by rw [hly]; simp, by omega, ?_, rfl⟩⟩
   rw [← hg, Nat.gcd_comm x y, Nat.gcd_rec y x, Nat.gcd_comm]
def zan (z : Int) : List AV := [.bool (decide (z < 0)), .sl (zaq (lim z.natAbs)) .none, .sl (zaq [1]) .none]
theorem zKI (neg : Bool) (N D : List Nat) (hN : ∀ x ∈ N, x < 4294967296) (hD : ∀ x ∈ D, x < 4294967296) (hNl : N.length ≤ 10000) (hDl : D.length ≤ 10000) (n : Nat) (hnl : (lim n).length ≤ 900) (d : Nat) (hd0 : 0 < d) (hd : d < 1000000000)
  (hn : zao N = n * d) (hdv : zao D = d) (H : zaa) (K : Kt) (hK : K (.agg (zan (if neg then -(n : Int) else n))) H) :
  ACalls tP zcG [.bool neg, .sl (zaq N) .none, .sl (zaq D) .none] H K := by
 refine ACalls.out (zKH fun hs => ?_)
 have hld : lim d = [d] := zew (by omega) hd
 simp [zxR]
 refine zuS N hN (by omega) _ _ ?_
 refine zuS D hD (by omega) _ _ ?_
 rw [hn, hdv]
 have hnd : (lim (n * d)).length ≤ 1000 := by
  have h1 := zd0 (lim n) (zct n)
  rw [zbX] at h1
  have h2 : n * d < 1000000000 ^ ((lim n).length + 1) := by
   rw [Nat.pow_succ]
   exact Nat.mul_lt_mul'' h1 hd
  have := zev h2
  omega
 by_cases h0 : n = 0
 ·subst h0
  have e0 : (if neg = true then -((0 : Nat) : Int) else ((0 : Nat) : Int)) = 0 := by cases neg <;> rfl
  rw [e0] at hK
  simp [zaz, zbq, zaD, AV.pd, zaC, za6, zhu]
  have e1 : zan 0 = [.bool false, .sl [] .none, .sl [[.int .u32 1]] .none] := by simp [zan, zaq]
  rw [e1] at hK
  exact Out.one hs (WkV.agg (ds := [.bool false, .sl [] .none, .sl [[.int .u32 1]] .none]) ⟨.refl _, .snil, .sl _ _, trivial⟩) rfl (by simp [AV.scV, AV.scA, AV.scB]) hK
 ·have hpos : 0 < (lim (n * d)).length := by
   rw [zcW (Nat.mul_ne_zero h0 (by omega))]; simp
  have hg : Nat.gcd (n * d) d = d := Nat.gcd_eq_right (Nat.dvd_mul_left d n)
  have hb0 : (((lim (n * d)).length : Int) == 0) = false := by
   generalize (lim (n * d)).length = q at hpos
   simp; omega
  have hfin : zkL (.bool neg) (.sl (zaq (lim n)) .none) (.sl (zaq [1]) .none) (.ptr H.length 0) (H ++ [.cells [.bool false, .snil, .snil]]) (Out H.length K) := by
   simp [zkL, zaC, za6, zhu]
   have e1 : zan (if neg = true then -(n : Int) else n) = [.bool neg, .sl (zaq (lim n)) .none, .sl (zaq [1]) .none] := by
    cases neg
    ·simp [zan]
    ·simp [zan]; omega
   rw [e1] at hK
   exact Out.one hs (WkV.agg (ds := [.bool neg, .sl (zaq (lim n)) .none, .sl (zaq [1]) .none]) ⟨.refl _, .sl _ _, .sl _ _, trivial⟩) rfl (by simp [AV.scV, AV.scA, AV.scB]) hK
  simp [hb0, hld]
  rw [show ([d] : List Nat) = lim d from hld.symm]
  refine zCO (n * d) d hnd hd _ _ ?_
  rw [hg, hld]
  by_cases hd1 : d = 1
  ·subst hd1
   simp
   simpa using hfin
  ·have hne : ((d : Int) != 1) = true := by simp; omega
   simp [hne]
   rw [show ([d] : List Nat) = lim d from hld.symm]
   refine zn3 (n * d) d hnd hd0 hd _ _ ?_
   simp
   refine zn3 d d (by rw [hld]; simp) hd0 hd _ _ ?_
   rw [Nat.div_self hd0, Nat.mul_div_cancel _ hd0, show lim 1 = [1] from zew (by omega) (by omega)]
   simp
   exact hfin
def Sm (z : Int) : Prop := z.natAbs < 1000000000 ^ 30
theorem Sm.len {z : Int} (h : Sm z) : (lim z.natAbs).length ≤ 30 := zev h
theorem zf9 : lim 1 = [1] := zew (by omega) (by omega)
theorem zsD (n : Nat) : ∀ x ∈ lim n, x < 4294967296 := fun x hx => by have := zct n x hx; omega
@[simp] theorem zAS (z : Int) : (zan z).length = 3 := rfl
@[simp] theorem zAR (z : Int) : (zan z).all AV.known = true := rfl
theorem zcl {H J : zaa} {K : Kt} {z : Int} (hs : HSc H) (hK : K (.agg (zan z)) H) : Out H.length K (.agg (zan z)) (H ++ J) := Out.one hs .rfl' rfl rfl hK
theorem zrN (neg : Bool) (n d : Nat) (hn : n * d < 1000000000 ^ 100) (hd0 : 0 < d) (hd : d < 1000000000) {z : Int} (hz : (if neg = true then -(n : Int) else n) = z) (H : zaa) (K : Kt) (hK : K (.agg (zan z)) H) :
  ACalls tP zcG [.bool neg, .sl (zaq (lim (n * d))) .none, .sl (zaq (lim d)) .none] H K := by
 subst hz
 have h1 := zev hn
 have h2 : n < 1000000000 ^ 100 := Nat.lt_of_le_of_lt (Nat.le_mul_of_pos_right n hd0) hn
 have h3 := zev h2
 exact zKI neg _ _ (zsD _) (zsD _) (by omega) (by rw [zew (by omega) hd]; simp) n (by omega) d hd0 hd (zbX _) (zbX _) H K hK
theorem zeo (neg : Bool) (n : Nat) (hn : n < 1000000000 ^ 100) {z : Int} (hz : (if neg = true then -(n : Int) else n) = z) (H : zaa) (K : Kt) (hK : K (.agg (zan z)) H) :
  ACalls tP zcG [.bool neg, .sl (zaq (lim n)) .none, .sl (zaq [1]) .none] H K := by
 have := zrN neg n 1 (by simpa using hn) (by omega) (by omega) hz H K hK
 rwa [zf9, Nat.mul_one] at this
theorem zlW : (1000000000 : Nat) ^ 30 ≤ 1000000000 ^ 100 := Nat.pow_le_pow_right (by omega) (by omega)
theorem zAi {a b : Nat} (ha : a < 1000000000 ^ 30) (hb : b < 1000000000 ^ 30) : a * b < 1000000000 ^ 100 := by
 have := Nat.mul_lt_mul'' ha hb
 rw [← Nat.pow_add] at this
 exact Nat.lt_of_lt_of_le this (Nat.pow_le_pow_right (by omega) (by omega))
theorem zdp (n : Nat) (hn : n < 9223372036854775808) (H : zaa) (K : Kt) (hK : K (.agg (zan n)) H) : ACalls tP zcu [.int .i64 n] H K := by
 refine ACalls.out (zHb fun hs => ?_)
 have w1 : IntKind.u64.wrap (n : Int) = n := zcb (by omega)
 have h0 : ¬ ((n : Int) < 0) := by omega
 simp [zwt, h0, w1]
 refine zxT n (by omega) _ _ ?_
 simp [zaz, zbq, zaD, AV.pd]
 refine ACalls.wk (args' := [.bool false, .sl (zaq (lim n)) .none, .sl (zaq [1]) .none]) (zeo false n (by omega) (z := n) (by simp) _ _ ?_) ⟨.rfl', .rfl', .atom (.sl _ _), trivial⟩
 simp [zAR]
 exact zcl hs hK
theorem zeR (z : Int) (hz : Sm z) (H : zaa) (K : Kt) (hK : K (.agg (zan z)) H) : ACalls tP zdy [.agg (zan z)] H K := by
 refine ACalls.out (zKR fun hs => ?_)
 simp [zxU, zan]
 refine zeo _ _ (Nat.lt_of_lt_of_le hz zlW) (z := z) (by split <;> simp_all <;> omega) _ _ ?_
 simp
 exact zcl hs hK
theorem zC8 (z : Int) (hz : Sm z) (H : zaa) (K : Kt) (hK : K (.agg (zan (-z))) H) : ACalls tP zmt [.agg (zan z)] H K := by
 refine ACalls.out (zC7 fun hs => ?_)
 simp [zu0, zan]
 refine zeo _ _ (Nat.lt_of_lt_of_le hz zlW) (z := -z) (by split <;> simp_all <;> omega) _ _ ?_
 simp
 exact zcl hs hK
theorem zLt (z : Int) (hz : Sm z) (H : zaa) (K : Kt) (hK : K (.int .i64 z.sign) H) : ACalls tP zm6 [.agg (zan z)] H K := by
 refine ACalls.out (zLs fun hs => ?_)
 simp [zx8, zan]
 refine zeR z hz _ _ ?_
 simp [zan]
 by_cases h0 : z = 0
 ·subst h0
  simp
  exact Out.int (J := _) rfl (Nat.le_refl _) hs hK
 ·have hp : 0 < (lim z.natAbs).length := by rw [zcW (by omega)]; simp
  have hb : (((lim z.natAbs).length : Int) == 0) = false := by
   generalize (lim z.natAbs).length = q at hp
   simp; omega
  simp [hb]
  by_cases hn : z < 0
  ·simp [hn]
   rw [Int.sign_eq_neg_one_of_neg hn] at hK
   exact Out.int (J := _) rfl (Nat.le_refl _) hs hK
  ·simp [hn]
   rw [Int.sign_eq_one_of_pos (by omega)] at hK
   exact Out.int (J := _) rfl (Nat.le_refl _) hs hK
theorem zhy (a b : Nat) (ha : a < 1000000000 ^ 30) (hb : b < 1000000000 ^ 30) (H : zaa) (K : Kt) (hK : K (.sl (zaq (lim (a * b))) .none) H) : ACalls tP zcH [.sl (zaq (lim a)) .none, .sl (zaq (lim b)) .none] H K := by
 have h1 := zev ha
 have h2 := zev hb
 refine zKZ (lim a) (lim b) (zct a) (zct b) (by omega) (by omega) _ _ ?_
 rw [zbX, zbX]; exact hK
theorem zih : (1 : Nat) < 1000000000 ^ 30 := by decide
theorem zsR (H : zaa) (K : Kt) (hK : K (.sl (zaq [1]) .none) H) : ACalls tP zcH [.sl (zaq [1]) .none, .sl (zaq [1]) .none] H K := by
 have := zhy 1 1 zih zih H K (by rw [Nat.mul_one, zf9]; exact hK)
 rwa [zf9] at this
theorem zmp (a : Nat) (ha : a < 1000000000 ^ 30) (H : zaa) (K : Kt) (hK : K (.sl (zaq (lim a)) .none) H) : ACalls tP zcH [.sl (zaq (lim a)) .none, .sl (zaq [1]) .none] H K := by
 have := zhy a 1 ha zih H K (by rw [Nat.mul_one]; exact hK)
 rwa [zf9] at this
theorem zAh (a : Nat) (ha : a < 1000000000 ^ 30) (H : zaa) (K : Kt) (hK : K (.sl (zaq (lim a)) .none) H) : ACalls tP zcH [.sl (zaq [1]) .none, .sl (zaq (lim a)) .none] H K := by
 have := zhy 1 a zih ha H K (by rw [Nat.one_mul]; exact hK)
 rwa [zf9] at this
theorem zBl (a b : Int) : (if (decide (a < 0) != decide (b < 0)) = true then -((a.natAbs * b.natAbs : Nat) : Int) else ((a.natAbs * b.natAbs : Nat) : Int)) = a * b := by
 rw [← Int.natAbs_mul]
 by_cases ha : a < 0 <;> by_cases hb : b < 0 <;> simp [ha, hb]
 ·have := Int.mul_pos_of_neg_of_neg ha hb; omega
 ·have := Int.mul_nonpos_of_nonpos_of_nonneg (Int.le_of_lt ha) (by omega : 0 ≤ b); omega
 ·have := Int.mul_nonpos_of_nonneg_of_nonpos (by omega : 0 ≤ a) (Int.le_of_lt hb); omega
 ·have := Int.mul_nonneg (by omega : 0 ≤ a) (by omega : 0 ≤ b); omega
theorem zjP (a b : Int) (ha : Sm a) (hb : Sm b) (H : zaa) (K : Kt) (hK : K (.agg (zan (a * b))) H) : ACalls tP zfb [.agg (zan a), .agg (zan b)] H K := by
 refine ACalls.out (zHh fun hs => ?_)
 simp [zwz, zan, Nat.add_assoc]
 refine zaF (.agg (zan a)) (fun J => zeR a ha _ _ ⟨rfl, rfl⟩) ?_
 refine zaF (.agg (zan b)) (fun J => zeR b hb _ _ ⟨rfl, rfl⟩) ?_
 simp [zan, AV.known, Nat.add_assoc]
 refine zaF (.sl (zaq (lim (a.natAbs * b.natAbs))) .none) (fun J => zhy _ _ ha hb _ _ ⟨rfl, rfl⟩) ?_
 refine zaF (.sl (zaq [1]) .none) (fun J => zsR _ _ ⟨rfl, rfl⟩) ?_
 refine zaF (.agg (zan (a * b))) (fun J => zeo _ _ (zAi ha hb) (zBl a b) _ _ ⟨rfl, rfl⟩) ?_
 simp [Nat.add_assoc]
 exact zcl hs hK
theorem zpj (a b : Int) (ha : Sm a) (hb : Sm b) (H : zaa) (K : Kt) (hK : K (.agg (zan (a + b))) H) : ACalls tP zgh [.agg (zan a), .agg (zan b)] H K := by
 refine ACalls.out (zHB fun hs => ?_)
 have la := ha.len
 have lb := hb.len
 simp [zwB, zan, Nat.add_assoc]
 refine zaF (.agg (zan a)) (fun J => zeR a ha _ _ ⟨rfl, rfl⟩) ?_
 refine zaF (.agg (zan b)) (fun J => zeR b hb _ _ ⟨rfl, rfl⟩) ?_
 simp [zan, AV.known, Nat.add_assoc]
 refine zaF (.sl (zaq (lim a.natAbs)) .none) (fun J => zmp _ ha _ _ ⟨rfl, rfl⟩) ?_
 refine zaF (.sl (zaq (lim b.natAbs)) .none) (fun J => zmp _ hb _ _ ⟨rfl, rfl⟩) ?_
 refine zsR _ _ ?_
 simp [Nat.add_assoc]
 have hbig : ∀ n : Nat, n ≤ a.natAbs + b.natAbs → n < 1000000000 ^ 100 := by
  intro n hn
  have h1 : (1000000000 : Nat) ^ 30 + 1000000000 ^ 30 ≤ 1000000000 ^ 100 := by decide
  unfold Sm at ha hb
  omega
 have hsub : ∀ x y : Int, Sm x → Sm y → y.natAbs ≤ x.natAbs → ∀ (H : zaa) (K : Kt), K (.sl (zaq (lim (x.natAbs - y.natAbs))) .none) H → ACalls tP zgp [.sl (zaq (lim x.natAbs)) .none, .sl (zaq (lim y.natAbs)) .none] H K := by
  intro x y hx hy hxy H K hK
  refine zLj (lim x.natAbs) (lim y.natAbs) (zct _) (zct _) (by have := hx.len; omega) ?_ (by rw [zbX, zbX]; exact hxy) _ _ (by rw [zbX, zbX]; exact hK)
  refine Nat.le_of_not_lt fun h => ?_
  have := zmn h
  omega
 by_cases hsg : decide (a < 0) = decide (b < 0)
 ·have hsg' : (decide (a < 0) == decide (b < 0)) = true := by simpa using hsg
  simp [hsg', Nat.add_assoc]
  refine zaF (.sl (zaq (lim (a.natAbs + b.natAbs))) .none) (fun J => zK6 _ _ (zct _) (zct _) (by omega) (by omega) _ _ (by rw [zbX]) (by rw [zbX]) (by rw [zbX, zbX]; exact ⟨rfl, rfl⟩)) ?_
  refine zaF (.agg (zan (a + b))) (fun J => zeo _ _ (hbig _ (Nat.le_refl _)) (by
   by_cases h1 : a < 0 <;> by_cases h2 : b < 0 <;> simp [h1, h2] at hsg ⊢ <;> omega) _ _ ⟨rfl, rfl⟩) ?_
  simp [Nat.add_assoc]
  exact zcl hs hK
 ·have hsg' : (decide (a < 0) == decide (b < 0)) = false := by simpa using hsg
  simp [hsg', Nat.add_assoc]
  refine zx2 _ _ (by omega) (by omega) _ _ ?_
  have hcz : (0 ≤ zc2 a.natAbs b.natAbs) ↔ b.natAbs ≤ a.natAbs := by
   unfold zc2
   split
   ·simp; omega
   ·split <;> simp <;> omega
  by_cases hle : b.natAbs ≤ a.natAbs
  ·simp [hcz, hle, Nat.add_assoc]
   refine zaF (.sl (zaq (lim (a.natAbs - b.natAbs))) .none) (fun J => hsub a b ha hb hle _ _ ⟨rfl, rfl⟩) ?_
   refine zaF (.agg (zan (a + b))) (fun J => zeo _ _ (hbig _ (by omega)) (by
    by_cases h1 : a < 0 <;> by_cases h2 : b < 0 <;> simp [h1, h2] at hsg ⊢ <;> omega) _ _ ⟨rfl, rfl⟩) ?_
   simp [Nat.add_assoc]
   exact zcl hs hK
  ·simp [hcz, hle, Nat.add_assoc]
   refine zaF (.sl (zaq (lim (b.natAbs - a.natAbs))) .none) (fun J => hsub b a hb ha (by omega) _ _ ⟨rfl, rfl⟩) ?_
   refine zaF (.agg (zan (a + b))) (fun J => zeo _ _ (hbig _ (by omega)) (by
    by_cases h1 : a < 0 <;> by_cases h2 : b < 0 <;> simp [h1, h2] at hsg ⊢ <;> omega) _ _ ⟨rfl, rfl⟩) ?_
   simp [Nat.add_assoc]
   exact zcl hs hK
theorem Sm.neg {z : Int} (h : Sm z) : Sm (-z) := by unfold Sm at h ⊢; rwa [Int.natAbs_neg]
theorem zLx (a b : Int) (ha : Sm a) (hb : Sm b) (H : zaa) (K : Kt) (hK : K (.agg (zan (a - b))) H) : ACalls tP zm7 [.agg (zan a), .agg (zan b)] H K := by
 refine ACalls.out (zLw fun hs => ?_)
 simp [zx9, zan, Nat.add_assoc]
 refine zaF (.agg (zan (-b))) (fun J => zC8 b hb _ _ ⟨rfl, rfl⟩) ?_
 refine zaF (.agg (zan (a - b))) (fun J => zpj a (-b) ha hb.neg _ _ ⟨by rw [Int.sub_eq_add_neg], rfl⟩) ?_
 simp [Nat.add_assoc]
 exact zcl hs hK
theorem zEB (q d : Nat) (hq : q * d < 1000000000 ^ 30) (hd0 : 0 < d) (hd : d < 1000000000) (H : zaa) (K : Kt) (hK : K (.tup [.agg (zan q), .bool true]) H) :
  ACalls tP zmA [.agg (zan ((q * d : Nat) : Int)), .agg (zan d)] H K := by
 refine ACalls.out (zEA fun hs => ?_)
 have hdS : (d : Nat) < 1000000000 ^ 30 := Nat.lt_of_lt_of_le hd (by decide)
 have ha : Sm ((q * d : Nat) : Int) := by unfold Sm; rw [Int.natAbs_natCast]; exact hq
 have hb : Sm (d : Int) := by unfold Sm; rw [Int.natAbs_natCast]; exact hdS
 have ea : (zan ((q * d : Nat) : Int)) = [.bool false, .sl (zaq (lim (q * d))) .none, .sl (zaq [1]) .none] := by
  unfold zan; rw [Int.natAbs_natCast, decide_eq_false (by omega)]
 have eb : (zan (d : Int)) = [.bool false, .sl (zaq (lim d)) .none, .sl (zaq [1]) .none] := by
  unfold zan; rw [Int.natAbs_natCast, decide_eq_false (by omega)]
 have hld : lim d = [d] := zew (by omega) hd
 rw [ea, eb]
 simp [zvp, Nat.add_assoc]
 refine zaF (.agg (zan ((q * d : Nat) : Int))) (fun J => by rw [← ea]; exact zeR _ ha _ _ ⟨rfl, rfl⟩) ?_
 refine zaF (.agg (zan (d : Int))) (fun J => by rw [← eb]; exact zeR _ hb _ _ ⟨rfl, rfl⟩) ?_
 rw [ea, eb]
 simp [AV.known, Nat.add_assoc, show (lim d).length = 1 by rw [hld]; rfl]
 refine zaF (.sl (zaq (lim (q * d))) .none) (fun J => zmp _ hq _ _ ⟨rfl, rfl⟩) ?_
 refine zaF (.sl (zaq (lim d)) .none) (fun J => zAh _ hdS _ _ ⟨rfl, rfl⟩) ?_
 refine zaF (.agg (zan q)) (fun J => zrN false q d (Nat.lt_of_lt_of_le hq zlW) hd0 hd (by simp) _ _ ⟨rfl, rfl⟩) ?_
 simp [Nat.add_assoc]
 exact ⟨⟨rfl, rfl⟩, Out.tup (bs := [.agg (zan q), .bool true]) hs hK ⟨zaZ rfl rfl, zaZ rfl rfl, trivial⟩⟩
end Go.Proofs.YtjkkonpjecoieaaGreat
namespace Go.Proofs.YtjkkonpjecoieaaGreat
open Go Go.Abs
set_option maxRecDepth 100000
def zeN : Nat → List Bool
 | 10 => rl false [0,1,6,1,3,1,1,1,1,1,80,3,48]
 | 16 => rl false [0,1,6,1,3,1,1,1,1,1,1,2,77,3,10,2,36]
 | _ => []
noncomputable def zpy : Code := Tryz.f4.body.getD .skip
noncomputable def zIJ : List ResultVar := Tryz.f4.results.toList
def zj3 (t0 t7 t11 t13 t15 t96 t97 t98 : AV) : List AV := t0 :: ux 6 (t7 :: ux 3 (t11 :: ux 1 (t13 :: ux 1 (t15 :: ux 80 (t96 :: t97 :: t98 :: ux 48 [])))))
def zw9 : List Bool := zeN 10
noncomputable def zpz : Code := zar [1, 1, 1, 1, 1, 1, 1, 0, 1, 0, 0] zpy
def zw6 (K : Kt) : AExit → List AV → zaa → Prop := zat tP zeN [1, 1, 1, 1, 1, 1, 1, 0, 1, 0] zpy (zay tP zIJ K)
def zw7 (t0 t7 t11 t13 t15 t96 t97 t98 : AV) (H : zaa) (K : Kt) : Prop := ALoop tP zpz (zw6 K) (zj3 t0 t7 t11 t13 t15 t96 t97 t98) H
def zj4 (t0 t7 t11 t13 t15 t17 t18 t96 t97 t98 t109 t110 : AV) : List AV := t0 :: ux 6 (t7 :: ux 3 (t11 :: ux 1 (t13 :: ux 1 (t15 :: ux 1 (t17 :: t18 :: ux 77 (t96 :: t97 :: t98 :: ux 10 (t109 :: t110 :: ux 36 [])))))))
def zIH : List Bool := zeN 16
noncomputable def zIE : Code := zar [1, 1, 0, 0, 1, 1, 1, 0, 1, 0, 0] zpz
def zID (K : Kt) (Kb10 : Lt) : AExit → List AV → zaa → Prop := zat tP zeN [1, 1, 0, 0, 1, 1, 1, 0, 1, 0] zpz (zbF zw9 Kb10 (zw6 K))
def zw8 (t0 t7 t11 t13 t15 t17 t18 t96 t97 t98 t109 t110 : AV) (H : zaa) (K : Kt) (Kb10 : Lt) : Prop := ALoop tP zIE (zID K Kb10) (zj4 t0 t7 t11 t13 t15 t17 t18 t96 t97 t98 t109 t110) H
def zpx (t0 t7 t11 t13 t15 t17 t18 t96 t97 t98 t109 t110 : AV) (H : zaa) (K : Kt) (Kb10 : Lt) (Kb16 : Lt) : Prop :=
 zac .lss false t110 t109 fun t111 =>
 zag t111
 (zae H (fun K' => K' t0 H) fun t114 =>
 zae H (fun K' => K' t13 H) fun t115 =>
 zae H (fun K' => K' t110 H) fun t116 =>
 zae H (fun K' => zaj 3 t115 t116 (K' · H)) fun t117 =>
 zae H (fun K' => zal true 3 t117 H (K' · H)) fun t118 =>
 zae H (fun K' => K' t17 H) fun t119 =>
 zae H (fun K' => K' t110 H) fun t120 =>
 zae H (fun K' => zaj 2 t119 t120 (K' · H)) fun t121 =>
 zae H (fun K' => zal true 2 t121 H (K' · H)) fun t122 =>
 zae H (fun K' => zaf 2 t7 (K' · H)) fun t123 =>
 zae H (fun K' => zal false 1 t123 H (K' · H)) fun t124 =>
 zae H (fun K' => K' t110 H) fun t125 =>
 zae H (fun K' => zaj 3 t124 t125 (K' · H)) fun t126 =>
 zae H (fun K' => zal true 3 t126 H (K' · H)) fun t127 =>
 zaE H (fun H K' => ACalls tP zhI [t114, t118, t122, t127] H K') fun t128 =>
 zae H (fun K' => K' t128 H) fun t113 =>
 zae H (fun K' => zav t113 0 (K' · H)) fun t129 =>
 zae H (fun K' => zav t113 1 (K' · H)) fun t130 =>
 zaw [(.bool false), .snil, .snil] H fun t20 H =>
 zak 3 t20 t129 H fun H =>
 zae H (fun K' => K' t130 H) fun t21 =>
 zac .neq false t21 (.int .i64 0) fun t132 =>
 zag t132
 (K (.bool false) H)
 (zad true 3 t18 H fun t133 =>
 zad true 3 t20 H fun t134 =>
 ACalls tP zfb [t133, t134] H fun t135 H =>
 zak 3 t18 t135 H fun H =>
 zac .add false t110 (.int .i64 1) fun t136 =>
 Kb16 (zj4 t0 t7 t11 t13 t15 t17 t18 t96 t97 t98 t109 t136) H))
 (zad true 3 t15 H fun t137 =>
 zad true 3 t18 H fun t138 =>
 ACalls tP zgh [t137, t138] H fun t139 H =>
 zak 3 t15 t139 H fun H =>
 zac .add false t98 (.int .i64 1) fun t140 =>
 Kb10 (zj3 t0 t7 t11 t13 t15 t96 t97 t140) H)
def zpw (t0 t7 t11 t13 t15 t96 t97 t98 : AV) (H : zaa) (K : Kt) (Kb10 : Lt) : Prop :=
 zac .lss false t98 t97 fun t99 =>
 zag t99
 (zaj 1 t96 t98 fun t100 =>
 zad false 1 t100 H fun t101 =>
 zah 1 t101 fun t103 =>
 zah 1 t13 fun t105 =>
 zac .neq false t103 t105 fun t106 =>
 zag t106
 (K (.bool false) H)
 (ACalls tP zcu [(.int .i64 1)] H fun t107 H =>
 zaw [(.bool false), .snil, .snil] H fun t18 H =>
 zak 3 t18 t107 H fun H =>
 zah 1 t101 fun t109 =>
 zw8 t0 t7 t11 t13 t15 t101 t18 t96 t97 t98 t109 (.int .i64 0) H K Kb10))
 (zad true 3 t15 H fun t141 =>
 zad true 3 t11 H fun t142 =>
 ACalls tP zmR [t141, t142] H fun t143 H =>
 zab t143 true H (fun K' => ACalls tP zmU [] H K') fun t145 H =>
 zai t143 t145 (.bool false) fun t146 =>
 K t146 H)
def zq2 (t0 t1 t2 t3 : AV) (H : zaa) (K : Kt) : Prop :=
 zap t1 H fun t5 H =>
 zap t2 H fun t6 H =>
 zap t3 H fun t7 H =>
 zad true 3 t5 H fun t23 =>
 ACalls tP zm9 [t0, t23] H fun t24 H =>
 aUn .not t24 fun t25 =>
 zab t25 false H (fun K' => zad true 2 t6 H (K' · H)) fun t27 H =>
 zab t25 false H (fun K' => ACalls tP zmq [t27] H K') fun t28 H =>
 zab t25 false H (fun K' => aUn .not t28 (K' · H)) fun t29 H =>
 zai t25 (.bool true) t29 fun t30 =>
 zab t30 false H (fun K' => zad true 3 t7 H (K' · H)) fun t32 H =>
 zab t30 false H (fun K' => ACalls tP zms [t32] H K') fun t33 H =>
 zab t30 false H (fun K' => aUn .not t33 (K' · H)) fun t34 H =>
 zai t30 (.bool true) t34 fun t35 =>
 zab t35 false H (fun K' => zad true 3 t7 H (K' · H)) fun t37 H =>
 zab t35 false H (fun K' => ACalls tP zhB [t37] H K') fun t38 H =>
 zab t35 false H (fun K' => zac .gtr false t38 (.int .i64 80) (K' · H)) fun t39 H =>
 zai t35 (.bool true) t39 fun t40 =>
 zab t40 false H (fun K' => zaf 0 t5 (K' · H)) fun t42 H =>
 zab t40 false H (fun K' => zad false 1 t42 H (K' · H)) fun t43 H =>
 zab t40 false H (fun K' => zac .neq false t43 (.int .i64 5) (K' · H)) fun t44 H =>
 zai t40 (.bool true) t44 fun t45 =>
 zab t45 false H (fun K' => K' t0 H) fun t47 H =>
 zab t45 false H (fun K' => zad true 3 t7 H (K' · H)) fun t48 H =>
 zab t45 false H (fun K' => zad true 3 t5 H (K' · H)) fun t49 H =>
 zab t45 false H (fun K' => ACalls tP zhE [t47, t48, t49] H K') fun t50 H =>
 zab t45 false H (fun K' => aUn .not t50 (K' · H)) fun t51 H =>
 zai t45 (.bool true) t51 fun t52 =>
 zab t52 false H (fun K' => K' t0 H) fun t54 H =>
 zab t52 false H (fun K' => zad true 3 t5 H (K' · H)) fun t55 H =>
 zab t52 false H (fun K' => zad true 2 t6 H (K' · H)) fun t56 H =>
 zab t52 false H (fun K' => ACalls tP zhF [t54, t55, t56] H K') fun t57 H =>
 zab t52 false H (fun K' => aUn .not t57 (K' · H)) fun t58 H =>
 zai t52 (.bool true) t58 fun t59 =>
 zag t59
 (K (.bool true) H)
 (zad true 3 t5 H fun t62 =>
 zaf 1 t7 fun t63 =>
 zad false 1 t63 H fun t64 =>
 zad true 2 t6 H fun t65 =>
 ACalls tP zgf [t0, t62, t64, t65] H fun t66 H =>
 zav t66 0 fun t67 =>
 zav t66 1 fun t68 =>
 zad true 3 t5 H fun t71 =>
 zad true 2 t6 H fun t72 =>
 zad true 3 t7 H fun t73 =>
 ACalls tP zhI [t0, t71, t72, t73] H fun t74 H =>
 zav t74 0 fun t75 =>
 zav t74 1 fun t76 =>
 zaw [(.bool false), .snil, .snil] H fun t11 H =>
 zak 3 t11 t75 H fun H =>
 zad true 3 t5 H fun t79 =>
 zaf 1 t7 fun t80 =>
 zad false 1 t80 H fun t81 =>
 ACalls tP ze8 [t0, t79, t81] H fun t82 H =>
 zav t82 0 fun t83 =>
 zav t82 1 fun t84 =>
 zac .neq false t68 (.int .i64 0) fun t86 =>
 zab t86 false H (fun K' => K' t76 H) fun t88 H =>
 zab t86 false H (fun K' => zac .neq false t88 (.int .i64 0) (K' · H)) fun t89 H =>
 zai t86 (.bool true) t89 fun t90 =>
 zab t90 false H (fun K' => K' t84 H) fun t92 H =>
 zab t90 false H (fun K' => aUn .not t92 (K' · H)) fun t93 H =>
 zai t90 (.bool true) t93 fun t94 =>
 zag t94
 (K (.bool false) H)
 (ACalls tP zcu [(.int .i64 0)] H fun t95 H =>
 zaw [(.bool false), .snil, .snil] H fun t15 H =>
 zak 3 t15 t95 H fun H =>
 zah 1 t67 fun t97 =>
 zw7 t0 t7 t11 t83 t15 t67 t97 (.int .i64 0) H K))
theorem zIG {t0 t7 t11 t13 t15 t17 t18 t96 t97 t98 t109 t110 : AV} {H : zaa} {K : Kt} {Kb10 : Lt} (Inv : Nat → AV → zaa → Prop) (n : Nat) (h0 : HSc H → Inv n t110 H)
  (round : Rd1 (fun t110 => zj4 t0 t7 t11 t13 t15 t17 t18 t96 t97 t98 t109 t110) (fun t110 => fun H Kb16 => zpx t0 t7 t11 t13 t15 t17 t18 t96 t97 t98 t109 t110 H K Kb10 Kb16) H Inv) : zw8 t0 t7 t11 t13 t15 t17 t18 t96 t97 t98 t109 t110 H K Kb10 :=
 lp1 (M := zeN) zIH t110 (by kernel_rfl) Inv n h0 round
theorem zIF {t0 t7 t11 t13 t15 t96 t97 t98 : AV} {H : zaa} {K : Kt} (Inv : Nat → AV → zaa → Prop) (n : Nat) (h0 : HSc H → Inv n t98 H)
  (round : Rd1 (fun t98 => zj3 t0 t7 t11 t13 t15 t96 t97 t98) (fun t98 => fun H Kb10 => zpw t0 t7 t11 t13 t15 t96 t97 t98 H K Kb10) H Inv) : zw7 t0 t7 t11 t13 t15 t96 t97 t98 H K :=
 lp1 (M := zeN) zw9 t98 (by kernel_rfl) Inv n h0 round
theorem zII {t0 t1 t2 t3 : AV} {H : zaa} {K : Kt} (h : HSc H → zq2 t0 t1 t2 t3 H K) : ACalls tP zmO [t0, t1, t2, t3] H K :=
 zam (M := zeN) Tryz.func4 (c := zpy) (by kernel_rfl) (fun hs => Eq.mpr (by kernel_rfl) (h hs))
def zi6 : Nat → List Bool
 | 3 => rl false [3,1,3,3,9]
 | _ => []
noncomputable def zon : Code := Tryz.f14.body.getD .skip
noncomputable def zD6 : List ResultVar := Tryz.f14.results.toList
def zi7 (t3 t7 t8 t9 : AV) : List AV := ux 3 (t3 :: ux 3 (t7 :: t8 :: t9 :: ux 9 []))
def zD4 : List Bool := zi6 3
noncomputable def zD2 : Code := zar [1, 1, 0, 1, 0, 0] zon
def zD1 (K : Kt) : AExit → List AV → zaa → Prop := zat tP zi6 [1, 1, 0, 1, 0] zon (zay tP zD6 K)
def zvd (t3 t7 t8 t9 : AV) (H : zaa) (K : Kt) : Prop := ALoop tP zD2 (zD1 K) (zi7 t3 t7 t8 t9) H
def zom (t3 t7 t8 t9 : AV) (H : zaa) (K : Kt) (Kb3 : Lt) : Prop :=
 zac .lss false t9 t8 fun t10 =>
 zag t10
 (zaj 3 t7 t9 fun t11 =>
 zad true 3 t11 H fun t12 =>
 zaw [(.int .i64 0), (.int .i64 0), .snil] H fun t5 H =>
 zak 3 t5 t12 H fun H =>
 zad true 3 t5 H fun t14 =>
 ACalls tP zhB [t14] H fun t15 H =>
 zac .add false t3 t15 fun t16 =>
 zac .add false t9 (.int .i64 1) fun t17 =>
 Kb3 (zi7 t16 t7 t8 t17) H)
 (K t3 H)
def zu4 (t0 : AV) (H : zaa) (K : Kt) : Prop :=
 zap t0 H fun t1 H =>
 zaf 2 t1 fun t6 =>
 zad false 1 t6 H fun t7 =>
 zah 1 t7 fun t8 =>
 zvd (.int .i64 1) t7 t8 (.int .i64 0) H K
theorem zD3 {t3 t7 t8 t9 : AV} {H : zaa} {K : Kt} (Inv : Nat → AV → AV → zaa → Prop) (n : Nat) (h0 : HSc H → Inv n t3 t9 H)
  (round : Rd2 (fun t3 => fun t9 => zi7 t3 t7 t8 t9) (fun t3 => fun t9 => fun H Kb3 => zom t3 t7 t8 t9 H K Kb3) H Inv) : zvd t3 t7 t8 t9 H K :=
 lp2 (M := zi6) zD4 t3 t9 (by kernel_rfl) Inv n h0 round
theorem zD5 {t0 : AV} {H : zaa} {K : Kt} (h : HSc H → zu4 t0 H K) : ACalls tP zhB [t0] H K :=
 zam (M := zi6) Tryz.func14 (c := zon) (by kernel_rfl) (fun hs => Eq.mpr (by kernel_rfl) (h hs))
def zGc (_ : Nat) : List Bool := []
noncomputable def zGd : Code := Tryz.f18.body.getD .skip
def zvQ (t0 t1 t2 t3 : AV) (H : zaa) (K : Kt) : Prop :=
 zap t1 H fun t5 H =>
 zap t2 H fun t6 H =>
 zap t3 H fun t7 H =>
 zaw [(.bool false), .snil, .snil] H fun t8 H =>
 zad true 3 t5 H fun t11 =>
 zad true 2 t6 H fun t12 =>
 ACalls tP zhF [t0, t11, t12] H fun t13 H =>
 aUn .not t13 fun t14 =>
 zag t14
 (zaC [(.bool false), .snil, .snil] [(0, 1), (1, 1), (2, 1)] [] fun t15 =>
 zak 3 t8 t15 H fun H =>
 zad true 3 t8 H fun r0 =>
 zaA [r0, (.int .i64 1)] (K · H))
 (zad true 3 t7 H fun t17 =>
 zad true 3 t5 H fun t18 =>
 ACalls tP zhE [t0, t17, t18] H fun t19 H =>
 aUn .not t19 fun t20 =>
 zag t20
 (zaC [(.bool false), .snil, .snil] [(0, 1), (1, 1), (2, 1)] [] fun t21 =>
 zak 3 t8 t21 H fun H =>
 zad true 3 t8 H fun r0 =>
 zaA [r0, (.int .i64 11)] (K · H))
 (zad true 3 t5 H fun t23 =>
 zad true 2 t6 H fun t24 =>
 zad true 3 t7 H fun t25 =>
 ACalls tP zfe [t0, t23, t24, t25] H fun t26 H =>
 zak 3 t8 t26 H fun H =>
 zad true 3 t8 H fun r0 =>
 zaA [r0, (.int .i64 0)] (K · H)))
theorem zGe {t0 t1 t2 t3 : AV} {H : zaa} {K : Kt} (h : HSc H → zvQ t0 t1 t2 t3 H K) : ACalls tP zhI [t0, t1, t2, t3] H K :=
 zam (M := zGc) Tryz.func18 (c := zGd) (by kernel_rfl) (fun hs => Eq.mpr (by kernel_rfl) (h hs))
def zHL (_ : Nat) : List Bool := []
noncomputable def zHM : Code := Tryz.f23.body.getD .skip
def zwJ (t0 t1 : AV) (H : zaa) (K : Kt) : Prop :=
 zap t0 H fun t2 H =>
 zap t1 H fun t3 H =>
 zaf 0 t2 fun t5 =>
 zad false 1 t5 H fun t6 =>
 zaf 0 t3 fun t7 =>
 zad false 1 t7 H fun t8 =>
 zac .eql true t6 t8 fun t9 =>
 zab t9 true H (fun K' => zaf 1 t2 (K' · H)) fun t11 H =>
 zab t9 true H (fun K' => zad false 1 t11 H (K' · H)) fun t12 H =>
 zab t9 true H (fun K' => zaf 1 t3 (K' · H)) fun t13 H =>
 zab t9 true H (fun K' => zad false 1 t13 H (K' · H)) fun t14 H =>
 zab t9 true H (fun K' => ACalls tP zh1 [t12, t14] H K') fun t15 H =>
 zai t9 t15 (.bool false) fun t16 =>
 zab t16 true H (fun K' => zaf 2 t2 (K' · H)) fun t18 H =>
 zab t16 true H (fun K' => zad false 1 t18 H (K' · H)) fun t19 H =>
 zab t16 true H (fun K' => zaf 2 t3 (K' · H)) fun t20 H =>
 zab t16 true H (fun K' => zad false 1 t20 H (K' · H)) fun t21 H =>
 zab t16 true H (fun K' => ACalls tP zh1 [t19, t21] H K') fun t22 H =>
 zai t16 t22 (.bool false) fun t23 =>
 K t23 H
theorem zHN {t0 t1 : AV} {H : zaa} {K : Kt} (h : HSc H → zwJ t0 t1 H K) : ACalls tP zmR [t0, t1] H K :=
 zam (M := zHL) Tryz.func23 (c := zHM) (by kernel_rfl) (fun hs => Eq.mpr (by kernel_rfl) (h hs))
def zk3 : Nat → List Bool
 | 4 => rl false [0,2,10,2,12]
 | _ => []
noncomputable def zqs : Code := Tryz.f63.body.getD .skip
noncomputable def zLp : List ResultVar := Tryz.f63.results.toList
def zk4 (t0 t1 t12 t13 : AV) : List AV := t0 :: t1 :: ux 10 (t12 :: t13 :: ux 12 [])
def zLn : List Bool := zk3 4
noncomputable def zLl : Code := zar [1, 1, 0, 1, 0, 0] zqs
def zLk (K : Kt) : AExit → List AV → zaa → Prop := zat tP zk3 [1, 1, 0, 1, 0] zqs (zay tP zLp K)
def zx6 (t0 t1 t12 t13 : AV) (H : zaa) (K : Kt) : Prop := ALoop tP zLl (zLk K) (zk4 t0 t1 t12 t13) H
def zqr (t0 t1 t12 t13 : AV) (H : zaa) (K : Kt) (Kb4 : Lt) : Prop :=
 zac .lss false t13 t12 fun t14 =>
 zag t14
 (zae H (fun K' => K' t0 H) fun t16 =>
 zae H (fun K' => K' t13 H) fun t17 =>
 zae H (fun K' => zaj 1 t16 t17 (K' · H)) fun t18 =>
 zae H (fun K' => zal false 1 t18 H (K' · H)) fun t19 =>
 zae H (fun K' => K' t1 H) fun t20 =>
 zae H (fun K' => K' t13 H) fun t21 =>
 zae H (fun K' => zaj 1 t20 t21 (K' · H)) fun t22 =>
 zae H (fun K' => zal false 1 t22 H (K' · H)) fun t23 =>
 zae H (fun K' => zac .neq false t19 t23 (K' · H)) fun t24 =>
 zag t24
 (K (.bool false) H)
 (zac .add false t13 (.int .i64 1) fun t25 =>
 Kb4 (zk4 t0 t1 t12 t25) H))
 (K (.bool true) H)
def zx5 (t0 t1 : AV) (H : zaa) (K : Kt) : Prop :=
 zah 1 t0 fun t7 =>
 zah 1 t1 fun t9 =>
 zac .neq false t7 t9 fun t10 =>
 zag t10
 (K (.bool false) H)
 (zah 1 t0 fun t12 =>
 zx6 t0 t1 t12 (.int .i64 0) H K)
theorem zLm {t0 t1 t12 t13 : AV} {H : zaa} {K : Kt} (Inv : Nat → AV → zaa → Prop) (n : Nat) (h0 : HSc H → Inv n t13 H)
  (round : Rd1 (fun t13 => zk4 t0 t1 t12 t13) (fun t13 => fun H Kb4 => zqr t0 t1 t12 t13 H K Kb4) H Inv) : zx6 t0 t1 t12 t13 H K :=
 lp1 (M := zk3) zLn t13 (by kernel_rfl) Inv n h0 round
theorem zLo {t0 t1 : AV} {H : zaa} {K : Kt} (h : HSc H → zx5 t0 t1 H K) : ACalls tP zh1 [t0, t1] H K :=
 zam (M := zk3) Tryz.func63 (c := zqs) (by kernel_rfl) (fun hs => Eq.mpr (by kernel_rfl) (h hs))
def zcN : Nat → List Bool
 | 10 => rl false [0,1,4,6,139]
 | 14 => rl false [0,1,4,2,1,2,57,3,80]
 | 17 => rl false [0,1,4,2,1,2,2,2,53,3,80]
 | 25 => rl false [0,1,4,2,1,2,2,4,3,1,47,3,37,3,40]
 | _ => []
noncomputable def zgX : Code := Tryz.f53.body.getD .skip
noncomputable def zxN : List ResultVar := Tryz.f53.results.toList
def zkC (t0 t5 t6 t7 t8 t9 t10 : AV) : List AV := t0 :: ux 4 (t5 :: t6 :: t7 :: t8 :: t9 :: t10 :: ux 139 [])
def zKq : List Bool := zcN 10
noncomputable def zKk : Code := zar [1, 0, 1, 0, 1, 1, 1, 1, 1, 0, 1, 1, 0, 1, 0, 0] zgX
def zKi (K : Kt) : AExit → List AV → zaa → Prop := zat tP zcN [1, 0, 1, 0, 1, 1, 1, 1, 1, 0, 1, 1, 0, 1, 0] zgX (zay tP zxN K)
def zqa (t0 t5 t6 t7 t8 t9 t10 : AV) (H : zaa) (K : Kt) : Prop := ALoop tP zKk (zKi K) (zkC t0 t5 t6 t7 t8 t9 t10) H
def zkD (t0 t5 t6 t8 t9 t67 t68 t69 : AV) : List AV := t0 :: ux 4 (t5 :: t6 :: ux 1 (t8 :: t9 :: ux 57 (t67 :: t68 :: t69 :: ux 80 [])))
def zxK : List Bool := zcN 14
noncomputable def zp7 : Code := zar [1, 0, 1, 0, 1, 1, 1, 1, 1, 0, 1, 1, 1, 0, 1, 0, 0] zgX
def zxH (K : Kt) : AExit → List AV → zaa → Prop := zat tP zcN [1, 0, 1, 0, 1, 1, 1, 1, 1, 0, 1, 1, 1, 0, 1, 0] zgX (zay tP zxN K)
def zqb (t0 t5 t6 t8 t9 t67 t68 t69 : AV) (H : zaa) (K : Kt) : Prop := ALoop tP zp7 (zxH K) (zkD t0 t5 t6 t8 t9 t67 t68 t69) H
def zgY (t0 t5 t6 t8 t9 t12 t13 t67 t68 t69 : AV) : List AV := t0 :: ux 4 (t5 :: t6 :: ux 1 (t8 :: t9 :: ux 2 (t12 :: t13 :: ux 53 (t67 :: t68 :: t69 :: ux 80 []))))
def zxL : List Bool := zcN 17
noncomputable def zp8 : Code := zar [1, 1, 0, 0, 1, 1, 0, 0] zp7
def zxI (K : Kt) (Kb14 : Lt) : AExit → List AV → zaa → Prop := zat tP zcN [1, 1, 0, 0, 1, 1, 0] zp7 (zbF zxK Kb14 (zxH K))
def zxJ (t0 t5 t6 t8 t9 t12 t13 t67 t68 t69 : AV) (H : zaa) (K : Kt) (Kb14 : Lt) : Prop := ALoop tP zp8 (zxI K Kb14) (zgY t0 t5 t6 t8 t9 t12 t13 t67 t68 t69) H
def zp9 (t0 t5 t6 t8 t9 t12 t13 t67 t68 t69 : AV) (H : zaa) (K : Kt) (Kb14 : Lt) (Kb17 : Lt) : Prop :=
 zac .sub false t13 (.int .i64 1) fun t79 =>
 Kb17 (zgY t0 t5 t6 t8 t9 t12 t79 t67 t68 t69) H
def zkF (t0 t5 t6 t8 t9 t12 t13 t67 t68 t69 : AV) (H : zaa) (K : Kt) (Kb14 : Lt) (Kb17 : Lt) : Prop :=
 zp9 t0 t5 t6 t8 t9 t12 t13 t67 t68 t69 H K Kb14 Kb17
def zkE (t0 t5 t6 t8 t9 t12 t13 t14 t15 t19 t67 t68 t69 t107 t108 t109 : AV) : List AV := t0 :: ux 4 (t5 :: t6 :: ux 1 (t8 :: t9 :: ux 2 (t12 :: t13 :: t14 :: t15 :: ux 3 (t19 :: ux 47 (t67 :: t68 :: t69 :: ux 37 (t107 :: t108 :: t109 :: ux 40 []))))))
def zKr : List Bool := zcN 25
noncomputable def zKl : Code := zar [1, 0, 0, 1, 1, 1, 1, 1, 0, 1, 0, 0] zp8
def zKj (K : Kt) (Kb14 : Lt) (Kb17 : Lt) : AExit → List AV → zaa → Prop := zat tP zcN [1, 0, 0, 1, 1, 1, 1, 1, 0, 1, 0] zp8 (zbF zxL Kb17 (zxI K Kb14))
def zkG (t0 t5 t6 t8 t9 t12 t13 t14 t15 t19 t67 t68 t69 t107 t108 t109 : AV) (H : zaa) (K : Kt) (Kb14 : Lt) (Kb17 : Lt) : Prop := ALoop tP zKl (zKj K Kb14 Kb17) (zkE t0 t5 t6 t8 t9 t12 t13 t14 t15 t19 t67 t68 t69 t107 t108 t109) H
def zp6 (t0 t5 t6 t8 t9 t12 t13 t14 t15 t19 t67 t68 t69 t107 t108 t109 : AV) (H : zaa) (K : Kt) (Kb14 : Lt) (Kb17 : Lt) (Kb25 : Lt) : Prop :=
 zac .lss false t109 t108 fun t110 =>
 zag t110
 (zaj 1 t107 t109 fun t111 =>
 zad false 1 t111 H fun t112 =>
 zaf 2 t12 fun t114 =>
 zad false 1 t114 H fun t115 =>
 zaj 3 t115 t112 fun t117 =>
 zad true 3 t117 H fun t118 =>
 zaz 3 [(.int .i64 0), (.int .i64 0), .snil] 1 [(0, t118)] fun t119 =>
 zax zbP 3 40 t19 t119 H fun t120 H =>
 zac .add false t109 (.int .i64 1) fun t121 =>
 Kb25 (zkE t0 t5 t6 t8 t9 t12 t13 t14 t15 t120 t67 t68 t69 t107 t108 t121) H)
 (zae H (fun K' => K' t9 H) fun t122 =>
 zae H (fun K' => K' t13 H) fun t123 =>
 zae H (fun K' => K' t9 H) fun t124 =>
 zae H (fun K' => K' t13 H) fun t125 =>
 zae H (fun K' => zaj 3 t124 t125 (K' · H)) fun t126 =>
 zae H (fun K' => zal true 3 t126 H (K' · H)) fun t127 =>
 zae H (fun K' => K' t9 H) fun t128 =>
 zae H (fun K' => K' t13 H) fun t129 =>
 zae H (fun K' => zac .sub false t129 (.int .i64 1) (K' · H)) fun t130 =>
 zae H (fun K' => zaj 3 t128 t130 (K' · H)) fun t131 =>
 zae H (fun K' => zal true 3 t131 H (K' · H)) fun t132 =>
 zae H (fun K' => K' t0 H) fun t133 =>
 zae H (fun K' => K' t15 H) fun t134 =>
 zae H (fun K' => zaf 1 t14 (K' · H)) fun t135 =>
 zae H (fun K' => zal false 1 t135 H (K' · H)) fun t136 =>
 zae H (fun K' => K' t19 H) fun t137 =>
 zaE H (fun H K' => ACalls tP zgu [t133, t134, t136, t137] H K') fun t138 =>
 zaE H (fun H K' => ACalls tP zfb [t132, t138] H K') fun t139 =>
 zaE H (fun H K' => ACalls tP zgh [t127, t139] H K') fun t140 =>
 zae H (fun K' => zaj 3 t122 t123 (K' · H)) fun t141 =>
 zak 3 t141 t140 H fun H =>
 zkF t0 t5 t6 t8 t9 t12 t13 t67 t68 t69 H K Kb14 Kb17)
def zkB (t0 t5 t6 t8 t9 t12 t13 t67 t68 t69 : AV) (H : zaa) (K : Kt) (Kb14 : Lt) (Kb17 : Lt) : Prop :=
 zac .gtr false t13 (.int .i64 0) fun t77 =>
 zag t77
 (zaf 1 t6 fun t80 =>
 zad false 1 t80 H fun t81 =>
 zac .sub false t13 (.int .i64 1) fun t83 =>
 zaj 2 t81 t83 fun t84 =>
 zad true 2 t84 H fun t85 =>
 zaw [(.int .i64 0), .snil] H fun t14 H =>
 zak 2 t14 t85 H fun H =>
 zaf 0 t14 fun t86 =>
 zad false 1 t86 H fun t87 =>
 zaf 1 t12 fun t88 =>
 zad false 1 t88 H fun t89 =>
 zac .neq false t87 t89 fun t90 =>
 zag t90
 (zkF t0 t5 t6 t8 t9 t12 t13 t67 t68 t69 H K Kb14 Kb17)
 (zad true 3 t5 H fun t93 =>
 zaf 0 t14 fun t94 =>
 zad false 1 t94 H fun t95 =>
 ACalls tP zie [t0, t93, t95] H fun t96 H =>
 zav t96 0 fun t97 =>
 zav t96 1 fun t98 =>
 zad true 3 t5 H fun t101 =>
 zaf 0 t14 fun t102 =>
 zad false 1 t102 H fun t103 =>
 ACalls tP znd [t0, t101, t103] H fun t104 H =>
 zav t104 0 fun t105 =>
 zav t104 1 fun t106 =>
 zah 1 t105 fun t108 =>
 zkG t0 t5 t6 t8 t9 t12 t13 t14 t97 .snil t67 t68 t69 t105 t108 (.int .i64 0) H K Kb14 Kb17))
 (zac .add false t69 (.int .i64 1) fun t142 =>
 Kb14 (zkD t0 t5 t6 t8 t9 t67 t68 t142) H)
def zp5 (t0 t5 t6 t8 t9 t67 t68 t69 : AV) (H : zaa) (K : Kt) (Kb14 : Lt) : Prop :=
 zac .lss false t69 t68 fun t70 =>
 zag t70
 (zaj 3 t67 t69 fun t71 =>
 zad true 3 t71 H fun t72 =>
 zaw [(.int .i64 0), (.int .i64 0), .snil] H fun t12 H =>
 zak 3 t12 t72 H fun H =>
 zaf 1 t6 fun t73 =>
 zad false 1 t73 H fun t74 =>
 zah 1 t74 fun t75 =>
 zxJ t0 t5 t6 t8 t9 t12 t75 t67 t68 t69 H K Kb14)
 (zaf 1 t6 fun t144 =>
 zad false 1 t144 H fun t145 =>
 zah 1 t145 fun t146 =>
 zaj 3 t9 t146 fun t147 =>
 zad true 3 t147 H fun t148 =>
 zak 3 t8 t148 H fun H =>
 zad true 3 t8 H fun r0 =>
 K r0 H)
def zp4 (t0 t5 t6 t7 t8 t9 t10 : AV) (H : zaa) (K : Kt) (Kb10 : Lt) : Prop :=
 zah 1 t9 fun t55 =>
 zac .lss false t10 t55 fun t56 =>
 zag t56
 (ACalls tP zcu [(.int .i64 0)] H fun t61 H =>
 zaj 3 t9 t10 fun t62 =>
 zak 3 t62 t61 H fun H =>
 zac .add false t10 (.int .i64 1) fun t58 =>
 Kb10 (zkC t0 t5 t6 t7 t8 t9 t58) H)
 (zad true 3 t7 H fun t64 =>
 zaf 1 t5 fun t65 =>
 zad false 1 t65 H fun t66 =>
 ACalls tP znc [t0, t64, t66] H fun t67 H =>
 zah 1 t67 fun t68 =>
 zqb t0 t5 t6 t8 t9 t67 t68 (.int .i64 0) H K)
def zgW (t0 t1 t2 t3 : AV) (H : zaa) (K : Kt) : Prop :=
 zap t1 H fun t5 H =>
 zap t2 H fun t6 H =>
 zap t3 H fun t7 H =>
 zaw [(.bool false), .snil, .snil] H fun t8 H =>
 zaf 0 t5 fun t22 =>
 zad false 1 t22 H fun t23 =>
 zac .eql false t23 (.int .i64 6) fun t25 =>
 zag t25
 (zaf 2 t5 fun t27 =>
 zad false 1 t27 H fun t28 =>
 zaf 1 t6 fun t29 =>
 zad false 1 t29 H fun t30 =>
 zaf 2 t7 fun t31 =>
 zad false 1 t31 H fun t32 =>
 ACalls tP zgu [t0, t28, t30, t32] H fun t33 H =>
 zak 3 t8 t33 H fun H =>
 zad true 3 t8 H fun r0 =>
 K r0 H)
 (zac .eql false t23 (.int .i64 7) fun t35 =>
 zag t35
 (zae H (fun K' => zaf 2 t7 (K' · H)) fun t36 =>
 zae H (fun K' => zal false 1 t36 H (K' · H)) fun t37 =>
 zae H (fun K' => zah 1 t37 (K' · H)) fun t38 =>
 zaE H (fun H K' => ACalls tP zcu [t38] H K') fun t39 =>
 zae H (fun K' => zaf 0 t6 (K' · H)) fun t40 =>
 zae H (fun K' => zal false 1 t40 H (K' · H)) fun t41 =>
 zaE H (fun H K' => ACalls tP znb [t39, t41] H K') fun t42 =>
 zak 3 t8 t42 H fun H =>
 zad true 3 t8 H fun r0 =>
 K r0 H)
 (zac .eql false t23 (.int .i64 5) fun t44 =>
 zag t44
 (zaf 1 t6 fun t45 =>
 zad false 1 t45 H fun t46 =>
 zah 1 t46 fun t47 =>
 zac .add false t47 (.int .i64 1) fun t48 =>
 zbe 56 [(.bool false), .snil, .snil] t48 t48 H fun t49 H =>
 ACalls tP zcu [(.int .i64 1)] H fun t51 H =>
 zaj 3 t49 (.int .i64 0) fun t52 =>
 zak 3 t52 t51 H fun H =>
 zqa t0 t5 t6 t7 t8 t49 (.int .i64 1) H K)
 (ACalls tP zcu [(.int .i64 1)] H fun t149 H =>
 zak 3 t8 t149 H fun H =>
 zad true 3 t8 H fun r0 =>
 K r0 H)))
theorem zKp {t0 t5 t6 t8 t9 t12 t13 t14 t15 t19 t67 t68 t69 t107 t108 t109 : AV} {H : zaa} {K : Kt} {Kb14 : Lt} {Kb17 : Lt} (Inv : Nat → AV → AV → zaa → Prop) (n : Nat) (h0 : HSc H → Inv n t19 t109 H)
  (round : Rd2 (fun t19 => fun t109 => zkE t0 t5 t6 t8 t9 t12 t13 t14 t15 t19 t67 t68 t69 t107 t108 t109) (fun t19 => fun t109 => fun H Kb25 => zp6 t0 t5 t6 t8 t9 t12 t13 t14 t15 t19 t67 t68 t69 t107 t108 t109 H K Kb14 Kb17 Kb25) H Inv) : zkG t0 t5 t6 t8 t9 t12 t13 t14 t15 t19 t67 t68 t69 t107 t108 t109 H K Kb14 Kb17 :=
 lp2 (M := zcN) zKr t19 t109 (by kernel_rfl) Inv n h0 round
theorem zKo {t0 t5 t6 t8 t9 t12 t13 t67 t68 t69 : AV} {H : zaa} {K : Kt} {Kb14 : Lt} (Inv : Nat → AV → zaa → Prop) (n : Nat) (h0 : HSc H → Inv n t13 H)
  (round : Rd1 (fun t13 => zgY t0 t5 t6 t8 t9 t12 t13 t67 t68 t69) (fun t13 => fun H Kb17 => zkB t0 t5 t6 t8 t9 t12 t13 t67 t68 t69 H K Kb14 Kb17) H Inv) : zxJ t0 t5 t6 t8 t9 t12 t13 t67 t68 t69 H K Kb14 :=
 lp1 (M := zcN) zxL t13 (by kernel_rfl) Inv n h0 round
theorem zKn {t0 t5 t6 t8 t9 t67 t68 t69 : AV} {H : zaa} {K : Kt} (Inv : Nat → AV → zaa → Prop) (n : Nat) (h0 : HSc H → Inv n t69 H)
  (round : Rd1 (fun t69 => zkD t0 t5 t6 t8 t9 t67 t68 t69) (fun t69 => fun H Kb14 => zp5 t0 t5 t6 t8 t9 t67 t68 t69 H K Kb14) H Inv) : zqb t0 t5 t6 t8 t9 t67 t68 t69 H K :=
 lp1 (M := zcN) zxK t69 (by kernel_rfl) Inv n h0 round
theorem zKm {t0 t5 t6 t7 t8 t9 t10 : AV} {H : zaa} {K : Kt} (Inv : Nat → AV → zaa → Prop) (n : Nat) (h0 : HSc H → Inv n t10 H)
  (round : Rd1 (fun t10 => zkC t0 t5 t6 t7 t8 t9 t10) (fun t10 => fun H Kb10 => zp4 t0 t5 t6 t7 t8 t9 t10 H K Kb10) H Inv) : zqa t0 t5 t6 t7 t8 t9 t10 H K :=
 lp1 (M := zcN) zKq t10 (by kernel_rfl) Inv n h0 round
theorem zxM {t0 t1 t2 t3 : AV} {H : zaa} {K : Kt} (h : HSc H → zgW t0 t1 t2 t3 H K) : ACalls tP zfe [t0, t1, t2, t3] H K :=
 zam (M := zcN) Tryz.func53 (c := zgX) (by kernel_rfl) (fun hs => Eq.mpr (by kernel_rfl) (h hs))
def zlA : Nat → List Bool
 | 3 => rl false [0,4,4,2,3,2,20]
 | _ => []
noncomputable def zq5 : Code := Tryz.f97.body.getD .skip
noncomputable def zNm : List ResultVar := Tryz.f97.results.toList
def zlB (t0 t1 t2 t3 t8 t9 t13 t14 : AV) : List AV := t0 :: t1 :: t2 :: t3 :: ux 4 (t8 :: t9 :: ux 3 (t13 :: t14 :: ux 20 []))
def zNk : List Bool := zlA 3
noncomputable def zNi : Code := zar [1, 1, 0, 1, 0, 0] zq5
def zNh (K : Kt) : AExit → List AV → zaa → Prop := zat tP zlA [1, 1, 0, 1, 0] zq5 (zay tP zNm K)
def zyE (t0 t1 t2 t3 t8 t9 t13 t14 : AV) (H : zaa) (K : Kt) : Prop := ALoop tP zNi (zNh K) (zlB t0 t1 t2 t3 t8 t9 t13 t14) H
def zq4 (t0 t1 t2 t3 t8 t9 t13 t14 : AV) (H : zaa) (K : Kt) (Kb3 : Lt) : Prop :=
 zac .lss false t14 t13 fun t15 =>
 zag t15
 (zae H (fun K' => zal true 3 t9 H (K' · H)) fun t17 =>
 zae H (fun K' => K' t0 H) fun t18 =>
 zae H (fun K' => K' t1 H) fun t19 =>
 zae H (fun K' => K' t14 H) fun t20 =>
 zae H (fun K' => zaj 3 t19 t20 (K' · H)) fun t21 =>
 zae H (fun K' => zal true 3 t21 H (K' · H)) fun t22 =>
 zae H (fun K' => K' t2 H) fun t23 =>
 zae H (fun K' => K' t14 H) fun t24 =>
 zae H (fun K' => zaj 2 t23 t24 (K' · H)) fun t25 =>
 zae H (fun K' => zal true 2 t25 H (K' · H)) fun t26 =>
 zae H (fun K' => K' t3 H) fun t27 =>
 zae H (fun K' => K' t14 H) fun t28 =>
 zae H (fun K' => zaj 3 t27 t28 (K' · H)) fun t29 =>
 zae H (fun K' => zal true 3 t29 H (K' · H)) fun t30 =>
 zaE H (fun H K' => ACalls tP zfe [t18, t22, t26, t30] H K') fun t31 =>
 zaE H (fun H K' => ACalls tP zfb [t17, t31] H K') fun t32 =>
 zak 3 t9 t32 H fun H =>
 zac .add false t14 (.int .i64 1) fun t33 =>
 Kb3 (zlB t0 t1 t2 t3 t8 t9 t13 t33) H)
 (zad true 3 t9 H fun t34 =>
 zak 3 t8 t34 H fun H =>
 zad true 3 t8 H fun r0 =>
 K r0 H)
def zyD (t0 t1 t2 t3 : AV) (H : zaa) (K : Kt) : Prop :=
 zaw [(.bool false), .snil, .snil] H fun t8 H =>
 ACalls tP zcu [(.int .i64 1)] H fun t11 H =>
 zaw [(.bool false), .snil, .snil] H fun t9 H =>
 zak 3 t9 t11 H fun H =>
 zah 1 t1 fun t13 =>
 zyE t0 t1 t2 t3 t8 t9 t13 (.int .i64 0) H K
theorem zNj {t0 t1 t2 t3 t8 t9 t13 t14 : AV} {H : zaa} {K : Kt} (Inv : Nat → AV → zaa → Prop) (n : Nat) (h0 : HSc H → Inv n t14 H)
  (round : Rd1 (fun t14 => zlB t0 t1 t2 t3 t8 t9 t13 t14) (fun t14 => fun H Kb3 => zq4 t0 t1 t2 t3 t8 t9 t13 t14 H K Kb3) H Inv) : zyE t0 t1 t2 t3 t8 t9 t13 t14 H K :=
 lp1 (M := zlA) zNk t14 (by kernel_rfl) Inv n h0 round
theorem zNl {t0 t1 t2 t3 : AV} {H : zaa} {K : Kt} (h : HSc H → zyD t0 t1 t2 t3 H K) : ACalls tP zgu [t0, t1, t2, t3] H K :=
 zam (M := zlA) Tryz.func97 (c := zq5) (by kernel_rfl) (fun hs => Eq.mpr (by kernel_rfl) (h hs))
def zNn (_ : Nat) : List Bool := []
noncomputable def zNo : Code := Tryz.f98.body.getD .skip
def zq6 (t1 t2 t4 : AV) (H : zaa) (K : Kt) : Prop :=
 zad true 3 t2 H fun t9 =>
 ACalls tP zmy [t9, t1] H fun t11 H =>
 zak 3 t4 t11 H fun H =>
 zad true 3 t4 H fun r0 =>
 K r0 H
def zyG (t0 t1 : AV) (H : zaa) (K : Kt) : Prop :=
 zap t0 H fun t2 H =>
 zaw [(.bool false), .snil, .snil] H fun t4 H =>
 zad true 3 t2 H fun t5 =>
 ACalls tP zm6 [t5] H fun t6 H =>
 zac .lss false t6 (.int .i64 0) fun t7 =>
 zag t7
 (ACalls tP zcu [(.int .i64 0)] H fun t8 H =>
 zak 3 t2 t8 H fun H =>
 zq6 t1 t2 t4 H K)
 (zq6 t1 t2 t4 H K)
theorem zNp {t0 t1 : AV} {H : zaa} {K : Kt} (h : HSc H → zyG t0 t1 H K) : ACalls tP znb [t0, t1] H K :=
 zam (M := zNn) Tryz.func98 (c := zNo) (by kernel_rfl) (fun hs => Eq.mpr (by kernel_rfl) (h hs))
def zi8 : Nat → List Bool
 | 3 => rl false [1,2,1,3,21]
 | _ => []
noncomputable def zop : Code := Tryz.f143.body.getD .skip
noncomputable def zEj : List ResultVar := Tryz.f143.results.toList
def zi9 (t1 t2 t4 t5 t6 : AV) : List AV := ux 1 (t1 :: t2 :: ux 1 (t4 :: t5 :: t6 :: ux 21 []))
def zEh : List Bool := zi8 3
noncomputable def zEf : Code := zar [1, 1, 0, 1, 0, 0] zop
def zEe (K : Kt) : AExit → List AV → zaa → Prop := zat tP zi8 [1, 1, 0, 1, 0] zop (zay tP zEj K)
def zvj (t1 t2 t4 t5 t6 : AV) (H : zaa) (K : Kt) : Prop := ALoop tP zEf (zEe K) (zi9 t1 t2 t4 t5 t6) H
def zoo (t1 t2 t4 t5 t6 : AV) (H : zaa) (K : Kt) (Kb3 : Lt) : Prop :=
 zac .lss false t6 t1 fun t10 =>
 zag t10
 (zae H (fun K' => zal true 3 t5 H (K' · H)) fun t13 =>
 zae H (fun K' => zal true 3 t2 H (K' · H)) fun t14 =>
 zae H (fun K' => K' t6 H) fun t15 =>
 zaE H (fun H K' => ACalls tP zcu [t15] H K') fun t16 =>
 zaE H (fun H K' => ACalls tP zm7 [t14, t16] H K') fun t17 =>
 zaE H (fun H K' => ACalls tP zfb [t13, t17] H K') fun t18 =>
 zak 3 t5 t18 H fun H =>
 zae H (fun K' => zal true 3 t5 H (K' · H)) fun t20 =>
 zae H (fun K' => K' t6 H) fun t21 =>
 zae H (fun K' => zac .add false t21 (.int .i64 1) (K' · H)) fun t22 =>
 zaE H (fun H K' => ACalls tP zcu [t22] H K') fun t23 =>
 zaE H (fun H K' => ACalls tP zmA [t20, t23] H K') fun t24 =>
 zae H (fun K' => K' t24 H) fun t19 =>
 zae H (fun K' => zav t19 0 (K' · H)) fun t25 =>
 zae H (fun K' => zav t19 1 (K' · H)) fun t26 =>
 zak 3 t5 t25 H fun H =>
 zac .add false t6 (.int .i64 1) fun t12 =>
 Kb3 (zi9 t1 t2 t4 t5 t12) H)
 (zad true 3 t5 H fun t27 =>
 zak 3 t4 t27 H fun H =>
 zad true 3 t4 H fun r0 =>
 K r0 H)
def zvi (t0 t1 : AV) (H : zaa) (K : Kt) : Prop :=
 zap t0 H fun t2 H =>
 zaw [(.bool false), .snil, .snil] H fun t4 H =>
 ACalls tP zcu [(.int .i64 1)] H fun t7 H =>
 zaw [(.bool false), .snil, .snil] H fun t5 H =>
 zak 3 t5 t7 H fun H =>
 zvj t1 t2 t4 t5 (.int .i64 0) H K
theorem zEg {t1 t2 t4 t5 t6 : AV} {H : zaa} {K : Kt} (Inv : Nat → AV → zaa → Prop) (n : Nat) (h0 : HSc H → Inv n t6 H)
  (round : Rd1 (fun t6 => zi9 t1 t2 t4 t5 t6) (fun t6 => fun H Kb3 => zoo t1 t2 t4 t5 t6 H K Kb3) H Inv) : zvj t1 t2 t4 t5 t6 H K :=
 lp1 (M := zi8) zEh t6 (by kernel_rfl) Inv n h0 round
theorem zEi {t0 t1 : AV} {H : zaa} {K : Kt} (h : HSc H → zvi t0 t1 H K) : ACalls tP zmy [t0, t1] H K :=
 zam (M := zi8) Tryz.func143 (c := zop) (by kernel_rfl) (fun hs => Eq.mpr (by kernel_rfl) (h hs))
def zNr (_ : Nat) : List Bool := []
noncomputable def zNs : Code := Tryz.f99.body.getD .skip
def zyH (t0 t1 t2 : AV) (H : zaa) (K : Kt) : Prop :=
 zap t1 H fun t4 H =>
 zad true 3 t4 H fun t8 =>
 ACalls tP zh4 [t0, t8, t2, .snil] H fun t10 H =>
 K t10 H
theorem zNt {t0 t1 t2 : AV} {H : zaa} {K : Kt} (h : HSc H → zyH t0 t1 t2 H K) : ACalls tP znc [t0, t1, t2] H K :=
 zam (M := zNr) Tryz.func99 (c := zNs) (by kernel_rfl) (fun hs => Eq.mpr (by kernel_rfl) (h hs))
def zld : Nat → List Bool
 | 4 => rl false [0,1,1,2,1,1,3,1,11,2,17]
 | _ => []
noncomputable def zqE : Code := Tryz.f80.body.getD .skip
noncomputable def zL3 : List ResultVar := Tryz.f80.results.toList
def zg3 (t0 t2 t3 t5 t9 t21 t22 : AV) : List AV := t0 :: ux 1 (t2 :: t3 :: ux 1 (t5 :: ux 3 (t9 :: ux 11 (t21 :: t22 :: ux 17 []))))
def zL1 : List Bool := zld 4
noncomputable def zLZ : Code := zar [1, 1, 1, 0, 1, 0, 0] zqE
def zLY (K : Kt) : AExit → List AV → zaa → Prop := zat tP zld [1, 1, 1, 0, 1, 0] zqE (zay tP zL3 K)
def zyk (t0 t2 t3 t5 t9 t21 t22 : AV) (H : zaa) (K : Kt) : Prop := ALoop tP zLZ (zLY K) (zg3 t0 t2 t3 t5 t9 t21 t22) H
def zqF (t0 t2 t3 t5 t9 t21 t22 : AV) (H : zaa) (K : Kt) (Kb4 : Lt) : Prop :=
 zac .add false t22 (.int .i64 1) fun t38 =>
 Kb4 (zg3 t0 t2 t3 t5 t9 t21 t38) H
def zle (t0 t2 t3 t5 t9 t21 t22 : AV) (H : zaa) (K : Kt) (Kb4 : Lt) : Prop :=
 zqF t0 t2 t3 t5 t9 t21 t22 H K Kb4
def zqD (t0 t2 t3 t5 t9 t21 t22 : AV) (H : zaa) (K : Kt) (Kb4 : Lt) : Prop :=
 zac .lss false t22 t21 fun t23 =>
 zag t23
 (zaj 1 t9 t22 fun t27 =>
 zad false 1 t27 H fun t28 =>
 zag t28
 (zaf 2 t5 fun t30 =>
 zad false 1 t30 H fun t31 =>
 zaj 3 t31 t22 fun t33 =>
 zad true 3 t33 H fun t34 =>
 ACalls tP zh4 [t0, t34, t2, t3] H fun t37 H =>
 zle t0 t2 t37 t5 t9 t21 t22 H K Kb4)
 (zle t0 t2 t3 t5 t9 t21 t22 H K Kb4))
 (K t3 H)
def zyj (t0 t1 t2 t3 : AV) (H : zaa) (K : Kt) : Prop :=
 zap t1 H fun t5 H =>
 zad true 3 t5 H fun t12 =>
 zaz 3 [(.int .i64 0), (.int .i64 0), .snil] 1 [(0, t12)] fun t13 =>
 zax zbP 3 40 t3 t13 H fun t14 H =>
 zaf 1 t5 fun t17 =>
 zad false 1 t17 H fun t18 =>
 ACalls tP zd5 [t0, t2, t18] H fun t19 H =>
 zah 1 t19 fun t21 =>
 zyk t0 t2 t14 t5 t19 t21 (.int .i64 0) H K
theorem zL0 {t0 t2 t3 t5 t9 t21 t22 : AV} {H : zaa} {K : Kt} (Inv : Nat → AV → AV → zaa → Prop) (n : Nat) (h0 : HSc H → Inv n t3 t22 H)
  (round : Rd2 (fun t3 => fun t22 => zg3 t0 t2 t3 t5 t9 t21 t22) (fun t3 => fun t22 => fun H Kb4 => zqD t0 t2 t3 t5 t9 t21 t22 H K Kb4) H Inv) : zyk t0 t2 t3 t5 t9 t21 t22 H K :=
 lp2 (M := zld) zL1 t3 t22 (by kernel_rfl) Inv n h0 round
theorem zL2 {t0 t1 t2 t3 : AV} {H : zaa} {K : Kt} (h : HSc H → zyj t0 t1 t2 t3 H K) : ACalls tP zh4 [t0, t1, t2, t3] H K :=
 zam (M := zld) Tryz.func80 (c := zqE) (by kernel_rfl) (fun hs => Eq.mpr (by kernel_rfl) (h hs))
end Go.Proofs.YtjkkonpjecoieaaGreat
namespace Go.Abs
def chs : Nat → Nat → Nat
 | _, 0 => 1
 | 0, _ + 1 => 0
 | n + 1, k + 1 => chs n k + chs n (k + 1)
@[simp] theorem zzx (n : Nat) : chs n 0 = 1 := by cases n <;> rfl
theorem zfR : ∀ {n k : Nat}, n < k → chs n k = 0
 | 0, k + 1, _ => rfl
 | n + 1, k + 1, h => by rw [chs, zfR (by omega), zfR (by omega)]
theorem zhk : ∀ (n k : Nat), (k + 1) * chs n (k + 1) = chs n k * (n - k)
 | 0, k => by simp [chs]
 | n + 1, 0 => by
  have := zhk n 0
  simp only [chs, zzx] at this ⊢
  omega
 | n + 1, k + 1 => by
  have h1 := zhk n k
  have h2 := zhk n (k + 1)
  simp only [chs]
  rw [show n + 1 - (k + 1) = n - k by omega]
  by_cases hk : k + 1 ≤ n
  ·obtain ⟨m, rfl⟩ : ∃ m, n = k + 1 + m := ⟨n - (k + 1), by omega⟩
   rw [show k + 1 + m - k = m + 1 by omega] at h1 ⊢
   rw [show k + 1 + m - (k + 1) = m by omega] at h2
   grind
  ·rw [zfR (show n < k + 1 by omega), zfR (show n < k + 1 + 1 by omega), show n - k = 0 by omega]
   simp
theorem zhj : ∀ (n k : Nat), chs n k ≤ n ^ k
 | n, 0 => by simp
 | 0, k + 1 => by simp [chs]
 | n + 1, k + 1 => by
  have h1 := zhj n k
  have h2 := zhj n (k + 1)
  have h3 : n ^ k ≤ (n + 1) ^ k := Nat.pow_le_pow_left (by omega) k
  simp only [chs, Nat.pow_succ] at h2 ⊢
  have h4 : n ^ k * n ≤ (n + 1) ^ k * n := Nat.mul_le_mul_right _ h3
  rw [Nat.mul_add]
  omega
end Go.Abs
namespace Go.Proofs.YtjkkonpjecoieaaGreat
open Go Go.Abs
set_option maxRecDepth 8000
theorem zx7 (L : List Nat) (hL : L.length ≤ 1000) (H : zaa) (K : Kt) (hK : K (.bool true) H) : ACalls tP zh1 [.sl (zaq L) .none, .sl (zaq L) .none] H K := by
 refine ACalls.out (zLo fun hs => ?_)
 simp [zx5]
 refine zLm (Inv := fun q t13 H' => ∃ i : Nat, i ≤ L.length ∧ L.length - i = q ∧ t13 = .int .i64 i ∧ H' = H) L.length ?_ ?_
 ·intro _; exact ⟨0, by omega, rfl, rfl, rfl⟩
 ·rintro q t13 H' ⟨i, hi, rfl, rfl, rfl⟩ hsc' hlen hsF Kb hKb
  by_cases hlt : i < L.length
  ·simp [zqr, hlt, wi i (by omega)]
   exact hKb _ _ ⟨L.length - (i + 1), by omega, Back.here (by simp) hs (by simp [zk4, ux, AV.sc, AV.scA, AV.scB, AV.scV]) ⟨_, rfl, i + 1, by omega, rfl, rfl, rfl⟩⟩
  ·simp [zqr, hlt]
   exact Out.bool (J := []) (by simp) (Nat.le_refl _) hs hK
theorem zHO (z : Int) (hz : Sm z) (H : zaa) (K : Kt) (hK : K (.bool true) H) : ACalls tP zmR [.agg (zan z), .agg (zan z)] H K := by
 refine ACalls.out (zHN fun hs => ?_)
 have := hz.len
 simp [zwJ, zan, Nat.add_assoc]
 refine zx7 _ (by omega) _ _ ?_
 simp [Nat.add_assoc]
 refine zx7 _ (by simp) _ _ ?_
 exact Out.bool rfl (Nat.le_refl _) hs hK
end Go.Proofs.YtjkkonpjecoieaaGreat
namespace Go.Proofs.YtjkkonpjecoieaaGreat
open Go Go.Abs
set_option maxRecDepth 8000
theorem znD {n : Nat} (h : n < 1000000000 ^ 30) : Sm (n : Int) := by unfold Sm; rw [Int.natAbs_natCast]; exact h
theorem zrS {n k : Nat} (hn : n ≤ 1000000) (hk : k ≤ 40) : chs n k ≤ 1000000 ^ 40 := by
 refine Nat.le_trans (zhj n k) ?_
 by_cases h0 : n = 0
 ·subst h0
  by_cases hk0 : k = 0
  ·subst hk0; simp
  ·rw [Nat.zero_pow (by omega)]; omega
 ·exact Nat.le_trans (Nat.pow_le_pow_left hn k) (Nat.pow_le_pow_right (by omega) hk)
@[simp] theorem zQS (z : Int) : List.take 3 (zan z) = zan z := rfl
@[simp] theorem zQR (z : Int) : List.drop 3 (zan z) = [] := rfl
@[simp] theorem znl (z : Int) : (∀ x ∈ zan z, x.known = true) = True := by simp [zan, AV.known]
theorem zEk (n k : Nat) (hn : n ≤ 1000000) (hk : k ≤ 40) (H : zaa) (K : Kt) (hK : K (.agg (zan (chs n k))) H) :
  ACalls tP zmy [.agg (zan n), .int .i64 k] H K := by
 refine ACalls.out (zEi fun hs => ?_)
 have hS : ∀ m : Nat, m ≤ 1000000 ^ 41 → Sm (m : Int) := fun m hm => znD (Nat.lt_of_le_of_lt hm (by decide))
 simp [zvi, Nat.add_assoc]
 refine zdp 1 (by omega) _ _ ?_
 simp [Nat.add_assoc]
 have hsc : ∀ z : Int, HSc (H ++ [.cells (zan n), .cells [.bool false, .snil, .snil], .cells (zan z)]) := fun z => hs.append (by simp [AB.sc, zan, AV.scA, AV.scB])
 refine zEg (Inv := fun q t6 H' => ∃ i : Nat, i ≤ k ∧ k - i = q ∧ t6 = .int .i64 i ∧ H' = H ++ [.cells (zan n), .cells [.bool false, .snil, .snil], .cells (zan ((chs n i : Nat) : Int))]) k ?_ ?_
 ·intro _; exact ⟨0, by omega, rfl, rfl, by simp⟩
 ·rintro q t6 H' ⟨i, hi, rfl, rfl, rfl⟩ hsc' hlen hsF Kb hKb
  by_cases hlt : i < k
  ·have hci := zrS (n := n) (k := i) hn (by omega)
   have hci1 := zrS (n := n) (k := i + 1) hn (by omega)
   have hstep := zhk n i
   obtain ⟨m, hm0⟩ : ∃ m, m = chs n (i + 1) * (i + 1) := ⟨_, rfl⟩
   have hmb : m ≤ 1000000 ^ 41 := by
    rw [hm0]
    calc _ ≤ 1000000 ^ 40 * 1000000 := Nat.mul_le_mul hci1 (by omega)
     _ = 1000000 ^ 41 := (Nat.pow_succ ..).symm
   have hm : ((chs n i : Nat) : Int) * ((n : Int) - (i : Int)) = (m : Int) := by
    rw [hm0, Nat.mul_comm, hstep]
    by_cases h : i ≤ n
    ·rw [Int.natCast_mul, Int.natCast_sub h]
    ·rw [zfR (by omega)]; simp
   simp [zoo, hlt, Nat.add_assoc, wi i (by omega)]
   refine zaF (.agg (zan i)) (fun J => zdp i (by omega) _ _ ⟨rfl, rfl⟩) ?_
   refine zaF (.agg (zan ((n : Int) - i))) (fun J => zLx n i (hS _ (by omega)) (hS _ (by omega)) _ _ ⟨rfl, rfl⟩) ?_
   refine zaF (.agg (zan (m : Int))) (fun J => zjP _ _ (hS _ (by omega)) (by
    have : ((n : Int) - i).natAbs ≤ 1000000 := by omega
    exact Nat.lt_of_le_of_lt this (by decide)) _ _ ⟨by rw [hm], rfl⟩) ?_
   simp [Nat.add_assoc]
   refine zaF (.agg (zan ((i + 1 : Nat) : Int))) (fun J => zdp (i + 1) (by omega) _ _ ⟨rfl, rfl⟩) ?_
   refine zaF (.tup [.agg (zan ((chs n (i + 1) : Nat) : Int)), .bool true]) (fun J => by
    rw [hm0]
    exact zEB (chs n (i + 1)) (i + 1) (by rw [← hm0]; exact Nat.lt_of_le_of_lt hmb (by decide)) (by omega) (by omega) _ _ ⟨rfl, rfl⟩) ?_
   simp [Nat.add_assoc]
   exact hKb _ _ ⟨k - (i + 1), by omega, Back.here (by simp) (hsc _) (by simp [zi9, ux, AV.sc, AV.scA, AV.scB, AV.scV]) ⟨_, rfl, i + 1, by omega, rfl, rfl, rfl⟩⟩
  ·obtain rfl : i = k := by omega
   simp [zoo, Nat.add_assoc]
   exact zcl hs hK
theorem zNq (n k : Nat) (hn : n ≤ 1000000) (hk : k ≤ 40) (H : zaa) (K : Kt) (hK : K (.agg (zan (chs n k))) H) :
  ACalls tP znb [.agg (zan n), .int .i64 k] H K := by
 refine ACalls.out (zNp fun hs => ?_)
 simp [zyG, Nat.add_assoc]
 refine zLt n (znD (Nat.lt_of_le_of_lt hn (by decide))) _ _ ?_
 have h0 : ¬ ((n : Int).sign < 0) := by
  by_cases h : n = 0
  ·subst h; decide
  ·rw [Int.sign_eq_one_of_pos (by omega)]; decide
 simp [h0, Nat.add_assoc, zq6]
 refine zEk n k hn hk _ _ ?_
 simp [Nat.add_assoc]
 exact zcl hs hK
end Go.Proofs.YtjkkonpjecoieaaGreat
namespace Go.Abs
open Go

inductive VT where
 | mk (kind num : Int) (kids : List VT)

mutual
def VT.cs : VT → List AV
 | .mk k n ks => [.int .i64 k, .int .i64 n, .sl (VT.css ks) .none]
def VT.css : List VT → List (List AV)
 | [] => []
 | v :: vs => VT.cs v :: VT.css vs
end
mutual
def VT.nodes : VT → Nat
 | .mk _ _ ks => VT.nodesL ks + 1
def VT.nodesL : List VT → Nat
 | [] => 0
 | v :: vs => VT.nodes v + VT.nodesL vs
end
theorem VT.css_map : ∀ ks : List VT, VT.css ks = ks.map VT.cs
 | [] => rfl
 | v :: vs => by simp [VT.css, VT.css_map vs]
theorem VT.nodes_pos : ∀ v : VT, 0 < v.nodes
 | .mk _ _ _ => by simp [VT.nodes]
theorem VT.nodesL_app : ∀ (a b : List VT), VT.nodesL (a ++ b) = VT.nodesL a + VT.nodesL b
 | [], b => by simp [VT.nodesL]
 | v :: a, b => by simp [VT.nodesL, VT.nodesL_app a b]; omega
@[simp] theorem VT.cs_len (v : VT) : v.cs.length = 3 := by cases v; simp [VT.cs]
@[simp] theorem VT.css_len (ks : List VT) : (VT.css ks).length = ks.length := by simp [VT.css_map]
@[simp] theorem VT.cs_take (v : VT) : v.cs.take 3 = v.cs := by cases v; simp [VT.cs]
@[simp] theorem VT.cs_known (v : VT) : v.cs.all AV.known = true := by cases v; simp [VT.cs, AV.known]
@[simp] theorem VT.cs_scA (v : VT) (n : Nat) : v.cs.all (AV.scA n) = true := by cases v; simp [VT.cs, AV.scA, AV.scB]
@[simp] theorem VT.css_at {ks : List VT} {i : Nat} (h : i < ks.length) : (VT.css ks)[i]?.getD [] = (ks[i]).cs := by simp [VT.css_map, h]
@[simp] theorem VT.css_get {ks : List VT} {i : Nat} (h : i < (VT.css ks).length) : (VT.css ks)[i] = (ks[i]'(by simpa using h)).cs := by simp [VT.css_map]
theorem VT.css_getD {ks : List VT} {i : Nat} (h : i < ks.length) : (VT.css ks).getD i [] = (ks[i]).cs := by simp [VT.css_map, List.getD_eq_getElem?_getD, h]
theorem VT.kid_lt {k n : Int} {ks : List VT} {i : Nat} (h : i < ks.length) : (ks[i]).nodes < (VT.mk k n ks).nodes := by
 have h1 : VT.nodesL ks = VT.nodesL (ks.take i) + ((ks[i]).nodes + VT.nodesL (ks.drop (i + 1))) := by
  conv => lhs; rw [← List.take_append_drop i ks, VT.nodesL_app, List.drop_eq_getElem_cons h]
  rw [VT.nodesL]
 simp only [VT.nodes]
 omega
theorem VT.len_le : ∀ ks : List VT, ks.length ≤ VT.nodesL ks
 | [] => by simp
 | v :: vs => by have := VT.len_le vs; have := v.nodes_pos; simp [VT.nodesL]; omega
theorem VT.nodesL_take {ks : List VT} {i : Nat} (h : i < ks.length) : VT.nodesL (ks.take (i + 1)) = VT.nodesL (ks.take i) + (ks[i]).nodes := by
 rw [List.take_succ_eq_append_getElem h, VT.nodesL_app]; simp [VT.nodesL]
theorem VT.nodesL_take_le (ks : List VT) (i : Nat) : VT.nodesL (ks.take i) ≤ VT.nodesL ks := by
 conv => rhs; rw [← List.take_append_drop i ks, VT.nodesL_app]
 omega
def VT.leaf (k : Int) : Bool := k == 6 || k == 7 || k == 8
mutual
def VT.size : VT → Nat
 | .mk k _ ks => if VT.leaf k = true then 1 else VT.sizeL ks + 1
def VT.sizeL : List VT → Nat
 | [] => 0
 | v :: vs => VT.size v + VT.sizeL vs
end
mutual
theorem VT.size_le : ∀ v : VT, v.size ≤ v.nodes
 | .mk k n ks => by
  have := VT.sizeL_le ks
  simp only [VT.size, VT.nodes]
  split <;> omega
theorem VT.sizeL_le : ∀ ks : List VT, VT.sizeL ks ≤ VT.nodesL ks
 | [] => by simp [VT.sizeL, VT.nodesL]
 | v :: vs => by have := VT.size_le v; have := VT.sizeL_le vs; simp only [VT.sizeL, VT.nodesL]; omega
end
/- The guard on a value's nodes: what is left of a number behind it, and whether it was enough. -/
mutual
def VT.val : VT → Int → Bool × Int
 | .mk _ _ ks, n => if n - 1 < 0 then (false, n - 1) else VT.valL ks (n - 1)
def VT.valL : List VT → Int → Bool × Int
 | [], n => (true, n)
 | v :: vs, n => match VT.val v n with
  | (true, m) => VT.valL vs m
  | (false, m) => (false, m)
end
mutual
theorem VT.val_spec : ∀ (v : VT) (n : Int), 0 ≤ n → ((VT.val v n).1 = true → (VT.val v n).2 = n - v.nodes ∧ 0 ≤ (VT.val v n).2) ∧ -1 ≤ (VT.val v n).2 ∧ (VT.val v n).2 ≤ n
 | .mk k m ks, n, h => by
  simp only [VT.val, VT.nodes]
  split
  ·simp; omega
  ·have := VT.valL_spec ks (n - 1) (by omega)
   refine ⟨fun ht => ?_, by omega, by omega⟩
   have := this.1 ht
   omega
theorem VT.valL_spec : ∀ (ks : List VT) (n : Int), 0 ≤ n → ((VT.valL ks n).1 = true → (VT.valL ks n).2 = n - VT.nodesL ks ∧ 0 ≤ (VT.valL ks n).2) ∧ -1 ≤ (VT.valL ks n).2 ∧ (VT.valL ks n).2 ≤ n
 | [], n, h => by simp [VT.valL, VT.nodesL]; omega
 | v :: vs, n, h => by
  have h1 := VT.val_spec v n h
  simp only [VT.valL, VT.nodesL]
  split
  ·rename_i m hm
   rw [hm] at h1
   have h2 := h1.1 rfl
   simp only at h2
   have h3 := VT.valL_spec vs m h2.2
   refine ⟨fun ht => ?_, by omega, by omega⟩
   have := h3.1 ht
   omega
  ·rename_i m hm
   rw [hm] at h1
   simp only at h1
   exact ⟨by simp, by omega, by omega⟩
end
theorem VT.valL_drop {ks : List VT} {i : Nat} (h : i < ks.length) (n : Int) : VT.valL (ks.drop i) n = match VT.val ks[i] n with
  | (true, m) => VT.valL (ks.drop (i + 1)) m
  | (false, m) => (false, m) := by rw [List.drop_eq_getElem_cons h, VT.valL]
end Go.Abs
namespace Go.Abs
open Go
def icmp (a b : Int) : Int := if a < b then -1 else if b < a then 1 else 0
def cor (a b : Int) : Int := if a = 0 then b else a
theorem zf6 (a b : Int) : icmp a b = - icmp b a := by unfold icmp; split <;> split <;> first | omega | (split <;> omega)
theorem zmh (a b : Int) : icmp a b = 0 ↔ a = b := by unfold icmp; split <;> first | omega | (split <;> omega)
theorem zf7 (a b : Int) : icmp a b = -1 ∨ icmp a b = 0 ∨ icmp a b = 1 := by unfold icmp; split <;> first | omega | (split <;> omega)
theorem zep {a a' b b' : Int} (h : a = - b) (h' : a' = - b') : cor a a' = - cor b b' := by unfold cor; split <;> split <;> omega
theorem zfS (a b : Int) : cor a b = 0 ↔ a = 0 ∧ b = 0 := by unfold cor; split <;> omega
theorem zeq {a b : Int} (h : a = -1 ∨ a = 0 ∨ a = 1) (h' : b = -1 ∨ b = 0 ∨ b = 1) : cor a b = -1 ∨ cor a b = 0 ∨ cor a b = 1 := by unfold cor; split <;> omega
theorem zrW {a b : Int} (h : a ≠ 0) : cor a b = a := by simp [cor, h]
theorem zrX {a b : Int} (h : a = 0) : cor a b = b := by simp [cor, h]
def Tri (a b c : Int) : Prop := a ≤ 0 → b ≤ 0 → c ≤ 0 ∧ (c = 0 → a = 0 ∧ b = 0)
theorem Tri.icmp (x y z : Int) : Tri (icmp x y) (icmp y z) (icmp x z) := by
 unfold Tri Go.Abs.icmp
 intro h1 h2
 split at h1 <;> split at h2 <;> (try split at h1) <;> (try split at h2) <;> split <;> (try split) <;> omega
theorem Tri.cor {a b c a' b' c' : Int} (h : Tri a b c) (h' : Tri a' b' c') : Tri (cor a a') (cor b b') (cor c c') := by
 unfold Tri Go.Abs.cor at *
 intro h1 h2
 by_cases ha : a = 0 <;> by_cases hb : b = 0 <;> by_cases hc : c = 0 <;> simp only [ha, hb, hc, if_true, if_false] at * <;> first | omega | (simp_all; done) | (have := h' h1 h2; simp_all; omega)
mutual
def VT.cmp : VT → VT → Int
 | .mk k n ks, .mk k' n' ks' => cor (icmp k k') (cor (icmp n n') (cor (icmp ks.length ks'.length) (VT.cmpL ks ks')))
def VT.cmpL : List VT → List VT → Int
 | v :: vs, w :: ws => cor (VT.cmp v w) (VT.cmpL vs ws)
 | [], [] => 0
 | [], _ :: _ => -1
 | _ :: _, [] => 1
end
mutual
def VT.same : VT → VT → Bool
 | .mk k n ks, .mk k' n' ks' => k == k' && n == n' && VT.sameL ks ks'
def VT.sameL : List VT → List VT → Bool
 | v :: vs, w :: ws => VT.same v w && VT.sameL vs ws
 | [], [] => true
 | [], _ :: _ => false
 | _ :: _, [] => false
end
mutual
theorem VT.cmp_anti : ∀ v w : VT, VT.cmp v w = - VT.cmp w v
 | .mk k n ks, .mk k' n' ks' => by
  simp only [VT.cmp]
  exact zep (zf6 _ _) (zep (zf6 _ _) (zep (zf6 _ _) (VT.cmpL_anti ks ks')))
theorem VT.cmpL_anti : ∀ v w : List VT, VT.cmpL v w = - VT.cmpL w v
 | v :: vs, w :: ws => by simp only [VT.cmpL]; exact zep (VT.cmp_anti v w) (VT.cmpL_anti vs ws)
 | [], [] => by simp [VT.cmpL]
 | [], _ :: _ => by simp [VT.cmpL]
 | _ :: _, [] => by simp [VT.cmpL]
end
mutual
theorem VT.cmp_rng : ∀ v w : VT, VT.cmp v w = -1 ∨ VT.cmp v w = 0 ∨ VT.cmp v w = 1
 | .mk k n ks, .mk k' n' ks' => by
  simp only [VT.cmp]
  exact zeq (zf7 _ _) (zeq (zf7 _ _) (zeq (zf7 _ _) (VT.cmpL_rng ks ks')))
theorem VT.cmpL_rng : ∀ v w : List VT, VT.cmpL v w = -1 ∨ VT.cmpL v w = 0 ∨ VT.cmpL v w = 1
 | v :: vs, w :: ws => by simp only [VT.cmpL]; exact zeq (VT.cmp_rng v w) (VT.cmpL_rng vs ws)
 | [], [] => by simp [VT.cmpL]
 | [], _ :: _ => by simp [VT.cmpL]
 | _ :: _, [] => by simp [VT.cmpL]
end
theorem VT.sameL_len : ∀ v w : List VT, VT.sameL v w = true → v.length = w.length
 | v :: vs, w :: ws => by simp only [VT.sameL, Bool.and_eq_true, List.length_cons]; intro h; have := VT.sameL_len vs ws h.2; omega
 | [], [] => by simp
 | [], _ :: _ => by simp [VT.sameL]
 | _ :: _, [] => by simp [VT.sameL]
mutual
theorem VT.cmp_zero : ∀ v w : VT, VT.cmp v w = 0 ↔ VT.same v w = true
 | .mk k n ks, .mk k' n' ks' => by
  have h := VT.cmpL_zero ks ks'
  simp only [VT.cmp, VT.same, zfS, zmh, Bool.and_eq_true, beq_iff_eq, and_assoc, h]
  constructor
  ·rintro ⟨a, b, _, c⟩; exact ⟨a, b, c⟩
  ·rintro ⟨a, b, c⟩; exact ⟨a, b, by have := VT.sameL_len _ _ c; omega, c⟩
theorem VT.cmpL_zero : ∀ v w : List VT, VT.cmpL v w = 0 ↔ VT.sameL v w = true
 | v :: vs, w :: ws => by simp only [VT.cmpL, VT.sameL, zfS, Bool.and_eq_true, VT.cmp_zero v w, VT.cmpL_zero vs ws]
 | [], [] => by simp [VT.cmpL, VT.sameL]
 | [], _ :: _ => by simp [VT.cmpL, VT.sameL]
 | _ :: _, [] => by simp [VT.cmpL, VT.sameL]
end
mutual
theorem VT.cmp_tri : ∀ v w x : VT, Tri (VT.cmp v w) (VT.cmp w x) (VT.cmp v x)
 | .mk k n ks, .mk k' n' ks', .mk k'' n'' ks'' => by
  simp only [VT.cmp]
  exact (Tri.icmp _ _ _).cor ((Tri.icmp _ _ _).cor ((Tri.icmp _ _ _).cor (VT.cmpL_tri ks ks' ks'')))
theorem VT.cmpL_tri : ∀ v w x : List VT, Tri (VT.cmpL v w) (VT.cmpL w x) (VT.cmpL v x)
 | v :: vs, w :: ws, x :: xs => by simp only [VT.cmpL]; exact (VT.cmp_tri v w x).cor (VT.cmpL_tri vs ws xs)
 | [], [], [] => by simp [VT.cmpL, Tri]
 | [], [], _ :: _ => by simp [VT.cmpL, Tri]
 | [], _ :: _, [] => by simp [VT.cmpL, Tri]
 | [], _ :: _, _ :: _ => by simp [VT.cmpL, Tri]
 | _ :: _, [], [] => by simp [VT.cmpL, Tri]
 | _ :: _, [], _ :: _ => by simp [VT.cmpL, Tri]
 | _ :: _, _ :: _, [] => by simp [VT.cmpL, Tri]
end
theorem VT.cmpL_drop {a b : List VT} {i : Nat} (ha : i < a.length) (hb : i < b.length) : VT.cmpL (a.drop i) (b.drop i) = cor (VT.cmp a[i] b[i]) (VT.cmpL (a.drop (i + 1)) (b.drop (i + 1))) := by
 rw [List.drop_eq_getElem_cons ha, List.drop_eq_getElem_cons hb, VT.cmpL]
theorem VT.sameL_drop {a b : List VT} {i : Nat} (ha : i < a.length) (hb : i < b.length) : VT.sameL (a.drop i) (b.drop i) = (VT.same a[i] b[i] && VT.sameL (a.drop (i + 1)) (b.drop (i + 1))) := by
 rw [List.drop_eq_getElem_cons ha, List.drop_eq_getElem_cons hb, VT.sameL]
end Go.Abs
namespace Go.Abs
open Go
structure Con where
 name : List UInt8
 args : List VT
structure Dat where
 name : List UInt8
 vars : Int
 cons : List Con
structure Cod where
 name : List UInt8
 params : List Int
 capt : List Int
 res : VT
 body : Int
structure CEx where
 op : Int
 num : Int
 vars : List Int
 binds : List (List Int)
 kids : List Int
 ty : VT
structure Cor where
 data : List Dat
 codes : List Cod
 vars : List VT
 exprs : List CEx
def ints (l : List Int) : List (List AV) := l.map fun n => [.int .i64 n]
def rows (l : List (List Int)) : List (List AV) := l.map fun r => [.sl (ints r) .none]
def Con.cs (c : Con) : List AV := [.str c.name, .sl (VT.css c.args) .none]
def Dat.cs (d : Dat) : List AV := [.str d.name, .int .i64 d.vars, .sl (d.cons.map Con.cs) .none]
def Cod.cs (c : Cod) : List AV := .str c.name :: .sl (ints c.params) .none :: .sl (ints c.capt) .none :: (c.res.cs ++ [.int .i64 c.body])
def CEx.cs (e : CEx) : List AV := .int .i64 e.op :: .int .i64 e.num :: .sl (ints e.vars) .none :: .sl (rows e.binds) .none :: .sl (ints e.kids) .none :: e.ty.cs
def Cor.cs (c : Cor) : List AV := [.sl (c.data.map Dat.cs) .none, .sl (c.codes.map Cod.cs) .none, .sl (VT.css c.vars) .none, .sl (c.exprs.map CEx.cs) .none]
@[simp] theorem zQE (l : List Int) : (ints l).length = l.length := by simp [ints]
@[simp] theorem zQT (l : List (List Int)) : (rows l).length = l.length := by simp [rows]
def VT.kind : VT → Int | .mk k _ _ => k
def VT.num : VT → Int | .mk _ n _ => n
def VT.kids : VT → List VT | .mk _ _ ks => ks
def za0 (data : List Dat) (vars k n : Int) (len : Nat) : Bool :=
 if k == 1 || k == 2 || k == 3 then n == 0 && len == 0
 else if k == 4 then decide (0 ≤ n) && decide (n < vars) && len == 0
 else if k == 5 then decide (0 ≤ n) && (match data[n.toNat]? with | some d => (len : Int) == d.vars | none => false)
 else if k == 6 then n == 0 && decide (2 ≤ len) && decide (len ≤ 6)
 else if k == 7 || k == 8 then n == 0 && len == 1
 else if k == 9 then n == 0 && decide (1 ≤ len) && decide (len ≤ 7)
 else false
mutual
def zaQ (data : List Dat) (vars : Int) : VT → Bool
 | .mk k n asx => za0 data vars k n asx.length && za1 data vars asx
def za1 (data : List Dat) (vars : Int) : List VT → Bool
 | [] => true
 | t :: ts => zaQ data vars t && za1 data vars ts
end
def zaO (data : List Dat) (vars : Int) (t : VT) : Bool := decide (t.nodes ≤ 200) && zaQ data vars t
mutual
def subst (args : List VT) : VT → VT
 | .mk k n ks => if k = 4 ∧ 0 ≤ n ∧ n < args.length then (args[n.toNat]?).getD (.mk 0 0 []) else .mk k n (zaI args ks)
def zaI (args : List VT) : List VT → List VT
 | [] => []
 | t :: ts => subst args t :: zaI args ts
end
def zaR (data : List Dat) (t : VT) (c : Int) : Option (List VT) :=
 if t.kind = 5 ∧ 0 ≤ t.num ∧ 0 ≤ c then
  match data[t.num.toNat]? with
  | some d => if (t.kids.length : Int) = d.vars then
    match d.cons[c.toNat]? with
    | some k => let l := k.args.map (subst t.kids)
     if l.all (fun x => decide (x.nodes ≤ 200)) = true then some l else none
    | none => none
   else none
  | none => none
 else none
end Go.Abs
