import Derived.Test.YtjkkonpjecoieaaGreatKZ4
import Derived.Test.YtjkkonpjecoieaaGreatKGY2
import Derived.Test.YtjkkonpjecoieaaGreatKZJ
import Derived.Test.YtjkkonpjecoieaaGreatIT
import Derived.Test.YtjkkonpjecoieaaGreatKGB8
import Derived.Test.YtjkkonpjecoieaaGreatKP10
import Derived.Test.YtjkkonpjecoieaaGreatKUB
import Derived.Test.YtjkkonpjecoieaaGreatKUA
import Derived.Test.YtjkkonpjecoieaaGreatAbsW
set_option linter.unusedSimpArgs false
set_option linter.unusedVariables false
namespace Go.Proofs.YtjkkonpjecoieaaGreat
open Go Go.Abs
set_option maxRecDepth 8000
theorem zvB (n : Nat) (hn : n < 1000000000000000000) (H : zaa) (K : Kt) (hK : K (.tup [.int .u64 n, .bool true]) H) : ACalls tP zib [.sl (zap (lim n)) .none] H K := by
 refine ACalls.out (zJr fun hs => ?_)
 have hl2 : (lim n).length ≤ 2 := zbO (by omega)
 have lA := zcQ n
 have vA := zca n
 generalize lim n = L at *
 simp [zxO]
 refine zJp (Inv := fun q t4 t9 H' => ∃ i : Nat, i ≤ L.length ∧ L.length - i = q ∧ t9 = .int .i64 i ∧ t4 = .int .u64 ((zaq (L.drop (L.length - i)) : Nat) : Int) ∧ H' = H) L.length ?_ ?_
 ·intro _; exact ⟨0, by omega, rfl, rfl, by simp [zaq], rfl⟩
 ·rintro q t4 t9 H' ⟨i, hi, rfl, rfl, rfl, rfl⟩ hsc' hlen hsF Kb hKb
  by_cases hlt : i < L.length
  ·have w1 : IntKind.i64.wrap ((L.length : Int) - 1) = ((L.length - 1 : Nat) : Int) := by rw [zar (by omega) (by omega)]; omega
   have w2 : IntKind.i64.wrap (((L.length - 1 : Nat) : Int) - i) = ((L.length - 1 - i : Nat) : Int) := by rw [zar (by omega) (by omega)]; omega
   have hj : L.length - 1 - i < L.length := by omega
   have hx := lA L[L.length - 1 - i] (List.getElem_mem hj)
   obtain ⟨x, hx0⟩ : ∃ x, x = L[L.length - 1 - i] := ⟨_, rfl⟩
   have w3 : IntKind.u64.wrap ((L[L.length - 1 - i] : Nat) : Int) = (x : Int) := by rw [← hx0]; exact zb7 (by omega)
   have hdr := zmP L (L.length - 1 - i) hj
   rw [show L.length - 1 - i + 1 = L.length - i by omega, ← hx0] at hdr
   have hsm : zaq (L.drop (L.length - i)) < 1000000000 := by
    have h1 := zeE (L.drop (L.length - i)) (fun y hy => lA y (List.mem_of_mem_drop hy))
    have h2 : (L.drop (L.length - i)).length ≤ 1 := by simp; omega
    have h3 : 1000000000 ^ (L.drop (L.length - i)).length ≤ 1000000000 ^ 1 := Nat.pow_le_pow_right (by omega) h2
    omega
   have hnext : zaq (L.drop (L.length - (i + 1))) = zaq (L.drop (L.length - i)) * 1000000000 + x := by
    rw [show L.length - (i + 1) = L.length - 1 - i by omega, hdr]; omega
   generalize hW : zaq (L.drop (L.length - i)) = W at *
   have w4 : IntKind.u64.wrap (18446744073709551615 - (x : Int)) = ((18446744073709551615 - x : Nat) : Int) := by
    rw [show (18446744073709551615 : Int) - x = ((18446744073709551615 - x : Nat) : Int) by omega]; exact zb7 (by omega)
   obtain ⟨y, hy0⟩ : ∃ y, y = 18446744073709551615 - x := ⟨_, rfl⟩
   rw [← hy0] at w4
   obtain ⟨r, c, hr1, hr2, hr3, e1, e2⟩ := zhK y (by omega)
   have hc : ¬ (c < W) := by omega
   have w5 : IntKind.u64.wrap ((W : Int) * 1000000000) = ((W * 1000000000 : Nat) : Int) := by
    rw [show (W : Int) * 1000000000 = ((W * 1000000000 : Nat) : Int) by omega]; exact zb7 (by omega)
   obtain ⟨m, hm0⟩ : ∃ m, m = W * 1000000000 := ⟨_, rfl⟩
   rw [← hm0] at w5
   obtain ⟨s, hs0⟩ : ∃ s, s = m + x := ⟨_, rfl⟩
   have w6 : IntKind.u64.wrap ((m : Int) + x) = (s : Int) := by rw [hs0, ← Int.natCast_add]; exact zb7 (by omega)
   simp only [zp5]
   simp [hlt, w1, w2, hj, w3, w4, e2, hc, w5, w6, wi i (by omega)]
   exact hKb _ _ ⟨L.length - (i + 1), by omega, Back.here (by simp) hs (by simp [zkz, ux, AV.sc, AV.scA, AV.scB, AV.scV]) ⟨_, _, rfl, i + 1, by omega, rfl, rfl, by rw [hnext, hs0, hm0], rfl⟩⟩
  ·obtain rfl : i = L.length := by omega
   rw [Nat.sub_self, List.drop_zero, vA]
   simp [zp5]
   exact ⟨⟨rfl, rfl⟩, Out.tup0 (bs := [.int .u64 (n : Int), .bool true]) hs hK ⟨za1 rfl rfl, za1 rfl rfl, trivial⟩⟩
theorem zAY (a b : Nat) (ha : a < 1000000000000000000) (hb : b < 1000000000000000000) (H : zaa) (K : Kt) (hK : K (.sl (zap (lim (Nat.gcd a b))) .none) H) :
  ACalls tP znj [.sl (zap (lim a)) .none, .sl (zap (lim b)) .none] H K := by
 refine ACalls.out (zIV fun hs => ?_)
 have la : (lim a).length ≤ 2 := zbO (by omega)
 have lb : (lim b).length ≤ 2 := zbO (by omega)
 unfold zxA
 refine zIS (Inv := fun q t0 t1 H' => t0 = .sl (zap (lim a)) .none ∧ t1 = .sl (zap (lim b)) .none ∧ H' = H) 0 ?_ ?_
 ·intro _; exact ⟨rfl, rfl, rfl⟩
 ·rintro q t0 t1 H' ⟨rfl, rfl, rfl⟩ hsc' hlen hsF Kb hKb
  by_cases h0 : b = 0
  ·subst h0
   rw [Nat.gcd_zero_right] at hK
   simp [zpX]
   exact Out.one0 hs (.atom (.sl _ _)) rfl rfl hK
  ·have hp : 0 < (lim b).length := by rw [zcm h0]; simp
   have hla : decide (((lim a).length : Int) ≤ 2) = true := by simp; omega
   have hlb : decide (((lim b).length : Int) ≤ 2) = true := by simp; omega
   simp [zpX, hp, hla, hlb]
   refine zvB a ha _ _ ?_
   simp
   refine zvB b hb _ _ ?_
   simp
   refine zIT (Inv := fun q t5 t7 H2 => ∃ x y : Nat, y = q ∧ t5 = .int .u64 x ∧ t7 = .int .u64 y ∧ x < 1000000000000000000 ∧ y < 1000000000000000000 ∧ Nat.gcd x y = Nat.gcd a b ∧ H2 = H') b ?_ ?_
   ·intro _; exact ⟨a, b, rfl, rfl, rfl, ha, hb, rfl, rfl⟩
   ·rintro q t5 t7 H2 ⟨x, y, rfl, rfl, rfl, hx, hy, hg, rfl⟩ hsc2 hlen2 hsF2 Kb2 hKb2
    by_cases hy0 : y = 0
    ·subst hy0
     rw [Nat.gcd_zero_right] at hg
     subst hg
     simp [zpY]
     refine zmD _ (by omega) _ _ ?_
     exact Out.one0 hs (.atom (.sl _ _)) rfl rfl hK
    ·obtain ⟨r, c, hr1, hr2, e1, _⟩ := zsR x y (by omega) (by omega)
     simp only [zpY]
     simp [show 0 < y by omega, e1]
     refine hKb2 _ _ ⟨r, by omega, Back.here (by simp) hs (by simp [zkw, ux, AV.sc, AV.scA, AV.scB, AV.scV]) ⟨_, _, rfl, y, r, rfl, rfl, rfl, hy, by omega, ?_, rfl⟩⟩
     have hrx : r = x % y := by rw [hr2, Nat.add_mul_mod_self_left, Nat.mod_eq_of_lt hr1]
     rw [← hg, hrx, Nat.gcd_comm x y, Nat.gcd_rec y x, Nat.gcd_comm]
def zby (neg : Bool) (n d : Nat) : List AV := [.bool neg, .sl (zap (lim n)) .none, .sl (zap (lim d)) .none]
@[simp] theorem zSr (b : Bool) (n d : Nat) : (zby b n d).length = 3 := rfl
@[simp] theorem zSq (b : Bool) (n d : Nat) : (∀ x ∈ zby b n d, x.known = true) = True := by simp [zby, AV.known]
@[simp] theorem zSs (b : Bool) (n d : Nat) : List.take 3 (zby b n d) = zby b n d := rfl
theorem zfw {H J : zaa} {K : Kt} {b : Bool} {n d : Nat} (hs : HSc H) (hK : K (.agg (zby b n d)) H) : Out H.length K (.agg (zby b n d)) (H ++ J) := Out.one hs .rfl' rfl rfl hK
theorem zhT {n : Nat} : lim n = [1] ↔ n = 1 := by
 constructor
 ·intro h
  have := zca n
  rw [h] at this
  simp [zaq] at this
  omega
 ·rintro rfl; exact zdI
theorem zBi (neg : Bool) (n d : Nat) (hn0 : n ≠ 0) (hd0 : d ≠ 0) (hn : n < 1000000000000000000) (hd : d < 1000000000000000000) (hg : Nat.gcd n d < 1000000000) (H : zaa) (K : Kt) (hK : K (.agg (zby neg (n / Nat.gcd n d) (d / Nat.gcd n d))) H) :
  ACalls tP zh2 [.agg (zby neg n d)] H K := by
 refine ACalls.out (zws fun hs => ?_)
 have ln : (lim n).length ≤ 2 := zbO (by omega)
 have ld : (lim d).length ≤ 2 := zbO (by omega)
 have hp : 0 < (lim n).length := by rw [zcm hn0]; simp
 have hb : (((lim n).length : Int) == 0) = false := by
  generalize (lim n).length = q at hp
  simp; omega
 have hg0 : 0 < Nat.gcd n d := Nat.gcd_pos_of_pos_left d (by omega)
 have lg : (lim (Nat.gcd n d)).length ≤ 2 := zbO (by omega)
 simp [zjJ, zby, hb, Nat.add_assoc]
 refine zmM (lim d) (by omega) _ _ ?_
 by_cases hd1 : d = 1
 ·subst hd1
  rw [Nat.gcd_one_right, Nat.div_one, Nat.div_one] at hK
  simp [zhT, Nat.add_assoc]
  exact zfw hs hK
 ·simp [zhT, hd1, Nat.add_assoc]
  refine zAY n d hn hd _ _ ?_
  refine zmM _ (by omega) _ _ ?_
  by_cases hg1 : Nat.gcd n d = 1
  ·rw [hg1, Nat.div_one, Nat.div_one] at hK
   simp [zhT, hg1, Nat.add_assoc]
   exact zfw hs hK
  ·simp [zhT, hg1, Nat.add_assoc]
   refine zsQ n _ (by omega) hg0 hg _ _ ?_
   simp [Nat.add_assoc]
   refine zsQ d _ (by omega) hg0 hg _ _ ?_
   simp [zax, zaP, zct, AV.known, Nat.add_assoc]
   exact zfw hs hK
theorem zuV (neg : Bool) (n d : Nat) (hn0 : n ≠ 0) (hd0 : d ≠ 0) (hn : n < 1000000000000000000) (hd : d < 1000000000000000000) (hg : Nat.gcd n d < 1000000000) (H : zaa) (K : Kt) (hK : K (.agg (zby neg (n / Nat.gcd n d) (d / Nat.gcd n d))) H) :
  ACalls tP zeF [.agg (zby neg n d)] H K := by
 refine ACalls.out (zvM fun hs => ?_)
 simp [zox, zby, Nat.add_assoc]
 refine zBi neg n d hn0 hd0 hn hd hg _ _ ?_
 simp [zby, zax, zaP, zct, AV.known, Nat.add_assoc]
 exact zfw hs hK
theorem zJm (a b : Nat) (ha0 : a ≠ 0) (hb0 : b ≠ 0) (ha : a < 1000000000) (hb : b < 1000000000) (H : zaa) (K : Kt) (hK : K (.agg (zby false (a / Nat.gcd a b) (b / Nat.gcd a b))) H) :
  ACalls tP znl [.int .i64 a, .int .i64 b] H K := by
 refine ACalls.out (zJl fun hs => ?_)
 have h0 : decide ((a : Int) < 0) = false := by simp
 have h1 : decide ((b : Int) < 0) = false := by simp
 have h2 : ((b : Int) == 0) = false := by simp; omega
 have hg : Nat.gcd a b < 1000000000 := Nat.lt_of_le_of_lt (Nat.gcd_le_right a (by omega)) hb
 simp [zxN, h2, h0, h1, Nat.add_assoc]
 refine zmS a (by omega) _ _ ?_
 refine zmS b (by omega) _ _ ?_
 simp [zax, zaP, zct, AV.known, Nat.add_assoc]
 refine zuV false a b ha0 hb0 (by omega) (by omega) hg _ _ ?_
 simp [Nat.add_assoc]
 exact zfw hs hK
theorem ztr (neg : Bool) (n d : Nat) (hn0 : n ≠ 0) (hd0 : d ≠ 0) (hn : (lim n).length ≤ 1000) (hd : (lim d).length ≤ 1000) (H : zaa) (K : Kt) (hK : K (.agg (zby neg n d)) H) : ACalls tP zdr [.agg (zby neg n d)] H K := by
 refine ACalls.out (zvN fun hs => ?_)
 have hz : ∀ m : Nat, m ≠ 0 → (((lim m).length : Int) == 0) = false := fun m hm => by
  have hp : 0 < (lim m).length := by rw [zcm hm]; simp
  generalize (lim m).length = q at hp
  simp; omega
 simp [zoy, zby, Nat.add_assoc]
 refine zaF (.sl (zap (lim n)) .none) (fun J => ziF _ (zmN _) (by omega) _ _ (by rw [zca]; exact ⟨rfl, rfl⟩)) ?_
 refine zaF (.sl (zap (lim d)) .none) (fun J => ziF _ (zmN _) (by omega) _ _ (by rw [zca]; exact ⟨rfl, rfl⟩)) ?_
 simp [hz n hn0, hz d hd0, zax, zaP, zct, AV.known, Nat.add_assoc]
 exact zfw hs hK
theorem zuk (n : Nat) : zby false n 1 = zan (n : Int) := by
 unfold zby zan
 rw [zdI, Int.natAbs_natCast, decide_eq_false (by omega)]
theorem zBn (a : Nat) (ha : a < 1000000000 ^ 30) (H : zaa) (K : Kt) (hK : K (.sl (zap (lim a)) .none) H) : ACalls tP zcR [.sl (zap [1]) .none, .sl (zap (lim a)) .none] H K := by
 have := zgx 1 a ziG ha H K (by rw [Nat.one_mul]; exact hK)
 rwa [zdI] at this
theorem zzO (c p q r : Nat) (hp0 : p ≠ 0) (hq0 : q ≠ 0) (hc0 : c ≠ 0) (hp : p < 1000000000) (hq : q < 1000000000) (hcp : c * p < 1000000000000000000) (hr : c * p = r * q) (H : zaa) (K : Kt) (hK : K (.agg (zan (r : Int))) H) :
  ACalls tP zeK [.agg (zan (c : Int)), .agg (zby false p q)] H K := by
 refine ACalls.out (zy6 fun hs => ?_)
 have hc : c < 1000000000000000000 := Nat.lt_of_le_of_lt (Nat.le_mul_of_pos_right c (by omega)) hcp
 have lc := zbO (n := c) (k := 2) (by omega)
 have lp := zbO (n := p) (k := 1) (by omega)
 have lq := zbO (n := q) (k := 1) (by omega)
 have b30 : (1000000000000000000 : Nat) ≤ 1000000000 ^ 30 := by decide
 have hg : Nat.gcd (c * p) q = q := by rw [hr]; exact Nat.gcd_eq_right (Nat.dvd_mul_left q r)
 have hcp0 : c * p ≠ 0 := Nat.mul_ne_zero hc0 hp0
 rw [← zuk c]
 simp [zrb, zby, Nat.add_assoc]
 refine zaF (.agg (zby false c 1)) (fun J => ztr false c 1 hc0 (by omega) (by omega) (by rw [zdI]; simp) _ _ ⟨rfl, rfl⟩) ?_
 refine zaF (.agg (zby false p q)) (fun J => ztr false p q hp0 hq0 (by omega) (by omega) _ _ ⟨rfl, rfl⟩) ?_
 simp [zby, AV.known, Nat.add_assoc]
 refine zaF (.sl (zap (lim (c * p))) .none) (fun J => zgx _ _ (by omega) (by omega) _ _ ⟨rfl, rfl⟩) ?_
 rw [zdI]
 refine zaF (.sl (zap (lim q)) .none) (fun J => zBn _ (by omega) _ _ ⟨rfl, rfl⟩) ?_
 simp [zax, zaP, zct, AV.known, Nat.add_assoc]
 refine zaF (.agg (zan (r : Int))) (fun J => zuV false (c * p) q hcp0 hq0 hcp (by omega) (by rw [hg]; exact hq) _ _ (by
  rw [hg, Nat.div_self (by omega), hr, Nat.mul_div_cancel _ (by omega), zuk]; exact ⟨rfl, rfl⟩)) ?_
 simp [Nat.add_assoc]
 exact zcE hs hK
theorem zsy : ∀ {n k : Nat}, k ≤ n → 0 < chs n k
 | n, 0, _ => by simp
 | n + 1, k + 1, h => by
  have := zsy (n := n) (k := k) (by omega)
  rw [chs]; omega
theorem zAU (n k : Nat) (hn : n ≤ 900) (hk : k ≤ 6) (H : zaa) (K : Kt) (hK : K (.agg (zan (chs n k))) H) : ACalls tP znf [.int .i64 n, .int .i64 k] H K := by
 refine ACalls.out (zHX fun hs => ?_)
 simp [zxm, Nat.add_assoc]
 refine zdC 1 (by omega) _ _ ?_
 simp [Nat.add_assoc]
 have hsc : ∀ z : Int, HSc (H ++ [.cells [.bool false, .snil, .snil], .cells (zan z)]) := fun z => hs.append (by simp [AB.sc, zan, AV.scA, AV.scB])
 refine zHV (Inv := fun q t9 H' => ∃ i : Nat, i ≤ k ∧ i ≤ n ∧ k - i = q ∧ t9 = .int .i64 i ∧ H' = H ++ [.cells [.bool false, .snil, .snil], .cells (zan ((chs n i : Nat) : Int))]) k ?_ ?_
 ·intro _; exact ⟨0, by omega, by omega, rfl, rfl, by simp⟩
 ·rintro q t9 H' ⟨i, hi, hin, rfl, rfl, rfl⟩ hsc' hlen hsF Kb hKb
  by_cases hlt : i < k
  ·by_cases hni : n = i
   ·subst hni
    rw [zgb hlt] at hK
    simp [zkc, hlt, Nat.add_assoc]
    refine zdC 0 (by omega) _ _ ?_
    simp [Nat.add_assoc]
    exact zcE hs hK
   ·have hb : ((n : Int) == (i : Int)) = false := by simp; omega
    have hci : chs n i ≤ 900 ^ 5 := by
     refine Nat.le_trans (zhH n i) (Nat.le_trans (Nat.pow_le_pow_left hn i) (Nat.pow_le_pow_right (by omega) (by omega)))
    have w1 : IntKind.i64.wrap ((n : Int) - i) = ((n - i : Nat) : Int) := by rw [zar (by omega) (by omega)]; omega
    obtain ⟨d, hd⟩ : ∃ d, d = n - i := ⟨_, rfl⟩
    rw [← hd] at w1
    obtain ⟨j, hj⟩ : ∃ j, j = i + 1 := ⟨_, rfl⟩
    have w2 : IntKind.i64.wrap ((i : Int) + 1) = (j : Int) := by rw [wi i (by omega), hj]
    have hg0 : 0 < Nat.gcd d j := Nat.gcd_pos_of_pos_left j (by omega)
    have hp := Nat.div_mul_cancel (Nat.gcd_dvd_left d j)
    have hq := Nat.div_mul_cancel (Nat.gcd_dvd_right d j)
    have hstep := zhI n i
    rw [← hd, ← hj] at hstep
    have hpd := Nat.div_le_self d (Nat.gcd d j)
    have hqj := Nat.div_le_self j (Nat.gcd d j)
    have hp0 : d / Nat.gcd d j ≠ 0 := fun h => by rw [h] at hp; omega
    have hq0 : j / Nat.gcd d j ≠ 0 := fun h => by rw [h] at hq; omega
    have hr : chs n i * (d / Nat.gcd d j) = chs n j * (j / Nat.gcd d j) := by
     refine Nat.eq_of_mul_eq_mul_right hg0 ?_
     rw [Nat.mul_assoc, hp, Nat.mul_assoc, hq, ← hstep, Nat.mul_comm]
    have hcb : chs n i * (d / Nat.gcd d j) < 1000000000000000000 := Nat.lt_of_le_of_lt (Nat.mul_le_mul hci (Nat.le_trans hpd (show d ≤ 900 by omega))) (by decide)
    simp [zkc, hlt, hb, w1, w2, Nat.add_assoc]
    refine zaF (.agg (zby false (d / Nat.gcd d j) (j / Nat.gcd d j))) (fun J => zJm d j (by omega) (by omega) (by omega) (by omega) _ _ ⟨rfl, rfl⟩) ?_
    refine zaF (.agg (zan ((chs n j : Nat) : Int))) (fun J => zzO _ _ _ _ hp0 hq0 (by have := zsy hin; omega) (by omega) (by omega) hcb hr _ _ ⟨rfl, rfl⟩) ?_
    simp [Nat.add_assoc]
    exact hKb _ _ ⟨k - (i + 1), by omega, Back.here (by simp) (hsc _) (by simp [zkd, ux, AV.sc, AV.scA, AV.scB, AV.scV]) ⟨_, rfl, j, by omega, by omega, by omega, rfl, rfl⟩⟩
  ·obtain rfl : i = k := by omega
   simp [zkc, Nat.add_assoc]
   exact zcE hs hK
theorem zzL (n k : Nat) (hn : n ≤ 900) (hk : k ≤ 6) (H : zaa) (K : Kt) (hK : K (.tup [.agg (zan (chs n k)), .bool true]) H) : ACalls tP zmY [.int .i64 n, .int .i64 k] H K := by
 refine ACalls.out (zEP fun hs => ?_)
 have h0 : decide ((k : Int) < 0) = false := by simp
 have h1 : decide ((64 : Int) < (k : Int)) = false := by simp; omega
 have hm : (if 0 < n then (n : Int) else 0) = (n : Int) := by split <;> omega
 simp [zv4, h0, h1, hm, Nat.add_assoc]
 refine zAU n k hn hk _ _ ?_
 simp [Nat.add_assoc]
 refine ⟨⟨rfl, rfl⟩, ?_⟩
 exact Out.tup (bs := [.agg (zan ((chs n k : Nat) : Int)), .bool true]) hs hK ⟨za1 rfl rfl, za1 rfl rfl, trivial⟩
theorem zNO (data : List AV) (D : AV) (tn : Int) (tks vks : List VT) (j : Nat) (ks : List IT) (vk vn : Int) (hj : j ≤ 6) (hv : vks.length ≤ 900) (H : zaa) (K : Kt) (hK : K (.agg (zan (chs vks.length j))) H) :
  ACalls tP zft [D, .agg (VT.mk 7 tn tks).cs, .agg (IT.mk j ks).cs, .agg (VT.mk vk vn vks).cs] H K := by
 refine ACalls.out (zlI fun hs => ?_)
 simp [zhq, VT.cs, IT.cs, Nat.add_assoc]
 refine zdC 1 (by omega) _ _ ?_
 simp [Nat.add_assoc]
 refine zzL vks.length j hv hj _ _ ?_
 simp [zfX, zlH, Nat.add_assoc]
 exact zcE hs hK
theorem zE6 {data : List Dat} (hk : za5 data) (hD : zbe data = true) (h8 : ∀ D ∈ data, D.cons.length ≤ 8) {m : Nat} (hat : zfZ data m) (d : Nat) (ks : List IT) (tks : List VT) (v : VT) (hin : (IT.mk 0 ks).nodes ≤ m + 1)
  (hA : AtOk data (.mk 0 ks) (.mk 5 d tks) v) (hv9 : v.nodes ≤ 900) (hl6 : ks.length ≤ 6) (hrd : 0 ≤ rdE data ks (.mk 5 d tks) 0) (H : zaa) (K : Kt)
  (hK : K (.agg (zan ((zaC (wtL data ks (.mk 5 d tks)) (zbi (za4 data d) v) : Nat) : Int))) H) :
  ACalls tP zmZ [.sl (data.map Dat.cs) .none, .agg (VT.mk 5 d tks).cs, .sl (IT.css ks) .none, .agg v.cs] H K := by
 refine ACalls.out (zE5 fun hs => ?_)
 obtain ⟨vk, vn, vks⟩ := v
 simp [zv5, VT.cs, Nat.add_assoc]
 exact zAf hk h8 d ks tks vk vn vks hA.tn hl6 hrd H K hs (zAg hk hD h8 hat d ks tks vk vn vks hin hA hv9 hl6 hrd H K hs hK)
theorem zAh {data : List Dat} (hk : za5 data) (hD : zbe data = true) (h8 : ∀ D ∈ data, D.cons.length ≤ 8) {m : Nat} (hat : zfZ data m) : zfZ data (m + 1) := by
 intro i hi t v hA hv9 H K hK
 obtain ⟨k, tn, tks⟩ := t
 obtain ⟨n, ks⟩ := i
 obtain ⟨vk, vn, vks⟩ := v
 have hrd := hA.rd
 have hvv := hA.hv
 rw [rdV] at hrd
 by_cases h7 : k = 7
 ·subst h7
  simp [VT.kind] at hrd
  by_cases hc : 0 ≤ n ∧ n ≤ 6 ∧ ks = []
  ·obtain ⟨c1, c2, rfl⟩ := hc
   obtain ⟨j, rfl⟩ : ∃ j : Nat, n = j := ⟨n.toNat, by omega⟩
   have e : atV data (.mk j []) (.mk 7 tn tks) (.mk vk vn vks) = chs vks.length j := by simp [atV, VT.kind, VT.kids]
   rw [e] at hK
   have hvn := hA.vn
   have hvl := VT.len_le vks
   have e1 : (VT.mk vk vn vks).nodes = VT.nodesL vks + 1 := by simp [VT.nodes]
   exact zNO (data.map Dat.cs).flatten _ tn tks vks j [] vk vn (by omega) (by omega) _ _ hK
  ·rw [if_neg hc] at hrd; omega
 ·by_cases h6 : k = 6
  ·subst h6
   simp only [VT.kind, VT.kids, if_true] at hrd
   by_cases hn : n = 0
   ·by_cases hl : tks.length = ks.length
    ·subst hn
     have hrd : 0 ≤ rdA data ks tks 0 := by
      have h0 := hrd
      simp [hl] at h0
      exact h0
     simp [zav] at hvv
     have hvl := zgo hvv.2
     have hinv := (zgW (data := data) ks tks 0 (by omega) hl.symm hrd).1
     have e : atV data (.mk 0 ks) (.mk 6 tn tks) (.mk vk vn vks) = atL data ks tks vks := by simp [atV, VT.kind, VT.kids]
     rw [e] at hK
     have htn := hA.tn
     have hvn := hA.vn
     have hin := hA.inn
     have htl := VT.len_le tks
     have e1 : (VT.mk 6 tn tks).nodes = VT.nodesL tks + 1 := by simp [VT.nodes]
     refine ACalls.out (zlI fun hs => ?_)
     simp [zhq, VT.cs, IT.cs, Nat.add_assoc]
     refine zdC 1 (by omega) _ _ ?_
     simp [Nat.add_assoc, zcn]
     have hqsc : ∀ z : Int, HSc (H ++ [.cells [.int .i64 6, .int .i64 tn, .sl (VT.css tks) .none], .cells [.int .i64 0, .sl (IT.css ks) .none], .cells [.int .i64 vk, .int .i64 vn, .sl (VT.css vks) .none], .cells [.bool false, .snil, .snil], .cells (zan z)]) := fun z => hs.append (by simp [AB.sc, zan, AV.scA, AV.scB])
     refine zNQ (Inv := fun q t20 H' => ∃ (i z : Nat) (a : Int), i ≤ tks.length ∧ tks.length - i = q ∧ t20 = .int .i64 i ∧ 0 ≤ a ∧ a ≤ 6 ∧ z ≤ 1000 ^ a.toNat ∧ 0 ≤ rdA data (ks.drop i) (tks.drop i) a ∧
      z * atL data (ks.drop i) (tks.drop i) (vks.drop i) = atL data ks tks vks ∧ H' = H ++ [.cells [.int .i64 6, .int .i64 tn, .sl (VT.css tks) .none], .cells [.int .i64 0, .sl (IT.css ks) .none], .cells [.int .i64 vk, .int .i64 vn, .sl (VT.css vks) .none], .cells [.bool false, .snil, .snil], .cells (zan (z : Int))]) tks.length ?_ ?_
     ·intro _; exact ⟨0, 1, 0, by omega, rfl, rfl, by omega, by omega, by simp, by simpa using hrd, by simp, rfl⟩
     ·rintro q t20 H' ⟨i, z, a, hi, rfl, rfl, ha0, ha6, hz, hr, hprod, rfl⟩ hsc' hlen hsF Kb hKb
      by_cases hlt : i < tks.length
      ·have h1 : i < ks.length := by omega
       have h3 : i < vks.length := by omega
       have g1 := IT.kid_lt (n := 0) h1
       have g2 := VT.kid_lt (k := 6) (n := tn) hlt
       have g3 := VT.kid_lt (k := vk) (n := vn) h3
       have hOk : AtOk data ks[i] tks[i] vks[i] := ⟨by omega, zi0 hA.tv _ (List.getElem_mem hlt), hinv i h1 hlt, zfk hvv.2 i h3 hlt, by omega, by omega⟩
       obtain ⟨x, y, w, hvx, hx, hy, hw⟩ := zaK tks[i]
       obtain ⟨x2, y2, w2, hvx2, hx2, hy2, hw2⟩ := zaK vks[i]
       obtain ⟨x3, y3, hvx3, hx3, hy3⟩ := zc5 ks[i]
       rw [List.drop_eq_getElem_cons h1, List.drop_eq_getElem_cons hlt] at hr
       rw [List.drop_eq_getElem_cons h1, List.drop_eq_getElem_cons hlt, List.drop_eq_getElem_cons h3] at hprod
       simp only [rdA] at hr
       simp only [atL] at hprod
       by_cases hc : rdV data ks[i] tks[i] < 0 ∨ a + rdV data ks[i] tks[i] > 6
       ·rw [if_pos hc] at hr; omega
       ·rw [if_neg hc] at hr
        have hle := zf6 (N := 1000) (by omega) ks[i] tks[i] vks[i] hOk.vn hOk.rd
        have hpm : z * atV data ks[i] tks[i] vks[i] ≤ 1000 ^ (a + rdV data ks[i] tks[i]).toNat := by
         rw [show (a + rdV data ks[i] tks[i]).toNat = a.toNat + (rdV data ks[i] tks[i]).toNat by omega, Nat.pow_add]
         exact Nat.mul_le_mul hz hle
        simp [zro, hlt, h1, h3, hvx, hvx2, hvx3, hx, hy, hw, hx2, hy2, hw2, wi i (by omega), Nat.add_assoc, zcn]
        rw [← hvx, ← hvx2, ← hvx3]
        refine zaF (.agg (zan ((atV data ks[i] tks[i] vks[i] : Nat) : Int))) (fun J => hat ks[i] (by omega) tks[i] vks[i] hOk (by omega) _ _ ⟨rfl, rfl⟩) ?_
        refine zaF (.agg (zan ((z * atV data ks[i] tks[i] vks[i] : Nat) : Int))) (fun J => zrc _ _ (zfE hz (by omega)) (zfE (hOk.le h8) (by omega)) _ _ ⟨by rw [Int.natCast_mul], rfl⟩) ?_
        obtain ⟨z', hz'⟩ : ∃ z', z' = z * atV data ks[i] tks[i] vks[i] := ⟨_, rfl⟩
        rw [← hz'] at hpm ⊢
        simp [Nat.add_assoc, zcn]
        exact hKb _ _ ⟨tks.length - (i + 1), by omega, Back.at (J := [.cells tks[i].cs]) (by simp [hvx]) (by simp) (hqsc _) (by simp [zlG, ux, AV.sc, AV.scA, AV.scB, AV.scV]) ⟨_, rfl, i + 1, z', a + rdV data ks[i] tks[i], by omega, rfl, rfl, by omega, by omega, hpm, hr, by rw [hz', ← hprod, Nat.mul_assoc], rfl⟩⟩
      ·obtain rfl : i = tks.length := by omega
       rw [List.drop_of_length_le (by omega)] at hprod
       simp only [atL, Nat.mul_one] at hprod
       subst hprod
       simp [zro, zfX, zlH, Nat.add_assoc, zcn]
       exact zcE hs hK
    ·simp [hn, hl] at hrd
   ·simp [hn] at hrd
  ·by_cases h5 : k = 5
   ·subst h5
    simp [VT.kind] at hrd
    obtain ⟨hv5, htn0, _⟩ := zeA hvv
    obtain ⟨d, rfl⟩ : ∃ d : Nat, tn = d := ⟨tn.toNat, by omega⟩
    by_cases hn : n = 0 ∧ ks.length ≤ 6
    ·rw [if_pos hn] at hrd
     obtain ⟨rfl, hl6⟩ := hn
     have e : atV data (.mk 0 ks) (.mk 5 d tks) (.mk vk vn vks) = zaC (wtL data ks (.mk 5 d tks)) (zbi (za4 data d) (.mk vk vn vks)) := by simp [atV, VT.kind, VT.num]
     rw [e] at hK
     refine ACalls.out (zlI fun hs => ?_)
     simp [zhq, VT.cs, IT.cs, Nat.add_assoc]
     refine zdC 1 (by omega) _ _ ?_
     have hVc : (VT.mk 5 (d : Int) tks).cs = [.int .i64 5, .int .i64 d, .sl (VT.css tks) .none] := rfl
     have hVv : (VT.mk vk vn vks).cs = [.int .i64 vk, .int .i64 vn, .sl (VT.css vks) .none] := rfl
     simp [Nat.add_assoc, zcn]
     rw [← hVc, ← hVv]
     refine zE6 hk hD h8 hat d ks tks (.mk vk vn vks) hi hA hv9 hl6 hrd _ _ ?_
     simp [Nat.add_assoc, zcn]
     exact zcE hs hK
    ·rw [if_neg hn] at hrd; omega
   ·have e : atV data (.mk n ks) (.mk k tn tks) (.mk vk vn vks) = 1 := by simp [atV, VT.kind, h5, h6, h7]
    rw [e] at hK
    have b6 : (k == 6) = false := by simpa using h6
    have b7 : (k == 7) = false := by simpa using h7
    have b5 : (k == 5) = false := by simpa using h5
    refine ACalls.out (zlI fun hs => ?_)
    simp [zhq, VT.cs, IT.cs, Nat.add_assoc]
    refine zdC 1 (by omega) _ _ ?_
    simp [b5, b6, b7, zfX, zlH, Nat.add_assoc, zcn]
    exact zcE hs hK
theorem zsk {data : List Dat} (hk : za5 data) (hD : zbe data = true) (h8 : ∀ D ∈ data, D.cons.length ≤ 8) : ∀ m, zfZ data m
 | 0 => fun i hi => by have := IT.nodes_pos i; omega
 | m + 1 => zAh hk hD h8 (zsk hk hD h8 m)
def atR (data : List Dat) (t : VT) (i : IT) (v : VT) : AV :=
 if za0 data t i < 0 then .tup [.agg [.bool false, .sl [] .none, .sl [] .none], .int .i64 1] else if zbX data v t = false then .tup [.agg [.bool false, .sl [] .none, .sl [] .none], .int .i64 11] else .tup [.agg (zan ((atV data i t v : Nat) : Int)), .int .i64 0]
theorem zFF : ∀ (m : Nat) (v : VT), v.nodes ≤ m → v.nodes ≤ 100000 → ∀ (H : zaa) (K : Kt), K (.int .i64 v.nodes) H → ACalls tP zhX [.agg v.cs] H K := by
 intro m
 induction m with
 | zero => intro v h; have := v.nodes_pos; omega
 | succ m ih =>
  intro v hm hb H K hK
  obtain ⟨k, n, ks⟩ := v
  have hnn : (VT.mk k n ks).nodes = VT.nodesL ks + 1 := by simp [VT.nodes]
  have hll := VT.len_le ks
  refine ACalls.out (zFD fun hs => ?_)
  simp [zvX, VT.cs, Nat.add_assoc]
  refine zFB (Inv := fun q t3 t9 H' => ∃ i : Nat, i ≤ ks.length ∧ ks.length - i = q ∧ t9 = .int .i64 i ∧ t3 = .int .i64 ((VT.nodesL (ks.take i) + 1 : Nat) : Int) ∧ H' = H ++ [.cells [.int .i64 k, .int .i64 n, .sl (VT.css ks) .none]]) ks.length ?_ ?_
  ·intro _; exact ⟨0, by omega, rfl, rfl, by simp [VT.nodesL], rfl⟩
  ·rintro q t3 t9 H' ⟨i, hi, rfl, rfl, rfl, rfl⟩ hsc' hlen hsF Kb hKb
   have htk := VT.nodesL_take_le ks i
   by_cases hlt : i < ks.length
   ·obtain ⟨x, y, z, hvx, hx, hy, hz⟩ := zaK ks[i]
    have hkn := VT.kid_lt (k := k) (n := n) hlt
    have hts := VT.nodesL_take hlt
    have hts2 := VT.nodesL_take_le ks (i + 1)
    simp [zo5, hlt, hvx, hx, hy, hz, wi i (by omega), Nat.add_assoc]
    rw [← hvx]
    refine ih ks[i] (by omega) (by omega) _ _ ?_
    have hw : IntKind.i64.wrap ((VT.nodesL (ks.take i) : Int) + (1 + (ks[i]).nodes)) = ((VT.nodesL (ks.take (i + 1)) + 1 : Nat) : Int) := by rw [zar (by omega) (by omega)]; omega
    have hw2 : IntKind.i64.wrap ((VT.nodesL (ks.take i) : Int) + 1 + (ks[i]).nodes) = ((VT.nodesL (ks.take (i + 1)) + 1 : Nat) : Int) := by rw [zar (by omega) (by omega)]; omega
    simp [hw, hw2]
    exact hKb _ _ ⟨ks.length - (i + 1), by omega, Back.at (J := [.cells (ks[i]).cs]) (H2 := H ++ [.cells [.int .i64 k, .int .i64 n, .sl (VT.css ks) .none]]) (by simp) (by simp) (hs.append (by simp [AB.sc, AV.scA, AV.scB])) (by simp [zjA, ux, AV.sc, AV.scA, AV.scB, AV.scV]) ⟨_, _, rfl, i + 1, by omega, rfl, rfl, rfl, rfl⟩⟩
   ·obtain rfl : i = ks.length := by omega
    simp [zo5]
    refine Out.int (J := _) rfl (Nat.le_refl _) hs ?_
    rw [hnn] at hK
    simpa using hK
theorem zDF (n : Nat) : All2 WkA (List.replicate n [AV.int .i64 0, .snil]).flatten (zaZ (List.replicate n (.mk 0 []))) := by
 induction n with
 | zero => exact trivial
 | succ n ih =>
  rw [List.replicate_succ, List.replicate_succ, List.flatten_cons, zdL]
  exact ⟨.refl _, .snil, ih⟩
theorem zf7 {H J : zaa} {K : Kt} {e : Int} (hs : HSc H) (hK : K (.tup [.sl [] .none, .int .i64 e]) H) : ze8 H.length K (.tup [.snil, .int .i64 e]) (H ++ J) :=
 ⟨.tup [.sl [] .none, .int .i64 e], H, J, rfl, Nat.le_refl _, hs, .tup ⟨.one (.wk (.atom .snil) rfl rfl), .one (.wk (.atom (.refl _)) rfl rfl), trivial⟩, hK⟩
theorem RowsH.weaken {X : zaa} {lo lo' id : Nat} {rows : List (List IT)} (h : RowsH X lo id rows) (hl : lo' ≤ lo) : RowsH X lo' id rows := by
 obtain ⟨h1, cs, h2, h3⟩ := h
 exact ⟨by omega, cs, h2, h3.mono fun c r hc => hc.keep hl fun b _ hb _ => ⟨hb, rfl⟩⟩
theorem RowsH.agree {X Y : zaa} {lo id : Nat} {rows : List (List IT)} (h : RowsH X lo id rows) (ha : ∀ k, lo ≤ k → k < X.length → Y[k]? = X[k]?) : RowsH Y lo id rows := by
 obtain ⟨h1, cs, h2, h3⟩ := h
 exact ⟨h1, cs, by rw [ha _ h1 (List.getElem?_eq_some_iff.1 h2).1]; exact h2, h3.mono fun c r hc => hc.keep (Nat.le_refl _) fun b hb hb2 hb3 => ⟨hb2, ha b hb hb3⟩⟩
theorem zAe {H3 : zaa} {lo1 id1 lo2 id2 : Nat} {rows1 rows2 : List (List IT)} {K : Kt} (h1 : RowsH H3 lo1 id1 rows1) (h2 : RowsH H3 lo2 id2 rows2) (hlt : id1 < lo2) (hlo : lo1 ≤ lo2) (hb : rows1.length + rows2.length ≤ 1000000000) (hs : HSc H3)
  (hK : ∀ H4, HSc H4 → RowsH H4 lo1 id1 (rows1 ++ rows2) → (∀ X, X <+: H3 → X.length ≤ id1 → X <+: H4) → K (.ov id1 (rows1 ++ rows2).length) H4) : zaw zbK 1 24 (.ov id1 rows1.length) (.ov id2 rows2.length) H3 K := by
 obtain ⟨g1, cs1, hc1, hx1⟩ := h1
 obtain ⟨g2, cs2, hc2, hx2⟩ := h2
 have hl1 := (List.getElem?_eq_some_iff.1 hc1).1
 have k1 := zga hx1
 have k2 := zga hx2
 refine zrZ hc1 hc2 k2.2 (by rw [hx2.length]; simp) (by omega) (by omega) ?_
 rw [← List.length_append]
 have hkp : ∀ b, b ≠ id1 → (H3.set id1 (.vec zbK 1 (rows1 ++ rows2).length (cs1 ++ cs2)))[b]? = H3[b]? := fun b hb => List.getElem?_set_ne (fun h => hb h.symm)
 refine hK _ (hs.set ?_) ⟨g1, cs1 ++ cs2, List.getElem?_set_self hl1, (hx1.mono fun c r hc => hc.keep (Nat.le_refl _) fun b _ hb _ => ⟨hb, hkp b hb⟩).append (hx2.mono fun c r hc => hc.keep hlo fun b hb1 hb2 hb3 => ?_)⟩ (fun X hX hl => ziO hX hl)
 ·simp only [AB.sc, List.all_append, k1.1, k2.1, Bool.and_self]
 ·have : b ≠ id1 := by omega
  exact ⟨this, hkp b this⟩
theorem zs1 : ∀ (ps : List Nat) (xs row : List IT) (p : Nat) (x : IT), xs.length = ps.length → fill row (ps ++ [p]) (xs ++ [x]) = (fill row ps xs).set p x
 | [], [], row, p, x, _ => by simp [fill]
 | [], _ :: _, _, _, _, h => by simp at h
 | _ :: _, [], _, _, _, h => by simp at h
 | q :: ps, y :: xs, row, p, x, h => by
  simp only [List.cons_append, fill]
  exact zs1 ps xs _ p x (by simpa using h)
theorem zs2 {P : List Nat} {xs row : List IT} {i : Nat} (hi : i < P.length) (hx : i < xs.length) : fill row (P.take (i + 1)) (xs.take (i + 1)) = (fill row (P.take i) (xs.take i)).set P[i] xs[i] := by
 rw [List.take_succ_eq_append_getElem hi, List.take_succ_eq_append_getElem hx]
 exact zs1 _ _ _ _ _ (by simp; omega)
theorem zwV (data : List Dat) (hk : za5 data) (t : VT) (ht : t.nodes ≤ 1000) (c : Int) (v : IT) (hv : v.nodes ≤ 900) (H : zaa) (K : Kt)
  (hbad : ∀ e, zcN data t c v = some e → K (.tup [.sl [] .none, .int .i64 e]) H)
  (hgood : zcN data t c v = none → ∃ l bs, zaR data t c = some l ∧ l.length = bs.length ∧ l.length ≤ 8 ∧ (∀ x ∈ l, x.nodes ≤ 200) ∧ zbl data t c = some (pick l bs) ∧
   (∀ H K, K (.sl (zbq bs) .none) H → ACalls tP zdf [.sl (data.map Dat.cs) .none, .int .i64 t.num, .int .i64 c] H K) ∧
   ∀ rs, rs.Perm (zch l bs c (ztl v)) → rs.Pairwise rle → K (.tup [zeN rs, .int .i64 0]) H) :
  ACalls tP zgC [.sl (data.map Dat.cs) .none, .agg t.cs, .int .i64 c, .agg v.cs] H K := by
 refine ACalls.out2 (zG3 fun hs => ?_)
 obtain ⟨f1, f2, f3⟩ := zc6 hk
 obtain ⟨k, n, ks⟩ := t
 obtain ⟨m, vs⟩ := v
 simp [zwq, VT.cs, IT.cs, Nat.add_assoc]
 refine zyM data hk (.mk k n ks) ht (.mk m vs) hv _ _ ?_
 by_cases hd : za0 data (.mk k n ks) (.mk m vs) < 0
 ·have hd' : decide (0 ≤ za0 data (.mk k n ks) (.mk m vs)) = false := by simpa using hd
  simp [hd']
  exact ⟨⟨rfl, rfl⟩, zf7 hs (hbad 1 (by simp [zcN, hd]))⟩
 have hd' : decide (0 ≤ za0 data (.mk k n ks) (.mk m vs)) = true := by simpa using hd
 simp [hd']
 by_cases h5 : k = 5
 ·subst h5
  have hfine : zaY data (.mk 5 n ks) = true := by
   unfold za0 at hd
   by_cases h : zaY data (.mk 5 n ks) = true
   ·exact h
   ·rw [if_neg h] at hd; omega
  have hrd : 0 ≤ rdV data (.mk m vs) (.mk 5 n ks) := by
   unfold za0 at hd
   rw [if_pos hfine] at hd
   omega
  obtain ⟨rfl, hl6, hrE⟩ : m = 0 ∧ vs.length ≤ 6 ∧ 0 ≤ rdE data vs (.mk 5 n ks) 0 := by
   simp [rdV, VT.kind] at hrd
   by_cases h : m = 0 ∧ vs.length ≤ 6
   ·rw [if_pos h] at hrd
    exact ⟨h.1, h.2, hrd⟩
   ·rw [if_neg h] at hrd; omega
  obtain ⟨hn0, hnl⟩ := zDt (by unfold zaY at hfine; rw [Bool.and_eq_true] at hfine; exact hfine.2)
  have hbad8 : (c < 0 ∨ (data[n.toNat].cons.length : Int) ≤ c) → K (.tup [.sl [] .none, .int .i64 8]) H := fun h => hbad 8 (by
   simp only [zcN, if_neg hd, VT.kind, VT.num, ne_eq, not_true_eq_false, if_false, List.getD_eq_getElem?_getD, List.getElem?_eq_getElem hnl, Option.getD_some]
   rw [if_pos h])
  by_cases hc0 : c < 0
  ·simp [hc0]
   exact ⟨⟨rfl, rfl⟩, zf7 hs (hbad8 (.inl hc0))⟩
  have hnl2 : n < (data.length : Int) := by omega
  by_cases hc8 : (data[n.toNat].cons.length : Int) ≤ c
  ·simp [hc0, hn0, hnl2, List.getElem?_eq_getElem hnl, Dat.cs, hc8]
   exact ⟨⟨rfl, rfl⟩, zf7 hs (hbad8 (.inr hc8))⟩
  simp [hc0, hn0, hnl2, List.getElem?_eq_getElem hnl, Dat.cs, hc8]
  refine zfT data f1 f2 f3 (.mk 5 n ks) ht c _ _ ?_
  cases hf : zaR data (.mk 5 n ks) c with
  | none =>
   simp [zbN]
   exact ⟨⟨rfl, rfl⟩, zf7 hs (hbad 0 (by
    simp only [zcN, if_neg hd, VT.kind, VT.num, ne_eq, not_true_eq_false, if_false, List.getD_eq_getElem?_getD, List.getElem?_eq_getElem hnl, Option.getD_some]
    rw [if_neg (by omega), if_pos hf]))⟩
  | some l =>
   have hE : zcN data (.mk 5 n ks) c (.mk 0 vs) = none := by
    simp only [zcN, if_neg hd, VT.kind, VT.num, ne_eq, not_true_eq_false, if_false, List.getD_eq_getElem?_getD, List.getElem?_eq_getElem hnl, Option.getD_some]
    rw [if_neg (by omega), if_neg (by simp [hf])]
   obtain ⟨l', bs, hf', hlb, hl8, h200, hpay, hrec, hK⟩ := hgood hE
   rw [hf] at hf'
   cases hf'
   simp [zbN]
   refine zMg data hk 5 n ks ht c hf hlb hl8 hfine hrec _ _ ?_
   have hP8 := zdu false bs bs.length
   have hPl : ∀ j ∈ pos false bs bs.length, j < l.length := fun j hj => by have := zdv hj; omega
   have hPn : (pos false bs bs.length).Nodup := List.Pairwise.filter _ List.nodup_range
   have hRl : ∀ j ∈ pos true bs bs.length, j < l.length := fun j hj => by have := zdv hj; omega
   have hR8 := zdu true bs bs.length
   have hK : ∀ rs, rs.Perm (zbg (zaI l (pos false bs bs.length)) (pos true bs bs.length) vs ++ zcw (zaI l (pos false bs bs.length)) (pos false bs bs.length) (pos true bs bs.length) c vs) → rs.Pairwise rle → K (.tup [zeN rs, .int .i64 0]) H := hK
   have hwide := zuu l bs c vs
   have hnds := zB9 (bs := bs) (c := c) (kids := vs) h200 (by simp only [IT.nodes] at hv; omega)
   have hlen := zut (l := l) (c := c) hl6 (by omega : bs.length ≤ 8)
   unfold zch at hwide hnds hlen
   have hpk : (pick l bs).length = (pos false bs bs.length).length := by
    have := zdt hlb (.mk 0 0 []) l.length (Nat.le_refl _)
    rw [List.take_length, hlb, List.take_length] at this
    rw [this, List.length_map]
   generalize pos false bs bs.length = P at *
   generalize pos true bs bs.length = R at *
   have hfv : ∀ x ∈ l, zaY data x = true := fun x hx => by
    unfold zaY at hfine ⊢
    rw [Bool.and_eq_true] at hfine ⊢
    refine ⟨hfine.1, zgj hfine.1 (by have := hfine.2; rw [zaQ, Bool.and_eq_true] at this; exact this.2) hf x hx⟩
   simp [zcc]
   simp only [zbp, Int.toNat_natCast]
   refine ⟨by omega, ?_⟩
   unfold zj2
   refine ALoop.reCell (id := H.length + 2) (zaZ (List.replicate l.length (.mk 0 []))) (by simp) (zDF _) ?_
   have hset : (H ++ [AB.cells [.int .i64 5, .int .i64 n, .sl (VT.css ks) .none], .cells [.int .i64 0, .sl (IT.css vs) .none]] ++ [AB.cells (List.replicate l.length [AV.int .i64 0, .snil]).flatten]).set (H.length + 2) (.cells (zaZ (List.replicate l.length (.mk 0 [])))) =
     H ++ [AB.cells [.int .i64 5, .int .i64 n, .sl (VT.css ks) .none], .cells [.int .i64 0, .sl (IT.css vs) .none], .cells (zaZ (List.replicate l.length (.mk 0 [])))] := by simp [List.set_append_right]
   rw [hset]
   have hl2 : (H ++ [AB.cells [AV.int IntKind.i64 5, AV.int IntKind.i64 n, AV.sl (VT.css ks) Tok.none], AB.cells [AV.int IntKind.i64 0, AV.sl (IT.css vs) Tok.none]]).length = H.length + 2 := by simp
   rw [hl2]
   show zj2 (.sl (data.map Dat.cs) .none) (.int .i64 c) (.ptr (H.length + 1) 0) (.sl (VT.css l) .none) (.sl (zaE P) .none) (.sl (zaE R) .none) (.ms (H.length + 2) 0 l.length l.length) (.sl (zaE P) .none) (.int .i64 P.length) (.int .i64 0) _ (ze8 H.length K)
   have hZ : ∀ r : List IT, HSc (H ++ [AB.cells [.int .i64 5, .int .i64 n, .sl (VT.css ks) .none], .cells [.int .i64 0, .sl (IT.css vs) .none], .cells (zaZ r)]) := fun r => hs.append (by simp [AB.sc, AV.scA, AV.scB, zus])
   refine zGW (Inv := fun q t67 H' => ∃ i : Nat, i ≤ P.length ∧ q = P.length - i ∧ t67 = .int .i64 i ∧ H' = H ++ [AB.cells [.int .i64 5, .int .i64 n, .sl (VT.css ks) .none], .cells [.int .i64 0, .sl (IT.css vs) .none], .cells (zaZ (fill (List.replicate l.length (.mk 0 [])) (P.take i) ((P.map fun j => zbf (l.getD j (.mk 0 0 []))).take i)))]) P.length ?_ ?_
   ·intro _; exact ⟨0, by omega, by omega, rfl, by simp⟩
   ·rintro q t67 H' ⟨i, hi, rfl, rfl, rfl⟩ hsc hlen' hsF Kb hKb
    by_cases hlt : i < P.length
    ·have hPi := hPl _ (List.getElem_mem hlt)
     have hft := zs2 (row := List.replicate l.length (.mk 0 [])) hlt (xs := P.map fun j => zbf (l.getD j (.mk 0 0 []))) (by simpa using hlt)
     simp only [List.getElem_map, List.getD_eq_getElem?_getD, List.getElem?_eq_getElem hPi, Option.getD_some] at hft
     simp [zpn, zcc, ziE, hlt, hPi]
     have hmem := List.getElem_mem hPi
     refine zKU data hk (l[P[i]]) (by have := h200 _ hmem; omega) _ _ (fun _ => ?_) (hfv _ hmem)
     obtain ⟨x, y, hzz, hx, hy⟩ := zc5 (zbf l[P[i]])
     have hrs := zgY (fill (List.replicate l.length (.mk 0 [])) (P.take i) ((P.map fun j => zbf (l[j]?.getD (.mk 0 0 []))).take i)) P[i] (zbf l[P[i]]) (by simpa using hPi)
     rw [← hft] at hrs
     simp [hzz, hx, hy]
     refine ⟨by rw [zdx]; simp; omega, ?_⟩
     rw [zar (by omega) (by omega)]
     refine hKb _ _ ⟨P.length - (i + 1), by omega, Back.at (J := []) (H2 := H ++ [AB.cells [.int .i64 5, .int .i64 n, .sl (VT.css ks) .none], .cells [.int .i64 0, .sl (IT.css vs) .none], .cells (zaZ (fill (List.replicate l.length (.mk 0 [])) (P.take (i + 1)) ((P.map fun j => zbf (l[j]?.getD (.mk 0 0 []))).take (i + 1))))]) ?_ (by simp) (hZ _) ?_ ⟨_, rfl, i + 1, by omega, rfl, by simp, by simp [List.getD_eq_getElem?_getD]⟩⟩
     ·rw [← hrs, hzz]; simp [List.set_append_right]
     ·simp [zjZ, AV.sc, AV.scV, AV.scA, AV.scB]
    ·obtain rfl : i = P.length := by omega
     rw [List.take_length, List.take_of_length_le (by simp)] at *
     have hbase : fill (List.replicate l.length (.mk 0 [])) P (P.map fun j => zbf (l.getD j (.mk 0 0 []))) = zaI l P := rfl
     rw [hbase]
     have hbl : (zaI l P).length = l.length := by simp [zaI]
     generalize zaI l P = base at *
     have hHB : HSc (H ++ [AB.cells [.int .i64 5, .int .i64 n, .sl (VT.css ks) .none], .cells [.int .i64 0, .sl (IT.css vs) .none], .cells (zaZ base)]) := hZ base
     simp [zpn, zcc]
     refine zqY R _ _ base vs _ ⟨zdx _, znZ _, .inl ⟨H.length + 2, by rw [hbl], by simp⟩⟩ (fun p hp => by rw [hbl]; exact hRl p hp) (by omega) (by omega) (by omega) (ziM (by omega) (by omega)) ?_
     intro id H1 hp1 hsc1 hR1
     have hp0 : H <+: H1 := List.IsPrefix.trans ⟨_, rfl⟩ hp1
     have hg1 : H1[H.length + 1]? = some (.cells [.int .i64 0, .sl (IT.css vs) .none]) := by rw [zgV hp1 (by simp)]; simp
     have hg2 : H1[H.length + 2]? = some (.cells (zaZ base)) := by rw [zgV hp1 (by simp)]; simp
     have hfin1 : zcw base P R c vs = [] → zhj (.ov id (zbg base R vs).length) H1 (ze8 H.length K) := fun h0 => by
      rw [h0, List.append_nil] at hwide hnds hlen hK
      exact zu8 hp0 hs (hR1.weaken (by simp)) hwide (by omega) hnds (by omega) K hK
     simp [hg1]
     cases vs with
     | nil =>
      simp
      exact hfin1 rfl
     | cons x rest =>
      obtain ⟨c', ps⟩ := x
      have hg1' : H1[H.length + 1]? = some (.cells [.int .i64 0, .sl ([.int .i64 c', .sl (IT.css ps) .none] :: IT.css rest) .none]) := by rw [hg1]; simp [IT.css, IT.cs]
      simp [hg1']
      by_cases hcc : c' = c
      ·subst hcc
       have hpsl : ps.length = P.length := by
        rw [← hpk]
        simp only [rdE] at hrE
        by_cases h1 : c' < 0 ∨ 8 ≤ c'
        ·rw [if_pos h1] at hrE; omega
        ·rw [if_neg h1, hpay] at hrE
         by_cases h2 : (pick l bs).length = ps.length
         ·exact h2.symm
         ·simp only [if_neg h2] at hrE; omega
       have hHid : H.length + 3 ≤ id := by have := hR1.1; simpa using this
       have hH1l := (List.getElem?_eq_some_iff.1 hg2).1
       have hcut : ∀ r : List IT, r.length = l.length → HSc (H1.set (H.length + 2) (.cells (zaZ r))) := fun r hr => hsc1.set (by simp [AB.sc, zus])
       simp
       refine zGX (Inv := fun q t104 H' => ∃ i : Nat, i ≤ P.length ∧ q = P.length - i ∧ t104 = .int .i64 i ∧ H' = H1.set (H.length + 2) (.cells (zaZ (fill base (P.take i) (ps.take i))))) P.length ?_ ?_
       ·intro _; exact ⟨0, by omega, by omega, rfl, by simp [zuJ hg2]⟩
       ·rintro q t104 H' ⟨i, hi, rfl, rfl, rfl⟩ hsc hlen' hsF Kb hKb
        have hga : (H1.set (H.length + 2) (.cells (zaZ (fill base (P.take i) (ps.take i)))))[H.length + 1]? = some (.cells [.int .i64 0, .sl ([.int .i64 c', .sl (IT.css ps) .none] :: IT.css rest) .none]) := by
         rw [List.getElem?_set_ne (by omega)]; exact hg1'
        have hgb : (H1.set (H.length + 2) (.cells (zaZ (fill base (P.take i) (ps.take i)))))[H.length + 2]? = some (.cells (zaZ (fill base (P.take i) (ps.take i)))) := List.getElem?_set_self hH1l
        by_cases hlt : i < P.length
        ·have hlp : i < ps.length := by omega
         obtain ⟨x, y, hzz, hx, hy⟩ := zc5 ps[i]
         have hrs := zgY (fill base (P.take i) (ps.take i)) P[i] ps[i] (by rw [zfi, hbl]; exact hPl _ (List.getElem_mem hlt))
         rw [← zs2 hlt hlp] at hrs
         have hPi := hPl _ (List.getElem_mem hlt)
         simp [zpo, zcc, ziE, hlt, hlp, hga, hgb, hPi, hzz, hx, hy]
         refine ⟨by rw [zdx, zfi, hbl]; omega, ?_⟩
         have hcell : List.take (P[i] * 2) (zaZ (fill base (List.take i P) (List.take i ps))) ++ x :: y :: List.drop (P[i] * 2 + 2) (zaZ (fill base (List.take i P) (List.take i ps))) = zaZ (fill base (P.take (i + 1)) (ps.take (i + 1))) := by rw [← hrs, hzz]; simp
         rw [hcell, zar (by omega) (by omega)]
         refine hKb _ _ ⟨P.length - (i + 1), by omega, Back.at (J := []) (H2 := H1.set (H.length + 2) (.cells (zaZ (fill base (P.take (i + 1)) (ps.take (i + 1)))))) (by simp) (by simp) (hcut _ (by rw [zfi, hbl])) ?_ ⟨_, rfl, i + 1, by omega, rfl, by simp, rfl⟩⟩
         have hidl := (List.getElem?_eq_some_iff.1 hR1.2.choose_spec.1).1
         simp [zj0, AV.sc, AV.scV, AV.scA, AV.scB, hidl]
         omega
        ·obtain rfl : i = P.length := by omega
         rw [List.take_length, ← hpsl, List.take_length] at *
         simp [zpo, zcc, hg1']
         refine ⟨fun a ha => zmn ha, ?_⟩
         rw [List.take_of_length_le (show (IT.css rest).length ≤ rest.length by simp)]
         have hrow1 : (fill base P ps).length = l.length := by rw [zfi, hbl]
         refine zqY R _ _ (fill base P ps) rest _ ⟨zdx _, znZ _, .inl ⟨H.length + 2, by rw [hrow1], hgb⟩⟩ (fun p hp => by rw [hrow1]; exact hRl p hp) (by omega) (by simp at hl6; omega) (by omega) (ziM (by simp at hl6; omega) (by omega)) ?_
         intro id2 H2 hp2 hsc2 hR2
         have hlen1 : (H1.set (H.length + 2) (.cells (zaZ (fill base P ps)))).length = H1.length := by simp
         have hag : ∀ k, H.length + 3 ≤ k → k < H1.length → H2[k]? = H1[k]? := fun k hk1 hk2 => by
          rw [zgV hp2 (by rw [hlen1]; exact hk2), List.getElem?_set_ne (by omega)]
         have hpH2 : H <+: H2 := List.IsPrefix.trans (ziO hp0 (by omega)) hp2
         have hR1' : RowsH H2 H.length id (zbg base R (.mk c' ps :: rest)) := (RowsH.agree hR1 (fun k hk1 hk2 => hag k (by simpa using hk1) hk2)).weaken (by simp)
         have hidl := (List.getElem?_eq_some_iff.1 hR1.2.choose_spec.1).1
         have hsec : zcw base P R c' (.mk c' ps :: rest) = zbg (fill base P ps) R rest := by simp [zcw]
         rw [hsec] at hwide hnds hlen hK
         rw [List.length_append] at hlen
         refine zAe hR1' hR2 (by rw [hlen1]; exact hidl) (by rw [hlen1]; omega) (by omega) hsc2 fun H4 hs4 hR4 hpre4 => ?_
         exact zu8 (hpre4 H hpH2 (by omega)) hs hR4 hwide (by omega) hnds (by rw [List.length_append]; omega) K hK
      ·have hcb : (c' == c) = false := by simpa using hcc
       simp [hcb]
       exact hfin1 (by simp [zcw, hcc])
 ·have hb : (k != 5) = true := by simpa using h5
  simp [hb]
  exact ⟨⟨rfl, rfl⟩, zf7 hs (hbad 6 (by simp [zcN, hd, VT.kind, h5]))⟩
def dOne : List Dat := [⟨[68], 0, [⟨[67], []⟩]⟩]
theorem zsM : za5 dOne := by
 refine ⟨by simp [dOne], fun d hd => ?_⟩
 simp [dOne] at hd
 subst hd
 refine ⟨by simp, by simp, fun c hc => ?_⟩
 simp at hc
 subst hc
 exact ⟨by simp, by simp, by simp⟩
theorem zsL : zaR dOne (.mk 5 0 []) 0 = some [] := by kernel_rfl
theorem zAJ : zcN dOne (.mk 5 0 []) 0 (.mk 0 [.mk 0 []]) = none := by kernel_rfl
theorem zAi (H : zaa) (K : Kt) (hK : K (.bool true) H) : ACalls tP zie [] H K := by
 refine ACalls.out (zKs fun hs => ?_)
 simp [zx2, zax, zaP, zaz, za9, zaB, AV.pd, AV.known, Nat.add_assoc]
 obtain ⟨bs, hlb, hl8, hpay, h200, _, hsc, _⟩ := znO zsM zsL
 have hbs : bs = [] := by cases bs <;> simp_all
 subst hbs
 have hgo : ∀ (H : zaa) (K : Kt), K (.tup [.sl [[.sl [] .none]] .none, .int .i64 0]) H → ACalls tP zgC [.sl (dOne.map Dat.cs) .none, .agg (VT.mk 5 0 []).cs, .int .i64 0, .agg (IT.mk 0 [.mk 0 []]).cs] H K := fun H K hK => by
  refine zwV dOne zsM (.mk 5 0 []) (by decide) 0 (.mk 0 [.mk 0 []]) (by decide) H K (fun e he => by rw [zAJ] at he; cases he) (fun _ => ⟨[], [], zsL, rfl, by simp, by simp, hpay, hsc, fun rs hp _ => ?_⟩)
  have hr : zch [] [] 0 (ztl (.mk 0 [.mk 0 []])) = [[]] := by kernel_rfl
  rw [hr] at hp
  obtain rfl := List.perm_singleton.1 hp
  exact hK
 refine ACalls.wk (hgo H _ ?_) ⟨.atom (.sl _ _), .agg ⟨.refl _, .refl _, .snil, trivial⟩, .atom (.refl _), .agg ⟨.refl _, .sl _ _, trivial⟩, trivial⟩
 simp
 exact Out.bool (J := []) (by simp) (Nat.le_refl _) hs hK
theorem zCC (data : List Dat) (hlen : data.length ≤ 9223372036854775807) (t : VT) (H : zaa) (K : Kt) (hK : ∀ b, (b = true → za5 data ∧ t.nodes ≤ 250) → K (.bool b) H) : ACalls tP znG [.sl (data.map Dat.cs) .none, .agg t.cs] H K := by
 refine ACalls.out (zPf fun hs => ?_)
 have hO : ∀ b, (b = true → za5 data ∧ t.nodes ≤ 250) → ∀ J, Out H.length K (.bool b) (H ++ J) := fun b h J => Out.bool rfl (Nat.le_refl _) hs (hK b h)
 obtain ⟨x, y, z, hvx, hx, hy, hz⟩ := zaK t
 simp [zq9, hvx, Nat.add_assoc]
 refine zKM data _ _ hlen fun b1 hb1 => ?_
 cases b1 with
 | false =>
  simp
  exact hO _ (fun h => by cases h) _
 | true =>
  simp [Nat.add_assoc]
  rw [← hvx]
  refine zKQ t _ _ fun b2 hb2 => ?_
  try simp
  exact hO _ (fun h => ⟨hb1 rfl, hb2 h⟩) _
theorem zCa {N : Nat} {l : List VT} {bs : List Bool} {c : Int} {kids : List IT} (hl : ∀ x ∈ l, x.nodes ≤ 200) (hN : 200 ≤ N) (hk : IT.nodesL kids + 1 ≤ N) : ∀ r ∈ zch l bs c kids, ∀ x ∈ r, x.nodes ≤ N := by
 have hb := zsm (P := pos false bs bs.length) hl
 intro r h
 unfold zch at h
 rcases List.mem_append.1 h with h | h
 ·exact zgg _ _ _ (fun x hx => by have := hb x hx; omega) hk r h
 ·unfold zcw at h
  split at h
  ·simp at h
  ·rename_i c' ps rest
   simp only [IT.nodesL, IT.nodes] at hk
   split at h
   ·refine zgg _ _ _ (fun x hx => ?_) (by omega) r h
    rcases zhN _ _ _ _ hx with hx | hx
    ·have := hb x hx; omega
    ·have := ztO hx; omega
   ·simp at h
theorem zAG {data : List Dat} {n : Int} {ks : List VT} {c : Int} {v : IT} (hE : zcN data (.mk 5 n ks) c v = none) : zaY data (.mk 5 n ks) = true ∧ ∃ kids, v = .mk 0 kids ∧ 0 ≤ rdE data kids (.mk 5 n ks) 0 ∧ za0 data (.mk 5 n ks) (.mk 0 kids) = rdE data kids (.mk 5 n ks) 0 ∧ kids.length ≤ 6 := by
 have hd : 0 ≤ za0 data (.mk 5 n ks) v := by
  unfold zcN at hE
  split at hE
  ·cases hE
  ·omega
 have hf : zaY data (.mk 5 n ks) = true := by
  unfold za0 at hd
  by_cases h : zaY data (.mk 5 n ks) = true
  ·exact h
  ·rw [if_neg h] at hd; omega
 obtain ⟨m, kids⟩ := v
 have hr : za0 data (.mk 5 n ks) (.mk m kids) = rdV data (.mk m kids) (.mk 5 n ks) := by unfold za0; rw [if_pos hf]
 rw [hr, znW] at hd
 by_cases h : m = 0 ∧ kids.length ≤ 6
 ·rw [if_pos h] at hd
  obtain ⟨rfl, h6⟩ := h
  refine ⟨hf, kids, rfl, hd, ?_, h6⟩
  rw [hr, znW, if_pos ⟨rfl, h6⟩]
 ·rw [if_neg h] at hd; omega
theorem zui (g : Nat → IT → Nat) (x : IT) : ∀ (s : Nat) (a : List IT), zaM g s (a ++ [x]) = zaM g s a * g (s + a.length) x
 | s, [] => by simp [zaM]
 | s, y :: a => by
  rw [List.cons_append, zaM, zaM, zui g x (s + 1) a, List.length_cons, show s + 1 + a.length = s + (a.length + 1) by omega, Nat.mul_assoc]
theorem znT (g : Nat → IT → Nat) (row : List IT) (k : Nat) (h : k < row.length) : zaM g 0 (row.take (k + 1)) = zaM g 0 (row.take k) * g k row[k] := by
 rw [List.take_succ_eq_append_getElem h, zui]
 simp [Nat.min_eq_left (Nat.le_of_lt h)]
theorem zDi {l : List Nat} {k : Nat} (h : k < l.length) : za2 (l.take (k + 1)) = za2 (l.take k) + l[k] := by
 rw [List.take_succ_eq_append_getElem h, zg3]; simp
theorem zu5 (l : List Nat) (k : Nat) : za2 (l.take k) ≤ za2 l := by
 have := zg3 (l.take k) (l.drop k)
 rw [List.take_append_drop] at this
 omega
theorem zyu {data : List Dat} (hk : za5 data) (t : VT) (ht : t.nodes ≤ 1000) (i : IT) (hi : i.nodes ≤ 900) (v : VT) (hv : v.nodes ≤ 900) (H : zaa) (K : Kt) (hK : K (atR data t i v) H) :
  ACalls tP zii [.sl (data.map Dat.cs) .none, .agg t.cs, .agg i.cs, .agg v.cs] H K := by
 refine ACalls.out (zLc fun hs => ?_)
 obtain ⟨x, y, z, hvx, hx, hy, hz⟩ := zaK t
 obtain ⟨x2, y2, z2, hvx2, hx2, hy2, hz2⟩ := zaK v
 obtain ⟨x3, y3, hvx3, hx3, hy3⟩ := zc5 i
 simp [zyt, hvx, hvx2, hvx3, Nat.add_assoc]
 rw [← hvx, ← hvx3]
 refine zyM data hk t ht i hi _ _ ?_
 by_cases hd : za0 data t i < 0
 ·have hd' : decide (0 ≤ za0 data t i) = false := by simpa using hd
  unfold atR at hK
  rw [if_pos hd] at hK
  simp [hd', zax, zaP, zct, Nat.add_assoc]
  refine ⟨⟨rfl, rfl⟩, ?_⟩
  exact Out.tup (bs := [.agg [.bool false, .sl [] .none, .sl [] .none], .int .i64 1]) hs hK ⟨⟨.agg ⟨.refl _, .snil, .snil, trivial⟩, rfl, rfl⟩, za1 rfl rfl, trivial⟩
 ·have hd' : decide (0 ≤ za0 data t i) = true := by simpa using hd
  unfold atR at hK
  rw [if_neg hd] at hK
  simp [hd', hvx, hvx2, hvx3, Nat.add_assoc]
  rw [← hvx, ← hvx2]
  refine zKY data hk v t (by omega) (by omega) _ _ ?_
  cases hh : zbX data v t with
  | false =>
   rw [if_pos hh] at hK
   simp [zax, zaP, zct, Nat.add_assoc]
   refine ⟨⟨rfl, rfl⟩, ?_⟩
   exact Out.tup (bs := [.agg [.bool false, .sl [] .none, .sl [] .none], .int .i64 11]) hs hK ⟨⟨.agg ⟨.refl _, .snil, .snil, trivial⟩, rfl, rfl⟩, za1 rfl rfl, trivial⟩
  | true =>
   rw [if_neg (by simp [hh])] at hK
   obtain ⟨hD, htv, hvv⟩ := zte hh
   have hfine : zaY data t = true := by
    unfold za0 at hd
    by_cases h : zaY data t = true
    ·exact h
    ·rw [if_neg h] at hd; omega
   have h8 := zhO hfine
   have hrd : 0 ≤ rdV data i t := by unfold za0 at hd; rw [if_pos hfine] at hd; omega
   simp [hvx, hvx2, hvx3, Nat.add_assoc]
   rw [← hvx, ← hvx2, ← hvx3]
   refine zsk hk hD h8 i.nodes i (Nat.le_refl _) t v ⟨ht, htv, hrd, hvv, by omega, hi⟩ hv _ _ ?_
   simp [Nat.add_assoc, zcn]
   refine ⟨⟨rfl, rfl⟩, ?_⟩
   exact Out.tup (bs := [.agg (zan ((atV data i t v : Nat) : Int)), .int .i64 0]) hs hK ⟨za1 rfl rfl, za1 rfl rfl, trivial⟩
theorem zM7 (a : Nat) (ha : a < 1000000000 ^ 30) (H : zaa) (K : Kt) (hK : K (.int .i64 0) H) : ACalls tP znD [.agg (zan (a : Int)), .agg (zan (a : Int))] H K := by
 refine ACalls.out (zM6 fun hs => ?_)
 have la := zbO ha
 have d0 : ∀ n : Nat, decide ((n : Int) < 0) = false := fun n => by simp
 have e1 : ∀ n : Nat, zan (n : Int) = [.bool false, .sl (zap (lim n)) .none, .sl (zap [1]) .none] := fun n => by simp only [zan, d0, Int.natAbs_natCast]
 simp [zy9, e1, Nat.add_assoc]
 simp only [← e1]
 refine zaF (.agg (zan (a : Int))) (fun J => zeD a (by simpa using by omega) _ _ ⟨rfl, rfl⟩) ?_
 refine zaF (.agg (zan (a : Int))) (fun J => zeD a (by simpa using by omega) _ _ ⟨rfl, rfl⟩) ?_
 simp only [e1]
 simp [Nat.add_assoc]
 simp only [← e1]
 refine zaF (.int .i64 (if a = 0 then 0 else 1)) (fun J => zob a _ _ ⟨rfl, rfl⟩) ?_
 try simp only [e1]
 try simp [Nat.add_assoc]
 try simp only [← e1]
 refine zaF (.int .i64 (if a = 0 then 0 else 1)) (fun J => zob a _ _ ⟨rfl, rfl⟩) ?_
 try simp only [e1]
 try simp [Nat.add_assoc]
 refine zaF (.sl (zap (lim a)) .none) (fun J => zhU a ha _ _ ⟨rfl, rfl⟩) ?_
 try simp [Nat.add_assoc]
 refine zaF (.sl (zap (lim a)) .none) (fun J => zhU a ha _ _ ⟨rfl, rfl⟩) ?_
 try simp [Nat.add_assoc]
 refine zaF (.int .i64 (zc2 a a)) (fun J => zsC a a (by omega) (by omega) _ _ ⟨rfl, rfl⟩) ?_
 have h0 : zc2 a a = 0 := by simp [zc2]
 rw [h0]
 simp
 exact Out.int rfl (Nat.le_refl _) hs hK
def zfz (rs : List (List IT)) : List (List AV) := rs.map fun r => [.sl (IT.css r) .none]
theorem zsx {data : List Dat} (hk : za5 data) (T I : List AV) (vk vn : Int) (vs l : List VT) (rs : List (List IT)) (g : Nat → IT → Nat) (W : Nat) (hW : W ≤ 1000 ^ 6) (hsum : za2 (rs.map (zaM g 0)) = W) (hwide : ∀ r ∈ rs, r.length = l.length) (hvl : vs.length = l.length) (hll : l.length ≤ 1000) (hrl : rs.length ≤ 200000000)
  (hpre : ∀ r ∈ rs, ∀ j, j ≤ l.length → zaM g 0 (r.take j) ≤ 1000 ^ 60)
  (hgat : ∀ r ∈ rs, ∀ (j : Nat) (h1 : j < r.length) (h2 : j < l.length) (h3 : j < vs.length), atR data l[j] r[j] vs[j] = .tup [.agg (zan ((g j r[j] : Nat) : Int)), .int .i64 0] ∧ g j r[j] ≤ 1000 ^ 6 ∧ l[j].nodes ≤ 1000 ∧ r[j].nodes ≤ 900 ∧ vs[j].nodes ≤ 900)
  (tk : Tok) (htk : tk = .none ∨ tk = .full) (H : zaa) (K : Kt) (hs : HSc H) (hs1 : HSc (H ++ [.cells T, .cells [.int .i64 vk, .int .i64 vn, .sl (VT.css vs) .none], .cells I, .cells (zan (W : Int))])) (hK : K (.bool true) H) :
  zqp (.sl (data.map Dat.cs) .none) (.ptr (H.length + 1) 0) (.ptr (H.length + 3) 0) (.int .i64 0) (.sl (zfz rs) tk) (.sl (VT.css l) .none) (H ++ [.cells T, .cells [.int .i64 vk, .int .i64 vn, .sl (VT.css vs) .none], .cells I, .cells (zan (W : Int))]) (Out H.length K) := by
 have hrvl : (zfz rs).length = rs.length := by simp [zfz]
 simp [zqp, Nat.add_assoc]
 refine zdC 0 (by omega) _ _ ?_
 simp [Nat.add_assoc, hrvl]
 have hbase : ∀ z : Int, HSc (H ++ [.cells T, .cells [.int .i64 vk, .int .i64 vn, .sl (VT.css vs) .none], .cells I, .cells (zan (W : Int)), .cells (zan z)]) := fun z => by
  have := hs1.append (J := [.cells (zan z)]) (by simp [AB.sc, zan, AV.scA, AV.scB])
  simpa using this
 have hg3 : ∀ z z2 : Int, HSc (H ++ [.cells T, .cells [.int .i64 vk, .int .i64 vn, .sl (VT.css vs) .none], .cells I, .cells (zan (W : Int)), .cells (zan z), .cells (zan z2)]) := fun z z2 => by
  have := hs1.append (J := [.cells (zan z), .cells (zan z2)]) (by simp [AB.sc, zan, AV.scA, AV.scB])
  simpa using this
 have htk2 : ∀ n, AV.sc n (.sl (zfz rs) tk) = true := fun n => by rcases htk with rfl | rfl <;> rfl
 refine zKy (Inv := fun q t62 H' => ∃ i : Nat, i ≤ rs.length ∧ rs.length - i = q ∧ t62 = .int .i64 i ∧
  H' = H ++ [.cells T, .cells [.int .i64 vk, .int .i64 vn, .sl (VT.css vs) .none], .cells I, .cells (zan (W : Int)), .cells (zan ((za2 ((rs.map (zaM g 0)).take i) : Nat) : Int))]) rs.length ?_ ?_
 ·intro _; exact ⟨0, by omega, rfl, rfl, rfl⟩
 ·rintro q t62 H' ⟨i, hi, rfl, rfl, rfl⟩ hsc' hlen' hsF Kb hKb
  have hsle := zu5 (rs.map (zaM g 0)) i
  by_cases hlt : i < rs.length
  ·have hmr := List.getElem_mem hlt
   have hw := hwide _ hmr
   have hrg : (zfz rs)[i]'(by omega) = [.sl (IT.css rs[i]) .none] := by simp [zfz]
   simp [zql, hlt, hrvl, hrg, hw, Nat.add_assoc]
   refine zdC 1 (by omega) _ _ ?_
   simp [Nat.add_assoc]
   refine zKz (Inv := fun q t69 H' => ∃ j : Nat, j ≤ l.length ∧ l.length - j = q ∧ t69 = .int .i64 j ∧
    H' = H ++ [.cells T, .cells [.int .i64 vk, .int .i64 vn, .sl (VT.css vs) .none], .cells I, .cells (zan (W : Int)), .cells (zan ((za2 ((rs.map (zaM g 0)).take i) : Nat) : Int)), .cells (zan ((zaM g 0 (rs[i].take j) : Nat) : Int))]) l.length ?_ ?_
   ·intro _; exact ⟨0, by omega, rfl, rfl, rfl⟩
   ·rintro q t69 H' ⟨j, hj, rfl, rfl, rfl⟩ hsc2 hlen2 hsF2 Kb2 hKb2
    by_cases hjl : j < l.length
    ·have hjr : j < rs[i].length := by omega
     have hjv : j < vs.length := by omega
     obtain ⟨q1, q2, q3, q4, q5⟩ := hgat _ hmr j hjr hjl hjv
     obtain ⟨a1, a2, a3, hva, hxa, hya, hza⟩ := zaK l[j]
     obtain ⟨b1, b2, b3, hvb, hxb, hyb, hzb⟩ := zaK vs[j]
     obtain ⟨c1, c2, hvc, hxc, hyc⟩ := zc5 rs[i][j]
     have hp8 := hpre _ hmr j (by omega)
     simp [zqm, hjl, hjr, hjv, hva, hvb, hvc, hxc, hyc, wi j (by omega), Nat.add_assoc]
     rw [← hva, ← hvb, ← hvc]
     refine zaF (.tup [.agg (zan ((g j rs[i][j] : Nat) : Int)), .int .i64 0]) (fun J => zyu hk l[j] q3 rs[i][j] q4 vs[j] q5 _ _ ⟨q1, rfl⟩) ?_
     simp [Nat.add_assoc, zcn]
     refine zrc _ _ (zfE hp8 (by omega)) (zfE q2 (by omega)) _ _ ?_
     have hpt := znT g rs[i] j hjr
     have e : ((zaM g 0 (rs[i].take j) : Nat) : Int) * ((g j rs[i][j] : Nat) : Int) = ((zaM g 0 (rs[i].take (j + 1)) : Nat) : Int) := by rw [hpt, Int.natCast_mul]
     rw [e]
     simp [Nat.add_assoc]
     exact hKb2 _ _ ⟨l.length - (j + 1), by omega, Back.at (J := [.cells rs[i][j].cs, .cells (zan ((g j rs[i][j] : Nat) : Int))]) (H2 := H ++ [.cells T, .cells [.int .i64 vk, .int .i64 vn, .sl (VT.css vs) .none], .cells I, .cells (zan (W : Int)), .cells (zan ((za2 ((rs.map (zaM g 0)).take i) : Nat) : Int)), .cells (zan ((zaM g 0 (rs[i].take (j + 1)) : Nat) : Int))]) (by simp) (by simp) (hg3 _ _) (by rcases htk with rfl | rfl <;> simp [zkO, ux, AV.sc, AV.scA, AV.scB, AV.scV]) ⟨_, rfl, j + 1, by omega, rfl, rfl, rfl⟩⟩
    ·obtain rfl : j = l.length := by omega
     have hfull : rs[i].take l.length = rs[i] := List.take_of_length_le (by omega)
     rw [hfull] at *
     have hst := zDi (l := rs.map (zaM g 0)) (k := i) (by simpa using hlt)
     simp at hst
     have hsle2 := zu5 (rs.map (zaM g 0)) (i + 1)
     simp [zqm, wi i (by omega), Nat.add_assoc]
     refine zy8 _ _ (Nat.lt_of_le_of_lt (Nat.le_trans hsle (by omega)) (show 1000 ^ 6 < 1000000000 ^ 30 by decide)) (Nat.lt_of_le_of_lt (show zaM g 0 rs[i] ≤ 1000 ^ 6 by omega) (by decide)) _ _ ?_
     rw [← hst]
     simp [Nat.add_assoc]
     exact hKb _ _ ⟨rs.length - (i + 1), by omega, Back.at (J := [.cells (zan ((zaM g 0 rs[i] : Nat) : Int))]) (H2 := H ++ [.cells T, .cells [.int .i64 vk, .int .i64 vn, .sl (VT.css vs) .none], .cells I, .cells (zan (W : Int)), .cells (zan ((za2 ((rs.map (zaM g 0)).take (i + 1)) : Nat) : Int))]) (by simp) (by simp) (hbase _) (by rcases htk with rfl | rfl <;> simp [zkN, ux, AV.sc, AV.scA, AV.scB, AV.scV]) ⟨_, rfl, i + 1, by omega, rfl, rfl, rfl⟩⟩
  ·obtain rfl : i = rs.length := by omega
   rw [List.take_of_length_le (by simp), hsum] at *
   simp [zql, Nat.add_assoc, hrvl]
   refine zM7 W (Nat.lt_of_le_of_lt hW (by decide)) _ _ ?_
   simp
   exact Out.bool rfl (Nat.le_refl _) hs hK
end Go.Proofs.YtjkkonpjecoieaaGreat
