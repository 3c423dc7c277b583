import Derived.Test.YtjkkonpjecoieaaGreatKY11
import Derived.Test.YtjkkonpjecoieaaGreatAbsU
import Derived.Test.YtjkkonpjecoieaaGreatKNum
import Derived.Test.YtjkkonpjecoieaaGreatProg
import Derived.KernelRfl
import Derived.Test.YtjkkonpjecoieaaGreatKN6
set_option linter.unusedSimpArgs false
set_option linter.unusedVariables false
namespace Go.Proofs.YtjkkonpjecoieaaGreat
open Go Go.Abs
set_option maxRecDepth 8000
def zf8 (i : Nat) : VT → Bool
 | .mk k n ks => k == 4 && n == i && ks.length == 0
def zcj : List VT → Nat → Bool
 | [], _ => true
 | x :: l, i => zf8 i x && zcj l (i + 1)
def zbz (d vars : Int) : VT → Bool
 | .mk k n ks => k == 5 && n == d && (ks.length : Int) == vars && zcj ks 0
mutual
def zb7 (d : Int) : VT → Bool
 | .mk k n ks => (k == 5 && n == d) || zd3 d ks
def zd3 (d : Int) : List VT → Bool
 | [] => false
 | t :: ts => zb7 d t || zd3 d ts
end
theorem zrb (v : VT) (d vars : Int) (hb : v.nodes ≤ 1000000) (H : zaa) (K : AV → zaa → Prop) (hK : K (.bool (zbz d vars v)) H) : ACalls tP zh6 [.agg v.cs, .int .i64 d, .int .i64 vars] H K := by
 refine ACalls.out (zMc fun hs => ?_)
 obtain ⟨k, n, ks⟩ := v
 have hnl : VT.nodesL ks + 1 ≤ 1000000 := by simpa [VT.nodes] using hb
 have hll := VT.len_le ks
 have hO : ∀ J, Out H.length K (.bool (k == 5 && n == d && (ks.length : Int) == vars && zcj ks 0)) (H ++ J) := fun J => Out.bool rfl (Nat.le_refl _) hs (by simpa [zbz] using hK)
 simp only [VT.cs, zyn]
 cases h5 : (k == 5) with
 | false =>
  have : (k != 5) = true := by simp [bne, h5]
  rw [h5] at hO
  simp [this]
  exact hO _
 | true =>
 have h5' : (k != 5) = false := by simp [bne, h5]
 cases hn : (n == d) with
 | false =>
  have : (n != d) = true := by simp [bne, hn]
  rw [h5, hn] at hO
  simp [h5', this]
  exact hO _
 | true =>
 have hn' : (n != d) = false := by simp [bne, hn]
 cases hv : ((ks.length : Int) == vars) with
 | false =>
  have : ((ks.length : Int) != vars) = true := by simp [bne, hv]
  rw [h5, hn, hv] at hO
  simp [h5', hn', this]
  exact hO _
 | true =>
 have hv' : ((ks.length : Int) != vars) = false := by simp [bne, hv]
 rw [h5, hn, hv] at hO
 simp only [Bool.true_and] at hO
 simp [h5', hn', hv']
 refine zMa (Inv := fun q t7 H' => ∃ i : Nat, i ≤ ks.length ∧ q = ks.length - i ∧ t7 = .int .i64 i ∧ zcj (ks.drop i) i = zcj ks 0 ∧ H' = H ++ [.cells [.int .i64 k, .int .i64 n, .sl (VT.css ks) .none]]) ks.length ?_ ?_
 ·intro _; exact ⟨0, by omega, by omega, rfl, by simp, rfl⟩
 ·rintro q t7 H' ⟨i, hi, rfl, rfl, ho, rfl⟩ hsc hlen hsF Kb hKb
  by_cases hlt : i < ks.length
  ·rw [List.drop_eq_getElem_cons hlt, zcj] at ho
   obtain ⟨k', n', ks', hx⟩ : ∃ k' n' ks', ks[i] = .mk k' n' ks' := by cases h : ks[i] with | mk a b c => exact ⟨a, b, c, rfl⟩
   rw [hx, zf8] at ho
   cases g1 : (k' == 4) with
   | false =>
    have : (k' != 4) = true := by simp [bne, g1]
    rw [g1] at ho
    simp only [Bool.false_and] at ho
    rw [← ho] at hO
    simp [zfE, hlt, hx, VT.cs, this]
    exact hO _
   | true =>
   have g1' : (k' != 4) = false := by simp [bne, g1]
   cases g2 : (n' == (i : Int)) with
   | false =>
    have : (n' != (i : Int)) = true := by simp [bne, g2]
    rw [g1, g2] at ho
    simp only [Bool.false_and, Bool.and_false] at ho
    rw [← ho] at hO
    simp [zfE, hlt, hx, VT.cs, g1', this]
    exact hO _
   | true =>
   have g2' : (n' != (i : Int)) = false := by simp [bne, g2]
   by_cases g3 : ks'.length = 0
   ·have g3' : ¬ (0 : Int) < ks'.length := by omega
    have g3'' : ¬ 0 < ks'.length := by omega
    rw [g1, g2, g3] at ho
    simp only [Bool.true_and, BEq.rfl] at ho
    simp [zfE, hlt, hx, VT.cs, g1', g2', g3', g3'']
    rw [zas (by omega) (by omega)]
    refine hKb _ _ ⟨ks.length - (i + 1), by omega, Back.here (by simp) hsc ?_ ⟨_, rfl, i + 1, by omega, rfl, by simp, ho, rfl⟩⟩
    simp [zlg, AV.sc, AV.scV, AV.scA, AV.scB]
   ·have g3' : (0 : Int) < ks'.length := by omega
    have g3'' : 0 < ks'.length := by omega
    have g4 : (ks'.length == 0) = false := by simpa using g3
    rw [g4] at ho
    simp only [Bool.and_false, Bool.false_and] at ho
    rw [← ho] at hO
    simp [zfE, hlt, hx, VT.cs, g1', g2', g3', g3'']
    exact hO _
  ·obtain rfl : i = ks.length := by omega
   rw [List.drop_length, zcj] at ho
   rw [← ho] at hO
   simp [zfE]
   exact hO _
theorem zzo : zdh tP zhQ = true := by kernel_rfl
theorem zsQ (d : Int) : ∀ l : List VT, zd3 d l = l.any (zb7 d)
 | [] => rfl
 | t :: ts => by simp [zd3, zsQ d ts]
theorem zHs (d : Int) : ∀ (m : Nat) (v : VT), v.nodes ≤ m → v.nodes ≤ 1000000 → ∀ (H : zaa) (K : AV → zaa → Prop), K (.bool (zb7 d v)) H → ACalls tP zhP [.agg v.cs, .int .i64 d] H K := by
 intro m
 induction m with
 | zero => intro v h; have := v.nodes_pos; omega
 | succ m ih =>
  intro v hv hb H K hK
  obtain ⟨k, n, ks⟩ := v
  have hnl : VT.nodesL ks + 1 ≤ 1000000 := by simpa [VT.nodes] using hb
  have hll := VT.len_le ks
  refine ACalls.out (zHr fun hs => ?_)
  have hO : ∀ J, Out H.length K (.bool ((k == 5 && n == d) || ks.any (zb7 d))) (H ++ J) := fun J => Out.bool rfl (Nat.le_refl _) hs (by simpa [zb7, zsQ] using hK)
  have go : (k == 5 && n == d) = false → ∀ KK : AV → zaa → Prop, (∀ b, Out H.length K (.bool b) (H ++ [.cells [.int .i64 k, .int .i64 n, .sl (VT.css ks) .none], .cells [.int .i64 d]]) → KK (.bool b) (H ++ [.cells [.int .i64 k, .int .i64 n, .sl (VT.css ks) .none], .cells [.int .i64 d]])) →
    ACalls tP zey [.sl (VT.css ks) .none, .fn zhQ [.ptr (H.length + 1) 0]] (H ++ [.cells [.int .i64 k, .int .i64 n, .sl (VT.css ks) .none], .cells [.int .i64 d]]) KK := by
   intro hno KK hKK
   rw [hno, Bool.false_or] at hO
   refine zl0 ks (by omega) _ _ _ (by simp [AV.sc, AV.scV, AV.scA, AV.scB]) (fun i H' => (ks.drop i).any (zb7 d) = ks.any (zb7 d) ∧ H' = H ++ [.cells [.int .i64 k, .int .i64 n, .sl (VT.css ks) .none], .cells [.int .i64 d]]) ⟨by simp, rfl⟩ ?_ ?_
   ·rintro i hi H' hle ⟨ho, rfl⟩
    have hki := VT.kid_lt (k := k) (n := n) hi
    rw [List.drop_eq_getElem_cons hi, List.any_cons] at ho
    simp only [aCallV, zzo, List.singleton_append]
    refine ACalls.out (zHK fun hs1 => ?_)
    obtain ⟨x1, x2, x3, hvx, hx1, hx2, hx3⟩ := zaM ks[i]
    simp [zwM, hvx]
    rw [← hvx]
    refine ih ks[i] (by omega) (by omega) _ _ ?_
    refine Out.bool (J := [_]) (H2 := H ++ [.cells [.int .i64 k, .int .i64 n, .sl (VT.css ks) .none], .cells [.int .i64 d]]) (by simp; rfl) (by simp) hs1 ?_
    cases hb : zb7 d ks[i] with
    | false =>
     rw [hb, Bool.false_or] at ho
     exact .inl ⟨rfl, ho, rfl⟩
    | true =>
     rw [hb, Bool.true_or] at ho
     rw [← ho] at hO
     exact .inr ⟨rfl, hKK _ (hO _)⟩
   ·rintro H' ⟨ho, rfl⟩
    rw [List.drop_length, List.any_nil] at ho
    rw [← ho] at hO
    exact hKK _ (hO _)
  simp only [VT.cs, zwG]
  cases h5 : (k == 5) with
  | false =>
   simp [h5, AV.isB]
   refine go (by rw [h5]; rfl) _ fun b hb => ?_
   simpa using hb
  | true =>
   cases hn : (n == d) with
   | false =>
    simp [h5, hn, AV.isB]
    refine go (by rw [hn]; simp) _ fun b hb => ?_
    simpa using hb
   | true =>
    rw [h5, hn] at hO
    simp [h5, hn]
    exact hO _
def zbp (l : List Bool) : List AV := l.map AV.bool
@[simp] theorem zQk (l : List Bool) : (zbp l).length = l.length := by simp [zbp]
theorem zzl (n : Nat) : (List.replicate n [AV.bool false]).flatten = zbp (List.replicate n false) := by
 induction n with
 | zero => rfl
 | succ n ih => simp [List.replicate_succ, ih, zbp]
theorem zrK {l : List Bool} {i : Nat} (h : i < l.length) (b : Bool) : (zbp l).take i ++ .bool b :: (zbp l).drop (i + 1) = zbp (l.set i b) := by
 simp [zbp, List.set_eq_take_append_cons_drop, h]
theorem zrJ (m : Nat) (l : List Bool) : (zbp l).all (AV.scA m) = true := by simp [zbp]
theorem zti : ∀ l : List Bool, zaD (zbp l) = some (l.map fun b => [AV.bool b]).flatten
 | [] => rfl
 | b :: l => by
  have := zti l
  simp [zbp] at this ⊢
  simp [zaD, this, AV.pd]
theorem zqC (data : List Dat) (d : Nat) (c : Nat) (hd : d < data.length) (hc : c < (data[d]).cons.length) (hl : data.length ≤ 1000000) (hcl : (data[d]).cons.length ≤ 1000000) (hal : ((data[d]).cons[c]).args.length ≤ 1000000)
  (hb : ∀ x ∈ ((data[d]).cons[c]).args, x.nodes ≤ 1000000) (H : zaa) (K : AV → zaa → Prop)
  (hK : K (.sl (((data[d]).cons[c]).args.map fun t => [.bool (zbz d (data[d]).vars t)]) .none) H) :
  ACalls tP zdz [.sl (data.map Dat.cs) .none, .int .i64 d, .int .i64 c] H K := by
 refine ACalls.out (zLW fun hs => ?_)
 have e1 : (data.map Dat.cs)[d]? = some (data[d]).cs := by simp [hd]
 have e2 : ((data[d]).cons.map Con.cs)[c]? = some ((data[d]).cons[c]).cs := by simp [hc]
 generalize hD : data[d] = D at *
 generalize hA : D.cons[c] = C at *
 have h1 : ¬ (d : Int) < 0 := by omega
 have h2 : ¬ (data.length : Int) ≤ d := by omega
 have h3 : ¬ (c : Int) < 0 := by omega
 have h4 : ¬ (D.cons.length : Int) ≤ c := by omega
 simp [zyf, h1, h2, h3, h4, e1, e2, Dat.cs, Con.cs, hd, hD, hc, hA]
 simp only [zbe, Int.toNat_natCast, zzl]
 refine ⟨⟨by omega, by omega, by omega, by omega⟩, ?_⟩
 refine zLU (Inv := fun q t49 H' => ∃ (i : Nat) (bs : List Bool), i ≤ C.args.length ∧ q = C.args.length - i ∧ t49 = .int .i64 i ∧ bs.length = C.args.length ∧ (∀ j (hj : j < i) (h' : j < C.args.length), bs[j]? = some (zbz d D.vars C.args[j])) ∧ H' = H ++ [.cells (zbp bs)]) C.args.length ?_ ?_
 ·intro _; exact ⟨0, _, by omega, by omega, rfl, by simp, by omega, rfl⟩
 ·rintro q t49 H' ⟨i, bs, hi, rfl, rfl, hbl, hbs, rfl⟩ hsc hlen hsF Kb hKb
  by_cases hlt : i < C.args.length
  ·obtain ⟨k, n, ks, hx⟩ : ∃ k n ks, C.args[i] = .mk k n ks := by cases h : C.args[i] with | mk a b c => exact ⟨a, b, c, rfl⟩
   have hnb := hb _ (List.getElem_mem hlt)
   rw [hx, VT.nodes] at hnb
   have hll := VT.len_le ks
   have inner : ∀ b0 : Bool, b0 = (k == 5 && n == (d : Int) && (ks.length : Int) == D.vars) →
     zqB (.sl (data.map Dat.cs) .none) (.int .i64 d) (.ms H.length 0 C.args.length C.args.length) (.int .i64 i) (.sl (VT.css C.args) .none) (.int .i64 C.args.length) (.int .i64 i) (.sl (VT.css ks) .none) (.int .i64 ks.length) (.int .i64 0)
      (H ++ [.cells (zbp (bs.set i b0)), .cells [.int .i64 k, .int .i64 n, .sl (VT.css ks) .none]]) (Out H.length K) Kb := by
    intro b0 hb0
    refine zLT (Inv := fun q t80 H' => ∃ (j : Nat) (b : Bool), j ≤ ks.length ∧ q = ks.length - j ∧ t80 = .int .i64 j ∧ (b && zcj (ks.drop j) j) = zbz d D.vars C.args[i] ∧ H' = H ++ [.cells (zbp (bs.set i b)), .cells [.int .i64 k, .int .i64 n, .sl (VT.css ks) .none]]) ks.length ?_ ?_
    ·intro _; exact ⟨0, b0, by omega, by omega, rfl, by simp [hx, zbz, hb0], rfl⟩
    ·rintro q t80 H' ⟨j, b, hj, rfl, rfl, hob, rfl⟩ hsc1 hlen1 hsF1 Kb1 hKb1
     have hsc0 : ∀ b : Bool, HSc (H ++ [.cells (zbp (bs.set i b))]) := fun b => hs.snoc (by simp [AB.sc, zrJ])
     have hsc2 : ∀ b : Bool, HSc (H ++ [.cells (zbp (bs.set i b)), .cells [.int .i64 k, .int .i64 n, .sl (VT.css ks) .none]]) := fun b => hs.append (by simp [AB.sc, zrJ])
     by_cases hjl : j < ks.length
     ·obtain ⟨k', n', ks', hx'⟩ : ∃ k' n' ks', ks[j] = .mk k' n' ks' := by cases h : ks[j] with | mk a b c => exact ⟨a, b, c, rfl⟩
      have hib : i < bs.length := by omega
      rw [List.drop_eq_getElem_cons hjl, zcj, hx', zf8] at hob
      have hback : ∀ (b' : Bool) J, (b' && zcj (ks.drop (j + 1)) (j + 1)) = zbz d D.vars C.args[i] → zqA (.sl (data.map Dat.cs) .none) (.int .i64 d) (.ms H.length 0 C.args.length C.args.length) (.int .i64 i) (.sl (VT.css C.args) .none) (.int .i64 C.args.length) (.int .i64 i) (.sl (VT.css ks) .none) (.int .i64 ks.length) (.int .i64 j)
        (H ++ .cells (zbp (bs.set i b')) :: .cells [.int .i64 k, .int .i64 n, .sl (VT.css ks) .none] :: J) (Out H.length K) Kb Kb1 := by
       intro b' J hb'
       simp [zqA]
       rw [zas (by omega) (by omega)]
       refine hKb1 _ _ ⟨ks.length - (j + 1), by omega, Back.at (J := J) (H2 := H ++ [.cells (zbp (bs.set i b')), .cells [.int .i64 k, .int .i64 n, .sl (VT.css ks) .none]]) (by simp) (by simp) (hsc2 _) ?_ ⟨_, rfl, j + 1, b', by omega, rfl, by simp, hb', rfl⟩⟩
       simp [zlb, AV.sc, AV.scV, AV.scA, AV.scB]
      have hstore : ∀ l, List.take i (zbp (bs.set i b)) ++ .bool false :: List.drop (i + 1) (zbp (bs.set i b)) = l → l = zbp (bs.set i false) := by
       rintro _ rfl
       rw [zrK (by simpa using hib)]; simp
      cases g1 : (k' == 4) with
      | false =>
       have : (k' != 4) = true := by simp [bne, g1]
       rw [g1] at hob
       simp [zfC, zfD, hjl, hx', VT.cs, this, hlt, hbl, hstore _ rfl]
       refine ⟨by omega, hback _ _ ?_⟩; simpa using hob.symm
      | true =>
      have g1' : (k' != 4) = false := by simp [bne, g1]
      cases g2 : (n' == (j : Int)) with
      | false =>
       have : (n' != (j : Int)) = true := by simp [bne, g2]
       rw [g1, g2] at hob
       simp [zfC, zfD, hjl, hx', VT.cs, g1', this, hlt, hbl, hstore _ rfl]
       refine ⟨by omega, hback _ _ ?_⟩; simpa using hob.symm
      | true =>
      have g2' : (n' != (j : Int)) = false := by simp [bne, g2]
      by_cases g3 : ks'.length = 0
      ·have g3' : ¬ (0 : Int) < ks'.length := by omega
       have g3'' : ¬ 0 < ks'.length := by omega
       simp [zfC, zfD, hjl, hx', VT.cs, g1', g2', g3', g3'']
       refine hback _ _ ?_; simpa [g1, g2, g3] using hob
      ·have g3' : (0 : Int) < ks'.length := by omega
       have g3'' : 0 < ks'.length := by omega
       have g4 : (ks'.length == 0) = false := by simpa using g3
       rw [g4] at hob
       simp [zfC, zfD, hjl, hx', VT.cs, g1', g2', g3', g3'', hlt, hbl, hstore _ rfl]
       refine ⟨by omega, hback _ _ ?_⟩; simpa using hob.symm
     ·obtain rfl : j = ks.length := by omega
      rw [List.drop_length, zcj, Bool.and_true] at hob
      simp [zfC]
      rw [zas (by omega) (by omega)]
      refine hKb _ _ ⟨C.args.length - (i + 1), by omega, Back.at (J := [.cells [.int .i64 k, .int .i64 n, .sl (VT.css ks) .none]]) (H2 := H ++ [.cells (zbp (bs.set i b))]) (by simp) (by simp) (hsc0 _) ?_ ⟨_, rfl, i + 1, bs.set i b, by omega, rfl, by simp, by simpa using hbl, ?_, rfl⟩⟩
      ·simp [zlc, AV.sc, AV.scV, AV.scA, AV.scB]
      ·intro j hj h'
       by_cases hji : j = i
       ·subst hji; rw [← hob]; simp [hbl, hlt]
       ·rw [List.getElem?_set_ne (by omega)]; exact hbs j (by omega) h'
   have hstore : ∀ b l, List.take i (zbp bs) ++ .bool b :: List.drop (i + 1) (zbp bs) = l → l = zbp (bs.set i b) := by
    rintro b _ rfl
    rw [zrK (by omega)]
   cases h5 : (k == 5) with
   | false => simp [zg2, hlt, hx, VT.cs, e1, hd, hD, Dat.cs, h5, hbl, hstore _ _ rfl]; refine ⟨by omega, inner _ ?_⟩; simp [h5]
   | true =>
   cases hn : (n == (d : Int)) with
   | false => simp [zg2, hlt, hx, VT.cs, e1, hd, hD, Dat.cs, h5, hn, hbl, hstore _ _ rfl]; refine ⟨by omega, inner _ ?_⟩; simp [h5, hn]
   | true => simp [zg2, hlt, hx, VT.cs, e1, hd, hD, Dat.cs, h5, hn, hbl, hstore _ _ rfl]; refine ⟨by omega, inner _ ?_⟩; simp [h5, hn]
  ·obtain rfl : i = C.args.length := by omega
   simp [zg2]
   have hbe : bs = C.args.map (zbz d D.vars) := by
    refine List.ext_getElem (by simpa using hbl) fun j h1 h2 => ?_
    have := hbs j (by omega) (by omega)
    rw [List.getElem?_eq_getElem h1] at this
    simpa using this
   subst hbe
   refine ⟨_, H, _, rfl, Nat.le_refl _, hs, .one (.frz H.length 0 _ _ 1 (zbp (C.args.map (zbz d D.vars))) (C.args.map fun t => [.bool (zbz d D.vars t)]) (Nat.le_refl _) (by simp) (by simp) ?_ (by simp) (by simp) (Nat.le_refl _)), hK⟩
   rw [List.drop_zero, List.take_of_length_le (by simp), zti, List.map_map]
   rfl
end Go.Proofs.YtjkkonpjecoieaaGreat
namespace Go.Abs
open Go
def zbI (b : UInt8) : Bool := decide (97 ≤ (b.toNat : Int)) && decide ((b.toNat : Int) ≤ 122)
def bUp (b : UInt8) : Bool := decide (65 ≤ (b.toNat : Int)) && decide ((b.toNat : Int) ≤ 90)
def zaS (b : UInt8) : Bool := decide (48 ≤ (b.toNat : Int)) && decide ((b.toNat : Int) ≤ 57)
def bIn (b : UInt8) : Bool := zbI b || bUp b || zaS b || b == 95
def zcT (b : UInt8) : Bool := b == 9 || b == 10 || b == 13 || b == 32
def zbV : List UInt8 → Int → Bool
 | [], _ => true
 | b :: l, n => let m := n * 10 + ((b.toNat : Int) - 48)
  if m > 1000000 then false else zbV l m
def zcY (r : List UInt8) : Bool := r.take 2 == [45, 62] || r.take 2 == [60, 61] || r.take 2 == [61, 61]
def sgns : List UInt8 := [40, 41, 44, 61, 124, 43, 45, 42, 47, 37, 60, 59, 95]
def sgn (r : List UInt8) : Nat :=
 if zcY r = true then 2 else match r with
 | [] => 0
 | b :: _ => if sgns.contains b = true then 1 else 0
structure Tk where
 kind : Int
 text : List UInt8
 pos : Nat
def tok (kw : List UInt8 → Bool) (b : UInt8) (r : List UInt8) : Except Int (Int × Nat) :=
 if (zbI b || bUp b) = true then
  let n := (r.takeWhile bIn).length + 1
  if n > 24 then .error 9 else .ok (if bUp b = true then 2 else if kw ((b :: r).take n) = true then 4 else 1, n)
 else if zaS b = true then
  let n := (r.takeWhile zaS).length + 1
  if b == 48 && decide (n > 1) then .error 2 else if zbV ((b :: r).take n) 0 = true then .ok (3, n) else .error 9
 else
  let n := sgn (b :: r)
  if n = 0 then .error 2 else .ok (5, n)
theorem znN {kw : List UInt8 → Bool} {b : UInt8} {r : List UInt8} {k : Int} {n : Nat} (h : tok kw b r = .ok (k, n)) : 0 < n := by
 unfold tok at h
 split at h
 ·simp only at h; split at h <;> simp at h; omega
 ·split at h
  ·simp only at h; split at h
   ·simp at h
   ·split at h <;> simp at h; omega
  ·simp only at h; split at h <;> simp at h; omega
def zbo (kw : List UInt8 → Bool) (r : List UInt8) (pos : Nat) : Except (Nat × Int) (List Tk) :=
 match r with
 | [] => .ok [⟨6, [], pos⟩]
 | b :: r' =>
  if zcT b = true then zbo kw r' (pos + 1)
  else if b == 35 then zbo kw (r'.dropWhile (· != 10)) (pos + 1 + (r'.takeWhile (· != 10)).length)
  else match tok kw b r' with
   | .error e => .error (pos, e)
   | .ok (k, n) => match zbo kw (r'.drop (n - 1)) (pos + n) with
    | .error e => .error e
    | .ok l => .ok (⟨k, (b :: r').take n, pos⟩ :: l)
termination_by r.length
decreasing_by
 ·simp
 ·have := (List.dropWhile_sublist (p := (· != 10)) (l := r')).length_le; simp; omega
 ·simp; omega
end Go.Abs
namespace Go.Proofs.YtjkkonpjecoieaaGreat
open Go Go.Abs
set_option maxRecDepth 100000
def zeL : Nat → List Bool
 | 5 => rl false [0,1,4,2,54]
 | 9 => rl false [0,1,4,2,54]
 | _ => []
noncomputable def zpf : Code := Tryz.f206.body.getD .skip
noncomputable def zHo : List ResultVar := Tryz.f206.results.toList
def zfv (t0 t5 t6 : AV) : List AV := t0 :: ux 4 (t5 :: t6 :: ux 54 [])
def zwF : List Bool := zeL 5
noncomputable def zpg : Code := zar [1, 0, 1, 1, 1, 1, 0, 0, 0] zpf
def zwC (K : Kt) : AExit → List AV → zaa → Prop := zat tP zeL [1, 0, 1, 1, 1, 1, 0, 0] zpf (zay tP zHo K)
def zjS (t0 t5 t6 : AV) (H : zaa) (K : Kt) : Prop := ALoop tP zpg (zwC K) (zfv t0 t5 t6) H
def zfw (t0 t5 t6 : AV) (H : zaa) (K : Kt) (Kb5 : Lt) : Prop :=
 Kb5 (zfv t0 t5 t6) H
def zjQ (t0 t5 t6 : AV) : List AV := t0 :: ux 4 (t5 :: t6 :: ux 54 [])
def zHm : List Bool := zeL 9
noncomputable def zHj : Code := zar [1, 0, 1, 0, 1, 0, 0, 0, 0] zpg
def zHi (K : Kt) (Kb5 : Lt) : AExit → List AV → zaa → Prop := zat tP zeL [1, 0, 1, 0, 1, 0, 0, 0] zpg (zbF zwF Kb5 (zwC K))
def zwE (t0 t5 t6 : AV) (H : zaa) (K : Kt) (Kb5 : Lt) : Prop := ALoop tP zHj (zHi K Kb5) (zjQ t0 t5 t6) H
def zwD (t0 t5 : AV) (H : zaa) (K : Kt) : Prop :=
 zah 0 t0 fun t57 =>
 zaC [(.int .i64 0), (.str []), (.int .i64 0)] [(0, 1), (1, 1), (2, 1)] [(0, (.int .i64 6)), (2, t57)] fun t58 =>
 zaz 3 [(.int .i64 0), (.str []), (.int .i64 0)] 1 [(0, t58)] fun t59 =>
 zax zdW 3 32 t5 t59 H fun t60 H =>
 zaA [t60, (.int .i64 0), (.int .i64 0)] (K · H)
def zjR (t0 t5 : AV) (H : zaa) (K : Kt) : Prop :=
 zwD t0 t5 H K
def zpe (t0 t5 t6 : AV) (H : zaa) (K : Kt) (Kb5 : Lt) (Kb9 : Lt) : Prop :=
 zah 0 t0 fun t28 =>
 zac .lss false t6 t28 fun t29 =>
 zag t29
 (zbu t0 t6 fun t34 =>
 zac .eql false t34 (.int .u8 10) fun t35 =>
 zag t35
 (zfw t0 t5 t6 H K Kb5)
 (zac .add false t6 (.int .i64 1) fun t31 =>
 Kb9 (zjQ t0 t5 t31) H))
 (zjR t0 t5 H K)
def zpd (t0 t5 t6 : AV) (H : zaa) (K : Kt) (Kb5 : Lt) : Prop :=
 zah 0 t0 fun t14 =>
 zac .lss false t6 t14 fun t15 =>
 zag t15
 (zbu t0 t6 fun t18 =>
 ACalls tP zmS [t18] H fun t19 H =>
 zag t19
 (zac .add false t6 (.int .i64 1) fun t21 =>
 zfw t0 t5 t21 H K Kb5)
 (zbu t0 t6 fun t24 =>
 zac .eql false t24 (.int .u8 35) fun t25 =>
 zag t25
 (zwE t0 t5 t6 H K Kb5)
 (ACalls tP zmT [t0, t6] H fun t39 H =>
 zav t39 0 fun t40 =>
 zav t39 1 fun t41 =>
 zaw [(.int .i64 0), (.str []), (.int .i64 0)] H fun t7 H =>
 zak 3 t7 t40 H fun H =>
 zac .neq false t41 (.int .i64 0) fun t43 =>
 zag t43
 (zaA [.snil, t6, t41] (K · H))
 (zad true 3 t7 H fun t47 =>
 zaz 3 [(.int .i64 0), (.str []), (.int .i64 0)] 1 [(0, t47)] fun t48 =>
 zax zdW 3 32 t5 t48 H fun t49 H =>
 zaf 1 t7 fun t51 =>
 zad false 1 t51 H fun t52 =>
 zah 0 t52 fun t53 =>
 zac .add false t6 t53 fun t54 =>
 zfw t0 t49 t54 H K Kb5))))
 (zjR t0 t5 H K)
def zpc (t0 : AV) (H : zaa) (K : Kt) : Prop :=
 zah 0 t0 fun t10 =>
 zac .gtr false t10 (.int .i64 16384) fun t11 =>
 zag t11
 (zaA [.snil, (.int .i64 0), (.int .i64 9)] (K · H))
 (zjS t0 .snil (.int .i64 0) H K)
theorem zHl {t0 t5 t6 : AV} {H : zaa} {K : Kt} {Kb5 : Lt} (Inv : Nat → AV → zaa → Prop) (n : Nat) (h0 : HSc H → Inv n t6 H)
  (round : Rd1 (fun t6 => zjQ t0 t5 t6) (fun t6 => fun H Kb9 => zpe t0 t5 t6 H K Kb5 Kb9) H Inv) : zwE t0 t5 t6 H K Kb5 :=
 lp1 (M := zeL) zHm t6 (by kernel_rfl) Inv n h0 round
theorem zHk {t0 t5 t6 : AV} {H : zaa} {K : Kt} (Inv : Nat → AV → AV → zaa → Prop) (n : Nat) (h0 : HSc H → Inv n t5 t6 H)
  (round : Rd2 (fun t5 => fun t6 => zfv t0 t5 t6) (fun t5 => fun t6 => fun H Kb5 => zpd t0 t5 t6 H K Kb5) H Inv) : zjS t0 t5 t6 H K :=
 lp2 (M := zeL) zwF t5 t6 (by kernel_rfl) Inv n h0 round
theorem zHn {t0 : AV} {H : zaa} {K : Kt} (h : HSc H → zpc t0 H K) : ACalls tP zmP [t0] H K :=
 zam (M := zeL) Tryz.func206 (c := zpf) (by kernel_rfl) (fun hs => Eq.mpr (by kernel_rfl) (h hs))
def zcL : Nat → List Bool
 | 5 => rl false [0,1,4,2,193]
 | 10 => rl false [0,1,4,2,193]
 | 18 => rl false [0,1,4,4,191]
 | 29 => rl false [0,1,4,4,191]
 | _ => []
noncomputable def zoe : Code := Tryz.f129.body.getD .skip
noncomputable def zDN : List ResultVar := Tryz.f129.results.toList
def zeH (t0 t5 t6 : AV) : List AV := t0 :: ux 4 (t5 :: t6 :: ux 193 [])
def zi1 : List Bool := zcL 5
noncomputable def zeG : Code := zar [1, 1, 1, 0, 1, 0, 0] zoe
def ziV (K : Kt) : AExit → List AV → zaa → Prop := zat tP zcL [1, 1, 1, 0, 1, 0] zoe (zay tP zDN K)
def zi0 (t0 t5 t6 : AV) (H : zaa) (K : Kt) : Prop := ALoop tP zeG (ziV K) (zeH t0 t5 t6) H
def zee (t0 t5 t6 : AV) (H : zaa) (K : Kt) (Kb5 : Lt) : Prop :=
 Kb5 (zeH t0 t5 t6) H
def ziY (t0 t5 t6 : AV) : List AV := t0 :: ux 4 (t5 :: t6 :: ux 193 [])
def zDJ : List Bool := zcL 10
noncomputable def zDC : Code := zar [1, 0, 1, 1, 0, 1, 0, 0, 0, 0] zeG
def zDz (K : Kt) (Kb5 : Lt) : AExit → List AV → zaa → Prop := zat tP zcL [1, 0, 1, 1, 0, 1, 0, 0, 0] zeG (zbF zi1 Kb5 (ziV K))
def zu9 (t0 t5 t6 : AV) (H : zaa) (K : Kt) (Kb5 : Lt) : Prop := ALoop tP zDC (zDz K Kb5) (ziY t0 t5 t6) H
def zob (t0 t5 t6 : AV) (H : zaa) (K : Kt) (Kb5 : Lt) (Kb10 : Lt) : Prop :=
 zah 0 t0 fun t42 =>
 zac .lss false t6 t42 fun t43 =>
 zab t43 true H (fun K' => K' t0 H) fun t45 H =>
 zab t43 true H (fun K' => K' t6 H) fun t46 H =>
 zab t43 true H (fun K' => zbu t45 t46 (K' · H)) fun t47 H =>
 zab t43 true H (fun K' => zac .neq false t47 (.int .u8 10) (K' · H)) fun t48 H =>
 zai t43 t48 (.bool false) fun t49 =>
 zag t49
 (zac .add false t6 (.int .i64 1) fun t51 =>
 Kb10 (ziY t0 t5 t51) H)
 (zee t0 t5 t6 H K Kb5)
def zgM (t0 t5 t6 t7 t8 : AV) : List AV := t0 :: ux 4 (t5 :: t6 :: t7 :: t8 :: ux 191 [])
def zDK : List Bool := zcL 18
noncomputable def zDD : Code := zar [1, 0, 1, 1, 1, 1, 0, 0, 1, 0, 0, 0, 0] zeG
def zDA (K : Kt) (Kb5 : Lt) : AExit → List AV → zaa → Prop := zat tP zcL [1, 0, 1, 1, 1, 1, 0, 0, 1, 0, 0, 0] zeG (zbF zi1 Kb5 (ziV K))
def zof (t0 t5 t6 t7 t8 : AV) (H : zaa) (K : Kt) (Kb5 : Lt) : Prop := ALoop tP zDD (zDA K Kb5) (zgM t0 t5 t6 t7 t8) H
def zgN (t0 t5 t6 t8 : AV) (H : zaa) (K : Kt) (Kb5 : Lt) : Prop :=
 zac .add false t6 t8 fun t193 =>
 zee t0 t5 t193 H K Kb5
def zeg (t0 t5 t6 t8 : AV) (H : zaa) (K : Kt) (Kb5 : Lt) : Prop :=
 zgN t0 t5 t6 t8 H K Kb5
def zef (t0 t5 t6 t8 t9 : AV) (H : zaa) (K : Kt) (Kb5 : Lt) : Prop :=
 zac .add false t6 t8 fun t135 =>
 zaK 0 0 t0 (some t6) (some t135) fun t136 =>
 zaC [(.int .i64 0), (.str []), (.int .i64 0)] [(0, 1), (1, 1), (2, 1)] [(0, t9), (1, t136), (2, t6)] fun t138 =>
 zaz 3 [(.int .i64 0), (.str []), (.int .i64 0)] 1 [(0, t138)] fun t139 =>
 zax zbh 3 32 t5 t139 H fun t140 H =>
 zeg t0 t140 t6 t8 H K Kb5
def zoc (t0 t5 t6 t7 t8 : AV) (H : zaa) (K : Kt) (Kb5 : Lt) (Kb18 : Lt) : Prop :=
 zac .add false t6 t8 fun t79 =>
 zah 0 t0 fun t81 =>
 zac .lss false t79 t81 fun t82 =>
 zab t82 true H (fun K' => K' t0 H) fun t84 H =>
 zab t82 true H (fun K' => K' t6 H) fun t85 H =>
 zab t82 true H (fun K' => K' t8 H) fun t86 H =>
 zab t82 true H (fun K' => zac .add false t85 t86 (K' · H)) fun t87 H =>
 zab t82 true H (fun K' => zbu t84 t87 (K' · H)) fun t88 H =>
 zab t82 true H (fun K' => ACalls tP zhK [t88] H K') fun t89 H =>
 zab t82 true H (fun K' => K' t89 H) fun t90 H =>
 zab t90 false H (fun K' => K' t0 H) fun t91 H =>
 zab t90 false H (fun K' => K' t6 H) fun t92 H =>
 zab t90 false H (fun K' => K' t8 H) fun t93 H =>
 zab t90 false H (fun K' => zac .add false t92 t93 (K' · H)) fun t94 H =>
 zab t90 false H (fun K' => zbu t91 t94 (K' · H)) fun t95 H =>
 zab t90 false H (fun K' => ACalls tP ze9 [t95] H K') fun t96 H =>
 zab t82 true H (fun K' => zai t90 (.bool true) t96 (K' · H)) fun t97 H =>
 zab t82 true H (fun K' => K' t97 H) fun t98 H =>
 zab t98 false H (fun K' => K' t0 H) fun t99 H =>
 zab t98 false H (fun K' => K' t6 H) fun t100 H =>
 zab t98 false H (fun K' => K' t8 H) fun t101 H =>
 zab t98 false H (fun K' => zac .add false t100 t101 (K' · H)) fun t102 H =>
 zab t98 false H (fun K' => zbu t99 t102 (K' · H)) fun t103 H =>
 zab t98 false H (fun K' => ACalls tP zgg [t103] H K') fun t104 H =>
 zab t82 true H (fun K' => zai t98 (.bool true) t104 (K' · H)) fun t105 H =>
 zab t82 true H (fun K' => K' t105 H) fun t106 H =>
 zab t106 false H (fun K' => K' t0 H) fun t107 H =>
 zab t106 false H (fun K' => K' t6 H) fun t108 H =>
 zab t106 false H (fun K' => K' t8 H) fun t109 H =>
 zab t106 false H (fun K' => zac .add false t108 t109 (K' · H)) fun t110 H =>
 zab t106 false H (fun K' => zbu t107 t110 (K' · H)) fun t111 H =>
 zab t106 false H (fun K' => zac .eql false t111 (.int .u8 95) (K' · H)) fun t112 H =>
 zab t82 true H (fun K' => zai t106 (.bool true) t112 (K' · H)) fun t113 H =>
 zai t82 t113 (.bool false) fun t114 =>
 zag t114
 (zac .add false t8 (.int .i64 1) fun t116 =>
 Kb18 (zgM t0 t5 t6 t7 t116) H)
 (zac .gtr false t8 (.int .i64 24) fun t118 =>
 zag t118
 (zaA [.snil, t6, (.int .i64 9)] (K · H))
 (ACalls tP ze9 [t7] H fun t121 H =>
 zag t121
 (zef t0 t5 t6 t8 (.int .i64 2) H K Kb5)
 (zac .add false t6 t8 fun t126 =>
 zaK 0 0 t0 (some t6) (some t126) fun t127 =>
 ACalls tP zhL [t127] H fun t128 H =>
 zag t128
 (zef t0 t5 t6 t8 (.int .i64 4) H K Kb5)
 (zef t0 t5 t6 t8 (.int .i64 1) H K Kb5))))
def ziZ (t0 t5 t6 t7 t8 : AV) : List AV := t0 :: ux 4 (t5 :: t6 :: t7 :: t8 :: ux 191 [])
def zDL : List Bool := zcL 29
noncomputable def zDE : Code := zar [1, 0, 1, 1, 1, 1, 0, 0, 1, 1, 1, 0, 0, 0, 0] zeG
def zDB (K : Kt) (Kb5 : Lt) : AExit → List AV → zaa → Prop := zat tP zcL [1, 0, 1, 1, 1, 1, 0, 0, 1, 1, 1, 0, 0, 0] zeG (zbF zi1 Kb5 (ziV K))
def zog (t0 t5 t6 t7 t8 : AV) (H : zaa) (K : Kt) (Kb5 : Lt) : Prop := ALoop tP zDE (zDB K Kb5) (ziZ t0 t5 t6 t7 t8) H
def zod (t0 t5 t6 t7 t8 : AV) (H : zaa) (K : Kt) (Kb5 : Lt) (Kb29 : Lt) : Prop :=
 zac .add false t6 t8 fun t146 =>
 zah 0 t0 fun t148 =>
 zac .lss false t146 t148 fun t149 =>
 zab t149 true H (fun K' => K' t0 H) fun t151 H =>
 zab t149 true H (fun K' => K' t6 H) fun t152 H =>
 zab t149 true H (fun K' => K' t8 H) fun t153 H =>
 zab t149 true H (fun K' => zac .add false t152 t153 (K' · H)) fun t154 H =>
 zab t149 true H (fun K' => zbu t151 t154 (K' · H)) fun t155 H =>
 zab t149 true H (fun K' => ACalls tP zgg [t155] H K') fun t156 H =>
 zai t149 t156 (.bool false) fun t157 =>
 zag t157
 (zac .add false t8 (.int .i64 1) fun t159 =>
 Kb29 (ziZ t0 t5 t6 t7 t159) H)
 (zac .gtr false t8 (.int .i64 1) fun t161 =>
 zab t161 true H (fun K' => K' t7 H) fun t163 H =>
 zab t161 true H (fun K' => zac .eql false t163 (.int .u8 48) (K' · H)) fun t164 H =>
 zai t161 t164 (.bool false) fun t165 =>
 zag t165
 (zaA [.snil, t6, (.int .i64 2)] (K · H))
 (zac .add false t6 t8 fun t172 =>
 zaK 0 0 t0 (some t6) (some t172) fun t173 =>
 ACalls tP zfa [t173] H fun t174 H =>
 zav t174 0 fun t175 =>
 zav t174 1 fun t176 =>
 aUn .not t176 fun t178 =>
 zag t178
 (zaA [.snil, t6, (.int .i64 9)] (K · H))
 (zac .add false t6 t8 fun t185 =>
 zaK 0 0 t0 (some t6) (some t185) fun t186 =>
 zaC [(.int .i64 0), (.str []), (.int .i64 0)] [(0, 1), (1, 1), (2, 1)] [(0, (.int .i64 3)), (1, t186), (2, t6)] fun t188 =>
 zaz 3 [(.int .i64 0), (.str []), (.int .i64 0)] 1 [(0, t188)] fun t189 =>
 zax zbh 3 32 t5 t189 H fun t190 H =>
 zeg t0 t190 t6 t8 H K Kb5)))
def ziW (t0 t5 t6 : AV) (H : zaa) (K : Kt) (Kb5 : Lt) : Prop :=
 zah 0 t0 fun t17 =>
 zac .lss false t6 t17 fun t18 =>
 zag t18
 (zbu t0 t6 fun t21 =>
 zac .eql false t21 (.int .u8 9) fun t23 =>
 zab t23 false H (fun K' => K' t21 H) fun t25 H =>
 zab t23 false H (fun K' => zac .eql false t25 (.int .u8 10) (K' · H)) fun t26 H =>
 zai t23 (.bool true) t26 fun t27 =>
 zab t27 false H (fun K' => K' t21 H) fun t29 H =>
 zab t27 false H (fun K' => zac .eql false t29 (.int .u8 13) (K' · H)) fun t30 H =>
 zai t27 (.bool true) t30 fun t31 =>
 zab t31 false H (fun K' => K' t21 H) fun t33 H =>
 zab t31 false H (fun K' => zac .eql false t33 (.int .u8 32) (K' · H)) fun t34 H =>
 zai t31 (.bool true) t34 fun t35 =>
 zag t35
 (zac .add false t6 (.int .i64 1) fun t37 =>
 zee t0 t5 t37 H K Kb5)
 (zac .eql false t21 (.int .u8 35) fun t39 =>
 zag t39
 (zu9 t0 t5 t6 H K Kb5)
 (ACalls tP zhK [t21] H fun t72 H =>
 zab t72 false H (fun K' => K' t21 H) fun t74 H =>
 zab t72 false H (fun K' => ACalls tP ze9 [t74] H K') fun t75 H =>
 zai t72 (.bool true) t75 fun t76 =>
 zag t76
 (zof t0 t5 t6 t21 (.int .i64 1) H K Kb5)
 (ACalls tP zgg [t21] H fun t143 H =>
 zag t143
 (zog t0 t5 t6 t21 (.int .i64 1) H K Kb5)
 (zaK 0 0 t0 (some t6) none fun t54 =>
 ACalls tP zmL [t54] H fun t55 H =>
 zac .eql false t55 (.int .i64 0) fun t57 =>
 zag t57
 (zaA [.snil, t6, (.int .i64 2)] (K · H))
 (zac .add false t6 t55 fun t64 =>
 zaK 0 0 t0 (some t6) (some t64) fun t65 =>
 zaC [(.int .i64 0), (.str []), (.int .i64 0)] [(0, 1), (1, 1), (2, 1)] [(0, (.int .i64 5)), (1, t65), (2, t6)] fun t67 =>
 zaz 3 [(.int .i64 0), (.str []), (.int .i64 0)] 1 [(0, t67)] fun t68 =>
 zax zbh 3 32 t5 t68 H fun t69 H =>
 zeg t0 t69 t6 t55 H K Kb5))))))
 (zah 0 t0 fun t196 =>
 zaC [(.int .i64 0), (.str []), (.int .i64 0)] [(0, 1), (1, 1), (2, 1)] [(0, (.int .i64 6)), (1, (.str [])), (2, t196)] fun t197 =>
 zaz 3 [(.int .i64 0), (.str []), (.int .i64 0)] 1 [(0, t197)] fun t198 =>
 zax zbh 3 32 t5 t198 H fun t199 H =>
 zaA [t199, (.int .i64 0), (.int .i64 0)] (K · H))
def zoa (t0 : AV) (H : zaa) (K : Kt) : Prop :=
 zah 0 t0 fun t13 =>
 zac .gtr false t13 (.int .i64 16384) fun t14 =>
 zag t14
 (zaA [.snil, (.int .i64 0), (.int .i64 9)] (K · H))
 (zi0 t0 .snil (.int .i64 0) H K)
theorem zDF {t0 t5 t6 : AV} {H : zaa} {K : Kt} {Kb5 : Lt} (Inv : Nat → AV → zaa → Prop) (n : Nat) (h0 : HSc H → Inv n t6 H)
  (round : Rd1 (fun t6 => ziY t0 t5 t6) (fun t6 => fun H Kb10 => zob t0 t5 t6 H K Kb5 Kb10) H Inv) : zu9 t0 t5 t6 H K Kb5 :=
 lp1 (M := zcL) zDJ t6 (by kernel_rfl) Inv n h0 round
theorem zDG {t0 t5 t6 t7 t8 : AV} {H : zaa} {K : Kt} {Kb5 : Lt} (Inv : Nat → AV → zaa → Prop) (n : Nat) (h0 : HSc H → Inv n t8 H)
  (round : Rd1 (fun t8 => zgM t0 t5 t6 t7 t8) (fun t8 => fun H Kb18 => zoc t0 t5 t6 t7 t8 H K Kb5 Kb18) H Inv) : zof t0 t5 t6 t7 t8 H K Kb5 :=
 lp1 (M := zcL) zDK t8 (by kernel_rfl) Inv n h0 round
theorem zDH {t0 t5 t6 t7 t8 : AV} {H : zaa} {K : Kt} {Kb5 : Lt} (Inv : Nat → AV → zaa → Prop) (n : Nat) (h0 : HSc H → Inv n t8 H)
  (round : Rd1 (fun t8 => ziZ t0 t5 t6 t7 t8) (fun t8 => fun H Kb29 => zod t0 t5 t6 t7 t8 H K Kb5 Kb29) H Inv) : zog t0 t5 t6 t7 t8 H K Kb5 :=
 lp1 (M := zcL) zDL t8 (by kernel_rfl) Inv n h0 round
theorem zDI {t0 t5 t6 : AV} {H : zaa} {K : Kt} (Inv : Nat → AV → AV → zaa → Prop) (n : Nat) (h0 : HSc H → Inv n t5 t6 H)
  (round : Rd2 (fun t5 => fun t6 => zeH t0 t5 t6) (fun t5 => fun t6 => fun H Kb5 => ziW t0 t5 t6 H K Kb5) H Inv) : zi0 t0 t5 t6 H K :=
 lp2 (M := zcL) zi1 t5 t6 (by kernel_rfl) Inv n h0 round
theorem zDM {t0 : AV} {H : zaa} {K : Kt} (h : HSc H → zoa t0 H K) : ACalls tP zmx [t0] H K :=
 zam (M := zcL) Tryz.func129 (c := zoe) (by kernel_rfl) (fun hs => Eq.mpr (by kernel_rfl) (h hs))
def zHC (_ : Nat) : List Bool := []
noncomputable def zHD : Code := Tryz.f219.body.getD .skip
def zwK (t0 : AV) (H : zaa) (K : Kt) : Prop :=
 zac .eql false t0 (.int .u8 9) fun t4 =>
 zab t4 false H (fun K' => K' t0 H) fun t6 H =>
 zab t4 false H (fun K' => zac .eql false t6 (.int .u8 10) (K' · H)) fun t7 H =>
 zai t4 (.bool true) t7 fun t8 =>
 zab t8 false H (fun K' => K' t0 H) fun t10 H =>
 zab t8 false H (fun K' => zac .eql false t10 (.int .u8 13) (K' · H)) fun t11 H =>
 zai t8 (.bool true) t11 fun t12 =>
 zab t12 false H (fun K' => K' t0 H) fun t14 H =>
 zab t12 false H (fun K' => zac .eql false t14 (.int .u8 32) (K' · H)) fun t15 H =>
 zai t12 (.bool true) t15 fun t16 =>
 K t16 H
theorem zHE {t0 : AV} {H : zaa} {K : Kt} (h : HSc H → zwK t0 H K) : ACalls tP zmS [t0] H K :=
 zam (M := zHC) Tryz.func219 (c := zHD) (by kernel_rfl) (fun hs => Eq.mpr (by kernel_rfl) (h hs))
end Go.Proofs.YtjkkonpjecoieaaGreat
namespace Go.Proofs.YtjkkonpjecoieaaGreat
open Go Go.Abs
set_option maxRecDepth 100000
def zHF (_ : Nat) : List Bool := []
noncomputable def zHG : Code := Tryz.f220.body.getD .skip
def zwL (t4 t6 : AV) (H : zaa) (K : Kt) : Prop :=
 zad true 3 t6 H fun t74 =>
 zak 3 t4 t74 H fun H =>
 zad true 3 t4 H fun r0 =>
 zaA [r0, (.int .i64 0)] (K · H)
def zfy (t4 t6 : AV) (H : zaa) (K : Kt) : Prop :=
 zwL t4 t6 H K
def zfx (t4 t6 : AV) (H : zaa) (K : Kt) : Prop :=
 zfy t4 t6 H K
def zpk (t0 t1 : AV) (H : zaa) (K : Kt) : Prop :=
 zaw [(.int .i64 0), (.str []), (.int .i64 0)] H fun t4 H =>
 zaC [(.int .i64 0), (.str []), (.int .i64 0)] [(0, 1), (1, 1), (2, 1)] [(2, t1)] fun t9 =>
 zaw [(.int .i64 0), (.str []), (.int .i64 0)] H fun t6 H =>
 zak 3 t6 t9 H fun H =>
 zbu t0 t1 fun t12 =>
 ACalls tP zhR [t12] H fun t25 H =>
 zab t25 false H (fun K' => K' t12 H) fun t27 H =>
 zab t25 false H (fun K' => ACalls tP zgi [t27] H K') fun t28 H =>
 zai t25 (.bool true) t28 fun t29 =>
 zag t29
 (zaK 0 0 t0 (some t1) none fun t32 =>
 ACalls tP zhS [t32, (.fn zgj [])] H fun t33 H =>
 zaf 1 t6 fun t34 =>
 zak 1 t34 t33 H fun H =>
 zaf 1 t6 fun t37 =>
 zad false 1 t37 H fun t38 =>
 zah 0 t38 fun t39 =>
 zac .gtr false t39 (.int .i64 24) fun t40 =>
 zag t40
 (zaC [(.int .i64 0), (.str []), (.int .i64 0)] [(0, 1), (1, 1), (2, 1)] [] fun t41 =>
 zak 3 t4 t41 H fun H =>
 zad true 3 t4 H fun r0 =>
 zaA [r0, (.int .i64 9)] (K · H))
 (ACalls tP zgi [t12] H fun t44 H =>
 zag t44
 (zaf 0 t6 fun t45 =>
 zak 1 t45 (.int .i64 2) H fun H =>
 zfx t4 t6 H K)
 (zaf 1 t6 fun t47 =>
 zad false 1 t47 H fun t48 =>
 ACalls tP zmV [t48] H fun t49 H =>
 zag t49
 (zaf 0 t6 fun t50 =>
 zak 1 t50 (.int .i64 4) H fun H =>
 zfx t4 t6 H K)
 (zaf 0 t6 fun t35 =>
 zak 1 t35 (.int .i64 1) H fun H =>
 zfx t4 t6 H K))))
 (ACalls tP zez [t12] H fun t53 H =>
 zag t53
 (zaf 0 t6 fun t54 =>
 zak 1 t54 (.int .i64 3) H fun H =>
 zaK 0 0 t0 (some t1) none fun t57 =>
 ACalls tP zhS [t57, (.fn zez [])] H fun t58 H =>
 zaf 1 t6 fun t59 =>
 zak 1 t59 t58 H fun H =>
 zac .eql false t12 (.int .u8 48) fun t61 =>
 zab t61 true H (fun K' => zaf 1 t6 (K' · H)) fun t63 H =>
 zab t61 true H (fun K' => zad false 1 t63 H (K' · H)) fun t64 H =>
 zab t61 true H (fun K' => zah 0 t64 (K' · H)) fun t65 H =>
 zab t61 true H (fun K' => zac .gtr false t65 (.int .i64 1) (K' · H)) fun t66 H =>
 zai t61 t66 (.bool false) fun t67 =>
 zag t67
 (zaC [(.int .i64 0), (.str []), (.int .i64 0)] [(0, 1), (1, 1), (2, 1)] [] fun t68 =>
 zak 3 t4 t68 H fun H =>
 zad true 3 t4 H fun r0 =>
 zaA [r0, (.int .i64 2)] (K · H))
 (zaf 1 t6 fun t69 =>
 zad false 1 t69 H fun t70 =>
 ACalls tP zgk [t70] H fun t71 H =>
 aUn .not t71 fun t72 =>
 zag t72
 (zaC [(.int .i64 0), (.str []), (.int .i64 0)] [(0, 1), (1, 1), (2, 1)] [] fun t73 =>
 zak 3 t4 t73 H fun H =>
 zad true 3 t4 H fun r0 =>
 zaA [r0, (.int .i64 9)] (K · H))
 (zfy t4 t6 H K)))
 (zaf 0 t6 fun t13 =>
 zak 1 t13 (.int .i64 5) H fun H =>
 zaK 0 0 t0 (some t1) none fun t16 =>
 ACalls tP zmW [t16] H fun t17 H =>
 zaf 1 t6 fun t18 =>
 zak 1 t18 t17 H fun H =>
 zaf 1 t6 fun t19 =>
 zad false 1 t19 H fun t20 =>
 zac .eql false t20 (.str []) fun t21 =>
 zag t21
 (zaC [(.int .i64 0), (.str []), (.int .i64 0)] [(0, 1), (1, 1), (2, 1)] [] fun t22 =>
 zak 3 t4 t22 H fun H =>
 zad true 3 t4 H fun r0 =>
 zaA [r0, (.int .i64 2)] (K · H))
 (zfy t4 t6 H K)))
theorem zHH {t0 t1 : AV} {H : zaa} {K : Kt} (h : HSc H → zpk t0 t1 H K) : ACalls tP zmT [t0, t1] H K :=
 zam (M := zHF) Tryz.func220 (c := zHG) (by kernel_rfl) (fun hs => Eq.mpr (by kernel_rfl) (h hs))
def zF9 (_ : Nat) : List Bool := []
noncomputable def zGa : Code := Tryz.f171.body.getD .skip
def zwh (t0 : AV) (H : zaa) (K : Kt) : Prop :=
 zac .geq false t0 (.int .u8 97) fun t4 =>
 zab t4 true H (fun K' => K' t0 H) fun t6 H =>
 zab t4 true H (fun K' => zac .leq false t6 (.int .u8 122) (K' · H)) fun t7 H =>
 zai t4 t7 (.bool false) fun t8 =>
 K t8 H
theorem zGb {t0 : AV} {H : zaa} {K : Kt} (h : HSc H → zwh t0 H K) : ACalls tP zhK [t0] H K :=
 zam (M := zF9) Tryz.func171 (c := zGa) (by kernel_rfl) (fun hs => Eq.mpr (by kernel_rfl) (h hs))
def zGf (_ : Nat) : List Bool := []
noncomputable def zGg : Code := Tryz.f172.body.getD .skip
def zwk (t0 : AV) (H : zaa) (K : Kt) : Prop :=
 zac .geq false t0 (.int .u8 65) fun t4 =>
 zab t4 true H (fun K' => K' t0 H) fun t6 H =>
 zab t4 true H (fun K' => zac .leq false t6 (.int .u8 90) (K' · H)) fun t7 H =>
 zai t4 t7 (.bool false) fun t8 =>
 K t8 H
theorem zGh {t0 : AV} {H : zaa} {K : Kt} (h : HSc H → zwk t0 H K) : ACalls tP ze9 [t0] H K :=
 zam (M := zGf) Tryz.func172 (c := zGg) (by kernel_rfl) (fun hs => Eq.mpr (by kernel_rfl) (h hs))
def zGi (_ : Nat) : List Bool := []
noncomputable def zGj : Code := Tryz.f173.body.getD .skip
def zwl (t0 : AV) (H : zaa) (K : Kt) : Prop :=
 zac .geq false t0 (.int .u8 48) fun t4 =>
 zab t4 true H (fun K' => K' t0 H) fun t6 H =>
 zab t4 true H (fun K' => zac .leq false t6 (.int .u8 57) (K' · H)) fun t7 H =>
 zai t4 t7 (.bool false) fun t8 =>
 K t8 H
theorem zGk {t0 : AV} {H : zaa} {K : Kt} (h : HSc H → zwl t0 H K) : ACalls tP zgg [t0] H K :=
 zam (M := zGi) Tryz.func173 (c := zGj) (by kernel_rfl) (fun hs => Eq.mpr (by kernel_rfl) (h hs))
def zjw : Nat → List Bool
 | 3 => rl false [0,1,2,2,13]
 | _ => []
noncomputable def zoX : Code := Tryz.f174.body.getD .skip
noncomputable def zGq : List ResultVar := Tryz.f174.results.toList
def zjy (t0 t3 t4 : AV) : List AV := t0 :: ux 2 (t3 :: t4 :: ux 13 [])
def zGo : List Bool := zjw 3
noncomputable def zGm : Code := zar [1, 1, 0, 1, 0, 0] zoX
def zGl (K : Kt) : AExit → List AV → zaa → Prop := zat tP zjw [1, 1, 0, 1, 0] zoX (zay tP zGq K)
def zoY (t0 t3 t4 : AV) (H : zaa) (K : Kt) : Prop := ALoop tP zGm (zGl K) (zjy t0 t3 t4) H
def zjx (t0 t3 t4 : AV) (H : zaa) (K : Kt) (Kb3 : Lt) : Prop :=
 zah 1 t3 fun t8 =>
 zac .lss false t4 t8 fun t9 =>
 zag t9
 (zaj 1 t3 t4 fun t14 =>
 zad false 1 t14 H fun t15 =>
 zac .eql false t15 t0 fun t17 =>
 zag t17
 (K (.bool true) H)
 (zac .add false t4 (.int .i64 1) fun t11 =>
 Kb3 (zjy t0 t3 t11) H))
 (K (.bool false) H)
def zwm (t0 : AV) (H : zaa) (K : Kt) : Prop :=
 zaz 1 [(.str [])] 28 [(0, (.str [97, 114, 114, 97, 121])), (1, (.str [98, 111, 111, 108])), (2, (.str [99, 97, 116, 99, 104])), (3, (.str [100, 97, 116, 97])), (4, (.str [101, 108, 115, 101])), (5, (.str [101, 110, 100])), (6, (.str [102, 97, 108, 115, 101])), (7, (.str [102, 110])), (8, (.str [102, 117, 110])), (9, (.str [103, 101, 116])), (10, (.str [105, 102])), (11, (.str [105, 110])), (12, (.str [105, 110, 116])), (13, (.str [108, 101, 110])), (14, (.str [108, 101, 116])), (15, (.str [109, 97, 116, 99, 104])), (16, (.str [110, 101, 119])), (17, (.str [114, 97, 105, 115, 101])), (18, (.str [114, 101, 97, 100])), (19, (.str [114, 101, 102])), (20, (.str [115, 101, 116])), (21, (.str [116, 104, 101, 110])), (22, (.str [116, 105, 99, 107])), (23, (.str [116, 114, 117, 101])), (24, (.str [116, 114, 121])), (25, (.str [117, 110, 105, 116])), (26, (.str [119, 105, 116, 104])), (27, (.str [119, 114, 105, 116, 101]))] fun t5 =>
 zoY t0 t5 (.int .i64 0) H K
theorem zGn {t0 t3 t4 : AV} {H : zaa} {K : Kt} (Inv : Nat → AV → zaa → Prop) (n : Nat) (h0 : HSc H → Inv n t4 H)
  (round : Rd1 (fun t4 => zjy t0 t3 t4) (fun t4 => fun H Kb3 => zjx t0 t3 t4 H K Kb3) H Inv) : zoY t0 t3 t4 H K :=
 lp1 (M := zjw) zGo t4 (by kernel_rfl) Inv n h0 round
theorem zGp {t0 : AV} {H : zaa} {K : Kt} (h : HSc H → zwm t0 H K) : ACalls tP zhL [t0] H K :=
 zam (M := zjw) Tryz.func174 (c := zoX) (by kernel_rfl) (fun hs => Eq.mpr (by kernel_rfl) (h hs))
def zjz : Nat → List Bool
 | 3 => rl false [0,1,3,2,17]
 | _ => []
noncomputable def zo0 : Code := Tryz.f175.body.getD .skip
noncomputable def zGw : List ResultVar := Tryz.f175.results.toList
def zjA (t0 t4 t5 : AV) : List AV := t0 :: ux 3 (t4 :: t5 :: ux 17 [])
def zGu : List Bool := zjz 3
noncomputable def zGs : Code := zar [1, 1, 0, 1, 0, 0] zo0
def zGr (K : Kt) : AExit → List AV → zaa → Prop := zat tP zjz [1, 1, 0, 1, 0] zo0 (zay tP zGw K)
def zwo (t0 t4 t5 : AV) (H : zaa) (K : Kt) : Prop := ALoop tP zGs (zGr K) (zjA t0 t4 t5) H
def zoZ (t0 t4 t5 : AV) (H : zaa) (K : Kt) (Kb3 : Lt) : Prop :=
 zah 0 t0 fun t8 =>
 zac .lss false t5 t8 fun t9 =>
 zag t9
 (zac .mul false t4 (.int .i64 10) fun t13 =>
 zbu t0 t5 fun t16 =>
 zac .sub false t16 (.int .u8 48) fun t17 =>
 zbt .i64 t17 fun t18 =>
 zac .add false t13 t18 fun t19 =>
 zac .gtr false t19 (.int .i64 1000000) fun t21 =>
 zag t21
 (zaA [(.int .i64 0), (.bool false)] (K · H))
 (zac .add false t5 (.int .i64 1) fun t11 =>
 Kb3 (zjA t0 t19 t11) H))
 (zaA [t4, (.bool true)] (K · H))
def zwn (t0 : AV) (H : zaa) (K : Kt) : Prop :=
 zwo t0 (.int .i64 0) (.int .i64 0) H K
theorem zGt {t0 t4 t5 : AV} {H : zaa} {K : Kt} (Inv : Nat → AV → AV → zaa → Prop) (n : Nat) (h0 : HSc H → Inv n t4 t5 H)
  (round : Rd2 (fun t4 => fun t5 => zjA t0 t4 t5) (fun t4 => fun t5 => fun H Kb3 => zoZ t0 t4 t5 H K Kb3) H Inv) : zwo t0 t4 t5 H K :=
 lp2 (M := zjz) zGu t4 t5 (by kernel_rfl) Inv n h0 round
theorem zGv {t0 : AV} {H : zaa} {K : Kt} (h : HSc H → zwn t0 H K) : ACalls tP zfa [t0] H K :=
 zam (M := zjz) Tryz.func175 (c := zo0) (by kernel_rfl) (fun hs => Eq.mpr (by kernel_rfl) (h hs))
def zjB : Nat → List Bool
 | 5 => rl false [0,1,2,2,30]
 | _ => []
noncomputable def zo1 : Code := Tryz.f176.body.getD .skip
noncomputable def zGC : List ResultVar := Tryz.f176.results.toList
def zjD (t0 t3 t4 : AV) : List AV := t0 :: ux 2 (t3 :: t4 :: ux 30 [])
def zGA : List Bool := zjB 5
noncomputable def zGy : Code := zar [1, 1, 1, 0, 1, 0, 0] zo1
def zGx (K : Kt) : AExit → List AV → zaa → Prop := zat tP zjB [1, 1, 1, 0, 1, 0] zo1 (zay tP zGC K)
def zo2 (t0 t3 t4 : AV) (H : zaa) (K : Kt) : Prop := ALoop tP zGy (zGx K) (zjD t0 t3 t4) H
def zjC (t0 t3 t4 : AV) (H : zaa) (K : Kt) (Kb5 : Lt) : Prop :=
 zah 0 t3 fun t25 =>
 zac .lss false t4 t25 fun t26 =>
 zag t26
 (zae H (fun K' => K' t0 H) fun t29 =>
 zae H (fun K' => zbu t29 (.int .i64 0) (K' · H)) fun t30 =>
 zae H (fun K' => K' t3 H) fun t31 =>
 zae H (fun K' => K' t4 H) fun t32 =>
 zae H (fun K' => zbu t31 t32 (K' · H)) fun t33 =>
 zae H (fun K' => zac .eql false t30 t33 (K' · H)) fun t34 =>
 zag t34
 (K (.int .i64 1) H)
 (zac .add false t4 (.int .i64 1) fun t28 =>
 Kb5 (zjD t0 t3 t28) H))
 (K (.int .i64 0) H)
def zfu (t0 : AV) (H : zaa) (K : Kt) : Prop :=
 zah 0 t0 fun t6 =>
 zac .geq false t6 (.int .i64 2) fun t7 =>
 zab t7 true H (fun K' => K' t0 H) fun t9 H =>
 zab t7 true H (fun K' => zaK 0 0 t9 none (some (.int .i64 2)) (K' · H)) fun t10 H =>
 zab t7 true H (fun K' => zac .eql false t10 (.str [45, 62]) (K' · H)) fun t11 H =>
 zab t7 true H (fun K' => K' t11 H) fun t12 H =>
 zab t12 false H (fun K' => K' t0 H) fun t13 H =>
 zab t12 false H (fun K' => zaK 0 0 t13 none (some (.int .i64 2)) (K' · H)) fun t14 H =>
 zab t12 false H (fun K' => zac .eql false t14 (.str [60, 61]) (K' · H)) fun t15 H =>
 zab t7 true H (fun K' => zai t12 (.bool true) t15 (K' · H)) fun t16 H =>
 zab t7 true H (fun K' => K' t16 H) fun t17 H =>
 zab t17 false H (fun K' => K' t0 H) fun t18 H =>
 zab t17 false H (fun K' => zaK 0 0 t18 none (some (.int .i64 2)) (K' · H)) fun t19 H =>
 zab t17 false H (fun K' => zac .eql false t19 (.str [61, 61]) (K' · H)) fun t20 H =>
 zab t7 true H (fun K' => zai t17 (.bool true) t20 (K' · H)) fun t21 H =>
 zai t7 t21 (.bool false) fun t22 =>
 zag t22
 (K (.int .i64 2) H)
 (zo2 t0 (.str [40, 41, 44, 61, 124, 43, 45, 42, 47, 37, 60, 59, 95]) (.int .i64 0) H K)
theorem zGz {t0 t3 t4 : AV} {H : zaa} {K : Kt} (Inv : Nat → AV → zaa → Prop) (n : Nat) (h0 : HSc H → Inv n t4 H)
  (round : Rd1 (fun t4 => zjD t0 t3 t4) (fun t4 => fun H Kb5 => zjC t0 t3 t4 H K Kb5) H Inv) : zo2 t0 t3 t4 H K :=
 lp1 (M := zjB) zGA t4 (by kernel_rfl) Inv n h0 round
theorem zGB {t0 : AV} {H : zaa} {K : Kt} (h : HSc H → zfu t0 H K) : ACalls tP zmL [t0] H K :=
 zam (M := zjB) Tryz.func176 (c := zo1) (by kernel_rfl) (fun hs => Eq.mpr (by kernel_rfl) (h hs))
def zHP (_ : Nat) : List Bool := []
noncomputable def zHQ : Code := Tryz.f225.body.getD .skip
def zwO (t0 : AV) (H : zaa) (K : Kt) : Prop :=
 zac .geq false t0 (.int .u8 97) fun t4 =>
 zab t4 true H (fun K' => K' t0 H) fun t6 H =>
 zab t4 true H (fun K' => zac .leq false t6 (.int .u8 122) (K' · H)) fun t7 H =>
 zai t4 t7 (.bool false) fun t8 =>
 K t8 H
theorem zHR {t0 : AV} {H : zaa} {K : Kt} (h : HSc H → zwO t0 H K) : ACalls tP zhR [t0] H K :=
 zam (M := zHP) Tryz.func225 (c := zHQ) (by kernel_rfl) (fun hs => Eq.mpr (by kernel_rfl) (h hs))
def zHS (_ : Nat) : List Bool := []
noncomputable def zHT : Code := Tryz.f226.body.getD .skip
def zwP (t0 : AV) (H : zaa) (K : Kt) : Prop :=
 zac .geq false t0 (.int .u8 65) fun t4 =>
 zab t4 true H (fun K' => K' t0 H) fun t6 H =>
 zab t4 true H (fun K' => zac .leq false t6 (.int .u8 90) (K' · H)) fun t7 H =>
 zai t4 t7 (.bool false) fun t8 =>
 K t8 H
theorem zHU {t0 : AV} {H : zaa} {K : Kt} (h : HSc H → zwP t0 H K) : ACalls tP zgi [t0] H K :=
 zam (M := zHS) Tryz.func226 (c := zHT) (by kernel_rfl) (fun hs => Eq.mpr (by kernel_rfl) (h hs))
def zjW : Nat → List Bool
 | 2 => rl false [0,2,3,1,16]
 | _ => []
noncomputable def zpm : Code := Tryz.f227.body.getD .skip
noncomputable def zH0 : List ResultVar := Tryz.f227.results.toList
def zjX (t0 t1 t5 : AV) : List AV := t0 :: t1 :: ux 3 (t5 :: ux 16 [])
def zHY : List Bool := zjW 2
noncomputable def zHW : Code := zar [1, 1, 0, 0, 0] zpm
def zHV (K : Kt) : AExit → List AV → zaa → Prop := zat tP zjW [1, 1, 0, 0] zpm (zay tP zH0 K)
def zwR (t0 t1 t5 : AV) (H : zaa) (K : Kt) : Prop := ALoop tP zHW (zHV K) (zjX t0 t1 t5) H
def zpl (t0 t1 t5 : AV) (H : zaa) (K : Kt) (Kb2 : Lt) : Prop :=
 zah 0 t0 fun t8 =>
 zac .lss false t5 t8 fun t9 =>
 zab t9 true H (fun K' => K' t1 H) fun t11 H =>
 zab t9 true H (fun K' => K' t0 H) fun t12 H =>
 zab t9 true H (fun K' => K' t5 H) fun t13 H =>
 zab t9 true H (fun K' => zbu t12 t13 (K' · H)) fun t14 H =>
 zab t9 true H (fun K' => aCallV tP t11 [t14] H K') fun t15 H =>
 zai t9 t15 (.bool false) fun t16 =>
 zag t16
 (zac .add false t5 (.int .i64 1) fun t18 =>
 Kb2 (zjX t0 t1 t18) H)
 (zaK 0 0 t0 none (some t5) fun t21 =>
 K t21 H)
def zwQ (t0 t1 : AV) (H : zaa) (K : Kt) : Prop :=
 zwR t0 t1 (.int .i64 0) H K
theorem zHX {t0 t1 t5 : AV} {H : zaa} {K : Kt} (Inv : Nat → AV → zaa → Prop) (n : Nat) (h0 : HSc H → Inv n t5 H)
  (round : Rd1 (fun t5 => zjX t0 t1 t5) (fun t5 => fun H Kb2 => zpl t0 t1 t5 H K Kb2) H Inv) : zwR t0 t1 t5 H K :=
 lp1 (M := zjW) zHY t5 (by kernel_rfl) Inv n h0 round
theorem zHZ {t0 t1 : AV} {H : zaa} {K : Kt} (h : HSc H → zwQ t0 t1 H K) : ACalls tP zhS [t0, t1] H K :=
 zam (M := zjW) Tryz.func227 (c := zpm) (by kernel_rfl) (fun hs => Eq.mpr (by kernel_rfl) (h hs))
def zH1 (_ : Nat) : List Bool := []
noncomputable def zH2 : Code := Tryz.f228.body.getD .skip
def zwS (t0 : AV) (H : zaa) (K : Kt) : Prop :=
 ACalls tP zhR [t0] H fun t4 H =>
 zab t4 false H (fun K' => K' t0 H) fun t6 H =>
 zab t4 false H (fun K' => ACalls tP zgi [t6] H K') fun t7 H =>
 zai t4 (.bool true) t7 fun t8 =>
 zab t8 false H (fun K' => K' t0 H) fun t10 H =>
 zab t8 false H (fun K' => ACalls tP zez [t10] H K') fun t11 H =>
 zai t8 (.bool true) t11 fun t12 =>
 zab t12 false H (fun K' => K' t0 H) fun t14 H =>
 zab t12 false H (fun K' => zac .eql false t14 (.int .u8 95) (K' · H)) fun t15 H =>
 zai t12 (.bool true) t15 fun t16 =>
 K t16 H
theorem zH3 {t0 : AV} {H : zaa} {K : Kt} (h : HSc H → zwS t0 H K) : ACalls tP zgj [t0] H K :=
 zam (M := zH1) Tryz.func228 (c := zH2) (by kernel_rfl) (fun hs => Eq.mpr (by kernel_rfl) (h hs))
def zH4 (_ : Nat) : List Bool := []
noncomputable def zH5 : Code := Tryz.f229.body.getD .skip
def zbc (t4 : AV) (H : zaa) (K : Kt) : Prop :=
 zag t4
 (K (.bool true) H)
 (K (.bool false) H)
def zwT (t0 : AV) (H : zaa) (K : Kt) : Prop :=
 zac .eql false t0 (.str [97, 114, 114, 97, 121]) fun t5 =>
 zag t5
 (zbc t5 H K)
 (zac .eql false t0 (.str [98, 111, 111, 108]) fun t6 =>
 zag t6
 (zbc t6 H K)
 (zac .eql false t0 (.str [99, 97, 116, 99, 104]) fun t7 =>
 zag t7
 (zbc t7 H K)
 (zac .eql false t0 (.str [100, 97, 116, 97]) fun t8 =>
 zag t8
 (zbc t8 H K)
 (zac .eql false t0 (.str [101, 108, 115, 101]) fun t9 =>
 zag t9
 (zbc t9 H K)
 (zac .eql false t0 (.str [101, 110, 100]) fun t10 =>
 zag t10
 (zbc t10 H K)
 (zac .eql false t0 (.str [102, 97, 108, 115, 101]) fun t11 =>
 zag t11
 (zbc t11 H K)
 (zac .eql false t0 (.str [102, 110]) fun t12 =>
 zag t12
 (zbc t12 H K)
 (zac .eql false t0 (.str [102, 117, 110]) fun t13 =>
 zag t13
 (zbc t13 H K)
 (zac .eql false t0 (.str [103, 101, 116]) fun t14 =>
 zag t14
 (zbc t14 H K)
 (zac .eql false t0 (.str [105, 102]) fun t15 =>
 zag t15
 (zbc t15 H K)
 (zac .eql false t0 (.str [105, 110]) fun t16 =>
 zag t16
 (zbc t16 H K)
 (zac .eql false t0 (.str [105, 110, 116]) fun t17 =>
 zag t17
 (zbc t17 H K)
 (zac .eql false t0 (.str [108, 101, 110]) fun t18 =>
 zag t18
 (zbc t18 H K)
 (zac .eql false t0 (.str [108, 101, 116]) fun t19 =>
 zag t19
 (zbc t19 H K)
 (zac .eql false t0 (.str [109, 97, 116, 99, 104]) fun t20 =>
 zag t20
 (zbc t20 H K)
 (zac .eql false t0 (.str [110, 101, 119]) fun t21 =>
 zag t21
 (zbc t21 H K)
 (zac .eql false t0 (.str [114, 97, 105, 115, 101]) fun t22 =>
 zag t22
 (zbc t22 H K)
 (zac .eql false t0 (.str [114, 101, 97, 100]) fun t23 =>
 zag t23
 (zbc t23 H K)
 (zac .eql false t0 (.str [114, 101, 102]) fun t24 =>
 zag t24
 (zbc t24 H K)
 (zac .eql false t0 (.str [115, 101, 116]) fun t25 =>
 zag t25
 (zbc t25 H K)
 (zac .eql false t0 (.str [116, 104, 101, 110]) fun t26 =>
 zag t26
 (zbc t26 H K)
 (zac .eql false t0 (.str [116, 105, 99, 107]) fun t27 =>
 zag t27
 (zbc t27 H K)
 (zac .eql false t0 (.str [116, 114, 117, 101]) fun t28 =>
 zag t28
 (zbc t28 H K)
 (zac .eql false t0 (.str [116, 114, 121]) fun t29 =>
 zag t29
 (zbc t29 H K)
 (zac .eql false t0 (.str [117, 110, 105, 116]) fun t30 =>
 zag t30
 (zbc t30 H K)
 (zac .eql false t0 (.str [119, 105, 116, 104]) fun t31 =>
 zag t31
 (zbc t31 H K)
 (zac .eql false t0 (.str [119, 114, 105, 116, 101]) fun t32 =>
 zbc t32 H K)))))))))))))))))))))))))))
theorem zH6 {t0 : AV} {H : zaa} {K : Kt} (h : HSc H → zwT t0 H K) : ACalls tP zmV [t0] H K :=
 zam (M := zH4) Tryz.func229 (c := zH5) (by kernel_rfl) (fun hs => Eq.mpr (by kernel_rfl) (h hs))
def zH7 (_ : Nat) : List Bool := []
noncomputable def zH8 : Code := Tryz.f230.body.getD .skip
def zwU (t0 : AV) (H : zaa) (K : Kt) : Prop :=
 zac .geq false t0 (.int .u8 48) fun t4 =>
 zab t4 true H (fun K' => K' t0 H) fun t6 H =>
 zab t4 true H (fun K' => zac .leq false t6 (.int .u8 57) (K' · H)) fun t7 H =>
 zai t4 t7 (.bool false) fun t8 =>
 K t8 H
theorem zH9 {t0 : AV} {H : zaa} {K : Kt} (h : HSc H → zwU t0 H K) : ACalls tP zez [t0] H K :=
 zam (M := zH7) Tryz.func230 (c := zH8) (by kernel_rfl) (fun hs => Eq.mpr (by kernel_rfl) (h hs))
def zjY : Nat → List Bool
 | 3 => rl false [0,1,2,1,2,2,13]
 | _ => []
noncomputable def zpo : Code := Tryz.f231.body.getD .skip
noncomputable def zIf : List ResultVar := Tryz.f231.results.toList
def zjZ (t0 t3 t6 t7 : AV) : List AV := t0 :: ux 2 (t3 :: ux 2 (t6 :: t7 :: ux 13 []))
def zId : List Bool := zjY 3
noncomputable def zIb : Code := zar [1, 1, 0, 1, 0, 0] zpo
def zIa (K : Kt) : AExit → List AV → zaa → Prop := zat tP zjY [1, 1, 0, 1, 0] zpo (zay tP zIf K)
def zwW (t0 t3 t6 t7 : AV) (H : zaa) (K : Kt) : Prop := ALoop tP zIb (zIa K) (zjZ t0 t3 t6 t7) H
def zpn (t0 t3 t6 t7 : AV) (H : zaa) (K : Kt) (Kb3 : Lt) : Prop :=
 zac .lss false t7 t6 fun t8 =>
 zag t8
 (zac .mul false t3 (.int .i64 10) fun t11 =>
 zbu t0 t7 fun t14 =>
 zac .sub false t14 (.int .u8 48) fun t15 =>
 zbt .i64 t15 fun t16 =>
 zac .add false t11 t16 fun t17 =>
 zac .gtr false t17 (.int .i64 1000000) fun t19 =>
 zag t19
 (K (.bool false) H)
 (zac .add false t7 (.int .i64 1) fun t20 =>
 Kb3 (zjZ t0 t17 t6 t20) H))
 (K (.bool true) H)
def zwV (t0 : AV) (H : zaa) (K : Kt) : Prop :=
 zah 0 t0 fun t6 =>
 zwW t0 (.int .i64 0) t6 (.int .i64 0) H K
theorem zIc {t0 t3 t6 t7 : AV} {H : zaa} {K : Kt} (Inv : Nat → AV → AV → zaa → Prop) (n : Nat) (h0 : HSc H → Inv n t3 t7 H)
  (round : Rd2 (fun t3 => fun t7 => zjZ t0 t3 t6 t7) (fun t3 => fun t7 => fun H Kb3 => zpn t0 t3 t6 t7 H K Kb3) H Inv) : zwW t0 t3 t6 t7 H K :=
 lp2 (M := zjY) zId t3 t7 (by kernel_rfl) Inv n h0 round
theorem zIe {t0 : AV} {H : zaa} {K : Kt} (h : HSc H → zwV t0 H K) : ACalls tP zgk [t0] H K :=
 zam (M := zjY) Tryz.func231 (c := zpo) (by kernel_rfl) (fun hs => Eq.mpr (by kernel_rfl) (h hs))
def zIj (_ : Nat) : List Bool := []
noncomputable def zIk : Code := Tryz.f232.body.getD .skip
def zcc (t0 t16 : AV) (H : zaa) (K : Kt) : Prop :=
 zag t16
 (zaK 0 0 t0 none (some (.int .i64 1)) fun t31 =>
 K t31 H)
 (K (.str []) H)
def zj0 (t0 : AV) (H : zaa) (K : Kt) : Prop :=
 zaK 0 0 t0 none (some (.int .i64 1)) fun t15 =>
 zac .eql false t15 (.str [40]) fun t17 =>
 zag t17
 (zcc t0 t17 H K)
 (zac .eql false t15 (.str [41]) fun t18 =>
 zag t18
 (zcc t0 t18 H K)
 (zac .eql false t15 (.str [44]) fun t19 =>
 zag t19
 (zcc t0 t19 H K)
 (zac .eql false t15 (.str [61]) fun t20 =>
 zag t20
 (zcc t0 t20 H K)
 (zac .eql false t15 (.str [124]) fun t21 =>
 zag t21
 (zcc t0 t21 H K)
 (zac .eql false t15 (.str [43]) fun t22 =>
 zag t22
 (zcc t0 t22 H K)
 (zac .eql false t15 (.str [45]) fun t23 =>
 zag t23
 (zcc t0 t23 H K)
 (zac .eql false t15 (.str [42]) fun t24 =>
 zag t24
 (zcc t0 t24 H K)
 (zac .eql false t15 (.str [47]) fun t25 =>
 zag t25
 (zcc t0 t25 H K)
 (zac .eql false t15 (.str [37]) fun t26 =>
 zag t26
 (zcc t0 t26 H K)
 (zac .eql false t15 (.str [60]) fun t27 =>
 zag t27
 (zcc t0 t27 H K)
 (zac .eql false t15 (.str [59]) fun t28 =>
 zag t28
 (zcc t0 t28 H K)
 (zac .eql false t15 (.str [95]) fun t29 =>
 zcc t0 t29 H K))))))))))))
def zeM (t0 t8 : AV) (H : zaa) (K : Kt) : Prop :=
 zag t8
 (zaK 0 0 t0 none (some (.int .i64 2)) fun t13 =>
 K t13 H)
 (zj0 t0 H K)
def zfz (t0 : AV) (H : zaa) (K : Kt) : Prop :=
 zah 0 t0 fun t4 =>
 zac .geq false t4 (.int .i64 2) fun t5 =>
 zag t5
 (zaK 0 0 t0 none (some (.int .i64 2)) fun t7 =>
 zac .eql false t7 (.str [45, 62]) fun t9 =>
 zag t9
 (zeM t0 t9 H K)
 (zac .eql false t7 (.str [60, 61]) fun t10 =>
 zag t10
 (zeM t0 t10 H K)
 (zac .eql false t7 (.str [61, 61]) fun t11 =>
 zeM t0 t11 H K)))
 (zj0 t0 H K)
theorem zIl {t0 : AV} {H : zaa} {K : Kt} (h : HSc H → zfz t0 H K) : ACalls tP zmW [t0] H K :=
 zam (M := zIj) Tryz.func232 (c := zIk) (by kernel_rfl) (fun hs => Eq.mpr (by kernel_rfl) (h hs))
def zGW (_ : Nat) : List Bool := []
noncomputable def zGX : Code := Tryz.f189.body.getD .skip
def zwu (t0 : AV) (H : zaa) (K : Kt) : Prop :=
 ACalls tP zmP [t0] H fun t8 H =>
 zav t8 0 fun t9 =>
 zav t8 1 fun t10 =>
 zav t8 2 fun t11 =>
 zac .eql false t11 (.int .i64 0) fun t13 =>
 zab t13 true H (fun K' => K' t9 H) fun t15 H =>
 zab t13 true H (fun K' => zah 1 t15 (K' · H)) fun t16 H =>
 zab t13 true H (fun K' => zac .eql false t16 (.int .i64 2) (K' · H)) fun t17 H =>
 zai t13 t17 (.bool false) fun t18 =>
 zab t18 true H (fun K' => K' t9 H) fun t20 H =>
 zab t18 true H (fun K' => zaj 3 t20 (.int .i64 0) (K' · H)) fun t21 H =>
 zab t18 true H (fun K' => zaf 0 t21 (K' · H)) fun t22 H =>
 zab t18 true H (fun K' => zad false 1 t22 H (K' · H)) fun t23 H =>
 zab t18 true H (fun K' => zac .eql false t23 (.int .i64 2) (K' · H)) fun t24 H =>
 zai t18 t24 (.bool false) fun t25 =>
 zab t25 true H (fun K' => K' t9 H) fun t27 H =>
 zab t25 true H (fun K' => zaj 3 t27 (.int .i64 0) (K' · H)) fun t28 H =>
 zab t25 true H (fun K' => zaf 1 t28 (K' · H)) fun t29 H =>
 zab t25 true H (fun K' => zad false 1 t29 H (K' · H)) fun t30 H =>
 zab t25 true H (fun K' => K' t0 H) fun t31 H =>
 zab t25 true H (fun K' => zac .eql false t30 t31 (K' · H)) fun t32 H =>
 zai t25 t32 (.bool false) fun t33 =>
 K t33 H
theorem zGY {t0 : AV} {H : zaa} {K : Kt} (h : HSc H → zwu t0 H K) : ACalls tP zhN [t0] H K :=
 zam (M := zGW) Tryz.func189 (c := zGX) (by kernel_rfl) (fun hs => Eq.mpr (by kernel_rfl) (h hs))
def zL5 (_ : Nat) : List Bool := []
noncomputable def zL6 : Code := Tryz.f82.body.getD .skip
def zyl (t0 : AV) (H : zaa) (K : Kt) : Prop :=
 ACalls tP zmx [t0] H fun t8 H =>
 zav t8 0 fun t9 =>
 zav t8 1 fun t10 =>
 zav t8 2 fun t11 =>
 zac .eql false t11 (.int .i64 0) fun t13 =>
 zab t13 true H (fun K' => K' t9 H) fun t15 H =>
 zab t13 true H (fun K' => zah 1 t15 (K' · H)) fun t16 H =>
 zab t13 true H (fun K' => zac .eql false t16 (.int .i64 2) (K' · H)) fun t17 H =>
 zai t13 t17 (.bool false) fun t18 =>
 zab t18 true H (fun K' => K' t9 H) fun t20 H =>
 zab t18 true H (fun K' => zaj 3 t20 (.int .i64 0) (K' · H)) fun t21 H =>
 zab t18 true H (fun K' => zaf 0 t21 (K' · H)) fun t22 H =>
 zab t18 true H (fun K' => zad false 1 t22 H (K' · H)) fun t23 H =>
 zab t18 true H (fun K' => zac .eql false t23 (.int .i64 2) (K' · H)) fun t24 H =>
 zai t18 t24 (.bool false) fun t25 =>
 zab t25 true H (fun K' => K' t9 H) fun t27 H =>
 zab t25 true H (fun K' => zaj 3 t27 (.int .i64 0) (K' · H)) fun t28 H =>
 zab t25 true H (fun K' => zaf 1 t28 (K' · H)) fun t29 H =>
 zab t25 true H (fun K' => zad false 1 t29 H (K' · H)) fun t30 H =>
 zab t25 true H (fun K' => K' t0 H) fun t31 H =>
 zab t25 true H (fun K' => zac .eql false t30 t31 (K' · H)) fun t32 H =>
 zai t25 t32 (.bool false) fun t33 =>
 K t33 H
theorem zL7 {t0 : AV} {H : zaa} {K : Kt} (h : HSc H → zyl t0 H K) : ACalls tP zh5 [t0] H K :=
 zam (M := zL5) Tryz.func82 (c := zL6) (by kernel_rfl) (fun hs => Eq.mpr (by kernel_rfl) (h hs))
end Go.Proofs.YtjkkonpjecoieaaGreat

namespace Go.Proofs.YtjkkonpjecoieaaGreat
open Go Go.Abs
def kwds : List (List UInt8) := [[97, 114, 114, 97, 121], [98, 111, 111, 108], [99, 97, 116, 99, 104], [100, 97, 116, 97], [101, 108, 115, 101], [101, 110, 100], [102, 97, 108, 115, 101], [102, 110], [102, 117, 110], [103, 101, 116], [105, 102], [105, 110], [105, 110, 116], [108, 101, 110], [108, 101, 116], [109, 97, 116, 99, 104], [110, 101, 119], [114, 97, 105, 115, 101], [114, 101, 97, 100], [114, 101, 102], [115, 101, 116], [116, 104, 101, 110], [116, 105, 99, 107], [116, 114, 117, 101], [116, 114, 121], [117, 110, 105, 116], [119, 105, 116, 104], [119, 114, 105, 116, 101]]
def kwF (ws : List (List UInt8)) (s : List UInt8) : Bool := ws.any (s == ·)
theorem zcv {H : zaa} {K : AV → zaa → Prop} {r : AV} (hsc : HSc H) (hv : r.isV = true) (hr : r.scV H.length = true) (h : K r H) : Out H.length K r H := by
 have := Out.same (J := []) rfl hsc hv hr h
 simpa using this
theorem zca (b c : UInt8) : ((b.toNat : Int) == (c.toNat : Int)) = (b == c) := by
 rw [Bool.eq_iff_iff]
 simp only [beq_iff_eq]
 constructor
 ·intro h; exact UInt8.toNat_inj.mp (by omega)
 ·rintro rfl; rfl
theorem zsF (b : UInt8) (H : zaa) (K : AV → zaa → Prop) (hK : K (.bool (zbI b)) H) : ACalls tP zhK [.int .u8 b.toNat] H K := by
 refine ACalls.out (zGb fun hs => ?_)
 have hO := zcv (K := K) (H := H) (r := .bool (zbI b)) hs rfl rfl hK
 unfold zbI at hO
 cases h1 : decide (97 ≤ (b.toNat : Int)) <;> simp [zwh, h1] <;> simpa [h1] using hO
theorem ziD (b : UInt8) (H : zaa) (K : AV → zaa → Prop) (hK : K (.bool (bUp b)) H) : ACalls tP ze9 [.int .u8 b.toNat] H K := by
 refine ACalls.out (zGh fun hs => ?_)
 have hO := zcv (K := K) (H := H) (r := .bool (bUp b)) hs rfl rfl hK
 unfold bUp at hO
 cases h1 : decide (65 ≤ (b.toNat : Int)) <;> simp [zwk, h1] <;> simpa [h1] using hO
theorem zl8 (b : UInt8) (H : zaa) (K : AV → zaa → Prop) (hK : K (.bool (zaS b)) H) : ACalls tP zgg [.int .u8 b.toNat] H K := by
 refine ACalls.out (zGk fun hs => ?_)
 have hO := zcv (K := K) (H := H) (r := .bool (zaS b)) hs rfl rfl hK
 unfold zaS at hO
 cases h1 : decide (48 ≤ (b.toNat : Int)) <;> simp [zwl, h1] <;> simpa [h1] using hO
theorem zmm (b : UInt8) (H : zaa) (K : AV → zaa → Prop) (hK : K (.bool (zbI b)) H) : ACalls tP zhR [.int .u8 b.toNat] H K := by
 refine ACalls.out (zHR fun hs => ?_)
 have hO := zcv (K := K) (H := H) (r := .bool (zbI b)) hs rfl rfl hK
 unfold zbI at hO
 cases h1 : decide (97 ≤ (b.toNat : Int)) <;> simp [zwO, h1] <;> simpa [h1] using hO
theorem ziE (b : UInt8) (H : zaa) (K : AV → zaa → Prop) (hK : K (.bool (bUp b)) H) : ACalls tP zgi [.int .u8 b.toNat] H K := by
 refine ACalls.out (zHU fun hs => ?_)
 have hO := zcv (K := K) (H := H) (r := .bool (bUp b)) hs rfl rfl hK
 unfold bUp at hO
 cases h1 : decide (65 ≤ (b.toNat : Int)) <;> simp [zwP, h1] <;> simpa [h1] using hO
theorem zl9 (b : UInt8) (H : zaa) (K : AV → zaa → Prop) (hK : K (.bool (zaS b)) H) : ACalls tP zez [.int .u8 b.toNat] H K := by
 refine ACalls.out (zH9 fun hs => ?_)
 have hO := zcv (K := K) (H := H) (r := .bool (zaS b)) hs rfl rfl hK
 unfold zaS at hO
 cases h1 : decide (48 ≤ (b.toNat : Int)) <;> simp [zwU, h1] <;> simpa [h1] using hO
theorem zzk (b : UInt8) (H : zaa) (K : AV → zaa → Prop) (hK : K (.bool (zcT b)) H) : ACalls tP zmS [.int .u8 b.toNat] H K := by
 refine ACalls.out (zHE fun hs => ?_)
 have hO := zcv (K := K) (H := H) (r := .bool (zcT b)) hs rfl rfl hK
 unfold zcT at hO
 have e1 : ((b.toNat : Int) == 9) = (b == 9) := zca b 9
 have e2 : ((b.toNat : Int) == 10) = (b == 10) := zca b 10
 have e3 : ((b.toNat : Int) == 13) = (b == 13) := zca b 13
 have e4 : ((b.toNat : Int) == 32) = (b == 32) := zca b 32
 cases h1 : (b == 9) <;> cases h2 : (b == 10) <;> cases h3 : (b == 13) <;> simp [zwK, e1, e2, e3, e4, h1, h2, h3] <;> simpa [h1, h2, h3] using hO
theorem zCp (b : UInt8) (H : zaa) (K : AV → zaa → Prop) (hK : K (.bool (bIn b)) H) : ACalls tP zgj [.int .u8 b.toNat] H K := by
 refine ACalls.out (zH3 fun hs => ?_)
 have hO := zcv (K := K) (H := H) (r := .bool (bIn b)) hs rfl rfl hK
 unfold bIn at hO
 have e1 : ((b.toNat : Int) == 95) = (b == 95) := zca b 95
 unfold zwS
 refine zmm b _ _ ?_
 cases h1 : zbI b with
 | true => simp; simpa [h1] using hO
 | false =>
  simp
  refine ziE b _ _ ?_
  cases h2 : bUp b with
  | true => simp; simpa [h1, h2] using hO
  | false =>
   simp
   refine zl9 b _ _ ?_
   cases h3 : zaS b with
   | true => simp; simpa [h1, h2, h3] using hO
   | false => simp [e1]; simpa [h1, h2, h3] using hO
theorem zz9 (s : List UInt8) (H : zaa) (K : AV → zaa → Prop) (hK : K (.bool (kwF kwds s)) H) : ACalls tP zmV [.str s] H K := by
 refine ACalls.out (zH6 fun hs => ?_)
 have hO := zcv (K := K) (H := H) (r := .bool (kwF kwds s)) hs rfl rfl hK
 have step : ∀ (w : List UInt8) (ws : List (List UInt8)) (rest : Prop), (Out H.length K (.bool (kwF ws s)) H → rest) → Out H.length K (.bool (kwF (w :: ws) s)) H →
   zac .eql false (.str s) (.str w) fun t => zag t (zbc t H (Out H.length K)) rest := by
  intro w ws rest h h'
  simp only [kwF, List.any_cons] at h h'
  cases e : (s == w) with
  | true => simpa [zbc, e] using h'
  | false => rw [e, Bool.false_or] at h'; simpa [zbc, e] using h h'
 unfold zwT
 revert hO
 unfold kwds
 iterate 27 refine step _ _ _ ?_
 intro h'
 simp only [kwF, List.any_cons, List.any_nil, Bool.or_false] at h'
 cases e : (s == [119, 114, 105, 116, 101]) <;> rw [e] at h' <;> simpa [zbc, e] using h'
theorem zAa (s : List UInt8) (H : zaa) (K : AV → zaa → Prop) (hK : K (.bool (kwF kwds s)) H) : ACalls tP zhL [.str s] H K := by
 refine ACalls.out (zGp fun hs => ?_)
 have hO := zcv (K := K) (H := H) (r := .bool (kwF kwds s)) hs rfl rfl hK
 have e : zwm (.str s) H (Out H.length K) = zoY (.str s) (.sl (kwds.map fun w => [.str w]) .full) (.int .i64 0) H (Out H.length K) := rfl
 rw [e]
 have hlen : kwds.length = 28 := rfl
 generalize kwds = ws at *
 refine zGn (Inv := fun q t4 H' => ∃ i : Nat, i ≤ ws.length ∧ q = ws.length - i ∧ t4 = .int .i64 i ∧ kwF (ws.drop i) s = kwF ws s ∧ H' = H) ws.length ?_ ?_
 ·intro _; exact ⟨0, by omega, by omega, rfl, by simp, rfl⟩
 ·rintro q t8 H' ⟨i, hi, rfl, rfl, ho, rfl⟩ hsc _ hsF Kb hKb
  by_cases hlt : i < ws.length
  ·rw [List.drop_eq_getElem_cons hlt] at ho
   simp only [kwF, List.any_cons] at ho
   cases hz : (ws[i] == s) with
   | true =>
    have hz' : (s == ws[i]) = true := by rw [beq_iff_eq] at hz ⊢; exact hz.symm
    rw [hz', Bool.true_or] at ho
    simp [zjx, hlt, hz]
    unfold kwF at hO
    rw [← ho] at hO
    exact hO
   | false =>
    have hz' : (s == ws[i]) = false := by rw [beq_eq_false_iff_ne] at hz ⊢; exact fun h => hz h.symm
    rw [hz', Bool.false_or] at ho
    simp [zjx, hlt, hz]
    rw [zas (by omega) (by omega)]
    refine hKb _ _ ⟨ws.length - (i + 1), by omega, Back.here (Nat.le_refl _) hs ?_ ⟨_, rfl, i + 1, by omega, rfl, by simp, ho, rfl⟩⟩
    simp [zjy, AV.sc, AV.scV, AV.scA, AV.scB]
  ·simp [zjx, hlt]
   obtain rfl : i = ws.length := by omega
   rw [List.drop_length] at ho
   rw [← ho] at hO
   exact hO
end Go.Proofs.YtjkkonpjecoieaaGreat
namespace Go.Proofs.YtjkkonpjecoieaaGreat
open Go Go.Abs
theorem zrH {b : UInt8} (h : zaS b = true) : 48 ≤ (b.toNat : Int) ∧ (b.toNat : Int) ≤ 57 := by simpa [zaS] using h
theorem zBs (s : List UInt8) (hd : ∀ b ∈ s, zaS b = true) (hl : s.length ≤ 1000000) (H : zaa) (K : AV → zaa → Prop) (hK : K (.bool (zbV s 0)) H) : ACalls tP zgk [.str s] H K := by
 refine ACalls.out (zIe fun hs => ?_)
 have hO := zcv (K := K) (H := H) (r := .bool (zbV s 0)) hs rfl rfl hK
 simp [zwV]
 refine zIc (Inv := fun q t3 t7 H' => ∃ (i : Nat) (n : Int), i ≤ s.length ∧ q = s.length - i ∧ t7 = .int .i64 i ∧ t3 = .int .i64 n ∧ 0 ≤ n ∧ n ≤ 1000000 ∧ zbV (s.drop i) n = zbV s 0 ∧ H' = H) s.length ?_ ?_
 ·intro _; exact ⟨0, 0, by omega, by omega, rfl, rfl, by omega, by omega, by simp, rfl⟩
 ·rintro q t3 t7 H' ⟨i, n, hi, rfl, rfl, rfl, hn0, hn1, ho, rfl⟩ hsc _ hsF Kb hKb
  by_cases hlt : i < s.length
  ·have hb := zrH (hd s[i] (List.getElem_mem hlt))
   rw [List.drop_eq_getElem_cons hlt, zbV] at ho
   simp [zpn, hlt]
   rw [IntWalk.u8_in _ (by omega), zas (n := n * 10) (by omega) (by omega), zas (n := (s[i].toNat : Int) - 48) (by omega) (by omega), zas (by omega) (by omega), zas (by omega) (by omega)]
   by_cases hg : 1000000 < n * 10 + ((s[i].toNat : Int) - 48)
   ·rw [if_pos hg] at ho
    have hg' : decide (1000000 < n * 10 + ((s[i].toNat : Int) - 48)) = true := by simpa using hg
    rw [← ho] at hO
    rw [hg']
    simpa using hO
   ·rw [if_neg hg] at ho
    have hg' : decide (1000000 < n * 10 + ((s[i].toNat : Int) - 48)) = false := by simpa using hg
    rw [hg']
    simp only [zrt, Bool.false_eq_true, if_false]
    refine hKb _ _ ⟨s.length - (i + 1), by omega, Back.here (Nat.le_refl _) hs ?_ ⟨_, _, rfl, i + 1, _, by omega, rfl, by simp, rfl, by omega, by omega, ho, rfl⟩⟩
    simp [zjZ, AV.sc, AV.scV, AV.scA, AV.scB]
  ·simp [zpn, hlt]
   obtain rfl : i = s.length := by omega
   rw [List.drop_length, zbV] at ho
   rw [← ho] at hO
   exact hO
theorem zto (cl : UInt8 → Bool) (f : FuncId) (hcl : zdh tP f = true) (hf : ∀ (b : UInt8) (H : zaa) (K : AV → zaa → Prop), K (.bool (cl b)) H → ACalls tP f [.int .u8 b.toNat] H K)
  (s : List UInt8) (hl : s.length ≤ 1000000) (H : zaa) (K : AV → zaa → Prop) (hK : K (.str (s.takeWhile cl)) H) : ACalls tP zhS [.str s, .fn f []] H K := by
 refine ACalls.out (zHZ fun hs => ?_)
 have hO := zcv (K := K) (H := H) (r := .str (s.takeWhile cl)) hs rfl rfl hK
 simp [zwQ]
 refine zHX (Inv := fun q t5 H' => ∃ i : Nat, i ≤ s.length ∧ q = s.length - i ∧ t5 = .int .i64 i ∧ s.take i ++ (s.drop i).takeWhile cl = s.takeWhile cl ∧ H' = H) s.length ?_ ?_
 ·intro _; exact ⟨0, by omega, by omega, rfl, by simp, rfl⟩
 ·rintro q t5 H' ⟨i, hi, rfl, rfl, ho, rfl⟩ hsc _ hsF Kb hKb
  by_cases hlt : i < s.length
  ·rw [List.drop_eq_getElem_cons hlt, List.takeWhile_cons] at ho
   simp [zpl, hlt]
   simp only [aCallV, hcl, List.append_nil]
   refine hf _ _ _ ?_
   cases hc : cl s[i] with
   | true =>
    rw [hc, if_pos rfl, List.append_cons, ← List.take_succ_eq_append_getElem hlt] at ho
    simp
    rw [zas (by omega) (by omega)]
    refine hKb _ _ ⟨s.length - (i + 1), by omega, Back.here (Nat.le_refl _) hs ?_ ⟨_, rfl, i + 1, by omega, rfl, by simp, ho, rfl⟩⟩
    simp [zjX, AV.sc, AV.scV, AV.scA, AV.scB]
   | false =>
    rw [hc, if_neg (by simp), List.append_nil] at ho
    rw [← ho] at hO
    simp [hi]
    exact hO
  ·simp [zpl, hlt]
   obtain rfl : i = s.length := by omega
   rw [List.drop_length, List.takeWhile_nil, List.append_nil, List.take_length] at ho
   rw [← ho] at hO
   simpa using hO
theorem zCm (s : List UInt8) (hd : ∀ b ∈ s, zaS b = true) (hl : s.length ≤ 1000000) (H : zaa) (K : AV → zaa → Prop) (hK : ∀ n, K (.tup [.int .i64 n, .bool (zbV s 0)]) H) : ACalls tP zfa [.str s] H K := by
 refine ACalls.out (zGv fun hs => ?_)
 have hO : ∀ n, Out H.length K (.tup [.int .i64 n, .bool (zbV s 0)]) H := fun n => Out.tup0 hs (hK n) ⟨zaZ rfl rfl, zaZ rfl rfl, trivial⟩
 simp only [zwn]
 refine zGt (Inv := fun q t3 t7 H' => ∃ (i : Nat) (n : Int), i ≤ s.length ∧ q = s.length - i ∧ t7 = .int .i64 i ∧ t3 = .int .i64 n ∧ 0 ≤ n ∧ n ≤ 1000000 ∧ zbV (s.drop i) n = zbV s 0 ∧ H' = H) s.length ?_ ?_
 ·intro _; exact ⟨0, 0, by omega, by omega, rfl, rfl, by omega, by omega, by simp, rfl⟩
 ·rintro q t3 t7 H' ⟨i, n, hi, rfl, rfl, rfl, hn0, hn1, ho, rfl⟩ hsc _ hsF Kb hKb
  by_cases hlt : i < s.length
  ·have hb := zrH (hd s[i] (List.getElem_mem hlt))
   rw [List.drop_eq_getElem_cons hlt, zbV] at ho
   simp [zoZ, hlt]
   rw [IntWalk.u8_in _ (by omega), zas (n := n * 10) (by omega) (by omega), zas (n := (s[i].toNat : Int) - 48) (by omega) (by omega), zas (by omega) (by omega), zas (by omega) (by omega)]
   by_cases hg : 1000000 < n * 10 + ((s[i].toNat : Int) - 48)
   ·rw [if_pos hg] at ho
    have hg' : decide (1000000 < n * 10 + ((s[i].toNat : Int) - 48)) = true := by simpa using hg
    rw [← ho] at hO
    rw [hg']
    simpa [AV.isV] using hO 0
   ·rw [if_neg hg] at ho
    have hg' : decide (1000000 < n * 10 + ((s[i].toNat : Int) - 48)) = false := by simpa using hg
    rw [hg']
    simp only [zrt, Bool.false_eq_true, if_false]
    refine hKb _ _ ⟨s.length - (i + 1), by omega, Back.here (Nat.le_refl _) hs ?_ ⟨_, _, rfl, i + 1, _, by omega, rfl, by simp, rfl, by omega, by omega, ho, rfl⟩⟩
    simp [zjA, AV.sc, AV.scV, AV.scA, AV.scB]
  ·simp [zoZ, hlt, AV.isV]
   obtain rfl : i = s.length := by omega
   rw [List.drop_length, zbV] at ho
   rw [← ho] at hO
   exact hO n
theorem zCa (b : UInt8) (r : List UInt8) : (b :: r).take 1 = [b] := by simp
theorem znB {s : List UInt8} (h : ¬ 2 ≤ s.length) : zcY s = false := by
 match s, h with
 | [], _ => rfl
 | [b], _ => simp [zcY]
 | _ :: _ :: _, h => simp at h
theorem ztX (b : UInt8) (r : List UInt8) (h : zcY (b :: r) = false) : sgn (b :: r) = if sgns.contains b = true then 1 else 0 := by simp [sgn, h]
theorem zBp (b : UInt8) (r : List UInt8) (H : zaa) (K : AV → zaa → Prop) (hK : K (.str ((b :: r).take (sgn (b :: r)))) H) : ACalls tP zmW [.str (b :: r)] H K := by
 refine ACalls.out (zIl fun hs => ?_)
 have hO := zcv (K := K) (H := H) (r := .str ((b :: r).take (sgn (b :: r)))) hs rfl rfl hK
 have one : zcY (b :: r) = false → zj0 (.str (b :: r)) H (Out H.length K) := by
  intro h2
  rw [ztX b r h2] at hO
  have hO : Out H.length K (.str (if sgns.contains b = true then [b] else [])) H := by
   cases hc : sgns.contains b <;> rw [hc] at hO <;> simpa using hO
  have step : ∀ (c : UInt8) (cs : List UInt8) (rest : Prop), (Out H.length K (.str (if cs.contains b = true then [b] else [])) H → rest) → Out H.length K (.str (if (c :: cs).contains b = true then [b] else [])) H →
    zac .eql false (.str [b]) (.str [c]) fun t => zag t (zcc (.str (b :: r)) t H (Out H.length K)) rest := by
   intro c cs rest h h'
   rw [List.contains_cons] at h'
   cases e : (b == c) with
   | true => rw [e] at h'; simpa [zcc, e] using h'
   | false =>
    rw [e, Bool.false_or] at h'
    simpa [zcc, e] using h h'
  unfold zj0
  simp only [zy1, zyT, zyS, Int.toNat_one, zCa, List.drop_zero]
  refine ⟨by decide, ⟨by omega, by simp⟩, ?_⟩
  revert hO
  unfold sgns
  iterate 12 refine step _ _ _ ?_
  intro h'
  rw [List.contains_cons] at h'
  cases e : (b == 95) <;> rw [e] at h' <;> simpa [zcc, e] using h'
 by_cases hl : 2 ≤ (b :: r).length
 ·have hl' : (2 : Int) ≤ r.length + 1 := by simp only [List.length_cons] at hl; omega
  have hl2 : 1 ≤ r.length := by simp only [List.length_cons] at hl; omega
  cases h2 : zcY (b :: r) with
  | true =>
   have h3 : sgn (b :: r) = 2 := by simp [sgn, h2]
   rw [h3] at hO
   unfold zcY at h2
   simp only [List.take_succ_cons] at h2 hO
   cases e1 : (b :: List.take 1 r == [45, 62]) with
   | true => simpa [zfz, hl', hl2, zeM, e1] using hO
   | false =>
    cases e2 : (b :: List.take 1 r == [60, 61]) with
    | true => simpa [zfz, hl', hl2, zeM, e1, e2] using hO
    | false =>
     rw [e1, e2] at h2
     simp only [Bool.false_or] at h2
     simpa [zfz, hl', hl2, zeM, e1, e2, h2] using hO
  | false =>
   have ho := one h2
   unfold zcY at h2
   simp only [List.take_succ_cons] at h2
   rw [Bool.or_eq_false_iff, Bool.or_eq_false_iff] at h2
   simpa [zfz, hl', hl2, zeM, h2.1.1, h2.1.2, h2.2] using ho
 ·have ho := one (znB hl)
  have : ¬ ((2 : Int) ≤ r.length + 1) := by simp only [List.length_cons] at hl; omega
  simpa [zfz, this] using ho
end Go.Proofs.YtjkkonpjecoieaaGreat
