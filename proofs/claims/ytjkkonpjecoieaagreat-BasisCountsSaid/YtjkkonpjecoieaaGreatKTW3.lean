import Derived.Test.YtjkkonpjecoieaaGreatKY11
import Derived.Test.YtjkkonpjecoieaaGreatAbsQ1
import Derived.Test.YtjkkonpjecoieaaGreatKNum
import Derived.Test.YtjkkonpjecoieaaGreatProg
import Derived.KernelRfl
set_option linter.unusedSimpArgs false
set_option linter.unusedVariables false
namespace Go.Proofs.YtjkkonpjecoieaaGreat
open Go Go.Abs
set_option maxRecDepth 8000
def zfl (i : Nat) : VT → Bool
 | .mk k n ks => k == 4 && n == i && ks.length == 0
def zcd : List VT → Nat → Bool
 | [], _ => true
 | x :: l, i => zfl i x && zcd l (i + 1)
def zbk (d vars : Int) : VT → Bool
 | .mk k n ks => k == 5 && n == d && (ks.length : Int) == vars && zcd ks 0
mutual
def zb2 (d : Int) : VT → Bool
 | .mk k n ks => (k == 5 && n == d) || zdw d ks
def zdw (d : Int) : List VT → Bool
 | [] => false
 | t :: ts => zb2 d t || zdw d ts
end
theorem zoT (v : VT) (d vars : Int) (hb : v.nodes ≤ 1000000) (H : zaa) (K : AV → zaa → Prop) (hK : K (.bool (zbk d vars v)) H) : ACalls tP zg4 [.agg v.cs, .int .i64 d, .int .i64 vars] H K := by
 refine ACalls.out (zIS fun hs => ?_)
 obtain ⟨k, n, ks⟩ := v
 have hnl : VT.nodesL ks + 1 ≤ 1000000 := by simpa [VT.nodes] using hb
 have hll := VT.len_le ks
 have hO : ∀ J, Out H.length K (.bool (k == 5 && n == d && (ks.length : Int) == vars && zcd ks 0)) (H ++ J) := fun J => Out.bool rfl (Nat.le_refl _) hs (by simpa [zbk] using hK)
 simp only [VT.cs, zvu]
 cases h5 : (k == 5) with
 | false =>
  have : (k != 5) = true := by simp [bne, h5]
  rw [h5] at hO
  simp [this]
  exact hO _
 | true =>
 have h5' : (k != 5) = false := by simp [bne, h5]
 cases hn : (n == d) with
 | false =>
  have : (n != d) = true := by simp [bne, hn]
  rw [h5, hn] at hO
  simp [h5', this]
  exact hO _
 | true =>
 have hn' : (n != d) = false := by simp [bne, hn]
 cases hv : ((ks.length : Int) == vars) with
 | false =>
  have : ((ks.length : Int) != vars) = true := by simp [bne, hv]
  rw [h5, hn, hv] at hO
  simp [h5', hn', this]
  exact hO _
 | true =>
 have hv' : ((ks.length : Int) != vars) = false := by simp [bne, hv]
 rw [h5, hn, hv] at hO
 simp only [Bool.true_and] at hO
 simp [h5', hn', hv']
 refine zIQ (Inv := fun q t7 H' => ∃ i : Nat, i ≤ ks.length ∧ q = ks.length - i ∧ t7 = .int .i64 i ∧ zcd (ks.drop i) i = zcd ks 0 ∧ H' = H ++ [.cells [.int .i64 k, .int .i64 n, .sl (VT.css ks) .none]]) ks.length ?_ ?_
 ·intro _; exact ⟨0, by omega, by omega, rfl, by simp, rfl⟩
 ·rintro q t7 H' ⟨i, hi, rfl, rfl, ho, rfl⟩ hsc hlen hsF Kb hKb
  by_cases hlt : i < ks.length
  ·rw [List.drop_eq_getElem_cons hlt, zcd] at ho
   obtain ⟨k', n', ks', hx⟩ : ∃ k' n' ks', ks[i] = .mk k' n' ks' := by cases h : ks[i] with | mk a b c => exact ⟨a, b, c, rfl⟩
   rw [hx, zfl] at ho
   cases g1 : (k' == 4) with
   | false =>
    have : (k' != 4) = true := by simp [bne, g1]
    rw [g1] at ho
    simp only [Bool.false_and] at ho
    rw [← ho] at hO
    simp [ze1, hlt, hx, VT.cs, this]
    exact hO _
   | true =>
   have g1' : (k' != 4) = false := by simp [bne, g1]
   cases g2 : (n' == (i : Int)) with
   | false =>
    have : (n' != (i : Int)) = true := by simp [bne, g2]
    rw [g1, g2] at ho
    simp only [Bool.false_and, Bool.and_false] at ho
    rw [← ho] at hO
    simp [ze1, hlt, hx, VT.cs, g1', this]
    exact hO _
   | true =>
   have g2' : (n' != (i : Int)) = false := by simp [bne, g2]
   by_cases g3 : ks'.length = 0
   ·have g3' : ¬ (0 : Int) < ks'.length := by omega
    have g3'' : ¬ 0 < ks'.length := by omega
    rw [g1, g2, g3] at ho
    simp only [Bool.true_and, BEq.rfl] at ho
    simp [ze1, hlt, hx, VT.cs, g1', g2', g3', g3'']
    rw [zaq (by omega) (by omega)]
    refine hKb _ _ ⟨ks.length - (i + 1), by omega, Back.here (by simp) hsc ?_ ⟨_, rfl, i + 1, by omega, rfl, by simp, ho, rfl⟩⟩
    simp [zjO, AV.sc, AV.scV, AV.scA, AV.scB]
   ·have g3' : (0 : Int) < ks'.length := by omega
    have g3'' : 0 < ks'.length := by omega
    have g4 : (ks'.length == 0) = false := by simpa using g3
    rw [g4] at ho
    simp only [Bool.and_false, Bool.false_and] at ho
    rw [← ho] at hO
    simp [ze1, hlt, hx, VT.cs, g1', g2', g3', g3'']
    exact hO _
  ·obtain rfl : i = ks.length := by omega
   rw [List.drop_length, zcd] at ho
   rw [← ho] at hO
   simp [ze1]
   exact hO _
theorem zwq : zcC tP zgP = true := by kernel_rfl
theorem zqk (d : Int) : ∀ l : List VT, zdw d l = l.any (zb2 d)
 | [] => rfl
 | t :: ts => by simp [zdw, zqk d ts]
theorem zEH (d : Int) : ∀ (m : Nat) (v : VT), v.nodes ≤ m → v.nodes ≤ 1000000 → ∀ (H : zaa) (K : AV → zaa → Prop), K (.bool (zb2 d v)) H → ACalls tP zgO [.agg v.cs, .int .i64 d] H K := by
 intro m
 induction m with
 | zero => intro v h; have := v.nodes_pos; omega
 | succ m ih =>
  intro v hv hb H K hK
  obtain ⟨k, n, ks⟩ := v
  have hnl : VT.nodesL ks + 1 ≤ 1000000 := by simpa [VT.nodes] using hb
  have hll := VT.len_le ks
  refine ACalls.out (zEG fun hs => ?_)
  have hO : ∀ J, Out H.length K (.bool ((k == 5 && n == d) || ks.any (zb2 d))) (H ++ J) := fun J => Out.bool rfl (Nat.le_refl _) hs (by simpa [zb2, zqk] using hK)
  have go : (k == 5 && n == d) = false → ∀ KK : AV → zaa → Prop, (∀ b, Out H.length K (.bool b) (H ++ [.cells [.int .i64 k, .int .i64 n, .sl (VT.css ks) .none], .cells [.int .i64 d]]) → KK (.bool b) (H ++ [.cells [.int .i64 k, .int .i64 n, .sl (VT.css ks) .none], .cells [.int .i64 d]])) →
    ACalls tP zdY [.sl (VT.css ks) .none, .fn zgP [.ptr (H.length + 1) 0]] (H ++ [.cells [.int .i64 k, .int .i64 n, .sl (VT.css ks) .none], .cells [.int .i64 d]]) KK := by
   intro hno KK hKK
   rw [hno, Bool.false_or] at hO
   refine zkk ks (by omega) _ _ _ (by simp [AV.sc, AV.scV, AV.scA, AV.scB]) (fun i H' => (ks.drop i).any (zb2 d) = ks.any (zb2 d) ∧ H' = H ++ [.cells [.int .i64 k, .int .i64 n, .sl (VT.css ks) .none], .cells [.int .i64 d]]) ⟨by simp, rfl⟩ ?_ ?_
   ·rintro i hi H' hle ⟨ho, rfl⟩
    have hki := VT.kid_lt (k := k) (n := n) hi
    rw [List.drop_eq_getElem_cons hi, List.any_cons] at ho
    simp only [aCallV, zwq, List.singleton_append]
    refine ACalls.out (zEW fun hs1 => ?_)
    obtain ⟨x1, x2, x3, hvx, hx1, hx2, hx3⟩ := zaE ks[i]
    simp [zuc, hvx]
    rw [← hvx]
    refine ih ks[i] (by omega) (by omega) _ _ ?_
    refine Out.bool (J := [_]) (H2 := H ++ [.cells [.int .i64 k, .int .i64 n, .sl (VT.css ks) .none], .cells [.int .i64 d]]) (by simp; rfl) (by simp) hs1 ?_
    cases hb : zb2 d ks[i] with
    | false =>
     rw [hb, Bool.false_or] at ho
     exact .inl ⟨rfl, ho, rfl⟩
    | true =>
     rw [hb, Bool.true_or] at ho
     rw [← ho] at hO
     exact .inr ⟨rfl, hKK _ (hO _)⟩
   ·rintro H' ⟨ho, rfl⟩
    rw [List.drop_length, List.any_nil] at ho
    rw [← ho] at hO
    exact hKK _ (hO _)
  simp only [VT.cs, zt6]
  cases h5 : (k == 5) with
  | false =>
   simp [h5, AV.isB]
   refine go (by rw [h5]; rfl) _ fun b hb => ?_
   simpa using hb
  | true =>
   cases hn : (n == d) with
   | false =>
    simp [h5, hn, AV.isB]
    refine go (by rw [hn]; simp) _ fun b hb => ?_
    simpa using hb
   | true =>
    rw [h5, hn] at hO
    simp [h5, hn]
    exact hO _
def zbb (l : List Bool) : List AV := l.map AV.bool
@[simp] theorem zMi (l : List Bool) : (zbb l).length = l.length := by simp [zbb]
theorem zwj (n : Nat) : (List.replicate n [AV.bool false]).flatten = zbb (List.replicate n false) := by
 induction n with
 | zero => rfl
 | succ n ih => simp [List.replicate_succ, ih, zbb]
theorem zpl {l : List Bool} {i : Nat} (h : i < l.length) (b : Bool) : (zbb l).take i ++ .bool b :: (zbb l).drop (i + 1) = zbb (l.set i b) := by
 simp [zbb, List.set_eq_take_append_cons_drop, h]
theorem zpk (m : Nat) (l : List Bool) : (zbb l).all (AV.scA m) = true := by simp [zbb]
theorem zqJ : ∀ l : List Bool, zaz (zbb l) = some (l.map fun b => [AV.bool b]).flatten
 | [] => rfl
 | b :: l => by
  have := zqJ l
  simp [zbb] at this ⊢
  simp [zaz, this, AV.pd]
theorem zoo (data : List Dat) (d : Nat) (c : Nat) (hd : d < data.length) (hc : c < (data[d]).cons.length) (hl : data.length ≤ 1000000) (hcl : (data[d]).cons.length ≤ 1000000) (hal : ((data[d]).cons[c]).args.length ≤ 1000000)
  (hb : ∀ x ∈ ((data[d]).cons[c]).args, x.nodes ≤ 1000000) (H : zaa) (K : AV → zaa → Prop)
  (hK : K (.sl (((data[d]).cons[c]).args.map fun t => [.bool (zbk d (data[d]).vars t)]) .none) H) :
  ACalls tP zeC [.sl (data.map Dat.cs) .none, .int .i64 d, .int .i64 c] H K := by
 refine ACalls.out (zIi fun hs => ?_)
 have e1 : (data.map Dat.cs)[d]? = some (data[d]).cs := by simp [hd]
 have e2 : ((data[d]).cons.map Con.cs)[c]? = some ((data[d]).cons[c]).cs := by simp [hc]
 generalize hD : data[d] = D at *
 generalize hA : D.cons[c] = C at *
 have h1 : ¬ (d : Int) < 0 := by omega
 have h2 : ¬ (data.length : Int) ≤ d := by omega
 have h3 : ¬ (c : Int) < 0 := by omega
 have h4 : ¬ (D.cons.length : Int) ≤ c := by omega
 simp [zve, h1, h2, h3, h4, e1, e2, Dat.cs, Con.cs, hd, hD, hc, hA]
 simp only [zba, Int.toNat_natCast, zwj]
 refine ⟨⟨by omega, by omega, by omega, by omega⟩, ?_⟩
 refine zIg (Inv := fun q t49 H' => ∃ (i : Nat) (bs : List Bool), i ≤ C.args.length ∧ q = C.args.length - i ∧ t49 = .int .i64 i ∧ bs.length = C.args.length ∧ (∀ j (hj : j < i) (h' : j < C.args.length), bs[j]? = some (zbk d D.vars C.args[j])) ∧ H' = H ++ [.cells (zbb bs)]) C.args.length ?_ ?_
 ·intro _; exact ⟨0, _, by omega, by omega, rfl, by simp, by omega, rfl⟩
 ·rintro q t49 H' ⟨i, bs, hi, rfl, rfl, hbl, hbs, rfl⟩ hsc hlen hsF Kb hKb
  by_cases hlt : i < C.args.length
  ·obtain ⟨k, n, ks, hx⟩ : ∃ k n ks, C.args[i] = .mk k n ks := by cases h : C.args[i] with | mk a b c => exact ⟨a, b, c, rfl⟩
   have hnb := hb _ (List.getElem_mem hlt)
   rw [hx, VT.nodes] at hnb
   have hll := VT.len_le ks
   have inner : ∀ b0 : Bool, b0 = (k == 5 && n == (d : Int) && (ks.length : Int) == D.vars) →
     zon (.sl (data.map Dat.cs) .none) (.int .i64 d) (.ms H.length 0 C.args.length C.args.length) (.int .i64 i) (.sl (VT.css C.args) .none) (.int .i64 C.args.length) (.int .i64 i) (.sl (VT.css ks) .none) (.int .i64 ks.length) (.int .i64 0)
      (H ++ [.cells (zbb (bs.set i b0)), .cells [.int .i64 k, .int .i64 n, .sl (VT.css ks) .none]]) (Out H.length K) Kb := by
    intro b0 hb0
    refine zIf (Inv := fun q t80 H' => ∃ (j : Nat) (b : Bool), j ≤ ks.length ∧ q = ks.length - j ∧ t80 = .int .i64 j ∧ (b && zcd (ks.drop j) j) = zbk d D.vars C.args[i] ∧ H' = H ++ [.cells (zbb (bs.set i b)), .cells [.int .i64 k, .int .i64 n, .sl (VT.css ks) .none]]) ks.length ?_ ?_
    ·intro _; exact ⟨0, b0, by omega, by omega, rfl, by simp [hx, zbk, hb0], rfl⟩
    ·rintro q t80 H' ⟨j, b, hj, rfl, rfl, hob, rfl⟩ hsc1 hlen1 hsF1 Kb1 hKb1
     have hsc0 : ∀ b : Bool, HSc (H ++ [.cells (zbb (bs.set i b))]) := fun b => hs.snoc (by simp [AB.sc, zpk])
     have hsc2 : ∀ b : Bool, HSc (H ++ [.cells (zbb (bs.set i b)), .cells [.int .i64 k, .int .i64 n, .sl (VT.css ks) .none]]) := fun b => hs.append (by simp [AB.sc, zpk])
     by_cases hjl : j < ks.length
     ·obtain ⟨k', n', ks', hx'⟩ : ∃ k' n' ks', ks[j] = .mk k' n' ks' := by cases h : ks[j] with | mk a b c => exact ⟨a, b, c, rfl⟩
      have hib : i < bs.length := by omega
      rw [List.drop_eq_getElem_cons hjl, zcd, hx', zfl] at hob
      have hback : ∀ (b' : Bool) J, (b' && zcd (ks.drop (j + 1)) (j + 1)) = zbk d D.vars C.args[i] → zom (.sl (data.map Dat.cs) .none) (.int .i64 d) (.ms H.length 0 C.args.length C.args.length) (.int .i64 i) (.sl (VT.css C.args) .none) (.int .i64 C.args.length) (.int .i64 i) (.sl (VT.css ks) .none) (.int .i64 ks.length) (.int .i64 j)
        (H ++ .cells (zbb (bs.set i b')) :: .cells [.int .i64 k, .int .i64 n, .sl (VT.css ks) .none] :: J) (Out H.length K) Kb Kb1 := by
       intro b' J hb'
       simp [zom]
       rw [zaq (by omega) (by omega)]
       refine hKb1 _ _ ⟨ks.length - (j + 1), by omega, Back.at (J := J) (H2 := H ++ [.cells (zbb (bs.set i b')), .cells [.int .i64 k, .int .i64 n, .sl (VT.css ks) .none]]) (by simp) (by simp) (hsc2 _) ?_ ⟨_, rfl, j + 1, b', by omega, rfl, by simp, hb', rfl⟩⟩
       simp [zjE, AV.sc, AV.scV, AV.scA, AV.scB]
      have hstore : ∀ l, List.take i (zbb (bs.set i b)) ++ .bool false :: List.drop (i + 1) (zbb (bs.set i b)) = l → l = zbb (bs.set i false) := by
       rintro _ rfl
       rw [zpl (by simpa using hib)]; simp
      cases g1 : (k' == 4) with
      | false =>
       have : (k' != 4) = true := by simp [bne, g1]
       rw [g1] at hob
       simp [zeY, zeZ, hjl, hx', VT.cs, this, hlt, hbl, hstore _ rfl]
       refine ⟨by omega, hback _ _ ?_⟩; simpa using hob.symm
      | true =>
      have g1' : (k' != 4) = false := by simp [bne, g1]
      cases g2 : (n' == (j : Int)) with
      | false =>
       have : (n' != (j : Int)) = true := by simp [bne, g2]
       rw [g1, g2] at hob
       simp [zeY, zeZ, hjl, hx', VT.cs, g1', this, hlt, hbl, hstore _ rfl]
       refine ⟨by omega, hback _ _ ?_⟩; simpa using hob.symm
      | true =>
      have g2' : (n' != (j : Int)) = false := by simp [bne, g2]
      by_cases g3 : ks'.length = 0
      ·have g3' : ¬ (0 : Int) < ks'.length := by omega
       have g3'' : ¬ 0 < ks'.length := by omega
       simp [zeY, zeZ, hjl, hx', VT.cs, g1', g2', g3', g3'']
       refine hback _ _ ?_; simpa [g1, g2, g3] using hob
      ·have g3' : (0 : Int) < ks'.length := by omega
       have g3'' : 0 < ks'.length := by omega
       have g4 : (ks'.length == 0) = false := by simpa using g3
       rw [g4] at hob
       simp [zeY, zeZ, hjl, hx', VT.cs, g1', g2', g3', g3'', hlt, hbl, hstore _ rfl]
       refine ⟨by omega, hback _ _ ?_⟩; simpa using hob.symm
     ·obtain rfl : j = ks.length := by omega
      rw [List.drop_length, zcd, Bool.and_true] at hob
      simp [zeY]
      rw [zaq (by omega) (by omega)]
      refine hKb _ _ ⟨C.args.length - (i + 1), by omega, Back.at (J := [.cells [.int .i64 k, .int .i64 n, .sl (VT.css ks) .none]]) (H2 := H ++ [.cells (zbb (bs.set i b))]) (by simp) (by simp) (hsc0 _) ?_ ⟨_, rfl, i + 1, bs.set i b, by omega, rfl, by simp, by simpa using hbl, ?_, rfl⟩⟩
      ·simp [zjF, AV.sc, AV.scV, AV.scA, AV.scB]
      ·intro j hj h'
       by_cases hji : j = i
       ·subst hji; rw [← hob]; simp [hbl, hlt]
       ·rw [List.getElem?_set_ne (by omega)]; exact hbs j (by omega) h'
   have hstore : ∀ b l, List.take i (zbb bs) ++ .bool b :: List.drop (i + 1) (zbb bs) = l → l = zbb (bs.set i b) := by
    rintro b _ rfl
    rw [zpl (by omega)]
   cases h5 : (k == 5) with
   | false => simp [zf2, hlt, hx, VT.cs, e1, hd, hD, Dat.cs, h5, hbl, hstore _ _ rfl]; refine ⟨by omega, inner _ ?_⟩; simp [h5]
   | true =>
   cases hn : (n == (d : Int)) with
   | false => simp [zf2, hlt, hx, VT.cs, e1, hd, hD, Dat.cs, h5, hn, hbl, hstore _ _ rfl]; refine ⟨by omega, inner _ ?_⟩; simp [h5, hn]
   | true => simp [zf2, hlt, hx, VT.cs, e1, hd, hD, Dat.cs, h5, hn, hbl, hstore _ _ rfl]; refine ⟨by omega, inner _ ?_⟩; simp [h5, hn]
  ·obtain rfl : i = C.args.length := by omega
   simp [zf2]
   have hbe : bs = C.args.map (zbk d D.vars) := by
    refine List.ext_getElem (by simpa using hbl) fun j h1 h2 => ?_
    have := hbs j (by omega) (by omega)
    rw [List.getElem?_eq_getElem h1] at this
    simpa using this
   subst hbe
   refine ⟨_, H, _, rfl, Nat.le_refl _, hs, .one (.frz H.length 0 _ _ 1 (zbb (C.args.map (zbk d D.vars))) (C.args.map fun t => [.bool (zbk d D.vars t)]) (Nat.le_refl _) (by simp) (by simp) ?_ (by simp) (by simp) (Nat.le_refl _)), hK⟩
   rw [List.drop_zero, List.take_of_length_le (by simp), zqJ, List.map_map]
   rfl
end Go.Proofs.YtjkkonpjecoieaaGreat
namespace Go.Abs
open Go
def zbx (b : UInt8) : Bool := decide (97 ≤ (b.toNat : Int)) && decide ((b.toNat : Int) ≤ 122)
def bUp (b : UInt8) : Bool := decide (65 ≤ (b.toNat : Int)) && decide ((b.toNat : Int) ≤ 90)
def zaK (b : UInt8) : Bool := decide (48 ≤ (b.toNat : Int)) && decide ((b.toNat : Int) ≤ 57)
def bIn (b : UInt8) : Bool := zbx b || bUp b || zaK b || b == 95
def zcB (b : UInt8) : Bool := b == 9 || b == 10 || b == 13 || b == 32
def zbL : List UInt8 → Int → Bool
 | [], _ => true
 | b :: l, n => let m := n * 10 + ((b.toNat : Int) - 48)
  if m > 1000000 then false else zbL l m
def zcG (r : List UInt8) : Bool := r.take 2 == [45, 62] || r.take 2 == [60, 61] || r.take 2 == [61, 61]
def sgns : List UInt8 := [40, 41, 44, 61, 124, 43, 45, 42, 47, 37, 60, 59, 95]
def sgn (r : List UInt8) : Nat :=
 if zcG r = true then 2 else match r with
 | [] => 0
 | b :: _ => if sgns.contains b = true then 1 else 0
structure Tk where
 kind : Int
 text : List UInt8
 pos : Nat
def tok (kw : List UInt8 → Bool) (b : UInt8) (r : List UInt8) : Except Int (Int × Nat) :=
 if (zbx b || bUp b) = true then
  let n := (r.takeWhile bIn).length + 1
  if n > 24 then .error 9 else .ok (if bUp b = true then 2 else if kw ((b :: r).take n) = true then 4 else 1, n)
 else if zaK b = true then
  let n := (r.takeWhile zaK).length + 1
  if b == 48 && decide (n > 1) then .error 2 else if zbL ((b :: r).take n) 0 = true then .ok (3, n) else .error 9
 else
  let n := sgn (b :: r)
  if n = 0 then .error 2 else .ok (5, n)
theorem zlQ {kw : List UInt8 → Bool} {b : UInt8} {r : List UInt8} {k : Int} {n : Nat} (h : tok kw b r = .ok (k, n)) : 0 < n := by
 unfold tok at h
 split at h
 ·simp only at h; split at h <;> simp at h; omega
 ·split at h
  ·simp only at h; split at h
   ·simp at h
   ·split at h <;> simp at h; omega
  ·simp only at h; split at h <;> simp at h; omega
def za9 (kw : List UInt8 → Bool) (r : List UInt8) (pos : Nat) : Except (Nat × Int) (List Tk) :=
 match r with
 | [] => .ok [⟨6, [], pos⟩]
 | b :: r' =>
  if zcB b = true then za9 kw r' (pos + 1)
  else if b == 35 then za9 kw (r'.dropWhile (· != 10)) (pos + 1 + (r'.takeWhile (· != 10)).length)
  else match tok kw b r' with
   | .error e => .error (pos, e)
   | .ok (k, n) => match za9 kw (r'.drop (n - 1)) (pos + n) with
    | .error e => .error e
    | .ok l => .ok (⟨k, (b :: r').take n, pos⟩ :: l)
termination_by r.length
decreasing_by
 ·simp
 ·have := (List.dropWhile_sublist (p := (· != 10)) (l := r')).length_le; simp; omega
 ·simp; omega
end Go.Abs
namespace Go.Proofs.YtjkkonpjecoieaaGreat
open Go Go.Abs
set_option maxRecDepth 100000
def zed : Nat → List Bool
 | 5 => rl false [0,1,4,2,54]
 | 9 => rl false [0,1,4,2,54]
 | _ => []
noncomputable def znp : Code := Tryz.f206.body.getD .skip
noncomputable def zED : List ResultVar := Tryz.f206.results.toList
def zeT (t0 t5 t6 : AV) : List AV := t0 :: ux 4 (t5 :: t6 :: ux 54 [])
def zt5 : List Bool := zed 5
noncomputable def znq : Code := zar [1, 0, 1, 1, 1, 1, 0, 0, 0] znp
def zt2 (K : Kt) : AExit → List AV → zaa → Prop := zas tP zed [1, 0, 1, 1, 1, 1, 0, 0] znp (zaw tP zED K)
def ziP (t0 t5 t6 : AV) (H : zaa) (K : Kt) : Prop := ALoop tP znq (zt2 K) (zeT t0 t5 t6) H
def zeU (t0 t5 t6 : AV) (H : zaa) (K : Kt) (Kb5 : Lt) : Prop :=
 Kb5 (zeT t0 t5 t6) H
def ziN (t0 t5 t6 : AV) : List AV := t0 :: ux 4 (t5 :: t6 :: ux 54 [])
def zEB : List Bool := zed 9
noncomputable def zEy : Code := zar [1, 0, 1, 0, 1, 0, 0, 0, 0] znq
def zEx (K : Kt) (Kb5 : Lt) : AExit → List AV → zaa → Prop := zas tP zed [1, 0, 1, 0, 1, 0, 0, 0] znq (zbQ zt5 Kb5 (zt2 K))
def zt4 (t0 t5 t6 : AV) (H : zaa) (K : Kt) (Kb5 : Lt) : Prop := ALoop tP zEy (zEx K Kb5) (ziN t0 t5 t6) H
def zt3 (t0 t5 : AV) (H : zaa) (K : Kt) : Prop :=
 zah 0 t0 fun t57 =>
 zav [(.int .i64 0), (.str []), (.int .i64 0)] [(0, 1), (1, 1), (2, 1)] [(0, (.int .i64 6)), (2, t57)] fun t58 =>
 zaB 3 [(.int .i64 0), (.str []), (.int .i64 0)] 1 [(0, t58)] fun t59 =>
 zaA zds 3 32 t5 t59 H fun t60 H =>
 zay [t60, (.int .i64 0), (.int .i64 0)] (K · H)
def ziO (t0 t5 : AV) (H : zaa) (K : Kt) : Prop :=
 zt3 t0 t5 H K
def zno (t0 t5 t6 : AV) (H : zaa) (K : Kt) (Kb5 : Lt) (Kb9 : Lt) : Prop :=
 zah 0 t0 fun t28 =>
 zac .lss false t6 t28 fun t29 =>
 zag t29
 (zbc t0 t6 fun t34 =>
 zac .eql false t34 (.int .u8 10) fun t35 =>
 zag t35
 (zeU t0 t5 t6 H K Kb5)
 (zac .add false t6 (.int .i64 1) fun t31 =>
 Kb9 (ziN t0 t5 t31) H))
 (ziO t0 t5 H K)
def znn (t0 t5 t6 : AV) (H : zaa) (K : Kt) (Kb5 : Lt) : Prop :=
 zah 0 t0 fun t14 =>
 zac .lss false t6 t14 fun t15 =>
 zag t15
 (zbc t0 t6 fun t18 =>
 ACalls tP zle [t18] H fun t19 H =>
 zag t19
 (zac .add false t6 (.int .i64 1) fun t21 =>
 zeU t0 t5 t21 H K Kb5)
 (zbc t0 t6 fun t24 =>
 zac .eql false t24 (.int .u8 35) fun t25 =>
 zag t25
 (zt4 t0 t5 t6 H K Kb5)
 (ACalls tP zlf [t0, t6] H fun t39 H =>
 zax t39 0 fun t40 =>
 zax t39 1 fun t41 =>
 zau [(.int .i64 0), (.str []), (.int .i64 0)] H fun t7 H =>
 zak 3 t7 t40 H fun H =>
 zac .neq false t41 (.int .i64 0) fun t43 =>
 zag t43
 (zay [.snil, t6, t41] (K · H))
 (zad true 3 t7 H fun t47 =>
 zaB 3 [(.int .i64 0), (.str []), (.int .i64 0)] 1 [(0, t47)] fun t48 =>
 zaA zds 3 32 t5 t48 H fun t49 H =>
 zaf 1 t7 fun t51 =>
 zad false 1 t51 H fun t52 =>
 zah 0 t52 fun t53 =>
 zac .add false t6 t53 fun t54 =>
 zeU t0 t49 t54 H K Kb5))))
 (ziO t0 t5 H K)
def znm (t0 : AV) (H : zaa) (K : Kt) : Prop :=
 zah 0 t0 fun t10 =>
 zac .gtr false t10 (.int .i64 16384) fun t11 =>
 zag t11
 (zay [.snil, (.int .i64 0), (.int .i64 9)] (K · H))
 (ziP t0 .snil (.int .i64 0) H K)
theorem zEA {t0 t5 t6 : AV} {H : zaa} {K : Kt} {Kb5 : Lt} (Inv : Nat → AV → zaa → Prop) (n : Nat) (h0 : HSc H → Inv n t6 H)
  (round : Rd1 (fun t6 => ziN t0 t5 t6) (fun t6 => fun H Kb9 => zno t0 t5 t6 H K Kb5 Kb9) H Inv) : zt4 t0 t5 t6 H K Kb5 :=
 lp1 (M := zed) zEB t6 (by kernel_rfl) Inv n h0 round
theorem zEz {t0 t5 t6 : AV} {H : zaa} {K : Kt} (Inv : Nat → AV → AV → zaa → Prop) (n : Nat) (h0 : HSc H → Inv n t5 t6 H)
  (round : Rd2 (fun t5 => fun t6 => zeT t0 t5 t6) (fun t5 => fun t6 => fun H Kb5 => znn t0 t5 t6 H K Kb5) H Inv) : ziP t0 t5 t6 H K :=
 lp2 (M := zed) zt5 t5 t6 (by kernel_rfl) Inv n h0 round
theorem zEC {t0 : AV} {H : zaa} {K : Kt} (h : HSc H → znm t0 H K) : ACalls tP zlb [t0] H K :=
 zam (M := zed) Tryz.func206 (c := znp) (by kernel_rfl) (fun hs => Eq.mpr (by kernel_rfl) (h hs))
def zcw : Nat → List Bool
 | 5 => rl false [0,1,4,2,193]
 | 10 => rl false [0,1,4,2,193]
 | 18 => rl false [0,1,4,4,191]
 | 29 => rl false [0,1,4,4,191]
 | _ => []
noncomputable def zml : Code := Tryz.f129.body.getD .skip
noncomputable def zAO : List ResultVar := Tryz.f129.results.toList
def zd9 (t0 t5 t6 : AV) : List AV := t0 :: ux 4 (t5 :: t6 :: ux 193 [])
def zhT : List Bool := zcw 5
noncomputable def zd8 : Code := zar [1, 1, 1, 0, 1, 0, 0] zml
def zhN (K : Kt) : AExit → List AV → zaa → Prop := zas tP zcw [1, 1, 1, 0, 1, 0] zml (zaw tP zAO K)
def zhS (t0 t5 t6 : AV) (H : zaa) (K : Kt) : Prop := ALoop tP zd8 (zhN K) (zd9 t0 t5 t6) H
def zdD (t0 t5 t6 : AV) (H : zaa) (K : Kt) (Kb5 : Lt) : Prop :=
 Kb5 (zd9 t0 t5 t6) H
def zhQ (t0 t5 t6 : AV) : List AV := t0 :: ux 4 (t5 :: t6 :: ux 193 [])
def zAK : List Bool := zcw 10
noncomputable def zAD : Code := zar [1, 0, 1, 1, 0, 1, 0, 0, 0, 0] zd8
def zAA (K : Kt) (Kb5 : Lt) : AExit → List AV → zaa → Prop := zas tP zcw [1, 0, 1, 1, 0, 1, 0, 0, 0] zd8 (zbQ zhT Kb5 (zhN K))
def zsB (t0 t5 t6 : AV) (H : zaa) (K : Kt) (Kb5 : Lt) : Prop := ALoop tP zAD (zAA K Kb5) (zhQ t0 t5 t6) H
def zmi (t0 t5 t6 : AV) (H : zaa) (K : Kt) (Kb5 : Lt) (Kb10 : Lt) : Prop :=
 zah 0 t0 fun t42 =>
 zac .lss false t6 t42 fun t43 =>
 zab t43 true H (fun K' => K' t0 H) fun t45 H =>
 zab t43 true H (fun K' => K' t6 H) fun t46 H =>
 zab t43 true H (fun K' => zbc t45 t46 (K' · H)) fun t47 H =>
 zab t43 true H (fun K' => zac .neq false t47 (.int .u8 10) (K' · H)) fun t48 H =>
 zai t43 t48 (.bool false) fun t49 =>
 zag t49
 (zac .add false t6 (.int .i64 1) fun t51 =>
 Kb10 (zhQ t0 t5 t51) H)
 (zdD t0 t5 t6 H K Kb5)
def zfT (t0 t5 t6 t7 t8 : AV) : List AV := t0 :: ux 4 (t5 :: t6 :: t7 :: t8 :: ux 191 [])
def zAL : List Bool := zcw 18
noncomputable def zAE : Code := zar [1, 0, 1, 1, 1, 1, 0, 0, 1, 0, 0, 0, 0] zd8
def zAB (K : Kt) (Kb5 : Lt) : AExit → List AV → zaa → Prop := zas tP zcw [1, 0, 1, 1, 1, 1, 0, 0, 1, 0, 0, 0] zd8 (zbQ zhT Kb5 (zhN K))
def zmm (t0 t5 t6 t7 t8 : AV) (H : zaa) (K : Kt) (Kb5 : Lt) : Prop := ALoop tP zAE (zAB K Kb5) (zfT t0 t5 t6 t7 t8) H
def zfU (t0 t5 t6 t8 : AV) (H : zaa) (K : Kt) (Kb5 : Lt) : Prop :=
 zac .add false t6 t8 fun t193 =>
 zdD t0 t5 t193 H K Kb5
def zdF (t0 t5 t6 t8 : AV) (H : zaa) (K : Kt) (Kb5 : Lt) : Prop :=
 zfU t0 t5 t6 t8 H K Kb5
def zdE (t0 t5 t6 t8 t9 : AV) (H : zaa) (K : Kt) (Kb5 : Lt) : Prop :=
 zac .add false t6 t8 fun t135 =>
 zaL 0 0 t0 (some t6) (some t135) fun t136 =>
 zav [(.int .i64 0), (.str []), (.int .i64 0)] [(0, 1), (1, 1), (2, 1)] [(0, t9), (1, t136), (2, t6)] fun t138 =>
 zaB 3 [(.int .i64 0), (.str []), (.int .i64 0)] 1 [(0, t138)] fun t139 =>
 zaA za1 3 32 t5 t139 H fun t140 H =>
 zdF t0 t140 t6 t8 H K Kb5
def zmj (t0 t5 t6 t7 t8 : AV) (H : zaa) (K : Kt) (Kb5 : Lt) (Kb18 : Lt) : Prop :=
 zac .add false t6 t8 fun t79 =>
 zah 0 t0 fun t81 =>
 zac .lss false t79 t81 fun t82 =>
 zab t82 true H (fun K' => K' t0 H) fun t84 H =>
 zab t82 true H (fun K' => K' t6 H) fun t85 H =>
 zab t82 true H (fun K' => K' t8 H) fun t86 H =>
 zab t82 true H (fun K' => zac .add false t85 t86 (K' · H)) fun t87 H =>
 zab t82 true H (fun K' => zbc t84 t87 (K' · H)) fun t88 H =>
 zab t82 true H (fun K' => ACalls tP zgH [t88] H K') fun t89 H =>
 zab t82 true H (fun K' => K' t89 H) fun t90 H =>
 zab t90 false H (fun K' => K' t0 H) fun t91 H =>
 zab t90 false H (fun K' => K' t6 H) fun t92 H =>
 zab t90 false H (fun K' => K' t8 H) fun t93 H =>
 zab t90 false H (fun K' => zac .add false t92 t93 (K' · H)) fun t94 H =>
 zab t90 false H (fun K' => zbc t91 t94 (K' · H)) fun t95 H =>
 zab t90 false H (fun K' => ACalls tP zez [t95] H K') fun t96 H =>
 zab t82 true H (fun K' => zai t90 (.bool true) t96 (K' · H)) fun t97 H =>
 zab t82 true H (fun K' => K' t97 H) fun t98 H =>
 zab t98 false H (fun K' => K' t0 H) fun t99 H =>
 zab t98 false H (fun K' => K' t6 H) fun t100 H =>
 zab t98 false H (fun K' => K' t8 H) fun t101 H =>
 zab t98 false H (fun K' => zac .add false t100 t101 (K' · H)) fun t102 H =>
 zab t98 false H (fun K' => zbc t99 t102 (K' · H)) fun t103 H =>
 zab t98 false H (fun K' => ACalls tP zfu [t103] H K') fun t104 H =>
 zab t82 true H (fun K' => zai t98 (.bool true) t104 (K' · H)) fun t105 H =>
 zab t82 true H (fun K' => K' t105 H) fun t106 H =>
 zab t106 false H (fun K' => K' t0 H) fun t107 H =>
 zab t106 false H (fun K' => K' t6 H) fun t108 H =>
 zab t106 false H (fun K' => K' t8 H) fun t109 H =>
 zab t106 false H (fun K' => zac .add false t108 t109 (K' · H)) fun t110 H =>
 zab t106 false H (fun K' => zbc t107 t110 (K' · H)) fun t111 H =>
 zab t106 false H (fun K' => zac .eql false t111 (.int .u8 95) (K' · H)) fun t112 H =>
 zab t82 true H (fun K' => zai t106 (.bool true) t112 (K' · H)) fun t113 H =>
 zai t82 t113 (.bool false) fun t114 =>
 zag t114
 (zac .add false t8 (.int .i64 1) fun t116 =>
 Kb18 (zfT t0 t5 t6 t7 t116) H)
 (zac .gtr false t8 (.int .i64 24) fun t118 =>
 zag t118
 (zay [.snil, t6, (.int .i64 9)] (K · H))
 (ACalls tP zez [t7] H fun t121 H =>
 zag t121
 (zdE t0 t5 t6 t8 (.int .i64 2) H K Kb5)
 (zac .add false t6 t8 fun t126 =>
 zaL 0 0 t0 (some t6) (some t126) fun t127 =>
 ACalls tP zgI [t127] H fun t128 H =>
 zag t128
 (zdE t0 t5 t6 t8 (.int .i64 4) H K Kb5)
 (zdE t0 t5 t6 t8 (.int .i64 1) H K Kb5))))
def zhR (t0 t5 t6 t7 t8 : AV) : List AV := t0 :: ux 4 (t5 :: t6 :: t7 :: t8 :: ux 191 [])
def zAM : List Bool := zcw 29
noncomputable def zAF : Code := zar [1, 0, 1, 1, 1, 1, 0, 0, 1, 1, 1, 0, 0, 0, 0] zd8
def zAC (K : Kt) (Kb5 : Lt) : AExit → List AV → zaa → Prop := zas tP zcw [1, 0, 1, 1, 1, 1, 0, 0, 1, 1, 1, 0, 0, 0] zd8 (zbQ zhT Kb5 (zhN K))
def zmn (t0 t5 t6 t7 t8 : AV) (H : zaa) (K : Kt) (Kb5 : Lt) : Prop := ALoop tP zAF (zAC K Kb5) (zhR t0 t5 t6 t7 t8) H
def zmk (t0 t5 t6 t7 t8 : AV) (H : zaa) (K : Kt) (Kb5 : Lt) (Kb29 : Lt) : Prop :=
 zac .add false t6 t8 fun t146 =>
 zah 0 t0 fun t148 =>
 zac .lss false t146 t148 fun t149 =>
 zab t149 true H (fun K' => K' t0 H) fun t151 H =>
 zab t149 true H (fun K' => K' t6 H) fun t152 H =>
 zab t149 true H (fun K' => K' t8 H) fun t153 H =>
 zab t149 true H (fun K' => zac .add false t152 t153 (K' · H)) fun t154 H =>
 zab t149 true H (fun K' => zbc t151 t154 (K' · H)) fun t155 H =>
 zab t149 true H (fun K' => ACalls tP zfu [t155] H K') fun t156 H =>
 zai t149 t156 (.bool false) fun t157 =>
 zag t157
 (zac .add false t8 (.int .i64 1) fun t159 =>
 Kb29 (zhR t0 t5 t6 t7 t159) H)
 (zac .gtr false t8 (.int .i64 1) fun t161 =>
 zab t161 true H (fun K' => K' t7 H) fun t163 H =>
 zab t161 true H (fun K' => zac .eql false t163 (.int .u8 48) (K' · H)) fun t164 H =>
 zai t161 t164 (.bool false) fun t165 =>
 zag t165
 (zay [.snil, t6, (.int .i64 2)] (K · H))
 (zac .add false t6 t8 fun t172 =>
 zaL 0 0 t0 (some t6) (some t172) fun t173 =>
 ACalls tP zeA [t173] H fun t174 H =>
 zax t174 0 fun t175 =>
 zax t174 1 fun t176 =>
 aUn .not t176 fun t178 =>
 zag t178
 (zay [.snil, t6, (.int .i64 9)] (K · H))
 (zac .add false t6 t8 fun t185 =>
 zaL 0 0 t0 (some t6) (some t185) fun t186 =>
 zav [(.int .i64 0), (.str []), (.int .i64 0)] [(0, 1), (1, 1), (2, 1)] [(0, (.int .i64 3)), (1, t186), (2, t6)] fun t188 =>
 zaB 3 [(.int .i64 0), (.str []), (.int .i64 0)] 1 [(0, t188)] fun t189 =>
 zaA za1 3 32 t5 t189 H fun t190 H =>
 zdF t0 t190 t6 t8 H K Kb5)))
def zhO (t0 t5 t6 : AV) (H : zaa) (K : Kt) (Kb5 : Lt) : Prop :=
 zah 0 t0 fun t17 =>
 zac .lss false t6 t17 fun t18 =>
 zag t18
 (zbc t0 t6 fun t21 =>
 zac .eql false t21 (.int .u8 9) fun t23 =>
 zab t23 false H (fun K' => K' t21 H) fun t25 H =>
 zab t23 false H (fun K' => zac .eql false t25 (.int .u8 10) (K' · H)) fun t26 H =>
 zai t23 (.bool true) t26 fun t27 =>
 zab t27 false H (fun K' => K' t21 H) fun t29 H =>
 zab t27 false H (fun K' => zac .eql false t29 (.int .u8 13) (K' · H)) fun t30 H =>
 zai t27 (.bool true) t30 fun t31 =>
 zab t31 false H (fun K' => K' t21 H) fun t33 H =>
 zab t31 false H (fun K' => zac .eql false t33 (.int .u8 32) (K' · H)) fun t34 H =>
 zai t31 (.bool true) t34 fun t35 =>
 zag t35
 (zac .add false t6 (.int .i64 1) fun t37 =>
 zdD t0 t5 t37 H K Kb5)
 (zac .eql false t21 (.int .u8 35) fun t39 =>
 zag t39
 (zsB t0 t5 t6 H K Kb5)
 (ACalls tP zgH [t21] H fun t72 H =>
 zab t72 false H (fun K' => K' t21 H) fun t74 H =>
 zab t72 false H (fun K' => ACalls tP zez [t74] H K') fun t75 H =>
 zai t72 (.bool true) t75 fun t76 =>
 zag t76
 (zmm t0 t5 t6 t21 (.int .i64 1) H K Kb5)
 (ACalls tP zfu [t21] H fun t143 H =>
 zag t143
 (zmn t0 t5 t6 t21 (.int .i64 1) H K Kb5)
 (zaL 0 0 t0 (some t6) none fun t54 =>
 ACalls tP zk4 [t54] H fun t55 H =>
 zac .eql false t55 (.int .i64 0) fun t57 =>
 zag t57
 (zay [.snil, t6, (.int .i64 2)] (K · H))
 (zac .add false t6 t55 fun t64 =>
 zaL 0 0 t0 (some t6) (some t64) fun t65 =>
 zav [(.int .i64 0), (.str []), (.int .i64 0)] [(0, 1), (1, 1), (2, 1)] [(0, (.int .i64 5)), (1, t65), (2, t6)] fun t67 =>
 zaB 3 [(.int .i64 0), (.str []), (.int .i64 0)] 1 [(0, t67)] fun t68 =>
 zaA za1 3 32 t5 t68 H fun t69 H =>
 zdF t0 t69 t6 t55 H K Kb5))))))
 (zah 0 t0 fun t196 =>
 zav [(.int .i64 0), (.str []), (.int .i64 0)] [(0, 1), (1, 1), (2, 1)] [(0, (.int .i64 6)), (1, (.str [])), (2, t196)] fun t197 =>
 zaB 3 [(.int .i64 0), (.str []), (.int .i64 0)] 1 [(0, t197)] fun t198 =>
 zaA za1 3 32 t5 t198 H fun t199 H =>
 zay [t199, (.int .i64 0), (.int .i64 0)] (K · H))
def zmh (t0 : AV) (H : zaa) (K : Kt) : Prop :=
 zah 0 t0 fun t13 =>
 zac .gtr false t13 (.int .i64 16384) fun t14 =>
 zag t14
 (zay [.snil, (.int .i64 0), (.int .i64 9)] (K · H))
 (zhS t0 .snil (.int .i64 0) H K)
theorem zAG {t0 t5 t6 : AV} {H : zaa} {K : Kt} {Kb5 : Lt} (Inv : Nat → AV → zaa → Prop) (n : Nat) (h0 : HSc H → Inv n t6 H)
  (round : Rd1 (fun t6 => zhQ t0 t5 t6) (fun t6 => fun H Kb10 => zmi t0 t5 t6 H K Kb5 Kb10) H Inv) : zsB t0 t5 t6 H K Kb5 :=
 lp1 (M := zcw) zAK t6 (by kernel_rfl) Inv n h0 round
theorem zAH {t0 t5 t6 t7 t8 : AV} {H : zaa} {K : Kt} {Kb5 : Lt} (Inv : Nat → AV → zaa → Prop) (n : Nat) (h0 : HSc H → Inv n t8 H)
  (round : Rd1 (fun t8 => zfT t0 t5 t6 t7 t8) (fun t8 => fun H Kb18 => zmj t0 t5 t6 t7 t8 H K Kb5 Kb18) H Inv) : zmm t0 t5 t6 t7 t8 H K Kb5 :=
 lp1 (M := zcw) zAL t8 (by kernel_rfl) Inv n h0 round
theorem zAI {t0 t5 t6 t7 t8 : AV} {H : zaa} {K : Kt} {Kb5 : Lt} (Inv : Nat → AV → zaa → Prop) (n : Nat) (h0 : HSc H → Inv n t8 H)
  (round : Rd1 (fun t8 => zhR t0 t5 t6 t7 t8) (fun t8 => fun H Kb29 => zmk t0 t5 t6 t7 t8 H K Kb5 Kb29) H Inv) : zmn t0 t5 t6 t7 t8 H K Kb5 :=
 lp1 (M := zcw) zAM t8 (by kernel_rfl) Inv n h0 round
theorem zAJ {t0 t5 t6 : AV} {H : zaa} {K : Kt} (Inv : Nat → AV → AV → zaa → Prop) (n : Nat) (h0 : HSc H → Inv n t5 t6 H)
  (round : Rd2 (fun t5 => fun t6 => zd9 t0 t5 t6) (fun t5 => fun t6 => fun H Kb5 => zhO t0 t5 t6 H K Kb5) H Inv) : zhS t0 t5 t6 H K :=
 lp2 (M := zcw) zhT t5 t6 (by kernel_rfl) Inv n h0 round
theorem zAN {t0 : AV} {H : zaa} {K : Kt} (h : HSc H → zmh t0 H K) : ACalls tP zkQ [t0] H K :=
 zam (M := zcw) Tryz.func129 (c := zml) (by kernel_rfl) (fun hs => Eq.mpr (by kernel_rfl) (h hs))
def zEO (_ : Nat) : List Bool := []
noncomputable def zEP : Code := Tryz.f219.body.getD .skip
def zua (t0 : AV) (H : zaa) (K : Kt) : Prop :=
 zac .eql false t0 (.int .u8 9) fun t4 =>
 zab t4 false H (fun K' => K' t0 H) fun t6 H =>
 zab t4 false H (fun K' => zac .eql false t6 (.int .u8 10) (K' · H)) fun t7 H =>
 zai t4 (.bool true) t7 fun t8 =>
 zab t8 false H (fun K' => K' t0 H) fun t10 H =>
 zab t8 false H (fun K' => zac .eql false t10 (.int .u8 13) (K' · H)) fun t11 H =>
 zai t8 (.bool true) t11 fun t12 =>
 zab t12 false H (fun K' => K' t0 H) fun t14 H =>
 zab t12 false H (fun K' => zac .eql false t14 (.int .u8 32) (K' · H)) fun t15 H =>
 zai t12 (.bool true) t15 fun t16 =>
 K t16 H
theorem zEQ {t0 : AV} {H : zaa} {K : Kt} (h : HSc H → zua t0 H K) : ACalls tP zle [t0] H K :=
 zam (M := zEO) Tryz.func219 (c := zEP) (by kernel_rfl) (fun hs => Eq.mpr (by kernel_rfl) (h hs))
end Go.Proofs.YtjkkonpjecoieaaGreat
namespace Go.Proofs.YtjkkonpjecoieaaGreat
open Go Go.Abs
set_option maxRecDepth 100000
def zER (_ : Nat) : List Bool := []
noncomputable def zES : Code := Tryz.f220.body.getD .skip
def zub (t4 t6 : AV) (H : zaa) (K : Kt) : Prop :=
 zad true 3 t6 H fun t74 =>
 zak 3 t4 t74 H fun H =>
 zad true 3 t4 H fun r0 =>
 zay [r0, (.int .i64 0)] (K · H)
def zeW (t4 t6 : AV) (H : zaa) (K : Kt) : Prop :=
 zub t4 t6 H K
def zeV (t4 t6 : AV) (H : zaa) (K : Kt) : Prop :=
 zeW t4 t6 H K
def znt (t0 t1 : AV) (H : zaa) (K : Kt) : Prop :=
 zau [(.int .i64 0), (.str []), (.int .i64 0)] H fun t4 H =>
 zav [(.int .i64 0), (.str []), (.int .i64 0)] [(0, 1), (1, 1), (2, 1)] [(2, t1)] fun t9 =>
 zau [(.int .i64 0), (.str []), (.int .i64 0)] H fun t6 H =>
 zak 3 t6 t9 H fun H =>
 zbc t0 t1 fun t12 =>
 ACalls tP zgQ [t12] H fun t25 H =>
 zab t25 false H (fun K' => K' t12 H) fun t27 H =>
 zab t25 false H (fun K' => ACalls tP zfw [t27] H K') fun t28 H =>
 zai t25 (.bool true) t28 fun t29 =>
 zag t29
 (zaL 0 0 t0 (some t1) none fun t32 =>
 ACalls tP zgR [t32, (.fn zfx [])] H fun t33 H =>
 zaf 1 t6 fun t34 =>
 zak 1 t34 t33 H fun H =>
 zaf 1 t6 fun t37 =>
 zad false 1 t37 H fun t38 =>
 zah 0 t38 fun t39 =>
 zac .gtr false t39 (.int .i64 24) fun t40 =>
 zag t40
 (zav [(.int .i64 0), (.str []), (.int .i64 0)] [(0, 1), (1, 1), (2, 1)] [] fun t41 =>
 zak 3 t4 t41 H fun H =>
 zad true 3 t4 H fun r0 =>
 zay [r0, (.int .i64 9)] (K · H))
 (ACalls tP zfw [t12] H fun t44 H =>
 zag t44
 (zaf 0 t6 fun t45 =>
 zak 1 t45 (.int .i64 2) H fun H =>
 zeV t4 t6 H K)
 (zaf 1 t6 fun t47 =>
 zad false 1 t47 H fun t48 =>
 ACalls tP zlg [t48] H fun t49 H =>
 zag t49
 (zaf 0 t6 fun t50 =>
 zak 1 t50 (.int .i64 4) H fun H =>
 zeV t4 t6 H K)
 (zaf 0 t6 fun t35 =>
 zak 1 t35 (.int .i64 1) H fun H =>
 zeV t4 t6 H K))))
 (ACalls tP zdZ [t12] H fun t53 H =>
 zag t53
 (zaf 0 t6 fun t54 =>
 zak 1 t54 (.int .i64 3) H fun H =>
 zaL 0 0 t0 (some t1) none fun t57 =>
 ACalls tP zgR [t57, (.fn zdZ [])] H fun t58 H =>
 zaf 1 t6 fun t59 =>
 zak 1 t59 t58 H fun H =>
 zac .eql false t12 (.int .u8 48) fun t61 =>
 zab t61 true H (fun K' => zaf 1 t6 (K' · H)) fun t63 H =>
 zab t61 true H (fun K' => zad false 1 t63 H (K' · H)) fun t64 H =>
 zab t61 true H (fun K' => zah 0 t64 (K' · H)) fun t65 H =>
 zab t61 true H (fun K' => zac .gtr false t65 (.int .i64 1) (K' · H)) fun t66 H =>
 zai t61 t66 (.bool false) fun t67 =>
 zag t67
 (zav [(.int .i64 0), (.str []), (.int .i64 0)] [(0, 1), (1, 1), (2, 1)] [] fun t68 =>
 zak 3 t4 t68 H fun H =>
 zad true 3 t4 H fun r0 =>
 zay [r0, (.int .i64 2)] (K · H))
 (zaf 1 t6 fun t69 =>
 zad false 1 t69 H fun t70 =>
 ACalls tP zfy [t70] H fun t71 H =>
 aUn .not t71 fun t72 =>
 zag t72
 (zav [(.int .i64 0), (.str []), (.int .i64 0)] [(0, 1), (1, 1), (2, 1)] [] fun t73 =>
 zak 3 t4 t73 H fun H =>
 zad true 3 t4 H fun r0 =>
 zay [r0, (.int .i64 9)] (K · H))
 (zeW t4 t6 H K)))
 (zaf 0 t6 fun t13 =>
 zak 1 t13 (.int .i64 5) H fun H =>
 zaL 0 0 t0 (some t1) none fun t16 =>
 ACalls tP zlh [t16] H fun t17 H =>
 zaf 1 t6 fun t18 =>
 zak 1 t18 t17 H fun H =>
 zaf 1 t6 fun t19 =>
 zad false 1 t19 H fun t20 =>
 zac .eql false t20 (.str []) fun t21 =>
 zag t21
 (zav [(.int .i64 0), (.str []), (.int .i64 0)] [(0, 1), (1, 1), (2, 1)] [] fun t22 =>
 zak 3 t4 t22 H fun H =>
 zad true 3 t4 H fun r0 =>
 zay [r0, (.int .i64 2)] (K · H))
 (zeW t4 t6 H K)))
theorem zET {t0 t1 : AV} {H : zaa} {K : Kt} (h : HSc H → znt t0 t1 H K) : ACalls tP zlf [t0, t1] H K :=
 zam (M := zER) Tryz.func220 (c := zES) (by kernel_rfl) (fun hs => Eq.mpr (by kernel_rfl) (h hs))
def zCT (_ : Nat) : List Bool := []
noncomputable def zCU : Code := Tryz.f171.body.getD .skip
def zty (t0 : AV) (H : zaa) (K : Kt) : Prop :=
 zac .geq false t0 (.int .u8 97) fun t4 =>
 zab t4 true H (fun K' => K' t0 H) fun t6 H =>
 zab t4 true H (fun K' => zac .leq false t6 (.int .u8 122) (K' · H)) fun t7 H =>
 zai t4 t7 (.bool false) fun t8 =>
 K t8 H
theorem zCV {t0 : AV} {H : zaa} {K : Kt} (h : HSc H → zty t0 H K) : ACalls tP zgH [t0] H K :=
 zam (M := zCT) Tryz.func171 (c := zCU) (by kernel_rfl) (fun hs => Eq.mpr (by kernel_rfl) (h hs))
def zCW (_ : Nat) : List Bool := []
noncomputable def zCX : Code := Tryz.f172.body.getD .skip
def ztA (t0 : AV) (H : zaa) (K : Kt) : Prop :=
 zac .geq false t0 (.int .u8 65) fun t4 =>
 zab t4 true H (fun K' => K' t0 H) fun t6 H =>
 zab t4 true H (fun K' => zac .leq false t6 (.int .u8 90) (K' · H)) fun t7 H =>
 zai t4 t7 (.bool false) fun t8 =>
 K t8 H
theorem zCY {t0 : AV} {H : zaa} {K : Kt} (h : HSc H → ztA t0 H K) : ACalls tP zez [t0] H K :=
 zam (M := zCW) Tryz.func172 (c := zCX) (by kernel_rfl) (fun hs => Eq.mpr (by kernel_rfl) (h hs))
def zCZ (_ : Nat) : List Bool := []
noncomputable def zC0 : Code := Tryz.f173.body.getD .skip
def ztB (t0 : AV) (H : zaa) (K : Kt) : Prop :=
 zac .geq false t0 (.int .u8 48) fun t4 =>
 zab t4 true H (fun K' => K' t0 H) fun t6 H =>
 zab t4 true H (fun K' => zac .leq false t6 (.int .u8 57) (K' · H)) fun t7 H =>
 zai t4 t7 (.bool false) fun t8 =>
 K t8 H
theorem zC1 {t0 : AV} {H : zaa} {K : Kt} (h : HSc H → ztB t0 H K) : ACalls tP zfu [t0] H K :=
 zam (M := zCZ) Tryz.func173 (c := zC0) (by kernel_rfl) (fun hs => Eq.mpr (by kernel_rfl) (h hs))
def zip : Nat → List Bool
 | 3 => rl false [0,1,2,2,13]
 | _ => []
noncomputable def zmX : Code := Tryz.f174.body.getD .skip
noncomputable def zC7 : List ResultVar := Tryz.f174.results.toList
def zir (t0 t3 t4 : AV) : List AV := t0 :: ux 2 (t3 :: t4 :: ux 13 [])
def zC5 : List Bool := zip 3
noncomputable def zC3 : Code := zar [1, 1, 0, 1, 0, 0] zmX
def zC2 (K : Kt) : AExit → List AV → zaa → Prop := zas tP zip [1, 1, 0, 1, 0] zmX (zaw tP zC7 K)
def zmY (t0 t3 t4 : AV) (H : zaa) (K : Kt) : Prop := ALoop tP zC3 (zC2 K) (zir t0 t3 t4) H
def ziq (t0 t3 t4 : AV) (H : zaa) (K : Kt) (Kb3 : Lt) : Prop :=
 zah 1 t3 fun t8 =>
 zac .lss false t4 t8 fun t9 =>
 zag t9
 (zaj 1 t3 t4 fun t14 =>
 zad false 1 t14 H fun t15 =>
 zac .eql false t15 t0 fun t17 =>
 zag t17
 (K (.bool true) H)
 (zac .add false t4 (.int .i64 1) fun t11 =>
 Kb3 (zir t0 t3 t11) H))
 (K (.bool false) H)
def ztC (t0 : AV) (H : zaa) (K : Kt) : Prop :=
 zaB 1 [(.str [])] 28 [(0, (.str [97, 114, 114, 97, 121])), (1, (.str [98, 111, 111, 108])), (2, (.str [99, 97, 116, 99, 104])), (3, (.str [100, 97, 116, 97])), (4, (.str [101, 108, 115, 101])), (5, (.str [101, 110, 100])), (6, (.str [102, 97, 108, 115, 101])), (7, (.str [102, 110])), (8, (.str [102, 117, 110])), (9, (.str [103, 101, 116])), (10, (.str [105, 102])), (11, (.str [105, 110])), (12, (.str [105, 110, 116])), (13, (.str [108, 101, 110])), (14, (.str [108, 101, 116])), (15, (.str [109, 97, 116, 99, 104])), (16, (.str [110, 101, 119])), (17, (.str [114, 97, 105, 115, 101])), (18, (.str [114, 101, 97, 100])), (19, (.str [114, 101, 102])), (20, (.str [115, 101, 116])), (21, (.str [116, 104, 101, 110])), (22, (.str [116, 105, 99, 107])), (23, (.str [116, 114, 117, 101])), (24, (.str [116, 114, 121])), (25, (.str [117, 110, 105, 116])), (26, (.str [119, 105, 116, 104])), (27, (.str [119, 114, 105, 116, 101]))] fun t5 =>
 zmY t0 t5 (.int .i64 0) H K
theorem zC4 {t0 t3 t4 : AV} {H : zaa} {K : Kt} (Inv : Nat → AV → zaa → Prop) (n : Nat) (h0 : HSc H → Inv n t4 H)
  (round : Rd1 (fun t4 => zir t0 t3 t4) (fun t4 => fun H Kb3 => ziq t0 t3 t4 H K Kb3) H Inv) : zmY t0 t3 t4 H K :=
 lp1 (M := zip) zC5 t4 (by kernel_rfl) Inv n h0 round
theorem zC6 {t0 : AV} {H : zaa} {K : Kt} (h : HSc H → ztC t0 H K) : ACalls tP zgI [t0] H K :=
 zam (M := zip) Tryz.func174 (c := zmX) (by kernel_rfl) (fun hs => Eq.mpr (by kernel_rfl) (h hs))
def zis : Nat → List Bool
 | 3 => rl false [0,1,3,2,17]
 | _ => []
noncomputable def zm0 : Code := Tryz.f175.body.getD .skip
noncomputable def zDd : List ResultVar := Tryz.f175.results.toList
def zit (t0 t4 t5 : AV) : List AV := t0 :: ux 3 (t4 :: t5 :: ux 17 [])
def zDb : List Bool := zis 3
noncomputable def zC9 : Code := zar [1, 1, 0, 1, 0, 0] zm0
def zC8 (K : Kt) : AExit → List AV → zaa → Prop := zas tP zis [1, 1, 0, 1, 0] zm0 (zaw tP zDd K)
def ztE (t0 t4 t5 : AV) (H : zaa) (K : Kt) : Prop := ALoop tP zC9 (zC8 K) (zit t0 t4 t5) H
def zmZ (t0 t4 t5 : AV) (H : zaa) (K : Kt) (Kb3 : Lt) : Prop :=
 zah 0 t0 fun t8 =>
 zac .lss false t5 t8 fun t9 =>
 zag t9
 (zac .mul false t4 (.int .i64 10) fun t13 =>
 zbc t0 t5 fun t16 =>
 zac .sub false t16 (.int .u8 48) fun t17 =>
 zaP .i64 t17 fun t18 =>
 zac .add false t13 t18 fun t19 =>
 zac .gtr false t19 (.int .i64 1000000) fun t21 =>
 zag t21
 (zay [(.int .i64 0), (.bool false)] (K · H))
 (zac .add false t5 (.int .i64 1) fun t11 =>
 Kb3 (zit t0 t19 t11) H))
 (zay [t4, (.bool true)] (K · H))
def ztD (t0 : AV) (H : zaa) (K : Kt) : Prop :=
 ztE t0 (.int .i64 0) (.int .i64 0) H K
theorem zDa {t0 t4 t5 : AV} {H : zaa} {K : Kt} (Inv : Nat → AV → AV → zaa → Prop) (n : Nat) (h0 : HSc H → Inv n t4 t5 H)
  (round : Rd2 (fun t4 => fun t5 => zit t0 t4 t5) (fun t4 => fun t5 => fun H Kb3 => zmZ t0 t4 t5 H K Kb3) H Inv) : ztE t0 t4 t5 H K :=
 lp2 (M := zis) zDb t4 t5 (by kernel_rfl) Inv n h0 round
theorem zDc {t0 : AV} {H : zaa} {K : Kt} (h : HSc H → ztD t0 H K) : ACalls tP zeA [t0] H K :=
 zam (M := zis) Tryz.func175 (c := zm0) (by kernel_rfl) (fun hs => Eq.mpr (by kernel_rfl) (h hs))
def ziu : Nat → List Bool
 | 5 => rl false [0,1,2,2,30]
 | _ => []
noncomputable def zm1 : Code := Tryz.f176.body.getD .skip
noncomputable def zDj : List ResultVar := Tryz.f176.results.toList
def ziw (t0 t3 t4 : AV) : List AV := t0 :: ux 2 (t3 :: t4 :: ux 30 [])
def zDh : List Bool := ziu 5
noncomputable def zDf : Code := zar [1, 1, 1, 0, 1, 0, 0] zm1
def zDe (K : Kt) : AExit → List AV → zaa → Prop := zas tP ziu [1, 1, 1, 0, 1, 0] zm1 (zaw tP zDj K)
def zm2 (t0 t3 t4 : AV) (H : zaa) (K : Kt) : Prop := ALoop tP zDf (zDe K) (ziw t0 t3 t4) H
def ziv (t0 t3 t4 : AV) (H : zaa) (K : Kt) (Kb5 : Lt) : Prop :=
 zah 0 t3 fun t25 =>
 zac .lss false t4 t25 fun t26 =>
 zag t26
 (zae H (fun K' => K' t0 H) fun t29 =>
 zae H (fun K' => zbc t29 (.int .i64 0) (K' · H)) fun t30 =>
 zae H (fun K' => K' t3 H) fun t31 =>
 zae H (fun K' => K' t4 H) fun t32 =>
 zae H (fun K' => zbc t31 t32 (K' · H)) fun t33 =>
 zae H (fun K' => zac .eql false t30 t33 (K' · H)) fun t34 =>
 zag t34
 (K (.int .i64 1) H)
 (zac .add false t4 (.int .i64 1) fun t28 =>
 Kb5 (ziw t0 t3 t28) H))
 (K (.int .i64 0) H)
def zeS (t0 : AV) (H : zaa) (K : Kt) : Prop :=
 zah 0 t0 fun t6 =>
 zac .geq false t6 (.int .i64 2) fun t7 =>
 zab t7 true H (fun K' => K' t0 H) fun t9 H =>
 zab t7 true H (fun K' => zaL 0 0 t9 none (some (.int .i64 2)) (K' · H)) fun t10 H =>
 zab t7 true H (fun K' => zac .eql false t10 (.str [45, 62]) (K' · H)) fun t11 H =>
 zab t7 true H (fun K' => K' t11 H) fun t12 H =>
 zab t12 false H (fun K' => K' t0 H) fun t13 H =>
 zab t12 false H (fun K' => zaL 0 0 t13 none (some (.int .i64 2)) (K' · H)) fun t14 H =>
 zab t12 false H (fun K' => zac .eql false t14 (.str [60, 61]) (K' · H)) fun t15 H =>
 zab t7 true H (fun K' => zai t12 (.bool true) t15 (K' · H)) fun t16 H =>
 zab t7 true H (fun K' => K' t16 H) fun t17 H =>
 zab t17 false H (fun K' => K' t0 H) fun t18 H =>
 zab t17 false H (fun K' => zaL 0 0 t18 none (some (.int .i64 2)) (K' · H)) fun t19 H =>
 zab t17 false H (fun K' => zac .eql false t19 (.str [61, 61]) (K' · H)) fun t20 H =>
 zab t7 true H (fun K' => zai t17 (.bool true) t20 (K' · H)) fun t21 H =>
 zai t7 t21 (.bool false) fun t22 =>
 zag t22
 (K (.int .i64 2) H)
 (zm2 t0 (.str [40, 41, 44, 61, 124, 43, 45, 42, 47, 37, 60, 59, 95]) (.int .i64 0) H K)
theorem zDg {t0 t3 t4 : AV} {H : zaa} {K : Kt} (Inv : Nat → AV → zaa → Prop) (n : Nat) (h0 : HSc H → Inv n t4 H)
  (round : Rd1 (fun t4 => ziw t0 t3 t4) (fun t4 => fun H Kb5 => ziv t0 t3 t4 H K Kb5) H Inv) : zm2 t0 t3 t4 H K :=
 lp1 (M := ziu) zDh t4 (by kernel_rfl) Inv n h0 round
theorem zDi {t0 : AV} {H : zaa} {K : Kt} (h : HSc H → zeS t0 H K) : ACalls tP zk4 [t0] H K :=
 zam (M := ziu) Tryz.func176 (c := zm1) (by kernel_rfl) (fun hs => Eq.mpr (by kernel_rfl) (h hs))
def zE1 (_ : Nat) : List Bool := []
noncomputable def zE2 : Code := Tryz.f225.body.getD .skip
def zud (t0 : AV) (H : zaa) (K : Kt) : Prop :=
 zac .geq false t0 (.int .u8 97) fun t4 =>
 zab t4 true H (fun K' => K' t0 H) fun t6 H =>
 zab t4 true H (fun K' => zac .leq false t6 (.int .u8 122) (K' · H)) fun t7 H =>
 zai t4 t7 (.bool false) fun t8 =>
 K t8 H
theorem zE3 {t0 : AV} {H : zaa} {K : Kt} (h : HSc H → zud t0 H K) : ACalls tP zgQ [t0] H K :=
 zam (M := zE1) Tryz.func225 (c := zE2) (by kernel_rfl) (fun hs => Eq.mpr (by kernel_rfl) (h hs))
def zE4 (_ : Nat) : List Bool := []
noncomputable def zE5 : Code := Tryz.f226.body.getD .skip
def zue (t0 : AV) (H : zaa) (K : Kt) : Prop :=
 zac .geq false t0 (.int .u8 65) fun t4 =>
 zab t4 true H (fun K' => K' t0 H) fun t6 H =>
 zab t4 true H (fun K' => zac .leq false t6 (.int .u8 90) (K' · H)) fun t7 H =>
 zai t4 t7 (.bool false) fun t8 =>
 K t8 H
theorem zE6 {t0 : AV} {H : zaa} {K : Kt} (h : HSc H → zue t0 H K) : ACalls tP zfw [t0] H K :=
 zam (M := zE4) Tryz.func226 (c := zE5) (by kernel_rfl) (fun hs => Eq.mpr (by kernel_rfl) (h hs))
def ziT : Nat → List Bool
 | 2 => rl false [0,2,3,1,16]
 | _ => []
noncomputable def znv : Code := Tryz.f227.body.getD .skip
noncomputable def zFc : List ResultVar := Tryz.f227.results.toList
def ziU (t0 t1 t5 : AV) : List AV := t0 :: t1 :: ux 3 (t5 :: ux 16 [])
def zFa : List Bool := ziT 2
noncomputable def zE8 : Code := zar [1, 1, 0, 0, 0] znv
def zE7 (K : Kt) : AExit → List AV → zaa → Prop := zas tP ziT [1, 1, 0, 0] znv (zaw tP zFc K)
def zug (t0 t1 t5 : AV) (H : zaa) (K : Kt) : Prop := ALoop tP zE8 (zE7 K) (ziU t0 t1 t5) H
def znu (t0 t1 t5 : AV) (H : zaa) (K : Kt) (Kb2 : Lt) : Prop :=
 zah 0 t0 fun t8 =>
 zac .lss false t5 t8 fun t9 =>
 zab t9 true H (fun K' => K' t1 H) fun t11 H =>
 zab t9 true H (fun K' => K' t0 H) fun t12 H =>
 zab t9 true H (fun K' => K' t5 H) fun t13 H =>
 zab t9 true H (fun K' => zbc t12 t13 (K' · H)) fun t14 H =>
 zab t9 true H (fun K' => aCallV tP t11 [t14] H K') fun t15 H =>
 zai t9 t15 (.bool false) fun t16 =>
 zag t16
 (zac .add false t5 (.int .i64 1) fun t18 =>
 Kb2 (ziU t0 t1 t18) H)
 (zaL 0 0 t0 none (some t5) fun t21 =>
 K t21 H)
def zuf (t0 t1 : AV) (H : zaa) (K : Kt) : Prop :=
 zug t0 t1 (.int .i64 0) H K
theorem zE9 {t0 t1 t5 : AV} {H : zaa} {K : Kt} (Inv : Nat → AV → zaa → Prop) (n : Nat) (h0 : HSc H → Inv n t5 H)
  (round : Rd1 (fun t5 => ziU t0 t1 t5) (fun t5 => fun H Kb2 => znu t0 t1 t5 H K Kb2) H Inv) : zug t0 t1 t5 H K :=
 lp1 (M := ziT) zFa t5 (by kernel_rfl) Inv n h0 round
theorem zFb {t0 t1 : AV} {H : zaa} {K : Kt} (h : HSc H → zuf t0 t1 H K) : ACalls tP zgR [t0, t1] H K :=
 zam (M := ziT) Tryz.func227 (c := znv) (by kernel_rfl) (fun hs => Eq.mpr (by kernel_rfl) (h hs))
def zFd (_ : Nat) : List Bool := []
noncomputable def zFe : Code := Tryz.f228.body.getD .skip
def zuh (t0 : AV) (H : zaa) (K : Kt) : Prop :=
 ACalls tP zgQ [t0] H fun t4 H =>
 zab t4 false H (fun K' => K' t0 H) fun t6 H =>
 zab t4 false H (fun K' => ACalls tP zfw [t6] H K') fun t7 H =>
 zai t4 (.bool true) t7 fun t8 =>
 zab t8 false H (fun K' => K' t0 H) fun t10 H =>
 zab t8 false H (fun K' => ACalls tP zdZ [t10] H K') fun t11 H =>
 zai t8 (.bool true) t11 fun t12 =>
 zab t12 false H (fun K' => K' t0 H) fun t14 H =>
 zab t12 false H (fun K' => zac .eql false t14 (.int .u8 95) (K' · H)) fun t15 H =>
 zai t12 (.bool true) t15 fun t16 =>
 K t16 H
theorem zFf {t0 : AV} {H : zaa} {K : Kt} (h : HSc H → zuh t0 H K) : ACalls tP zfx [t0] H K :=
 zam (M := zFd) Tryz.func228 (c := zFe) (by kernel_rfl) (fun hs => Eq.mpr (by kernel_rfl) (h hs))
def zFg (_ : Nat) : List Bool := []
noncomputable def zFh : Code := Tryz.f229.body.getD .skip
def zaX (t4 : AV) (H : zaa) (K : Kt) : Prop :=
 zag t4
 (K (.bool true) H)
 (K (.bool false) H)
def zui (t0 : AV) (H : zaa) (K : Kt) : Prop :=
 zac .eql false t0 (.str [97, 114, 114, 97, 121]) fun t5 =>
 zag t5
 (zaX t5 H K)
 (zac .eql false t0 (.str [98, 111, 111, 108]) fun t6 =>
 zag t6
 (zaX t6 H K)
 (zac .eql false t0 (.str [99, 97, 116, 99, 104]) fun t7 =>
 zag t7
 (zaX t7 H K)
 (zac .eql false t0 (.str [100, 97, 116, 97]) fun t8 =>
 zag t8
 (zaX t8 H K)
 (zac .eql false t0 (.str [101, 108, 115, 101]) fun t9 =>
 zag t9
 (zaX t9 H K)
 (zac .eql false t0 (.str [101, 110, 100]) fun t10 =>
 zag t10
 (zaX t10 H K)
 (zac .eql false t0 (.str [102, 97, 108, 115, 101]) fun t11 =>
 zag t11
 (zaX t11 H K)
 (zac .eql false t0 (.str [102, 110]) fun t12 =>
 zag t12
 (zaX t12 H K)
 (zac .eql false t0 (.str [102, 117, 110]) fun t13 =>
 zag t13
 (zaX t13 H K)
 (zac .eql false t0 (.str [103, 101, 116]) fun t14 =>
 zag t14
 (zaX t14 H K)
 (zac .eql false t0 (.str [105, 102]) fun t15 =>
 zag t15
 (zaX t15 H K)
 (zac .eql false t0 (.str [105, 110]) fun t16 =>
 zag t16
 (zaX t16 H K)
 (zac .eql false t0 (.str [105, 110, 116]) fun t17 =>
 zag t17
 (zaX t17 H K)
 (zac .eql false t0 (.str [108, 101, 110]) fun t18 =>
 zag t18
 (zaX t18 H K)
 (zac .eql false t0 (.str [108, 101, 116]) fun t19 =>
 zag t19
 (zaX t19 H K)
 (zac .eql false t0 (.str [109, 97, 116, 99, 104]) fun t20 =>
 zag t20
 (zaX t20 H K)
 (zac .eql false t0 (.str [110, 101, 119]) fun t21 =>
 zag t21
 (zaX t21 H K)
 (zac .eql false t0 (.str [114, 97, 105, 115, 101]) fun t22 =>
 zag t22
 (zaX t22 H K)
 (zac .eql false t0 (.str [114, 101, 97, 100]) fun t23 =>
 zag t23
 (zaX t23 H K)
 (zac .eql false t0 (.str [114, 101, 102]) fun t24 =>
 zag t24
 (zaX t24 H K)
 (zac .eql false t0 (.str [115, 101, 116]) fun t25 =>
 zag t25
 (zaX t25 H K)
 (zac .eql false t0 (.str [116, 104, 101, 110]) fun t26 =>
 zag t26
 (zaX t26 H K)
 (zac .eql false t0 (.str [116, 105, 99, 107]) fun t27 =>
 zag t27
 (zaX t27 H K)
 (zac .eql false t0 (.str [116, 114, 117, 101]) fun t28 =>
 zag t28
 (zaX t28 H K)
 (zac .eql false t0 (.str [116, 114, 121]) fun t29 =>
 zag t29
 (zaX t29 H K)
 (zac .eql false t0 (.str [117, 110, 105, 116]) fun t30 =>
 zag t30
 (zaX t30 H K)
 (zac .eql false t0 (.str [119, 105, 116, 104]) fun t31 =>
 zag t31
 (zaX t31 H K)
 (zac .eql false t0 (.str [119, 114, 105, 116, 101]) fun t32 =>
 zaX t32 H K)))))))))))))))))))))))))))
theorem zFi {t0 : AV} {H : zaa} {K : Kt} (h : HSc H → zui t0 H K) : ACalls tP zlg [t0] H K :=
 zam (M := zFg) Tryz.func229 (c := zFh) (by kernel_rfl) (fun hs => Eq.mpr (by kernel_rfl) (h hs))
def zFj (_ : Nat) : List Bool := []
noncomputable def zFk : Code := Tryz.f230.body.getD .skip
def zuj (t0 : AV) (H : zaa) (K : Kt) : Prop :=
 zac .geq false t0 (.int .u8 48) fun t4 =>
 zab t4 true H (fun K' => K' t0 H) fun t6 H =>
 zab t4 true H (fun K' => zac .leq false t6 (.int .u8 57) (K' · H)) fun t7 H =>
 zai t4 t7 (.bool false) fun t8 =>
 K t8 H
theorem zFl {t0 : AV} {H : zaa} {K : Kt} (h : HSc H → zuj t0 H K) : ACalls tP zdZ [t0] H K :=
 zam (M := zFj) Tryz.func230 (c := zFk) (by kernel_rfl) (fun hs => Eq.mpr (by kernel_rfl) (h hs))
def ziV : Nat → List Bool
 | 3 => rl false [0,1,2,1,2,2,13]
 | _ => []
noncomputable def znx : Code := Tryz.f231.body.getD .skip
noncomputable def zFr : List ResultVar := Tryz.f231.results.toList
def ziW (t0 t3 t6 t7 : AV) : List AV := t0 :: ux 2 (t3 :: ux 2 (t6 :: t7 :: ux 13 []))
def zFp : List Bool := ziV 3
noncomputable def zFn : Code := zar [1, 1, 0, 1, 0, 0] znx
def zFm (K : Kt) : AExit → List AV → zaa → Prop := zas tP ziV [1, 1, 0, 1, 0] znx (zaw tP zFr K)
def zul (t0 t3 t6 t7 : AV) (H : zaa) (K : Kt) : Prop := ALoop tP zFn (zFm K) (ziW t0 t3 t6 t7) H
def znw (t0 t3 t6 t7 : AV) (H : zaa) (K : Kt) (Kb3 : Lt) : Prop :=
 zac .lss false t7 t6 fun t8 =>
 zag t8
 (zac .mul false t3 (.int .i64 10) fun t11 =>
 zbc t0 t7 fun t14 =>
 zac .sub false t14 (.int .u8 48) fun t15 =>
 zaP .i64 t15 fun t16 =>
 zac .add false t11 t16 fun t17 =>
 zac .gtr false t17 (.int .i64 1000000) fun t19 =>
 zag t19
 (K (.bool false) H)
 (zac .add false t7 (.int .i64 1) fun t20 =>
 Kb3 (ziW t0 t17 t6 t20) H))
 (K (.bool true) H)
def zuk (t0 : AV) (H : zaa) (K : Kt) : Prop :=
 zah 0 t0 fun t6 =>
 zul t0 (.int .i64 0) t6 (.int .i64 0) H K
theorem zFo {t0 t3 t6 t7 : AV} {H : zaa} {K : Kt} (Inv : Nat → AV → AV → zaa → Prop) (n : Nat) (h0 : HSc H → Inv n t3 t7 H)
  (round : Rd2 (fun t3 => fun t7 => ziW t0 t3 t6 t7) (fun t3 => fun t7 => fun H Kb3 => znw t0 t3 t6 t7 H K Kb3) H Inv) : zul t0 t3 t6 t7 H K :=
 lp2 (M := ziV) zFp t3 t7 (by kernel_rfl) Inv n h0 round
theorem zFq {t0 : AV} {H : zaa} {K : Kt} (h : HSc H → zuk t0 H K) : ACalls tP zfy [t0] H K :=
 zam (M := ziV) Tryz.func231 (c := znx) (by kernel_rfl) (fun hs => Eq.mpr (by kernel_rfl) (h hs))
def zFs (_ : Nat) : List Bool := []
noncomputable def zFt : Code := Tryz.f232.body.getD .skip
def zb7 (t0 t16 : AV) (H : zaa) (K : Kt) : Prop :=
 zag t16
 (zaL 0 0 t0 none (some (.int .i64 1)) fun t31 =>
 K t31 H)
 (K (.str []) H)
def ziX (t0 : AV) (H : zaa) (K : Kt) : Prop :=
 zaL 0 0 t0 none (some (.int .i64 1)) fun t15 =>
 zac .eql false t15 (.str [40]) fun t17 =>
 zag t17
 (zb7 t0 t17 H K)
 (zac .eql false t15 (.str [41]) fun t18 =>
 zag t18
 (zb7 t0 t18 H K)
 (zac .eql false t15 (.str [44]) fun t19 =>
 zag t19
 (zb7 t0 t19 H K)
 (zac .eql false t15 (.str [61]) fun t20 =>
 zag t20
 (zb7 t0 t20 H K)
 (zac .eql false t15 (.str [124]) fun t21 =>
 zag t21
 (zb7 t0 t21 H K)
 (zac .eql false t15 (.str [43]) fun t22 =>
 zag t22
 (zb7 t0 t22 H K)
 (zac .eql false t15 (.str [45]) fun t23 =>
 zag t23
 (zb7 t0 t23 H K)
 (zac .eql false t15 (.str [42]) fun t24 =>
 zag t24
 (zb7 t0 t24 H K)
 (zac .eql false t15 (.str [47]) fun t25 =>
 zag t25
 (zb7 t0 t25 H K)
 (zac .eql false t15 (.str [37]) fun t26 =>
 zag t26
 (zb7 t0 t26 H K)
 (zac .eql false t15 (.str [60]) fun t27 =>
 zag t27
 (zb7 t0 t27 H K)
 (zac .eql false t15 (.str [59]) fun t28 =>
 zag t28
 (zb7 t0 t28 H K)
 (zac .eql false t15 (.str [95]) fun t29 =>
 zb7 t0 t29 H K))))))))))))
def zee (t0 t8 : AV) (H : zaa) (K : Kt) : Prop :=
 zag t8
 (zaL 0 0 t0 none (some (.int .i64 2)) fun t13 =>
 K t13 H)
 (ziX t0 H K)
def zeX (t0 : AV) (H : zaa) (K : Kt) : Prop :=
 zah 0 t0 fun t4 =>
 zac .geq false t4 (.int .i64 2) fun t5 =>
 zag t5
 (zaL 0 0 t0 none (some (.int .i64 2)) fun t7 =>
 zac .eql false t7 (.str [45, 62]) fun t9 =>
 zag t9
 (zee t0 t9 H K)
 (zac .eql false t7 (.str [60, 61]) fun t10 =>
 zag t10
 (zee t0 t10 H K)
 (zac .eql false t7 (.str [61, 61]) fun t11 =>
 zee t0 t11 H K)))
 (ziX t0 H K)
theorem zFu {t0 : AV} {H : zaa} {K : Kt} (h : HSc H → zeX t0 H K) : ACalls tP zlh [t0] H K :=
 zam (M := zFs) Tryz.func232 (c := zFt) (by kernel_rfl) (fun hs => Eq.mpr (by kernel_rfl) (h hs))
def zDU (_ : Nat) : List Bool := []
noncomputable def zDV : Code := Tryz.f189.body.getD .skip
def ztR (t0 : AV) (H : zaa) (K : Kt) : Prop :=
 ACalls tP zlb [t0] H fun t8 H =>
 zax t8 0 fun t9 =>
 zax t8 1 fun t10 =>
 zax t8 2 fun t11 =>
 zac .eql false t11 (.int .i64 0) fun t13 =>
 zab t13 true H (fun K' => K' t9 H) fun t15 H =>
 zab t13 true H (fun K' => zah 1 t15 (K' · H)) fun t16 H =>
 zab t13 true H (fun K' => zac .eql false t16 (.int .i64 2) (K' · H)) fun t17 H =>
 zai t13 t17 (.bool false) fun t18 =>
 zab t18 true H (fun K' => K' t9 H) fun t20 H =>
 zab t18 true H (fun K' => zaj 3 t20 (.int .i64 0) (K' · H)) fun t21 H =>
 zab t18 true H (fun K' => zaf 0 t21 (K' · H)) fun t22 H =>
 zab t18 true H (fun K' => zad false 1 t22 H (K' · H)) fun t23 H =>
 zab t18 true H (fun K' => zac .eql false t23 (.int .i64 2) (K' · H)) fun t24 H =>
 zai t18 t24 (.bool false) fun t25 =>
 zab t25 true H (fun K' => K' t9 H) fun t27 H =>
 zab t25 true H (fun K' => zaj 3 t27 (.int .i64 0) (K' · H)) fun t28 H =>
 zab t25 true H (fun K' => zaf 1 t28 (K' · H)) fun t29 H =>
 zab t25 true H (fun K' => zad false 1 t29 H (K' · H)) fun t30 H =>
 zab t25 true H (fun K' => K' t0 H) fun t31 H =>
 zab t25 true H (fun K' => zac .eql false t30 t31 (K' · H)) fun t32 H =>
 zai t25 t32 (.bool false) fun t33 =>
 K t33 H
theorem zDW {t0 : AV} {H : zaa} {K : Kt} (h : HSc H → ztR t0 H K) : ACalls tP zgL [t0] H K :=
 zam (M := zDU) Tryz.func189 (c := zDV) (by kernel_rfl) (fun hs => Eq.mpr (by kernel_rfl) (h hs))
def zIL (_ : Nat) : List Bool := []
noncomputable def zIM : Code := Tryz.f82.body.getD .skip
def zvs (t0 : AV) (H : zaa) (K : Kt) : Prop :=
 ACalls tP zkQ [t0] H fun t8 H =>
 zax t8 0 fun t9 =>
 zax t8 1 fun t10 =>
 zax t8 2 fun t11 =>
 zac .eql false t11 (.int .i64 0) fun t13 =>
 zab t13 true H (fun K' => K' t9 H) fun t15 H =>
 zab t13 true H (fun K' => zah 1 t15 (K' · H)) fun t16 H =>
 zab t13 true H (fun K' => zac .eql false t16 (.int .i64 2) (K' · H)) fun t17 H =>
 zai t13 t17 (.bool false) fun t18 =>
 zab t18 true H (fun K' => K' t9 H) fun t20 H =>
 zab t18 true H (fun K' => zaj 3 t20 (.int .i64 0) (K' · H)) fun t21 H =>
 zab t18 true H (fun K' => zaf 0 t21 (K' · H)) fun t22 H =>
 zab t18 true H (fun K' => zad false 1 t22 H (K' · H)) fun t23 H =>
 zab t18 true H (fun K' => zac .eql false t23 (.int .i64 2) (K' · H)) fun t24 H =>
 zai t18 t24 (.bool false) fun t25 =>
 zab t25 true H (fun K' => K' t9 H) fun t27 H =>
 zab t25 true H (fun K' => zaj 3 t27 (.int .i64 0) (K' · H)) fun t28 H =>
 zab t25 true H (fun K' => zaf 1 t28 (K' · H)) fun t29 H =>
 zab t25 true H (fun K' => zad false 1 t29 H (K' · H)) fun t30 H =>
 zab t25 true H (fun K' => K' t0 H) fun t31 H =>
 zab t25 true H (fun K' => zac .eql false t30 t31 (K' · H)) fun t32 H =>
 zai t25 t32 (.bool false) fun t33 =>
 K t33 H
theorem zIN {t0 : AV} {H : zaa} {K : Kt} (h : HSc H → zvs t0 H K) : ACalls tP zg3 [t0] H K :=
 zam (M := zIL) Tryz.func82 (c := zIM) (by kernel_rfl) (fun hs => Eq.mpr (by kernel_rfl) (h hs))
end Go.Proofs.YtjkkonpjecoieaaGreat

namespace Go.Proofs.YtjkkonpjecoieaaGreat
open Go Go.Abs
def kwds : List (List UInt8) := [[97, 114, 114, 97, 121], [98, 111, 111, 108], [99, 97, 116, 99, 104], [100, 97, 116, 97], [101, 108, 115, 101], [101, 110, 100], [102, 97, 108, 115, 101], [102, 110], [102, 117, 110], [103, 101, 116], [105, 102], [105, 110], [105, 110, 116], [108, 101, 110], [108, 101, 116], [109, 97, 116, 99, 104], [110, 101, 119], [114, 97, 105, 115, 101], [114, 101, 97, 100], [114, 101, 102], [115, 101, 116], [116, 104, 101, 110], [116, 105, 99, 107], [116, 114, 117, 101], [116, 114, 121], [117, 110, 105, 116], [119, 105, 116, 104], [119, 114, 105, 116, 101]]
def kwF (ws : List (List UInt8)) (s : List UInt8) : Bool := ws.any (s == ·)
theorem zck {H : zaa} {K : AV → zaa → Prop} {r : AV} (hsc : HSc H) (hv : r.isV = true) (hr : r.scV H.length = true) (h : K r H) : Out H.length K r H := by
 have := Out.same (J := []) rfl hsc hv hr h
 simpa using this
theorem zb6 (b c : UInt8) : ((b.toNat : Int) == (c.toNat : Int)) = (b == c) := by
 rw [Bool.eq_iff_iff]
 simp only [beq_iff_eq]
 constructor
 ·intro h; exact UInt8.toNat_inj.mp (by omega)
 ·rintro rfl; rfl
theorem zqd (b : UInt8) (H : zaa) (K : AV → zaa → Prop) (hK : K (.bool (zbx b)) H) : ACalls tP zgH [.int .u8 b.toNat] H K := by
 refine ACalls.out (zCV fun hs => ?_)
 have hO := zck (K := K) (H := H) (r := .bool (zbx b)) hs rfl rfl hK
 unfold zbx at hO
 cases h1 : decide (97 ≤ (b.toNat : Int)) <;> simp [zty, h1] <;> simpa [h1] using hO
theorem zhp (b : UInt8) (H : zaa) (K : AV → zaa → Prop) (hK : K (.bool (bUp b)) H) : ACalls tP zez [.int .u8 b.toNat] H K := by
 refine ACalls.out (zCY fun hs => ?_)
 have hO := zck (K := K) (H := H) (r := .bool (bUp b)) hs rfl rfl hK
 unfold bUp at hO
 cases h1 : decide (65 ≤ (b.toNat : Int)) <;> simp [ztA, h1] <;> simpa [h1] using hO
theorem zkp (b : UInt8) (H : zaa) (K : AV → zaa → Prop) (hK : K (.bool (zaK b)) H) : ACalls tP zfu [.int .u8 b.toNat] H K := by
 refine ACalls.out (zC1 fun hs => ?_)
 have hO := zck (K := K) (H := H) (r := .bool (zaK b)) hs rfl rfl hK
 unfold zaK at hO
 cases h1 : decide (48 ≤ (b.toNat : Int)) <;> simp [ztB, h1] <;> simpa [h1] using hO
theorem zkF (b : UInt8) (H : zaa) (K : AV → zaa → Prop) (hK : K (.bool (zbx b)) H) : ACalls tP zgQ [.int .u8 b.toNat] H K := by
 refine ACalls.out (zE3 fun hs => ?_)
 have hO := zck (K := K) (H := H) (r := .bool (zbx b)) hs rfl rfl hK
 unfold zbx at hO
 cases h1 : decide (97 ≤ (b.toNat : Int)) <;> simp [zud, h1] <;> simpa [h1] using hO
theorem zhq (b : UInt8) (H : zaa) (K : AV → zaa → Prop) (hK : K (.bool (bUp b)) H) : ACalls tP zfw [.int .u8 b.toNat] H K := by
 refine ACalls.out (zE6 fun hs => ?_)
 have hO := zck (K := K) (H := H) (r := .bool (bUp b)) hs rfl rfl hK
 unfold bUp at hO
 cases h1 : decide (65 ≤ (b.toNat : Int)) <;> simp [zue, h1] <;> simpa [h1] using hO
theorem zkq (b : UInt8) (H : zaa) (K : AV → zaa → Prop) (hK : K (.bool (zaK b)) H) : ACalls tP zdZ [.int .u8 b.toNat] H K := by
 refine ACalls.out (zFl fun hs => ?_)
 have hO := zck (K := K) (H := H) (r := .bool (zaK b)) hs rfl rfl hK
 unfold zaK at hO
 cases h1 : decide (48 ≤ (b.toNat : Int)) <;> simp [zuj, h1] <;> simpa [h1] using hO
theorem zwi (b : UInt8) (H : zaa) (K : AV → zaa → Prop) (hK : K (.bool (zcB b)) H) : ACalls tP zle [.int .u8 b.toNat] H K := by
 refine ACalls.out (zEQ fun hs => ?_)
 have hO := zck (K := K) (H := H) (r := .bool (zcB b)) hs rfl rfl hK
 unfold zcB at hO
 have e1 : ((b.toNat : Int) == 9) = (b == 9) := zb6 b 9
 have e2 : ((b.toNat : Int) == 10) = (b == 10) := zb6 b 10
 have e3 : ((b.toNat : Int) == 13) = (b == 13) := zb6 b 13
 have e4 : ((b.toNat : Int) == 32) = (b == 32) := zb6 b 32
 cases h1 : (b == 9) <;> cases h2 : (b == 10) <;> cases h3 : (b == 13) <;> simp [zua, e1, e2, e3, e4, h1, h2, h3] <;> simpa [h1, h2, h3] using hO
theorem zy9 (b : UInt8) (H : zaa) (K : AV → zaa → Prop) (hK : K (.bool (bIn b)) H) : ACalls tP zfx [.int .u8 b.toNat] H K := by
 refine ACalls.out (zFf fun hs => ?_)
 have hO := zck (K := K) (H := H) (r := .bool (bIn b)) hs rfl rfl hK
 unfold bIn at hO
 have e1 : ((b.toNat : Int) == 95) = (b == 95) := zb6 b 95
 unfold zuh
 refine zkF b _ _ ?_
 cases h1 : zbx b with
 | true => simp; simpa [h1] using hO
 | false =>
  simp
  refine zhq b _ _ ?_
  cases h2 : bUp b with
  | true => simp; simpa [h1, h2] using hO
  | false =>
   simp
   refine zkq b _ _ ?_
   cases h3 : zaK b with
   | true => simp; simpa [h1, h2, h3] using hO
   | false => simp [e1]; simpa [h1, h2, h3] using hO
theorem zw7 (s : List UInt8) (H : zaa) (K : AV → zaa → Prop) (hK : K (.bool (kwF kwds s)) H) : ACalls tP zlg [.str s] H K := by
 refine ACalls.out (zFi fun hs => ?_)
 have hO := zck (K := K) (H := H) (r := .bool (kwF kwds s)) hs rfl rfl hK
 have step : ∀ (w : List UInt8) (ws : List (List UInt8)) (rest : Prop), (Out H.length K (.bool (kwF ws s)) H → rest) → Out H.length K (.bool (kwF (w :: ws) s)) H →
   zac .eql false (.str s) (.str w) fun t => zag t (zaX t H (Out H.length K)) rest := by
  intro w ws rest h h'
  simp only [kwF, List.any_cons] at h h'
  cases e : (s == w) with
  | true => simpa [zaX, e] using h'
  | false => rw [e, Bool.false_or] at h'; simpa [zaX, e] using h h'
 unfold zui
 revert hO
 unfold kwds
 iterate 27 refine step _ _ _ ?_
 intro h'
 simp only [kwF, List.any_cons, List.any_nil, Bool.or_false] at h'
 cases e : (s == [119, 114, 105, 116, 101]) <;> rw [e] at h' <;> simpa [zaX, e] using h'
theorem zw8 (s : List UInt8) (H : zaa) (K : AV → zaa → Prop) (hK : K (.bool (kwF kwds s)) H) : ACalls tP zgI [.str s] H K := by
 refine ACalls.out (zC6 fun hs => ?_)
 have hO := zck (K := K) (H := H) (r := .bool (kwF kwds s)) hs rfl rfl hK
 have e : ztC (.str s) H (Out H.length K) = zmY (.str s) (.sl (kwds.map fun w => [.str w]) .full) (.int .i64 0) H (Out H.length K) := rfl
 rw [e]
 have hlen : kwds.length = 28 := rfl
 generalize kwds = ws at *
 refine zC4 (Inv := fun q t4 H' => ∃ i : Nat, i ≤ ws.length ∧ q = ws.length - i ∧ t4 = .int .i64 i ∧ kwF (ws.drop i) s = kwF ws s ∧ H' = H) ws.length ?_ ?_
 ·intro _; exact ⟨0, by omega, by omega, rfl, by simp, rfl⟩
 ·rintro q t8 H' ⟨i, hi, rfl, rfl, ho, rfl⟩ hsc _ hsF Kb hKb
  by_cases hlt : i < ws.length
  ·rw [List.drop_eq_getElem_cons hlt] at ho
   simp only [kwF, List.any_cons] at ho
   cases hz : (ws[i] == s) with
   | true =>
    have hz' : (s == ws[i]) = true := by rw [beq_iff_eq] at hz ⊢; exact hz.symm
    rw [hz', Bool.true_or] at ho
    simp [ziq, hlt, hz]
    unfold kwF at hO
    rw [← ho] at hO
    exact hO
   | false =>
    have hz' : (s == ws[i]) = false := by rw [beq_eq_false_iff_ne] at hz ⊢; exact fun h => hz h.symm
    rw [hz', Bool.false_or] at ho
    simp [ziq, hlt, hz]
    rw [zaq (by omega) (by omega)]
    refine hKb _ _ ⟨ws.length - (i + 1), by omega, Back.here (Nat.le_refl _) hs ?_ ⟨_, rfl, i + 1, by omega, rfl, by simp, ho, rfl⟩⟩
    simp [zir, AV.sc, AV.scV, AV.scA, AV.scB]
  ·simp [ziq, hlt]
   obtain rfl : i = ws.length := by omega
   rw [List.drop_length] at ho
   rw [← ho] at hO
   exact hO
end Go.Proofs.YtjkkonpjecoieaaGreat
namespace Go.Proofs.YtjkkonpjecoieaaGreat
open Go Go.Abs
theorem zpi {b : UInt8} (h : zaK b = true) : 48 ≤ (b.toNat : Int) ∧ (b.toNat : Int) ≤ 57 := by simpa [zaK] using h
theorem zyj (s : List UInt8) (hd : ∀ b ∈ s, zaK b = true) (hl : s.length ≤ 1000000) (H : zaa) (K : AV → zaa → Prop) (hK : K (.bool (zbL s 0)) H) : ACalls tP zfy [.str s] H K := by
 refine ACalls.out (zFq fun hs => ?_)
 have hO := zck (K := K) (H := H) (r := .bool (zbL s 0)) hs rfl rfl hK
 simp [zuk]
 refine zFo (Inv := fun q t3 t7 H' => ∃ (i : Nat) (n : Int), i ≤ s.length ∧ q = s.length - i ∧ t7 = .int .i64 i ∧ t3 = .int .i64 n ∧ 0 ≤ n ∧ n ≤ 1000000 ∧ zbL (s.drop i) n = zbL s 0 ∧ H' = H) s.length ?_ ?_
 ·intro _; exact ⟨0, 0, by omega, by omega, rfl, rfl, by omega, by omega, by simp, rfl⟩
 ·rintro q t3 t7 H' ⟨i, n, hi, rfl, rfl, rfl, hn0, hn1, ho, rfl⟩ hsc _ hsF Kb hKb
  by_cases hlt : i < s.length
  ·have hb := zpi (hd s[i] (List.getElem_mem hlt))
   rw [List.drop_eq_getElem_cons hlt, zbL] at ho
   simp [znw, hlt]
   rw [IntWalk.u8_in _ (by omega), zaq (n := n * 10) (by omega) (by omega), zaq (n := (s[i].toNat : Int) - 48) (by omega) (by omega), zaq (by omega) (by omega), zaq (by omega) (by omega)]
   by_cases hg : 1000000 < n * 10 + ((s[i].toNat : Int) - 48)
   ·rw [if_pos hg] at ho
    have hg' : decide (1000000 < n * 10 + ((s[i].toNat : Int) - 48)) = true := by simpa using hg
    rw [← ho] at hO
    rw [hg']
    simpa using hO
   ·rw [if_neg hg] at ho
    have hg' : decide (1000000 < n * 10 + ((s[i].toNat : Int) - 48)) = false := by simpa using hg
    rw [hg']
    simp only [zo6, Bool.false_eq_true, if_false]
    refine hKb _ _ ⟨s.length - (i + 1), by omega, Back.here (Nat.le_refl _) hs ?_ ⟨_, _, rfl, i + 1, _, by omega, rfl, by simp, rfl, by omega, by omega, ho, rfl⟩⟩
    simp [ziW, AV.sc, AV.scV, AV.scA, AV.scB]
  ·simp [znw, hlt]
   obtain rfl : i = s.length := by omega
   rw [List.drop_length, zbL] at ho
   rw [← ho] at hO
   exact hO
theorem zqQ (cl : UInt8 → Bool) (f : FuncId) (hcl : zcC tP f = true) (hf : ∀ (b : UInt8) (H : zaa) (K : AV → zaa → Prop), K (.bool (cl b)) H → ACalls tP f [.int .u8 b.toNat] H K)
  (s : List UInt8) (hl : s.length ≤ 1000000) (H : zaa) (K : AV → zaa → Prop) (hK : K (.str (s.takeWhile cl)) H) : ACalls tP zgR [.str s, .fn f []] H K := by
 refine ACalls.out (zFb fun hs => ?_)
 have hO := zck (K := K) (H := H) (r := .str (s.takeWhile cl)) hs rfl rfl hK
 simp [zuf]
 refine zE9 (Inv := fun q t5 H' => ∃ i : Nat, i ≤ s.length ∧ q = s.length - i ∧ t5 = .int .i64 i ∧ s.take i ++ (s.drop i).takeWhile cl = s.takeWhile cl ∧ H' = H) s.length ?_ ?_
 ·intro _; exact ⟨0, by omega, by omega, rfl, by simp, rfl⟩
 ·rintro q t5 H' ⟨i, hi, rfl, rfl, ho, rfl⟩ hsc _ hsF Kb hKb
  by_cases hlt : i < s.length
  ·rw [List.drop_eq_getElem_cons hlt, List.takeWhile_cons] at ho
   simp [znu, hlt]
   simp only [aCallV, hcl, List.append_nil]
   refine hf _ _ _ ?_
   cases hc : cl s[i] with
   | true =>
    rw [hc, if_pos rfl, List.append_cons, ← List.take_succ_eq_append_getElem hlt] at ho
    simp
    rw [zaq (by omega) (by omega)]
    refine hKb _ _ ⟨s.length - (i + 1), by omega, Back.here (Nat.le_refl _) hs ?_ ⟨_, rfl, i + 1, by omega, rfl, by simp, ho, rfl⟩⟩
    simp [ziU, AV.sc, AV.scV, AV.scA, AV.scB]
   | false =>
    rw [hc, if_neg (by simp), List.append_nil] at ho
    rw [← ho] at hO
    simp [hi]
    exact hO
  ·simp [znu, hlt]
   obtain rfl : i = s.length := by omega
   rw [List.drop_length, List.takeWhile_nil, List.append_nil, List.take_length] at ho
   rw [← ho] at hO
   simpa using hO
theorem zy5 (s : List UInt8) (hd : ∀ b ∈ s, zaK b = true) (hl : s.length ≤ 1000000) (H : zaa) (K : AV → zaa → Prop) (hK : ∀ n, K (.tup [.int .i64 n, .bool (zbL s 0)]) H) : ACalls tP zeA [.str s] H K := by
 refine ACalls.out (zDc fun hs => ?_)
 have hO : ∀ n, Out H.length K (.tup [.int .i64 n, .bool (zbL s 0)]) H := fun n => Out.tup0 hs (hK n) ⟨zaQ rfl rfl, zaQ rfl rfl, trivial⟩
 simp only [ztD]
 refine zDa (Inv := fun q t3 t7 H' => ∃ (i : Nat) (n : Int), i ≤ s.length ∧ q = s.length - i ∧ t7 = .int .i64 i ∧ t3 = .int .i64 n ∧ 0 ≤ n ∧ n ≤ 1000000 ∧ zbL (s.drop i) n = zbL s 0 ∧ H' = H) s.length ?_ ?_
 ·intro _; exact ⟨0, 0, by omega, by omega, rfl, rfl, by omega, by omega, by simp, rfl⟩
 ·rintro q t3 t7 H' ⟨i, n, hi, rfl, rfl, rfl, hn0, hn1, ho, rfl⟩ hsc _ hsF Kb hKb
  by_cases hlt : i < s.length
  ·have hb := zpi (hd s[i] (List.getElem_mem hlt))
   rw [List.drop_eq_getElem_cons hlt, zbL] at ho
   simp [zmZ, hlt]
   rw [IntWalk.u8_in _ (by omega), zaq (n := n * 10) (by omega) (by omega), zaq (n := (s[i].toNat : Int) - 48) (by omega) (by omega), zaq (by omega) (by omega), zaq (by omega) (by omega)]
   by_cases hg : 1000000 < n * 10 + ((s[i].toNat : Int) - 48)
   ·rw [if_pos hg] at ho
    have hg' : decide (1000000 < n * 10 + ((s[i].toNat : Int) - 48)) = true := by simpa using hg
    rw [← ho] at hO
    rw [hg']
    simpa [AV.isV] using hO 0
   ·rw [if_neg hg] at ho
    have hg' : decide (1000000 < n * 10 + ((s[i].toNat : Int) - 48)) = false := by simpa using hg
    rw [hg']
    simp only [zo6, Bool.false_eq_true, if_false]
    refine hKb _ _ ⟨s.length - (i + 1), by omega, Back.here (Nat.le_refl _) hs ?_ ⟨_, _, rfl, i + 1, _, by omega, rfl, by simp, rfl, by omega, by omega, ho, rfl⟩⟩
    simp [zit, AV.sc, AV.scV, AV.scA, AV.scB]
  ·simp [zmZ, hlt, AV.isV]
   obtain rfl : i = s.length := by omega
   rw [List.drop_length, zbL] at ho
   rw [← ho] at hO
   exact hO n
theorem zyV (b : UInt8) (r : List UInt8) : (b :: r).take 1 = [b] := by simp
theorem zlH {s : List UInt8} (h : ¬ 2 ≤ s.length) : zcG s = false := by
 match s, h with
 | [], _ => rfl
 | [b], _ => simp [zcG]
 | _ :: _ :: _, h => simp at h
theorem zrh (b : UInt8) (r : List UInt8) (h : zcG (b :: r) = false) : sgn (b :: r) = if sgns.contains b = true then 1 else 0 := by simp [sgn, h]
theorem zyf (b : UInt8) (r : List UInt8) (H : zaa) (K : AV → zaa → Prop) (hK : K (.str ((b :: r).take (sgn (b :: r)))) H) : ACalls tP zlh [.str (b :: r)] H K := by
 refine ACalls.out (zFu fun hs => ?_)
 have hO := zck (K := K) (H := H) (r := .str ((b :: r).take (sgn (b :: r)))) hs rfl rfl hK
 have one : zcG (b :: r) = false → ziX (.str (b :: r)) H (Out H.length K) := by
  intro h2
  rw [zrh b r h2] at hO
  have hO : Out H.length K (.str (if sgns.contains b = true then [b] else [])) H := by
   cases hc : sgns.contains b <;> rw [hc] at hO <;> simpa using hO
  have step : ∀ (c : UInt8) (cs : List UInt8) (rest : Prop), (Out H.length K (.str (if cs.contains b = true then [b] else [])) H → rest) → Out H.length K (.str (if (c :: cs).contains b = true then [b] else [])) H →
    zac .eql false (.str [b]) (.str [c]) fun t => zag t (zb7 (.str (b :: r)) t H (Out H.length K)) rest := by
   intro c cs rest h h'
   rw [List.contains_cons] at h'
   cases e : (b == c) with
   | true => rw [e] at h'; simpa [zb7, e] using h'
   | false =>
    rw [e, Bool.false_or] at h'
    simpa [zb7, e] using h h'
  unfold ziX
  simp only [zv0, zvQ, zvP, Int.toNat_one, zyV, List.drop_zero]
  refine ⟨by decide, ⟨by omega, by simp⟩, ?_⟩
  revert hO
  unfold sgns
  iterate 12 refine step _ _ _ ?_
  intro h'
  rw [List.contains_cons] at h'
  cases e : (b == 95) <;> rw [e] at h' <;> simpa [zb7, e] using h'
 by_cases hl : 2 ≤ (b :: r).length
 ·have hl' : (2 : Int) ≤ r.length + 1 := by simp only [List.length_cons] at hl; omega
  have hl2 : 1 ≤ r.length := by simp only [List.length_cons] at hl; omega
  cases h2 : zcG (b :: r) with
  | true =>
   have h3 : sgn (b :: r) = 2 := by simp [sgn, h2]
   rw [h3] at hO
   unfold zcG at h2
   simp only [List.take_succ_cons] at h2 hO
   cases e1 : (b :: List.take 1 r == [45, 62]) with
   | true => simpa [zeX, hl', hl2, zee, e1] using hO
   | false =>
    cases e2 : (b :: List.take 1 r == [60, 61]) with
    | true => simpa [zeX, hl', hl2, zee, e1, e2] using hO
    | false =>
     rw [e1, e2] at h2
     simp only [Bool.false_or] at h2
     simpa [zeX, hl', hl2, zee, e1, e2, h2] using hO
  | false =>
   have ho := one h2
   unfold zcG at h2
   simp only [List.take_succ_cons] at h2
   rw [Bool.or_eq_false_iff, Bool.or_eq_false_iff] at h2
   simpa [zeX, hl', hl2, zee, h2.1.1, h2.1.2, h2.2] using ho
 ·have ho := one (zlH hl)
  have : ¬ ((2 : Int) ≤ r.length + 1) := by simp only [List.length_cons] at hl; omega
  simpa [zeX, this] using ho
end Go.Proofs.YtjkkonpjecoieaaGreat
