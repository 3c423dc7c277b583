import Derived.Test.YtacebbdfgbfgiaaGreatKY12
import Derived.Test.YtacebbdfgbfgiaaGreatVO
import Derived.Test.YtacebbdfgbfgiaaGreatKNum
import Derived.Test.YtacebbdfgbfgiaaGreatProg
import Derived.KernelRfl
import Derived.Test.YtacebbdfgbfgiaaGreatAbsQ1
set_option linter.unusedSimpArgs false
set_option linter.unusedVariables false
namespace Go.Proofs.YtacebbdfgbfgiaaGreat
open Go Go.Abs
set_option maxRecDepth 8000
def zba (l : List Bool) : List AV := l.map AV.bool
@[simp] theorem zH9 (l : List Bool) : (zba l).length = l.length := by simp [zba]
theorem zuu (n : Nat) : (List.replicate n [AV.bool false]).flatten = zba (List.replicate n false) := by
 induction n with
 | zero => rfl
 | succ n ih => simp [List.replicate_succ, ih, zba]
theorem zom {l : List Bool} {i : Nat} (h : i < l.length) (b : Bool) : (zba l).take i ++ .bool b :: (zba l).drop (i + 1) = zba (l.set i b) := by
 simp [zba, List.set_eq_take_append_cons_drop, h]
theorem zol (m : Nat) (l : List Bool) : (zba l).all (AV.scA m) = true := by simp [zba]
theorem zpJ : ∀ l : List Bool, zaD (zba l) = some (l.map fun b => [AV.bool b]).flatten
 | [] => rfl
 | b :: l => by
  have := zpJ l
  simp [zba] at this ⊢
  simp [zaD, this, AV.pd]
theorem zmX (data : List Dat) (d : Nat) (c : Nat) (hd : d < data.length) (hc : c < (data[d]).cons.length) (hl : data.length ≤ 1000000) (hcl : (data[d]).cons.length ≤ 1000000) (hal : ((data[d]).cons[c]).args.length ≤ 1000000)
  (hb : ∀ x ∈ ((data[d]).cons[c]).args, x.nodes ≤ 1000000) (H : zaa) (K : AV → zaa → Prop)
  (hK : K (.sl (((data[d]).cons[c]).args.map fun t => [.bool (zbt d (data[d]).vars t)]) .none) H) :
  ACalls tP zcD [.sl (data.map Dat.cs) .none, .int .i64 d, .int .i64 c] H K := by
 refine ACalls.out (zCd fun hs => ?_)
 have e1 : (data.map Dat.cs)[d]? = some (data[d]).cs := by simp [hd]
 have e2 : ((data[d]).cons.map Con.cs)[c]? = some ((data[d]).cons[c]).cs := by simp [hc]
 generalize hD : data[d] = D at *
 generalize hA : D.cons[c] = C at *
 have h1 : ¬ (d : Int) < 0 := by omega
 have h2 : ¬ (data.length : Int) ≤ d := by omega
 have h3 : ¬ (c : Int) < 0 := by omega
 have h4 : ¬ (D.cons.length : Int) ≤ c := by omega
 simp [zst, h1, h2, h3, h4, e1, e2, Dat.cs, Con.cs, hd, hD, hc, hA]
 simp only [zbw, Int.toNat_natCast, zuu]
 refine ⟨⟨by omega, by omega, by omega, by omega⟩, ?_⟩
 refine zCb (Inv := fun q t49 H' => ∃ (i : Nat) (bs : List Bool), i ≤ C.args.length ∧ q = C.args.length - i ∧ t49 = .int .i64 i ∧ bs.length = C.args.length ∧ (∀ j (hj : j < i) (h' : j < C.args.length), bs[j]? = some (zbt d D.vars C.args[j])) ∧ H' = H ++ [.cells (zba bs)]) C.args.length ?_ ?_
 ·intro _; exact ⟨0, _, by omega, by omega, rfl, by simp, by omega, rfl⟩
 ·rintro q t49 H' ⟨i, bs, hi, rfl, rfl, hbl, hbs, rfl⟩ hsc hlen hsF Kb hKb
  by_cases hlt : i < C.args.length
  ·obtain ⟨k, n, ks, hx⟩ : ∃ k n ks, C.args[i] = .mk k n ks := by cases h : C.args[i] with | mk a b c => exact ⟨a, b, c, rfl⟩
   have hnb := hb _ (List.getElem_mem hlt)
   rw [hx, VT.nodes] at hnb
   have hll := VT.len_le ks
   have inner : ∀ b0 : Bool, b0 = (k == 5 && n == (d : Int) && (ks.length : Int) == D.vars) →
     zmW (.sl (data.map Dat.cs) .none) (.int .i64 d) (.ms H.length 0 C.args.length C.args.length) (.int .i64 i) (.sl (VT.css C.args) .none) (.int .i64 C.args.length) (.int .i64 i) (.sl (VT.css ks) .none) (.int .i64 ks.length) (.int .i64 0)
      (H ++ [.cells (zba (bs.set i b0)), .cells [.int .i64 k, .int .i64 n, .sl (VT.css ks) .none]]) (Out H.length K) Kb := by
    intro b0 hb0
    refine zCa (Inv := fun q t80 H' => ∃ (j : Nat) (b : Bool), j ≤ ks.length ∧ q = ks.length - j ∧ t80 = .int .i64 j ∧ (b && zb1 (ks.drop j) j) = zbt d D.vars C.args[i] ∧ H' = H ++ [.cells (zba (bs.set i b)), .cells [.int .i64 k, .int .i64 n, .sl (VT.css ks) .none]]) ks.length ?_ ?_
    ·intro _; exact ⟨0, b0, by omega, by omega, rfl, by simp [hx, zbt, hb0], rfl⟩
    ·rintro q t80 H' ⟨j, b, hj, rfl, rfl, hob, rfl⟩ hsc1 hlen1 hsF1 Kb1 hKb1
     have hsc0 : ∀ b : Bool, HSc (H ++ [.cells (zba (bs.set i b))]) := fun b => hs.snoc (by simp [AB.sc, zol])
     have hsc2 : ∀ b : Bool, HSc (H ++ [.cells (zba (bs.set i b)), .cells [.int .i64 k, .int .i64 n, .sl (VT.css ks) .none]]) := fun b => hs.append (by simp [AB.sc, zol])
     by_cases hjl : j < ks.length
     ·obtain ⟨k', n', ks', hx'⟩ : ∃ k' n' ks', ks[j] = .mk k' n' ks' := by cases h : ks[j] with | mk a b c => exact ⟨a, b, c, rfl⟩
      have hib : i < bs.length := by omega
      rw [List.drop_eq_getElem_cons hjl, zb1, hx', zfs] at hob
      have hback : ∀ (b' : Bool) J, (b' && zb1 (ks.drop (j + 1)) (j + 1)) = zbt d D.vars C.args[i] → zmV (.sl (data.map Dat.cs) .none) (.int .i64 d) (.ms H.length 0 C.args.length C.args.length) (.int .i64 i) (.sl (VT.css C.args) .none) (.int .i64 C.args.length) (.int .i64 i) (.sl (VT.css ks) .none) (.int .i64 ks.length) (.int .i64 j)
        (H ++ .cells (zba (bs.set i b')) :: .cells [.int .i64 k, .int .i64 n, .sl (VT.css ks) .none] :: J) (Out H.length K) Kb Kb1 := by
       intro b' J hb'
       simp [zmV]
       rw [zan (by omega) (by omega)]
       refine hKb1 _ _ ⟨ks.length - (j + 1), by omega, Back.at (J := J) (H2 := H ++ [.cells (zba (bs.set i b')), .cells [.int .i64 k, .int .i64 n, .sl (VT.css ks) .none]]) (by simp) (by simp) (hsc2 _) ?_ ⟨_, rfl, j + 1, b', by omega, rfl, by simp, hb', rfl⟩⟩
       simp [ziV, AV.sc, AV.scV, AV.scA, AV.scB]
      have hstore : ∀ l, List.take i (zba (bs.set i b)) ++ .bool false :: List.drop (i + 1) (zba (bs.set i b)) = l → l = zba (bs.set i false) := by
       rintro _ rfl
       rw [zom (by simpa using hib)]; simp
      cases g1 : (k' == 4) with
      | false =>
       have : (k' != 4) = true := by simp [bne, g1]
       rw [g1] at hob
       simp [ze0, ze1, hjl, hx', VT.cs, this, hlt, hbl, hstore _ rfl]
       refine ⟨by omega, hback _ _ ?_⟩; simpa using hob.symm
      | true =>
      have g1' : (k' != 4) = false := by simp [bne, g1]
      cases g2 : (n' == (j : Int)) with
      | false =>
       have : (n' != (j : Int)) = true := by simp [bne, g2]
       rw [g1, g2] at hob
       simp [ze0, ze1, hjl, hx', VT.cs, g1', this, hlt, hbl, hstore _ rfl]
       refine ⟨by omega, hback _ _ ?_⟩; simpa using hob.symm
      | true =>
      have g2' : (n' != (j : Int)) = false := by simp [bne, g2]
      by_cases g3 : ks'.length = 0
      ·have g3' : ¬ (0 : Int) < ks'.length := by omega
       have g3'' : ¬ 0 < ks'.length := by omega
       simp [ze0, ze1, hjl, hx', VT.cs, g1', g2', g3', g3'']
       refine hback _ _ ?_; simpa [g1, g2, g3] using hob
      ·have g3' : (0 : Int) < ks'.length := by omega
       have g3'' : 0 < ks'.length := by omega
       have g4 : (ks'.length == 0) = false := by simpa using g3
       rw [g4] at hob
       simp [ze0, ze1, hjl, hx', VT.cs, g1', g2', g3', g3'', hlt, hbl, hstore _ rfl]
       refine ⟨by omega, hback _ _ ?_⟩; simpa using hob.symm
     ·obtain rfl : j = ks.length := by omega
      rw [List.drop_length, zb1, Bool.and_true] at hob
      simp [ze0]
      rw [zan (by omega) (by omega)]
      refine hKb _ _ ⟨C.args.length - (i + 1), by omega, Back.at (J := [.cells [.int .i64 k, .int .i64 n, .sl (VT.css ks) .none]]) (H2 := H ++ [.cells (zba (bs.set i b))]) (by simp) (by simp) (hsc0 _) ?_ ⟨_, rfl, i + 1, bs.set i b, by omega, rfl, by simp, by simpa using hbl, ?_, rfl⟩⟩
      ·simp [ziW, AV.sc, AV.scV, AV.scA, AV.scB]
      ·intro j hj h'
       by_cases hji : j = i
       ·subst hji; rw [← hob]; simp [hbl, hlt]
       ·rw [List.getElem?_set_ne (by omega)]; exact hbs j (by omega) h'
   have hstore : ∀ b l, List.take i (zba bs) ++ .bool b :: List.drop (i + 1) (zba bs) = l → l = zba (bs.set i b) := by
    rintro b _ rfl
    rw [zom (by omega)]
   cases h5 : (k == 5) with
   | false => simp [zf6, hlt, hx, VT.cs, e1, hd, hD, Dat.cs, h5, hbl, hstore _ _ rfl]; refine ⟨by omega, inner _ ?_⟩; simp [h5]
   | true =>
   cases hn : (n == (d : Int)) with
   | false => simp [zf6, hlt, hx, VT.cs, e1, hd, hD, Dat.cs, h5, hn, hbl, hstore _ _ rfl]; refine ⟨by omega, inner _ ?_⟩; simp [h5, hn]
   | true => simp [zf6, hlt, hx, VT.cs, e1, hd, hD, Dat.cs, h5, hn, hbl, hstore _ _ rfl]; refine ⟨by omega, inner _ ?_⟩; simp [h5, hn]
  ·obtain rfl : i = C.args.length := by omega
   simp [zf6]
   have hbe : bs = C.args.map (zbt d D.vars) := by
    refine List.ext_getElem (by simpa using hbl) fun j h1 h2 => ?_
    have := hbs j (by omega) (by omega)
    rw [List.getElem?_eq_getElem h1] at this
    simpa using this
   subst hbe
   refine ⟨_, H, _, rfl, Nat.le_refl _, hs, .one (.frz H.length 0 _ _ 1 (zba (C.args.map (zbt d D.vars))) (C.args.map fun t => [.bool (zbt d D.vars t)]) (Nat.le_refl _) (by simp) (by simp) ?_ (by simp) (by simp) (Nat.le_refl _)), hK⟩
   rw [List.drop_zero, List.take_of_length_le (by simp), zpJ, List.map_map]
   rfl
end Go.Proofs.YtacebbdfgbfgiaaGreat
namespace Go.Abs
open Go
def zbs (b : UInt8) : Bool := decide (97 ≤ (b.toNat : Int)) && decide ((b.toNat : Int) ≤ 122)
def bUp (b : UInt8) : Bool := decide (65 ≤ (b.toNat : Int)) && decide ((b.toNat : Int) ≤ 90)
def zaL (b : UInt8) : Bool := decide (48 ≤ (b.toNat : Int)) && decide ((b.toNat : Int) ≤ 57)
def bIn (b : UInt8) : Bool := zbs b || bUp b || zaL b || b == 95
def zcs (b : UInt8) : Bool := b == 9 || b == 10 || b == 13 || b == 32
def zbE : List UInt8 → Int → Bool
 | [], _ => true
 | b :: l, n => let m := n * 10 + ((b.toNat : Int) - 48)
  if m > 1000000 then false else zbE l m
def zcx (r : List UInt8) : Bool := r.take 2 == [45, 62] || r.take 2 == [60, 61] || r.take 2 == [61, 61]
def sgns : List UInt8 := [40, 41, 44, 61, 124, 43, 45, 42, 47, 37, 60, 59, 95]
def sgn (r : List UInt8) : Nat :=
 if zcx r = true then 2 else match r with
 | [] => 0
 | b :: _ => if sgns.contains b = true then 1 else 0
structure Tk where
 kind : Int
 text : List UInt8
 pos : Nat
def tok (kw : List UInt8 → Bool) (b : UInt8) (r : List UInt8) : Except Int (Int × Nat) :=
 if (zbs b || bUp b) = true then
  let n := (r.takeWhile bIn).length + 1
  if n > 24 then .error 9 else .ok (if bUp b = true then 2 else if kw ((b :: r).take n) = true then 4 else 1, n)
 else if zaL b = true then
  let n := (r.takeWhile zaL).length + 1
  if b == 48 && decide (n > 1) then .error 2 else if zbE ((b :: r).take n) 0 = true then .ok (3, n) else .error 9
 else
  let n := sgn (b :: r)
  if n = 0 then .error 2 else .ok (5, n)
theorem zlm {kw : List UInt8 → Bool} {b : UInt8} {r : List UInt8} {k : Int} {n : Nat} (h : tok kw b r = .ok (k, n)) : 0 < n := by
 unfold tok at h
 split at h
 ·simp only at h; split at h <;> simp at h; omega
 ·split at h
  ·simp only at h; split at h
   ·simp at h
   ·split at h <;> simp at h; omega
  ·simp only at h; split at h <;> simp at h; omega
def za8 (kw : List UInt8 → Bool) (r : List UInt8) (pos : Nat) : Except (Nat × Int) (List Tk) :=
 match r with
 | [] => .ok [⟨6, [], pos⟩]
 | b :: r' =>
  if zcs b = true then za8 kw r' (pos + 1)
  else if b == 35 then za8 kw (r'.dropWhile (· != 10)) (pos + 1 + (r'.takeWhile (· != 10)).length)
  else match tok kw b r' with
   | .error e => .error (pos, e)
   | .ok (k, n) => match za8 kw (r'.drop (n - 1)) (pos + n) with
    | .error e => .error e
    | .ok l => .ok (⟨k, (b :: r').take n, pos⟩ :: l)
termination_by r.length
decreasing_by
 ·simp
 ·have := (List.dropWhile_sublist (p := (· != 10)) (l := r')).length_le; simp; omega
 ·simp; omega
end Go.Abs
namespace Go.Proofs.YtacebbdfgbfgiaaGreat
open Go Go.Abs
set_option maxRecDepth 100000
def zec : Nat → List Bool
 | 5 => rl false [0,1,4,2,54]
 | 9 => rl false [0,1,4,2,54]
 | _ => []
noncomputable def zlM : Code := Tryz.f122.body.getD .skip
noncomputable def zye : List ResultVar := Tryz.f122.results.toList
def zeV (t0 t5 t6 : AV) : List AV := t0 :: ux 4 (t5 :: t6 :: ux 54 [])
def zre : List Bool := zec 5
noncomputable def zlN : Code := zap [1, 0, 1, 1, 1, 1, 0, 0, 0] zlM
def zrb (K : Kt) : AExit → List AV → zaa → Prop := zaq tP zec [1, 0, 1, 1, 1, 1, 0, 0] zlM (zax tP zye K)
def zhQ (t0 t5 t6 : AV) (H : zaa) (K : Kt) : Prop := ALoop tP zlN (zrb K) (zeV t0 t5 t6) H
def zeW (t0 t5 t6 : AV) (H : zaa) (K : Kt) (Kb5 : Lt) : Prop :=
 Kb5 (zeV t0 t5 t6) H
def zhO (t0 t5 t6 : AV) : List AV := t0 :: ux 4 (t5 :: t6 :: ux 54 [])
def zyc : List Bool := zec 9
noncomputable def zx9 : Code := zap [1, 0, 1, 0, 1, 0, 0, 0, 0] zlN
def zx8 (K : Kt) (Kb5 : Lt) : AExit → List AV → zaa → Prop := zaq tP zec [1, 0, 1, 0, 1, 0, 0, 0] zlN (zbH zre Kb5 (zrb K))
def zrd (t0 t5 t6 : AV) (H : zaa) (K : Kt) (Kb5 : Lt) : Prop := ALoop tP zx9 (zx8 K Kb5) (zhO t0 t5 t6) H
def zrc (t0 t5 : AV) (H : zaa) (K : Kt) : Prop :=
 zah 0 t0 fun t57 =>
 zal [(.int .i64 0), (.str []), (.int .i64 0)] [(0, 1), (1, 1), (2, 1)] [(0, (.int .i64 6)), (2, t57)] fun t58 =>
 zay 3 [(.int .i64 0), (.str []), (.int .i64 0)] 1 [(0, t58)] fun t59 =>
 zat zdt 3 32 t5 t59 H fun t60 H =>
 zau [t60, (.int .i64 0), (.int .i64 0)] (K · H)
def zhP (t0 t5 : AV) (H : zaa) (K : Kt) : Prop :=
 zrc t0 t5 H K
def zlL (t0 t5 t6 : AV) (H : zaa) (K : Kt) (Kb5 : Lt) (Kb9 : Lt) : Prop :=
 zah 0 t0 fun t28 =>
 zac .lss false t6 t28 fun t29 =>
 zag t29
 (zbf t0 t6 fun t34 =>
 zac .eql false t34 (.int .u8 10) fun t35 =>
 zag t35
 (zeW t0 t5 t6 H K Kb5)
 (zac .add false t6 (.int .i64 1) fun t31 =>
 Kb9 (zhO t0 t5 t31) H))
 (zhP t0 t5 H K)
def zlK (t0 t5 t6 : AV) (H : zaa) (K : Kt) (Kb5 : Lt) : Prop :=
 zah 0 t0 fun t14 =>
 zac .lss false t6 t14 fun t15 =>
 zag t15
 (zbf t0 t6 fun t18 =>
 ACalls tP zky [t18] H fun t19 H =>
 zag t19
 (zac .add false t6 (.int .i64 1) fun t21 =>
 zeW t0 t5 t21 H K Kb5)
 (zbf t0 t6 fun t24 =>
 zac .eql false t24 (.int .u8 35) fun t25 =>
 zag t25
 (zrd t0 t5 t6 H K Kb5)
 (ACalls tP zkz [t0, t6] H fun t39 H =>
 zar t39 0 fun t40 =>
 zar t39 1 fun t41 =>
 zav [(.int .i64 0), (.str []), (.int .i64 0)] H fun t7 H =>
 zak 3 t7 t40 H fun H =>
 zac .neq false t41 (.int .i64 0) fun t43 =>
 zag t43
 (zau [.snil, t6, t41] (K · H))
 (zad true 3 t7 H fun t47 =>
 zay 3 [(.int .i64 0), (.str []), (.int .i64 0)] 1 [(0, t47)] fun t48 =>
 zat zdt 3 32 t5 t48 H fun t49 H =>
 zaf 1 t7 fun t51 =>
 zad false 1 t51 H fun t52 =>
 zah 0 t52 fun t53 =>
 zac .add false t6 t53 fun t54 =>
 zeW t0 t49 t54 H K Kb5))))
 (zhP t0 t5 H K)
def zlJ (t0 : AV) (H : zaa) (K : Kt) : Prop :=
 zah 0 t0 fun t10 =>
 zac .gtr false t10 (.int .i64 16384) fun t11 =>
 zag t11
 (zau [.snil, (.int .i64 0), (.int .i64 9)] (K · H))
 (zhQ t0 .snil (.int .i64 0) H K)
theorem zyb {t0 t5 t6 : AV} {H : zaa} {K : Kt} {Kb5 : Lt} (Inv : Nat → AV → zaa → Prop) (n : Nat) (h0 : HSc H → Inv n t6 H)
  (round : Rd1 (fun t6 => zhO t0 t5 t6) (fun t6 => fun H Kb9 => zlL t0 t5 t6 H K Kb5 Kb9) H Inv) : zrd t0 t5 t6 H K Kb5 :=
 lp1 (M := zec) zyc t6 (by kernel_rfl) Inv n h0 round
theorem zya {t0 t5 t6 : AV} {H : zaa} {K : Kt} (Inv : Nat → AV → AV → zaa → Prop) (n : Nat) (h0 : HSc H → Inv n t5 t6 H)
  (round : Rd2 (fun t5 => fun t6 => zeV t0 t5 t6) (fun t5 => fun t6 => fun H Kb5 => zlK t0 t5 t6 H K Kb5) H Inv) : zhQ t0 t5 t6 H K :=
 lp2 (M := zec) zre t5 t6 (by kernel_rfl) Inv n h0 round
theorem zyd {t0 : AV} {H : zaa} {K : Kt} (h : HSc H → zlJ t0 H K) : ACalls tP zkw [t0] H K :=
 zao (M := zec) Tryz.func122 (c := zlM) (by kernel_rfl) (fun hs => Eq.mpr (by kernel_rfl) (h hs))
def zck : Nat → List Bool
 | 5 => rl false [0,1,4,2,193]
 | 10 => rl false [0,1,4,2,193]
 | 18 => rl false [0,1,4,4,191]
 | 29 => rl false [0,1,4,4,191]
 | _ => []
noncomputable def zly : Code := Tryz.f103.body.getD .skip
noncomputable def zxn : List ResultVar := Tryz.f103.results.toList
def zeb (t0 t5 t6 : AV) : List AV := t0 :: ux 4 (t5 :: t6 :: ux 193 [])
def zhE : List Bool := zck 5
noncomputable def zea : Code := zap [1, 1, 1, 0, 1, 0, 0] zly
def zhy (K : Kt) : AExit → List AV → zaa → Prop := zaq tP zck [1, 1, 1, 0, 1, 0] zly (zax tP zxn K)
def zhD (t0 t5 t6 : AV) (H : zaa) (K : Kt) : Prop := ALoop tP zea (zhy K) (zeb t0 t5 t6) H
def zdI (t0 t5 t6 : AV) (H : zaa) (K : Kt) (Kb5 : Lt) : Prop :=
 Kb5 (zeb t0 t5 t6) H
def zhB (t0 t5 t6 : AV) : List AV := t0 :: ux 4 (t5 :: t6 :: ux 193 [])
def zxj : List Bool := zck 10
noncomputable def zxc : Code := zap [1, 0, 1, 1, 0, 1, 0, 0, 0, 0] zea
def zw9 (K : Kt) (Kb5 : Lt) : AExit → List AV → zaa → Prop := zaq tP zck [1, 0, 1, 1, 0, 1, 0, 0, 0] zea (zbH zhE Kb5 (zhy K))
def zqR (t0 t5 t6 : AV) (H : zaa) (K : Kt) (Kb5 : Lt) : Prop := ALoop tP zxc (zw9 K Kb5) (zhB t0 t5 t6) H
def zlv (t0 t5 t6 : AV) (H : zaa) (K : Kt) (Kb5 : Lt) (Kb10 : Lt) : Prop :=
 zah 0 t0 fun t42 =>
 zac .lss false t6 t42 fun t43 =>
 zab t43 true H (fun K' => K' t0 H) fun t45 H =>
 zab t43 true H (fun K' => K' t6 H) fun t46 H =>
 zab t43 true H (fun K' => zbf t45 t46 (K' · H)) fun t47 H =>
 zab t43 true H (fun K' => zac .neq false t47 (.int .u8 10) (K' · H)) fun t48 H =>
 zaj t43 t48 (.bool false) fun t49 =>
 zag t49
 (zac .add false t6 (.int .i64 1) fun t51 =>
 Kb10 (zhB t0 t5 t51) H)
 (zdI t0 t5 t6 H K Kb5)
def zfW (t0 t5 t6 t7 t8 : AV) : List AV := t0 :: ux 4 (t5 :: t6 :: t7 :: t8 :: ux 191 [])
def zxk : List Bool := zck 18
noncomputable def zxd : Code := zap [1, 0, 1, 1, 1, 1, 0, 0, 1, 0, 0, 0, 0] zea
def zxa (K : Kt) (Kb5 : Lt) : AExit → List AV → zaa → Prop := zaq tP zck [1, 0, 1, 1, 1, 1, 0, 0, 1, 0, 0, 0] zea (zbH zhE Kb5 (zhy K))
def zlz (t0 t5 t6 t7 t8 : AV) (H : zaa) (K : Kt) (Kb5 : Lt) : Prop := ALoop tP zxd (zxa K Kb5) (zfW t0 t5 t6 t7 t8) H
def zfX (t0 t5 t6 t8 : AV) (H : zaa) (K : Kt) (Kb5 : Lt) : Prop :=
 zac .add false t6 t8 fun t193 =>
 zdI t0 t5 t193 H K Kb5
def zdK (t0 t5 t6 t8 : AV) (H : zaa) (K : Kt) (Kb5 : Lt) : Prop :=
 zfX t0 t5 t6 t8 H K Kb5
def zdJ (t0 t5 t6 t8 t9 : AV) (H : zaa) (K : Kt) (Kb5 : Lt) : Prop :=
 zac .add false t6 t8 fun t135 =>
 zaH 0 0 t0 (some t6) (some t135) fun t136 =>
 zal [(.int .i64 0), (.str []), (.int .i64 0)] [(0, 1), (1, 1), (2, 1)] [(0, t9), (1, t136), (2, t6)] fun t138 =>
 zay 3 [(.int .i64 0), (.str []), (.int .i64 0)] 1 [(0, t138)] fun t139 =>
 zat za3 3 32 t5 t139 H fun t140 H =>
 zdK t0 t140 t6 t8 H K Kb5
def zlw (t0 t5 t6 t7 t8 : AV) (H : zaa) (K : Kt) (Kb5 : Lt) (Kb18 : Lt) : Prop :=
 zac .add false t6 t8 fun t79 =>
 zah 0 t0 fun t81 =>
 zac .lss false t79 t81 fun t82 =>
 zab t82 true H (fun K' => K' t0 H) fun t84 H =>
 zab t82 true H (fun K' => K' t6 H) fun t85 H =>
 zab t82 true H (fun K' => K' t8 H) fun t86 H =>
 zab t82 true H (fun K' => zac .add false t85 t86 (K' · H)) fun t87 H =>
 zab t82 true H (fun K' => zbf t84 t87 (K' · H)) fun t88 H =>
 zab t82 true H (fun K' => ACalls tP zgy [t88] H K') fun t89 H =>
 zab t82 true H (fun K' => K' t89 H) fun t90 H =>
 zab t90 false H (fun K' => K' t0 H) fun t91 H =>
 zab t90 false H (fun K' => K' t6 H) fun t92 H =>
 zab t90 false H (fun K' => K' t8 H) fun t93 H =>
 zab t90 false H (fun K' => zac .add false t92 t93 (K' · H)) fun t94 H =>
 zab t90 false H (fun K' => zbf t91 t94 (K' · H)) fun t95 H =>
 zab t90 false H (fun K' => ACalls tP zeA [t95] H K') fun t96 H =>
 zab t82 true H (fun K' => zaj t90 (.bool true) t96 (K' · H)) fun t97 H =>
 zab t82 true H (fun K' => K' t97 H) fun t98 H =>
 zab t98 false H (fun K' => K' t0 H) fun t99 H =>
 zab t98 false H (fun K' => K' t6 H) fun t100 H =>
 zab t98 false H (fun K' => K' t8 H) fun t101 H =>
 zab t98 false H (fun K' => zac .add false t100 t101 (K' · H)) fun t102 H =>
 zab t98 false H (fun K' => zbf t99 t102 (K' · H)) fun t103 H =>
 zab t98 false H (fun K' => ACalls tP zfv [t103] H K') fun t104 H =>
 zab t82 true H (fun K' => zaj t98 (.bool true) t104 (K' · H)) fun t105 H =>
 zab t82 true H (fun K' => K' t105 H) fun t106 H =>
 zab t106 false H (fun K' => K' t0 H) fun t107 H =>
 zab t106 false H (fun K' => K' t6 H) fun t108 H =>
 zab t106 false H (fun K' => K' t8 H) fun t109 H =>
 zab t106 false H (fun K' => zac .add false t108 t109 (K' · H)) fun t110 H =>
 zab t106 false H (fun K' => zbf t107 t110 (K' · H)) fun t111 H =>
 zab t106 false H (fun K' => zac .eql false t111 (.int .u8 95) (K' · H)) fun t112 H =>
 zab t82 true H (fun K' => zaj t106 (.bool true) t112 (K' · H)) fun t113 H =>
 zaj t82 t113 (.bool false) fun t114 =>
 zag t114
 (zac .add false t8 (.int .i64 1) fun t116 =>
 Kb18 (zfW t0 t5 t6 t7 t116) H)
 (zac .gtr false t8 (.int .i64 24) fun t118 =>
 zag t118
 (zau [.snil, t6, (.int .i64 9)] (K · H))
 (ACalls tP zeA [t7] H fun t121 H =>
 zag t121
 (zdJ t0 t5 t6 t8 (.int .i64 2) H K Kb5)
 (zac .add false t6 t8 fun t126 =>
 zaH 0 0 t0 (some t6) (some t126) fun t127 =>
 ACalls tP zgz [t127] H fun t128 H =>
 zag t128
 (zdJ t0 t5 t6 t8 (.int .i64 4) H K Kb5)
 (zdJ t0 t5 t6 t8 (.int .i64 1) H K Kb5))))
def zhC (t0 t5 t6 t7 t8 : AV) : List AV := t0 :: ux 4 (t5 :: t6 :: t7 :: t8 :: ux 191 [])
def zxl : List Bool := zck 29
noncomputable def zxe : Code := zap [1, 0, 1, 1, 1, 1, 0, 0, 1, 1, 1, 0, 0, 0, 0] zea
def zxb (K : Kt) (Kb5 : Lt) : AExit → List AV → zaa → Prop := zaq tP zck [1, 0, 1, 1, 1, 1, 0, 0, 1, 1, 1, 0, 0, 0] zea (zbH zhE Kb5 (zhy K))
def zlA (t0 t5 t6 t7 t8 : AV) (H : zaa) (K : Kt) (Kb5 : Lt) : Prop := ALoop tP zxe (zxb K Kb5) (zhC t0 t5 t6 t7 t8) H
def zlx (t0 t5 t6 t7 t8 : AV) (H : zaa) (K : Kt) (Kb5 : Lt) (Kb29 : Lt) : Prop :=
 zac .add false t6 t8 fun t146 =>
 zah 0 t0 fun t148 =>
 zac .lss false t146 t148 fun t149 =>
 zab t149 true H (fun K' => K' t0 H) fun t151 H =>
 zab t149 true H (fun K' => K' t6 H) fun t152 H =>
 zab t149 true H (fun K' => K' t8 H) fun t153 H =>
 zab t149 true H (fun K' => zac .add false t152 t153 (K' · H)) fun t154 H =>
 zab t149 true H (fun K' => zbf t151 t154 (K' · H)) fun t155 H =>
 zab t149 true H (fun K' => ACalls tP zfv [t155] H K') fun t156 H =>
 zaj t149 t156 (.bool false) fun t157 =>
 zag t157
 (zac .add false t8 (.int .i64 1) fun t159 =>
 Kb29 (zhC t0 t5 t6 t7 t159) H)
 (zac .gtr false t8 (.int .i64 1) fun t161 =>
 zab t161 true H (fun K' => K' t7 H) fun t163 H =>
 zab t161 true H (fun K' => zac .eql false t163 (.int .u8 48) (K' · H)) fun t164 H =>
 zaj t161 t164 (.bool false) fun t165 =>
 zag t165
 (zau [.snil, t6, (.int .i64 2)] (K · H))
 (zac .add false t6 t8 fun t172 =>
 zaH 0 0 t0 (some t6) (some t172) fun t173 =>
 ACalls tP zeB [t173] H fun t174 H =>
 zar t174 0 fun t175 =>
 zar t174 1 fun t176 =>
 aUn .not t176 fun t178 =>
 zag t178
 (zau [.snil, t6, (.int .i64 9)] (K · H))
 (zac .add false t6 t8 fun t185 =>
 zaH 0 0 t0 (some t6) (some t185) fun t186 =>
 zal [(.int .i64 0), (.str []), (.int .i64 0)] [(0, 1), (1, 1), (2, 1)] [(0, (.int .i64 3)), (1, t186), (2, t6)] fun t188 =>
 zay 3 [(.int .i64 0), (.str []), (.int .i64 0)] 1 [(0, t188)] fun t189 =>
 zat za3 3 32 t5 t189 H fun t190 H =>
 zdK t0 t190 t6 t8 H K Kb5)))
def zhz (t0 t5 t6 : AV) (H : zaa) (K : Kt) (Kb5 : Lt) : Prop :=
 zah 0 t0 fun t17 =>
 zac .lss false t6 t17 fun t18 =>
 zag t18
 (zbf t0 t6 fun t21 =>
 zac .eql false t21 (.int .u8 9) fun t23 =>
 zab t23 false H (fun K' => K' t21 H) fun t25 H =>
 zab t23 false H (fun K' => zac .eql false t25 (.int .u8 10) (K' · H)) fun t26 H =>
 zaj t23 (.bool true) t26 fun t27 =>
 zab t27 false H (fun K' => K' t21 H) fun t29 H =>
 zab t27 false H (fun K' => zac .eql false t29 (.int .u8 13) (K' · H)) fun t30 H =>
 zaj t27 (.bool true) t30 fun t31 =>
 zab t31 false H (fun K' => K' t21 H) fun t33 H =>
 zab t31 false H (fun K' => zac .eql false t33 (.int .u8 32) (K' · H)) fun t34 H =>
 zaj t31 (.bool true) t34 fun t35 =>
 zag t35
 (zac .add false t6 (.int .i64 1) fun t37 =>
 zdI t0 t5 t37 H K Kb5)
 (zac .eql false t21 (.int .u8 35) fun t39 =>
 zag t39
 (zqR t0 t5 t6 H K Kb5)
 (ACalls tP zgy [t21] H fun t72 H =>
 zab t72 false H (fun K' => K' t21 H) fun t74 H =>
 zab t72 false H (fun K' => ACalls tP zeA [t74] H K') fun t75 H =>
 zaj t72 (.bool true) t75 fun t76 =>
 zag t76
 (zlz t0 t5 t6 t21 (.int .i64 1) H K Kb5)
 (ACalls tP zfv [t21] H fun t143 H =>
 zag t143
 (zlA t0 t5 t6 t21 (.int .i64 1) H K Kb5)
 (zaH 0 0 t0 (some t6) none fun t54 =>
 ACalls tP zku [t54] H fun t55 H =>
 zac .eql false t55 (.int .i64 0) fun t57 =>
 zag t57
 (zau [.snil, t6, (.int .i64 2)] (K · H))
 (zac .add false t6 t55 fun t64 =>
 zaH 0 0 t0 (some t6) (some t64) fun t65 =>
 zal [(.int .i64 0), (.str []), (.int .i64 0)] [(0, 1), (1, 1), (2, 1)] [(0, (.int .i64 5)), (1, t65), (2, t6)] fun t67 =>
 zay 3 [(.int .i64 0), (.str []), (.int .i64 0)] 1 [(0, t67)] fun t68 =>
 zat za3 3 32 t5 t68 H fun t69 H =>
 zdK t0 t69 t6 t55 H K Kb5))))))
 (zah 0 t0 fun t196 =>
 zal [(.int .i64 0), (.str []), (.int .i64 0)] [(0, 1), (1, 1), (2, 1)] [(0, (.int .i64 6)), (1, (.str [])), (2, t196)] fun t197 =>
 zay 3 [(.int .i64 0), (.str []), (.int .i64 0)] 1 [(0, t197)] fun t198 =>
 zat za3 3 32 t5 t198 H fun t199 H =>
 zau [t199, (.int .i64 0), (.int .i64 0)] (K · H))
def zlu (t0 : AV) (H : zaa) (K : Kt) : Prop :=
 zah 0 t0 fun t13 =>
 zac .gtr false t13 (.int .i64 16384) fun t14 =>
 zag t14
 (zau [.snil, (.int .i64 0), (.int .i64 9)] (K · H))
 (zhD t0 .snil (.int .i64 0) H K)
theorem zxf {t0 t5 t6 : AV} {H : zaa} {K : Kt} {Kb5 : Lt} (Inv : Nat → AV → zaa → Prop) (n : Nat) (h0 : HSc H → Inv n t6 H)
  (round : Rd1 (fun t6 => zhB t0 t5 t6) (fun t6 => fun H Kb10 => zlv t0 t5 t6 H K Kb5 Kb10) H Inv) : zqR t0 t5 t6 H K Kb5 :=
 lp1 (M := zck) zxj t6 (by kernel_rfl) Inv n h0 round
theorem zxg {t0 t5 t6 t7 t8 : AV} {H : zaa} {K : Kt} {Kb5 : Lt} (Inv : Nat → AV → zaa → Prop) (n : Nat) (h0 : HSc H → Inv n t8 H)
  (round : Rd1 (fun t8 => zfW t0 t5 t6 t7 t8) (fun t8 => fun H Kb18 => zlw t0 t5 t6 t7 t8 H K Kb5 Kb18) H Inv) : zlz t0 t5 t6 t7 t8 H K Kb5 :=
 lp1 (M := zck) zxk t8 (by kernel_rfl) Inv n h0 round
theorem zxh {t0 t5 t6 t7 t8 : AV} {H : zaa} {K : Kt} {Kb5 : Lt} (Inv : Nat → AV → zaa → Prop) (n : Nat) (h0 : HSc H → Inv n t8 H)
  (round : Rd1 (fun t8 => zhC t0 t5 t6 t7 t8) (fun t8 => fun H Kb29 => zlx t0 t5 t6 t7 t8 H K Kb5 Kb29) H Inv) : zlA t0 t5 t6 t7 t8 H K Kb5 :=
 lp1 (M := zck) zxl t8 (by kernel_rfl) Inv n h0 round
theorem zxi {t0 t5 t6 : AV} {H : zaa} {K : Kt} (Inv : Nat → AV → AV → zaa → Prop) (n : Nat) (h0 : HSc H → Inv n t5 t6 H)
  (round : Rd2 (fun t5 => fun t6 => zeb t0 t5 t6) (fun t5 => fun t6 => fun H Kb5 => zhz t0 t5 t6 H K Kb5) H Inv) : zhD t0 t5 t6 H K :=
 lp2 (M := zck) zhE t5 t6 (by kernel_rfl) Inv n h0 round
theorem zxm {t0 : AV} {H : zaa} {K : Kt} (h : HSc H → zlu t0 H K) : ACalls tP zks [t0] H K :=
 zao (M := zck) Tryz.func103 (c := zly) (by kernel_rfl) (fun hs => Eq.mpr (by kernel_rfl) (h hs))
def zyt (_ : Nat) : List Bool := []
noncomputable def zyu : Code := Tryz.f135.body.getD .skip
def zrj (t0 : AV) (H : zaa) (K : Kt) : Prop :=
 zac .eql false t0 (.int .u8 9) fun t4 =>
 zab t4 false H (fun K' => K' t0 H) fun t6 H =>
 zab t4 false H (fun K' => zac .eql false t6 (.int .u8 10) (K' · H)) fun t7 H =>
 zaj t4 (.bool true) t7 fun t8 =>
 zab t8 false H (fun K' => K' t0 H) fun t10 H =>
 zab t8 false H (fun K' => zac .eql false t10 (.int .u8 13) (K' · H)) fun t11 H =>
 zaj t8 (.bool true) t11 fun t12 =>
 zab t12 false H (fun K' => K' t0 H) fun t14 H =>
 zab t12 false H (fun K' => zac .eql false t14 (.int .u8 32) (K' · H)) fun t15 H =>
 zaj t12 (.bool true) t15 fun t16 =>
 K t16 H
theorem zyv {t0 : AV} {H : zaa} {K : Kt} (h : HSc H → zrj t0 H K) : ACalls tP zky [t0] H K :=
 zao (M := zyt) Tryz.func135 (c := zyu) (by kernel_rfl) (fun hs => Eq.mpr (by kernel_rfl) (h hs))
end Go.Proofs.YtacebbdfgbfgiaaGreat
namespace Go.Proofs.YtacebbdfgbfgiaaGreat
open Go Go.Abs
set_option maxRecDepth 100000
def zyw (_ : Nat) : List Bool := []
noncomputable def zyx : Code := Tryz.f136.body.getD .skip
def zrk (t4 t6 : AV) (H : zaa) (K : Kt) : Prop :=
 zad true 3 t6 H fun t74 =>
 zak 3 t4 t74 H fun H =>
 zad true 3 t4 H fun r0 =>
 zau [r0, (.int .i64 0)] (K · H)
def zeY (t4 t6 : AV) (H : zaa) (K : Kt) : Prop :=
 zrk t4 t6 H K
def zeX (t4 t6 : AV) (H : zaa) (K : Kt) : Prop :=
 zeY t4 t6 H K
def zlQ (t0 t1 : AV) (H : zaa) (K : Kt) : Prop :=
 zav [(.int .i64 0), (.str []), (.int .i64 0)] H fun t4 H =>
 zal [(.int .i64 0), (.str []), (.int .i64 0)] [(0, 1), (1, 1), (2, 1)] [(2, t1)] fun t9 =>
 zav [(.int .i64 0), (.str []), (.int .i64 0)] H fun t6 H =>
 zak 3 t6 t9 H fun H =>
 zbf t0 t1 fun t12 =>
 ACalls tP zgC [t12] H fun t25 H =>
 zab t25 false H (fun K' => K' t12 H) fun t27 H =>
 zab t25 false H (fun K' => ACalls tP zfx [t27] H K') fun t28 H =>
 zaj t25 (.bool true) t28 fun t29 =>
 zag t29
 (zaH 0 0 t0 (some t1) none fun t32 =>
 ACalls tP zgD [t32, (.fn zfy [])] H fun t33 H =>
 zaf 1 t6 fun t34 =>
 zak 1 t34 t33 H fun H =>
 zaf 1 t6 fun t37 =>
 zad false 1 t37 H fun t38 =>
 zah 0 t38 fun t39 =>
 zac .gtr false t39 (.int .i64 24) fun t40 =>
 zag t40
 (zal [(.int .i64 0), (.str []), (.int .i64 0)] [(0, 1), (1, 1), (2, 1)] [] fun t41 =>
 zak 3 t4 t41 H fun H =>
 zad true 3 t4 H fun r0 =>
 zau [r0, (.int .i64 9)] (K · H))
 (ACalls tP zfx [t12] H fun t44 H =>
 zag t44
 (zaf 0 t6 fun t45 =>
 zak 1 t45 (.int .i64 2) H fun H =>
 zeX t4 t6 H K)
 (zaf 1 t6 fun t47 =>
 zad false 1 t47 H fun t48 =>
 ACalls tP zkA [t48] H fun t49 H =>
 zag t49
 (zaf 0 t6 fun t50 =>
 zak 1 t50 (.int .i64 4) H fun H =>
 zeX t4 t6 H K)
 (zaf 0 t6 fun t35 =>
 zak 1 t35 (.int .i64 1) H fun H =>
 zeX t4 t6 H K))))
 (ACalls tP zd1 [t12] H fun t53 H =>
 zag t53
 (zaf 0 t6 fun t54 =>
 zak 1 t54 (.int .i64 3) H fun H =>
 zaH 0 0 t0 (some t1) none fun t57 =>
 ACalls tP zgD [t57, (.fn zd1 [])] H fun t58 H =>
 zaf 1 t6 fun t59 =>
 zak 1 t59 t58 H fun H =>
 zac .eql false t12 (.int .u8 48) fun t61 =>
 zab t61 true H (fun K' => zaf 1 t6 (K' · H)) fun t63 H =>
 zab t61 true H (fun K' => zad false 1 t63 H (K' · H)) fun t64 H =>
 zab t61 true H (fun K' => zah 0 t64 (K' · H)) fun t65 H =>
 zab t61 true H (fun K' => zac .gtr false t65 (.int .i64 1) (K' · H)) fun t66 H =>
 zaj t61 t66 (.bool false) fun t67 =>
 zag t67
 (zal [(.int .i64 0), (.str []), (.int .i64 0)] [(0, 1), (1, 1), (2, 1)] [] fun t68 =>
 zak 3 t4 t68 H fun H =>
 zad true 3 t4 H fun r0 =>
 zau [r0, (.int .i64 2)] (K · H))
 (zaf 1 t6 fun t69 =>
 zad false 1 t69 H fun t70 =>
 ACalls tP zfz [t70] H fun t71 H =>
 aUn .not t71 fun t72 =>
 zag t72
 (zal [(.int .i64 0), (.str []), (.int .i64 0)] [(0, 1), (1, 1), (2, 1)] [] fun t73 =>
 zak 3 t4 t73 H fun H =>
 zad true 3 t4 H fun r0 =>
 zau [r0, (.int .i64 9)] (K · H))
 (zeY t4 t6 H K)))
 (zaf 0 t6 fun t13 =>
 zak 1 t13 (.int .i64 5) H fun H =>
 zaH 0 0 t0 (some t1) none fun t16 =>
 ACalls tP zkB [t16] H fun t17 H =>
 zaf 1 t6 fun t18 =>
 zak 1 t18 t17 H fun H =>
 zaf 1 t6 fun t19 =>
 zad false 1 t19 H fun t20 =>
 zac .eql false t20 (.str []) fun t21 =>
 zag t21
 (zal [(.int .i64 0), (.str []), (.int .i64 0)] [(0, 1), (1, 1), (2, 1)] [] fun t22 =>
 zak 3 t4 t22 H fun H =>
 zad true 3 t4 H fun r0 =>
 zau [r0, (.int .i64 2)] (K · H))
 (zeY t4 t6 H K)))
theorem zyy {t0 t1 : AV} {H : zaa} {K : Kt} (h : HSc H → zlQ t0 t1 H K) : ACalls tP zkz [t0, t1] H K :=
 zao (M := zyw) Tryz.func136 (c := zyx) (by kernel_rfl) (fun hs => Eq.mpr (by kernel_rfl) (h hs))
def zxE (_ : Nat) : List Bool := []
noncomputable def zxF : Code := Tryz.f116.body.getD .skip
def zqZ (t0 : AV) (H : zaa) (K : Kt) : Prop :=
 zac .geq false t0 (.int .u8 97) fun t4 =>
 zab t4 true H (fun K' => K' t0 H) fun t6 H =>
 zab t4 true H (fun K' => zac .leq false t6 (.int .u8 122) (K' · H)) fun t7 H =>
 zaj t4 t7 (.bool false) fun t8 =>
 K t8 H
theorem zxG {t0 : AV} {H : zaa} {K : Kt} (h : HSc H → zqZ t0 H K) : ACalls tP zgy [t0] H K :=
 zao (M := zxE) Tryz.func116 (c := zxF) (by kernel_rfl) (fun hs => Eq.mpr (by kernel_rfl) (h hs))
def zxH (_ : Nat) : List Bool := []
noncomputable def zxI : Code := Tryz.f117.body.getD .skip
def zq0 (t0 : AV) (H : zaa) (K : Kt) : Prop :=
 zac .geq false t0 (.int .u8 65) fun t4 =>
 zab t4 true H (fun K' => K' t0 H) fun t6 H =>
 zab t4 true H (fun K' => zac .leq false t6 (.int .u8 90) (K' · H)) fun t7 H =>
 zaj t4 t7 (.bool false) fun t8 =>
 K t8 H
theorem zxJ {t0 : AV} {H : zaa} {K : Kt} (h : HSc H → zq0 t0 H K) : ACalls tP zeA [t0] H K :=
 zao (M := zxH) Tryz.func117 (c := zxI) (by kernel_rfl) (fun hs => Eq.mpr (by kernel_rfl) (h hs))
def zxK (_ : Nat) : List Bool := []
noncomputable def zxL : Code := Tryz.f118.body.getD .skip
def zq1 (t0 : AV) (H : zaa) (K : Kt) : Prop :=
 zac .geq false t0 (.int .u8 48) fun t4 =>
 zab t4 true H (fun K' => K' t0 H) fun t6 H =>
 zab t4 true H (fun K' => zac .leq false t6 (.int .u8 57) (K' · H)) fun t7 H =>
 zaj t4 t7 (.bool false) fun t8 =>
 K t8 H
theorem zxM {t0 : AV} {H : zaa} {K : Kt} (h : HSc H → zq1 t0 H K) : ACalls tP zfv [t0] H K :=
 zao (M := zxK) Tryz.func118 (c := zxL) (by kernel_rfl) (fun hs => Eq.mpr (by kernel_rfl) (h hs))
def zhG : Nat → List Bool
 | 3 => rl false [0,1,2,2,13]
 | _ => []
noncomputable def zlD : Code := Tryz.f119.body.getD .skip
noncomputable def zxS : List ResultVar := Tryz.f119.results.toList
def zhI (t0 t3 t4 : AV) : List AV := t0 :: ux 2 (t3 :: t4 :: ux 13 [])
def zxQ : List Bool := zhG 3
noncomputable def zxO : Code := zap [1, 1, 0, 1, 0, 0] zlD
def zxN (K : Kt) : AExit → List AV → zaa → Prop := zaq tP zhG [1, 1, 0, 1, 0] zlD (zax tP zxS K)
def zlE (t0 t3 t4 : AV) (H : zaa) (K : Kt) : Prop := ALoop tP zxO (zxN K) (zhI t0 t3 t4) H
def zhH (t0 t3 t4 : AV) (H : zaa) (K : Kt) (Kb3 : Lt) : Prop :=
 zah 1 t3 fun t8 =>
 zac .lss false t4 t8 fun t9 =>
 zag t9
 (zai 1 t3 t4 fun t14 =>
 zad false 1 t14 H fun t15 =>
 zac .eql false t15 t0 fun t17 =>
 zag t17
 (K (.bool true) H)
 (zac .add false t4 (.int .i64 1) fun t11 =>
 Kb3 (zhI t0 t3 t11) H))
 (K (.bool false) H)
def zq2 (t0 : AV) (H : zaa) (K : Kt) : Prop :=
 zay 1 [(.str [])] 28 [(0, (.str [97, 114, 114, 97, 121])), (1, (.str [98, 111, 111, 108])), (2, (.str [99, 97, 116, 99, 104])), (3, (.str [100, 97, 116, 97])), (4, (.str [101, 108, 115, 101])), (5, (.str [101, 110, 100])), (6, (.str [102, 97, 108, 115, 101])), (7, (.str [102, 110])), (8, (.str [102, 117, 110])), (9, (.str [103, 101, 116])), (10, (.str [105, 102])), (11, (.str [105, 110])), (12, (.str [105, 110, 116])), (13, (.str [108, 101, 110])), (14, (.str [108, 101, 116])), (15, (.str [109, 97, 116, 99, 104])), (16, (.str [110, 101, 119])), (17, (.str [114, 97, 105, 115, 101])), (18, (.str [114, 101, 97, 100])), (19, (.str [114, 101, 102])), (20, (.str [115, 101, 116])), (21, (.str [116, 104, 101, 110])), (22, (.str [116, 105, 99, 107])), (23, (.str [116, 114, 117, 101])), (24, (.str [116, 114, 121])), (25, (.str [117, 110, 105, 116])), (26, (.str [119, 105, 116, 104])), (27, (.str [119, 114, 105, 116, 101]))] fun t5 =>
 zlE t0 t5 (.int .i64 0) H K
theorem zxP {t0 t3 t4 : AV} {H : zaa} {K : Kt} (Inv : Nat → AV → zaa → Prop) (n : Nat) (h0 : HSc H → Inv n t4 H)
  (round : Rd1 (fun t4 => zhI t0 t3 t4) (fun t4 => fun H Kb3 => zhH t0 t3 t4 H K Kb3) H Inv) : zlE t0 t3 t4 H K :=
 lp1 (M := zhG) zxQ t4 (by kernel_rfl) Inv n h0 round
theorem zxR {t0 : AV} {H : zaa} {K : Kt} (h : HSc H → zq2 t0 H K) : ACalls tP zgz [t0] H K :=
 zao (M := zhG) Tryz.func119 (c := zlD) (by kernel_rfl) (fun hs => Eq.mpr (by kernel_rfl) (h hs))
def zhJ : Nat → List Bool
 | 3 => rl false [0,1,3,2,17]
 | _ => []
noncomputable def zlG : Code := Tryz.f120.body.getD .skip
noncomputable def zxY : List ResultVar := Tryz.f120.results.toList
def zhK (t0 t4 t5 : AV) : List AV := t0 :: ux 3 (t4 :: t5 :: ux 17 [])
def zxW : List Bool := zhJ 3
noncomputable def zxU : Code := zap [1, 1, 0, 1, 0, 0] zlG
def zxT (K : Kt) : AExit → List AV → zaa → Prop := zaq tP zhJ [1, 1, 0, 1, 0] zlG (zax tP zxY K)
def zq9 (t0 t4 t5 : AV) (H : zaa) (K : Kt) : Prop := ALoop tP zxU (zxT K) (zhK t0 t4 t5) H
def zlF (t0 t4 t5 : AV) (H : zaa) (K : Kt) (Kb3 : Lt) : Prop :=
 zah 0 t0 fun t8 =>
 zac .lss false t5 t8 fun t9 =>
 zag t9
 (zac .mul false t4 (.int .i64 10) fun t13 =>
 zbf t0 t5 fun t16 =>
 zac .sub false t16 (.int .u8 48) fun t17 =>
 zcn .i64 t17 fun t18 =>
 zac .add false t13 t18 fun t19 =>
 zac .gtr false t19 (.int .i64 1000000) fun t21 =>
 zag t21
 (zau [(.int .i64 0), (.bool false)] (K · H))
 (zac .add false t5 (.int .i64 1) fun t11 =>
 Kb3 (zhK t0 t19 t11) H))
 (zau [t4, (.bool true)] (K · H))
def zq3 (t0 : AV) (H : zaa) (K : Kt) : Prop :=
 zq9 t0 (.int .i64 0) (.int .i64 0) H K
theorem zxV {t0 t4 t5 : AV} {H : zaa} {K : Kt} (Inv : Nat → AV → AV → zaa → Prop) (n : Nat) (h0 : HSc H → Inv n t4 t5 H)
  (round : Rd2 (fun t4 => fun t5 => zhK t0 t4 t5) (fun t4 => fun t5 => fun H Kb3 => zlF t0 t4 t5 H K Kb3) H Inv) : zq9 t0 t4 t5 H K :=
 lp2 (M := zhJ) zxW t4 t5 (by kernel_rfl) Inv n h0 round
theorem zxX {t0 : AV} {H : zaa} {K : Kt} (h : HSc H → zq3 t0 H K) : ACalls tP zeB [t0] H K :=
 zao (M := zhJ) Tryz.func120 (c := zlG) (by kernel_rfl) (fun hs => Eq.mpr (by kernel_rfl) (h hs))
def zhL : Nat → List Bool
 | 5 => rl false [0,1,2,2,30]
 | _ => []
noncomputable def zlH : Code := Tryz.f121.body.getD .skip
noncomputable def zx4 : List ResultVar := Tryz.f121.results.toList
def zhN (t0 t3 t4 : AV) : List AV := t0 :: ux 2 (t3 :: t4 :: ux 30 [])
def zx2 : List Bool := zhL 5
noncomputable def zx0 : Code := zap [1, 1, 1, 0, 1, 0, 0] zlH
def zxZ (K : Kt) : AExit → List AV → zaa → Prop := zaq tP zhL [1, 1, 1, 0, 1, 0] zlH (zax tP zx4 K)
def zlI (t0 t3 t4 : AV) (H : zaa) (K : Kt) : Prop := ALoop tP zx0 (zxZ K) (zhN t0 t3 t4) H
def zhM (t0 t3 t4 : AV) (H : zaa) (K : Kt) (Kb5 : Lt) : Prop :=
 zah 0 t3 fun t25 =>
 zac .lss false t4 t25 fun t26 =>
 zag t26
 (zae H (fun K' => K' t0 H) fun t29 =>
 zae H (fun K' => zbf t29 (.int .i64 0) (K' · H)) fun t30 =>
 zae H (fun K' => K' t3 H) fun t31 =>
 zae H (fun K' => K' t4 H) fun t32 =>
 zae H (fun K' => zbf t31 t32 (K' · H)) fun t33 =>
 zae H (fun K' => zac .eql false t30 t33 (K' · H)) fun t34 =>
 zag t34
 (K (.int .i64 1) H)
 (zac .add false t4 (.int .i64 1) fun t28 =>
 Kb5 (zhN t0 t3 t28) H))
 (K (.int .i64 0) H)
def zeU (t0 : AV) (H : zaa) (K : Kt) : Prop :=
 zah 0 t0 fun t6 =>
 zac .geq false t6 (.int .i64 2) fun t7 =>
 zab t7 true H (fun K' => K' t0 H) fun t9 H =>
 zab t7 true H (fun K' => zaH 0 0 t9 none (some (.int .i64 2)) (K' · H)) fun t10 H =>
 zab t7 true H (fun K' => zac .eql false t10 (.str [45, 62]) (K' · H)) fun t11 H =>
 zab t7 true H (fun K' => K' t11 H) fun t12 H =>
 zab t12 false H (fun K' => K' t0 H) fun t13 H =>
 zab t12 false H (fun K' => zaH 0 0 t13 none (some (.int .i64 2)) (K' · H)) fun t14 H =>
 zab t12 false H (fun K' => zac .eql false t14 (.str [60, 61]) (K' · H)) fun t15 H =>
 zab t7 true H (fun K' => zaj t12 (.bool true) t15 (K' · H)) fun t16 H =>
 zab t7 true H (fun K' => K' t16 H) fun t17 H =>
 zab t17 false H (fun K' => K' t0 H) fun t18 H =>
 zab t17 false H (fun K' => zaH 0 0 t18 none (some (.int .i64 2)) (K' · H)) fun t19 H =>
 zab t17 false H (fun K' => zac .eql false t19 (.str [61, 61]) (K' · H)) fun t20 H =>
 zab t7 true H (fun K' => zaj t17 (.bool true) t20 (K' · H)) fun t21 H =>
 zaj t7 t21 (.bool false) fun t22 =>
 zag t22
 (K (.int .i64 2) H)
 (zlI t0 (.str [40, 41, 44, 61, 124, 43, 45, 42, 47, 37, 60, 59, 95]) (.int .i64 0) H K)
theorem zx1 {t0 t3 t4 : AV} {H : zaa} {K : Kt} (Inv : Nat → AV → zaa → Prop) (n : Nat) (h0 : HSc H → Inv n t4 H)
  (round : Rd1 (fun t4 => zhN t0 t3 t4) (fun t4 => fun H Kb5 => zhM t0 t3 t4 H K Kb5) H Inv) : zlI t0 t3 t4 H K :=
 lp1 (M := zhL) zx2 t4 (by kernel_rfl) Inv n h0 round
theorem zx3 {t0 : AV} {H : zaa} {K : Kt} (h : HSc H → zeU t0 H K) : ACalls tP zku [t0] H K :=
 zao (M := zhL) Tryz.func121 (c := zlH) (by kernel_rfl) (fun hs => Eq.mpr (by kernel_rfl) (h hs))
def zyC (_ : Nat) : List Bool := []
noncomputable def zyD : Code := Tryz.f141.body.getD .skip
def zrm (t0 : AV) (H : zaa) (K : Kt) : Prop :=
 zac .geq false t0 (.int .u8 97) fun t4 =>
 zab t4 true H (fun K' => K' t0 H) fun t6 H =>
 zab t4 true H (fun K' => zac .leq false t6 (.int .u8 122) (K' · H)) fun t7 H =>
 zaj t4 t7 (.bool false) fun t8 =>
 K t8 H
theorem zyE {t0 : AV} {H : zaa} {K : Kt} (h : HSc H → zrm t0 H K) : ACalls tP zgC [t0] H K :=
 zao (M := zyC) Tryz.func141 (c := zyD) (by kernel_rfl) (fun hs => Eq.mpr (by kernel_rfl) (h hs))
def zyL (_ : Nat) : List Bool := []
noncomputable def zyM : Code := Tryz.f142.body.getD .skip
def zrn (t0 : AV) (H : zaa) (K : Kt) : Prop :=
 zac .geq false t0 (.int .u8 65) fun t4 =>
 zab t4 true H (fun K' => K' t0 H) fun t6 H =>
 zab t4 true H (fun K' => zac .leq false t6 (.int .u8 90) (K' · H)) fun t7 H =>
 zaj t4 t7 (.bool false) fun t8 =>
 K t8 H
theorem zyN {t0 : AV} {H : zaa} {K : Kt} (h : HSc H → zrn t0 H K) : ACalls tP zfx [t0] H K :=
 zao (M := zyL) Tryz.func142 (c := zyM) (by kernel_rfl) (fun hs => Eq.mpr (by kernel_rfl) (h hs))
def zhX : Nat → List Bool
 | 2 => rl false [0,2,3,1,16]
 | _ => []
noncomputable def zlV : Code := Tryz.f143.body.getD .skip
noncomputable def zyT : List ResultVar := Tryz.f143.results.toList
def zhY (t0 t1 t5 : AV) : List AV := t0 :: t1 :: ux 3 (t5 :: ux 16 [])
def zyR : List Bool := zhX 2
noncomputable def zyP : Code := zap [1, 1, 0, 0, 0] zlV
def zyO (K : Kt) : AExit → List AV → zaa → Prop := zaq tP zhX [1, 1, 0, 0] zlV (zax tP zyT K)
def zrp (t0 t1 t5 : AV) (H : zaa) (K : Kt) : Prop := ALoop tP zyP (zyO K) (zhY t0 t1 t5) H
def zlU (t0 t1 t5 : AV) (H : zaa) (K : Kt) (Kb2 : Lt) : Prop :=
 zah 0 t0 fun t8 =>
 zac .lss false t5 t8 fun t9 =>
 zab t9 true H (fun K' => K' t1 H) fun t11 H =>
 zab t9 true H (fun K' => K' t0 H) fun t12 H =>
 zab t9 true H (fun K' => K' t5 H) fun t13 H =>
 zab t9 true H (fun K' => zbf t12 t13 (K' · H)) fun t14 H =>
 zab t9 true H (fun K' => aCallV tP t11 [t14] H K') fun t15 H =>
 zaj t9 t15 (.bool false) fun t16 =>
 zag t16
 (zac .add false t5 (.int .i64 1) fun t18 =>
 Kb2 (zhY t0 t1 t18) H)
 (zaH 0 0 t0 none (some t5) fun t21 =>
 K t21 H)
def zro (t0 t1 : AV) (H : zaa) (K : Kt) : Prop :=
 zrp t0 t1 (.int .i64 0) H K
theorem zyQ {t0 t1 t5 : AV} {H : zaa} {K : Kt} (Inv : Nat → AV → zaa → Prop) (n : Nat) (h0 : HSc H → Inv n t5 H)
  (round : Rd1 (fun t5 => zhY t0 t1 t5) (fun t5 => fun H Kb2 => zlU t0 t1 t5 H K Kb2) H Inv) : zrp t0 t1 t5 H K :=
 lp1 (M := zhX) zyR t5 (by kernel_rfl) Inv n h0 round
theorem zyS {t0 t1 : AV} {H : zaa} {K : Kt} (h : HSc H → zro t0 t1 H K) : ACalls tP zgD [t0, t1] H K :=
 zao (M := zhX) Tryz.func143 (c := zlV) (by kernel_rfl) (fun hs => Eq.mpr (by kernel_rfl) (h hs))
def zyU (_ : Nat) : List Bool := []
noncomputable def zyV : Code := Tryz.f144.body.getD .skip
def zrq (t0 : AV) (H : zaa) (K : Kt) : Prop :=
 ACalls tP zgC [t0] H fun t4 H =>
 zab t4 false H (fun K' => K' t0 H) fun t6 H =>
 zab t4 false H (fun K' => ACalls tP zfx [t6] H K') fun t7 H =>
 zaj t4 (.bool true) t7 fun t8 =>
 zab t8 false H (fun K' => K' t0 H) fun t10 H =>
 zab t8 false H (fun K' => ACalls tP zd1 [t10] H K') fun t11 H =>
 zaj t8 (.bool true) t11 fun t12 =>
 zab t12 false H (fun K' => K' t0 H) fun t14 H =>
 zab t12 false H (fun K' => zac .eql false t14 (.int .u8 95) (K' · H)) fun t15 H =>
 zaj t12 (.bool true) t15 fun t16 =>
 K t16 H
theorem zyW {t0 : AV} {H : zaa} {K : Kt} (h : HSc H → zrq t0 H K) : ACalls tP zfy [t0] H K :=
 zao (M := zyU) Tryz.func144 (c := zyV) (by kernel_rfl) (fun hs => Eq.mpr (by kernel_rfl) (h hs))
def zyX (_ : Nat) : List Bool := []
noncomputable def zyY : Code := Tryz.f145.body.getD .skip
def zaY (t4 : AV) (H : zaa) (K : Kt) : Prop :=
 zag t4
 (K (.bool true) H)
 (K (.bool false) H)
def zrr (t0 : AV) (H : zaa) (K : Kt) : Prop :=
 zac .eql false t0 (.str [97, 114, 114, 97, 121]) fun t5 =>
 zag t5
 (zaY t5 H K)
 (zac .eql false t0 (.str [98, 111, 111, 108]) fun t6 =>
 zag t6
 (zaY t6 H K)
 (zac .eql false t0 (.str [99, 97, 116, 99, 104]) fun t7 =>
 zag t7
 (zaY t7 H K)
 (zac .eql false t0 (.str [100, 97, 116, 97]) fun t8 =>
 zag t8
 (zaY t8 H K)
 (zac .eql false t0 (.str [101, 108, 115, 101]) fun t9 =>
 zag t9
 (zaY t9 H K)
 (zac .eql false t0 (.str [101, 110, 100]) fun t10 =>
 zag t10
 (zaY t10 H K)
 (zac .eql false t0 (.str [102, 97, 108, 115, 101]) fun t11 =>
 zag t11
 (zaY t11 H K)
 (zac .eql false t0 (.str [102, 110]) fun t12 =>
 zag t12
 (zaY t12 H K)
 (zac .eql false t0 (.str [102, 117, 110]) fun t13 =>
 zag t13
 (zaY t13 H K)
 (zac .eql false t0 (.str [103, 101, 116]) fun t14 =>
 zag t14
 (zaY t14 H K)
 (zac .eql false t0 (.str [105, 102]) fun t15 =>
 zag t15
 (zaY t15 H K)
 (zac .eql false t0 (.str [105, 110]) fun t16 =>
 zag t16
 (zaY t16 H K)
 (zac .eql false t0 (.str [105, 110, 116]) fun t17 =>
 zag t17
 (zaY t17 H K)
 (zac .eql false t0 (.str [108, 101, 110]) fun t18 =>
 zag t18
 (zaY t18 H K)
 (zac .eql false t0 (.str [108, 101, 116]) fun t19 =>
 zag t19
 (zaY t19 H K)
 (zac .eql false t0 (.str [109, 97, 116, 99, 104]) fun t20 =>
 zag t20
 (zaY t20 H K)
 (zac .eql false t0 (.str [110, 101, 119]) fun t21 =>
 zag t21
 (zaY t21 H K)
 (zac .eql false t0 (.str [114, 97, 105, 115, 101]) fun t22 =>
 zag t22
 (zaY t22 H K)
 (zac .eql false t0 (.str [114, 101, 97, 100]) fun t23 =>
 zag t23
 (zaY t23 H K)
 (zac .eql false t0 (.str [114, 101, 102]) fun t24 =>
 zag t24
 (zaY t24 H K)
 (zac .eql false t0 (.str [115, 101, 116]) fun t25 =>
 zag t25
 (zaY t25 H K)
 (zac .eql false t0 (.str [116, 104, 101, 110]) fun t26 =>
 zag t26
 (zaY t26 H K)
 (zac .eql false t0 (.str [116, 105, 99, 107]) fun t27 =>
 zag t27
 (zaY t27 H K)
 (zac .eql false t0 (.str [116, 114, 117, 101]) fun t28 =>
 zag t28
 (zaY t28 H K)
 (zac .eql false t0 (.str [116, 114, 121]) fun t29 =>
 zag t29
 (zaY t29 H K)
 (zac .eql false t0 (.str [117, 110, 105, 116]) fun t30 =>
 zag t30
 (zaY t30 H K)
 (zac .eql false t0 (.str [119, 105, 116, 104]) fun t31 =>
 zag t31
 (zaY t31 H K)
 (zac .eql false t0 (.str [119, 114, 105, 116, 101]) fun t32 =>
 zaY t32 H K)))))))))))))))))))))))))))
theorem zyZ {t0 : AV} {H : zaa} {K : Kt} (h : HSc H → zrr t0 H K) : ACalls tP zkA [t0] H K :=
 zao (M := zyX) Tryz.func145 (c := zyY) (by kernel_rfl) (fun hs => Eq.mpr (by kernel_rfl) (h hs))
def zy0 (_ : Nat) : List Bool := []
noncomputable def zy1 : Code := Tryz.f146.body.getD .skip
def zrs (t0 : AV) (H : zaa) (K : Kt) : Prop :=
 zac .geq false t0 (.int .u8 48) fun t4 =>
 zab t4 true H (fun K' => K' t0 H) fun t6 H =>
 zab t4 true H (fun K' => zac .leq false t6 (.int .u8 57) (K' · H)) fun t7 H =>
 zaj t4 t7 (.bool false) fun t8 =>
 K t8 H
theorem zy2 {t0 : AV} {H : zaa} {K : Kt} (h : HSc H → zrs t0 H K) : ACalls tP zd1 [t0] H K :=
 zao (M := zy0) Tryz.func146 (c := zy1) (by kernel_rfl) (fun hs => Eq.mpr (by kernel_rfl) (h hs))
def zhZ : Nat → List Bool
 | 3 => rl false [0,1,2,1,2,2,13]
 | _ => []
noncomputable def zlX : Code := Tryz.f147.body.getD .skip
noncomputable def zy8 : List ResultVar := Tryz.f147.results.toList
def zh0 (t0 t3 t6 t7 : AV) : List AV := t0 :: ux 2 (t3 :: ux 2 (t6 :: t7 :: ux 13 []))
def zy6 : List Bool := zhZ 3
noncomputable def zy4 : Code := zap [1, 1, 0, 1, 0, 0] zlX
def zy3 (K : Kt) : AExit → List AV → zaa → Prop := zaq tP zhZ [1, 1, 0, 1, 0] zlX (zax tP zy8 K)
def zru (t0 t3 t6 t7 : AV) (H : zaa) (K : Kt) : Prop := ALoop tP zy4 (zy3 K) (zh0 t0 t3 t6 t7) H
def zlW (t0 t3 t6 t7 : AV) (H : zaa) (K : Kt) (Kb3 : Lt) : Prop :=
 zac .lss false t7 t6 fun t8 =>
 zag t8
 (zac .mul false t3 (.int .i64 10) fun t11 =>
 zbf t0 t7 fun t14 =>
 zac .sub false t14 (.int .u8 48) fun t15 =>
 zcn .i64 t15 fun t16 =>
 zac .add false t11 t16 fun t17 =>
 zac .gtr false t17 (.int .i64 1000000) fun t19 =>
 zag t19
 (K (.bool false) H)
 (zac .add false t7 (.int .i64 1) fun t20 =>
 Kb3 (zh0 t0 t17 t6 t20) H))
 (K (.bool true) H)
def zrt (t0 : AV) (H : zaa) (K : Kt) : Prop :=
 zah 0 t0 fun t6 =>
 zru t0 (.int .i64 0) t6 (.int .i64 0) H K
theorem zy5 {t0 t3 t6 t7 : AV} {H : zaa} {K : Kt} (Inv : Nat → AV → AV → zaa → Prop) (n : Nat) (h0 : HSc H → Inv n t3 t7 H)
  (round : Rd2 (fun t3 => fun t7 => zh0 t0 t3 t6 t7) (fun t3 => fun t7 => fun H Kb3 => zlW t0 t3 t6 t7 H K Kb3) H Inv) : zru t0 t3 t6 t7 H K :=
 lp2 (M := zhZ) zy6 t3 t7 (by kernel_rfl) Inv n h0 round
theorem zy7 {t0 : AV} {H : zaa} {K : Kt} (h : HSc H → zrt t0 H K) : ACalls tP zfz [t0] H K :=
 zao (M := zhZ) Tryz.func147 (c := zlX) (by kernel_rfl) (fun hs => Eq.mpr (by kernel_rfl) (h hs))
def zy9 (_ : Nat) : List Bool := []
noncomputable def zza : Code := Tryz.f148.body.getD .skip
def zbS (t0 t16 : AV) (H : zaa) (K : Kt) : Prop :=
 zag t16
 (zaH 0 0 t0 none (some (.int .i64 1)) fun t31 =>
 K t31 H)
 (K (.str []) H)
def zh1 (t0 : AV) (H : zaa) (K : Kt) : Prop :=
 zaH 0 0 t0 none (some (.int .i64 1)) fun t15 =>
 zac .eql false t15 (.str [40]) fun t17 =>
 zag t17
 (zbS t0 t17 H K)
 (zac .eql false t15 (.str [41]) fun t18 =>
 zag t18
 (zbS t0 t18 H K)
 (zac .eql false t15 (.str [44]) fun t19 =>
 zag t19
 (zbS t0 t19 H K)
 (zac .eql false t15 (.str [61]) fun t20 =>
 zag t20
 (zbS t0 t20 H K)
 (zac .eql false t15 (.str [124]) fun t21 =>
 zag t21
 (zbS t0 t21 H K)
 (zac .eql false t15 (.str [43]) fun t22 =>
 zag t22
 (zbS t0 t22 H K)
 (zac .eql false t15 (.str [45]) fun t23 =>
 zag t23
 (zbS t0 t23 H K)
 (zac .eql false t15 (.str [42]) fun t24 =>
 zag t24
 (zbS t0 t24 H K)
 (zac .eql false t15 (.str [47]) fun t25 =>
 zag t25
 (zbS t0 t25 H K)
 (zac .eql false t15 (.str [37]) fun t26 =>
 zag t26
 (zbS t0 t26 H K)
 (zac .eql false t15 (.str [60]) fun t27 =>
 zag t27
 (zbS t0 t27 H K)
 (zac .eql false t15 (.str [59]) fun t28 =>
 zag t28
 (zbS t0 t28 H K)
 (zac .eql false t15 (.str [95]) fun t29 =>
 zbS t0 t29 H K))))))))))))
def zed (t0 t8 : AV) (H : zaa) (K : Kt) : Prop :=
 zag t8
 (zaH 0 0 t0 none (some (.int .i64 2)) fun t13 =>
 K t13 H)
 (zh1 t0 H K)
def zeZ (t0 : AV) (H : zaa) (K : Kt) : Prop :=
 zah 0 t0 fun t4 =>
 zac .geq false t4 (.int .i64 2) fun t5 =>
 zag t5
 (zaH 0 0 t0 none (some (.int .i64 2)) fun t7 =>
 zac .eql false t7 (.str [45, 62]) fun t9 =>
 zag t9
 (zed t0 t9 H K)
 (zac .eql false t7 (.str [60, 61]) fun t10 =>
 zag t10
 (zed t0 t10 H K)
 (zac .eql false t7 (.str [61, 61]) fun t11 =>
 zed t0 t11 H K)))
 (zh1 t0 H K)
theorem zzb {t0 : AV} {H : zaa} {K : Kt} (h : HSc H → zeZ t0 H K) : ACalls tP zkB [t0] H K :=
 zao (M := zy9) Tryz.func148 (c := zza) (by kernel_rfl) (fun hs => Eq.mpr (by kernel_rfl) (h hs))
def zxo (_ : Nat) : List Bool := []
noncomputable def zxp : Code := Tryz.f104.body.getD .skip
def zqS (t0 : AV) (H : zaa) (K : Kt) : Prop :=
 ACalls tP zkw [t0] H fun t8 H =>
 zar t8 0 fun t9 =>
 zar t8 1 fun t10 =>
 zar t8 2 fun t11 =>
 zac .eql false t11 (.int .i64 0) fun t13 =>
 zab t13 true H (fun K' => K' t9 H) fun t15 H =>
 zab t13 true H (fun K' => zah 1 t15 (K' · H)) fun t16 H =>
 zab t13 true H (fun K' => zac .eql false t16 (.int .i64 2) (K' · H)) fun t17 H =>
 zaj t13 t17 (.bool false) fun t18 =>
 zab t18 true H (fun K' => K' t9 H) fun t20 H =>
 zab t18 true H (fun K' => zai 3 t20 (.int .i64 0) (K' · H)) fun t21 H =>
 zab t18 true H (fun K' => zaf 0 t21 (K' · H)) fun t22 H =>
 zab t18 true H (fun K' => zad false 1 t22 H (K' · H)) fun t23 H =>
 zab t18 true H (fun K' => zac .eql false t23 (.int .i64 2) (K' · H)) fun t24 H =>
 zaj t18 t24 (.bool false) fun t25 =>
 zab t25 true H (fun K' => K' t9 H) fun t27 H =>
 zab t25 true H (fun K' => zai 3 t27 (.int .i64 0) (K' · H)) fun t28 H =>
 zab t25 true H (fun K' => zaf 1 t28 (K' · H)) fun t29 H =>
 zab t25 true H (fun K' => zad false 1 t29 H (K' · H)) fun t30 H =>
 zab t25 true H (fun K' => K' t0 H) fun t31 H =>
 zab t25 true H (fun K' => zac .eql false t30 t31 (K' · H)) fun t32 H =>
 zaj t25 t32 (.bool false) fun t33 =>
 K t33 H
theorem zxq {t0 : AV} {H : zaa} {K : Kt} (h : HSc H → zqS t0 H K) : ACalls tP zgw [t0] H K :=
 zao (M := zxo) Tryz.func104 (c := zxp) (by kernel_rfl) (fun hs => Eq.mpr (by kernel_rfl) (h hs))
def zDD (_ : Nat) : List Bool := []
noncomputable def zDE : Code := Tryz.f83.body.getD .skip
def zsY (t0 : AV) (H : zaa) (K : Kt) : Prop :=
 ACalls tP zks [t0] H fun t8 H =>
 zar t8 0 fun t9 =>
 zar t8 1 fun t10 =>
 zar t8 2 fun t11 =>
 zac .eql false t11 (.int .i64 0) fun t13 =>
 zab t13 true H (fun K' => K' t9 H) fun t15 H =>
 zab t13 true H (fun K' => zah 1 t15 (K' · H)) fun t16 H =>
 zab t13 true H (fun K' => zac .eql false t16 (.int .i64 2) (K' · H)) fun t17 H =>
 zaj t13 t17 (.bool false) fun t18 =>
 zab t18 true H (fun K' => K' t9 H) fun t20 H =>
 zab t18 true H (fun K' => zai 3 t20 (.int .i64 0) (K' · H)) fun t21 H =>
 zab t18 true H (fun K' => zaf 0 t21 (K' · H)) fun t22 H =>
 zab t18 true H (fun K' => zad false 1 t22 H (K' · H)) fun t23 H =>
 zab t18 true H (fun K' => zac .eql false t23 (.int .i64 2) (K' · H)) fun t24 H =>
 zaj t18 t24 (.bool false) fun t25 =>
 zab t25 true H (fun K' => K' t9 H) fun t27 H =>
 zab t25 true H (fun K' => zai 3 t27 (.int .i64 0) (K' · H)) fun t28 H =>
 zab t25 true H (fun K' => zaf 1 t28 (K' · H)) fun t29 H =>
 zab t25 true H (fun K' => zad false 1 t29 H (K' · H)) fun t30 H =>
 zab t25 true H (fun K' => K' t0 H) fun t31 H =>
 zab t25 true H (fun K' => zac .eql false t30 t31 (K' · H)) fun t32 H =>
 zaj t25 t32 (.bool false) fun t33 =>
 K t33 H
theorem zDF {t0 : AV} {H : zaa} {K : Kt} (h : HSc H → zsY t0 H K) : ACalls tP zg0 [t0] H K :=
 zao (M := zDD) Tryz.func83 (c := zDE) (by kernel_rfl) (fun hs => Eq.mpr (by kernel_rfl) (h hs))
end Go.Proofs.YtacebbdfgbfgiaaGreat

namespace Go.Proofs.YtacebbdfgbfgiaaGreat
open Go Go.Abs
def kwds : List (List UInt8) := [[97, 114, 114, 97, 121], [98, 111, 111, 108], [99, 97, 116, 99, 104], [100, 97, 116, 97], [101, 108, 115, 101], [101, 110, 100], [102, 97, 108, 115, 101], [102, 110], [102, 117, 110], [103, 101, 116], [105, 102], [105, 110], [105, 110, 116], [108, 101, 110], [108, 101, 116], [109, 97, 116, 99, 104], [110, 101, 119], [114, 97, 105, 115, 101], [114, 101, 97, 100], [114, 101, 102], [115, 101, 116], [116, 104, 101, 110], [116, 105, 99, 107], [116, 114, 117, 101], [116, 114, 121], [117, 110, 105, 116], [119, 105, 116, 104], [119, 114, 105, 116, 101]]
def kwF (ws : List (List UInt8)) (s : List UInt8) : Bool := ws.any (s == ·)
theorem zb9 {H : zaa} {K : AV → zaa → Prop} {r : AV} (hsc : HSc H) (hv : r.isV = true) (hr : r.scV H.length = true) (h : K r H) : Out H.length K r H := by
 have := Out.same (J := []) rfl hsc hv hr h
 simpa using this
theorem zbQ (b c : UInt8) : ((b.toNat : Int) == (c.toNat : Int)) = (b == c) := by
 rw [Bool.eq_iff_iff]
 simp only [beq_iff_eq]
 constructor
 ·intro h; exact UInt8.toNat_inj.mp (by omega)
 ·rintro rfl; rfl
theorem zpb (b : UInt8) (H : zaa) (K : AV → zaa → Prop) (hK : K (.bool (zbs b)) H) : ACalls tP zgy [.int .u8 b.toNat] H K := by
 refine ACalls.out (zxG fun hs => ?_)
 have hO := zb9 (K := K) (H := H) (r := .bool (zbs b)) hs rfl rfl hK
 unfold zbs at hO
 cases h1 : decide (97 ≤ (b.toNat : Int)) <;> simp [zqZ, h1] <;> simpa [h1] using hO
theorem zhu (b : UInt8) (H : zaa) (K : AV → zaa → Prop) (hK : K (.bool (bUp b)) H) : ACalls tP zeA [.int .u8 b.toNat] H K := by
 refine ACalls.out (zxJ fun hs => ?_)
 have hO := zb9 (K := K) (H := H) (r := .bool (bUp b)) hs rfl rfl hK
 unfold bUp at hO
 cases h1 : decide (65 ≤ (b.toNat : Int)) <;> simp [zq0, h1] <;> simpa [h1] using hO
theorem zka (b : UInt8) (H : zaa) (K : AV → zaa → Prop) (hK : K (.bool (zaL b)) H) : ACalls tP zfv [.int .u8 b.toNat] H K := by
 refine ACalls.out (zxM fun hs => ?_)
 have hO := zb9 (K := K) (H := H) (r := .bool (zaL b)) hs rfl rfl hK
 unfold zaL at hO
 cases h1 : decide (48 ≤ (b.toNat : Int)) <;> simp [zq1, h1] <;> simpa [h1] using hO
theorem zkr (b : UInt8) (H : zaa) (K : AV → zaa → Prop) (hK : K (.bool (zbs b)) H) : ACalls tP zgC [.int .u8 b.toNat] H K := by
 refine ACalls.out (zyE fun hs => ?_)
 have hO := zb9 (K := K) (H := H) (r := .bool (zbs b)) hs rfl rfl hK
 unfold zbs at hO
 cases h1 : decide (97 ≤ (b.toNat : Int)) <;> simp [zrm, h1] <;> simpa [h1] using hO
theorem zhv (b : UInt8) (H : zaa) (K : AV → zaa → Prop) (hK : K (.bool (bUp b)) H) : ACalls tP zfx [.int .u8 b.toNat] H K := by
 refine ACalls.out (zyN fun hs => ?_)
 have hO := zb9 (K := K) (H := H) (r := .bool (bUp b)) hs rfl rfl hK
 unfold bUp at hO
 cases h1 : decide (65 ≤ (b.toNat : Int)) <;> simp [zrn, h1] <;> simpa [h1] using hO
theorem zkb (b : UInt8) (H : zaa) (K : AV → zaa → Prop) (hK : K (.bool (zaL b)) H) : ACalls tP zd1 [.int .u8 b.toNat] H K := by
 refine ACalls.out (zy2 fun hs => ?_)
 have hO := zb9 (K := K) (H := H) (r := .bool (zaL b)) hs rfl rfl hK
 unfold zaL at hO
 cases h1 : decide (48 ≤ (b.toNat : Int)) <;> simp [zrs, h1] <;> simpa [h1] using hO
theorem zut (b : UInt8) (H : zaa) (K : AV → zaa → Prop) (hK : K (.bool (zcs b)) H) : ACalls tP zky [.int .u8 b.toNat] H K := by
 refine ACalls.out (zyv fun hs => ?_)
 have hO := zb9 (K := K) (H := H) (r := .bool (zcs b)) hs rfl rfl hK
 unfold zcs at hO
 have e1 : ((b.toNat : Int) == 9) = (b == 9) := zbQ b 9
 have e2 : ((b.toNat : Int) == 10) = (b == 10) := zbQ b 10
 have e3 : ((b.toNat : Int) == 13) = (b == 13) := zbQ b 13
 have e4 : ((b.toNat : Int) == 32) = (b == 32) := zbQ b 32
 cases h1 : (b == 9) <;> cases h2 : (b == 10) <;> cases h3 : (b == 13) <;> simp [zrj, e1, e2, e3, e4, h1, h2, h3] <;> simpa [h1, h2, h3] using hO
theorem zw2 (b : UInt8) (H : zaa) (K : AV → zaa → Prop) (hK : K (.bool (bIn b)) H) : ACalls tP zfy [.int .u8 b.toNat] H K := by
 refine ACalls.out (zyW fun hs => ?_)
 have hO := zb9 (K := K) (H := H) (r := .bool (bIn b)) hs rfl rfl hK
 unfold bIn at hO
 have e1 : ((b.toNat : Int) == 95) = (b == 95) := zbQ b 95
 unfold zrq
 refine zkr b _ _ ?_
 cases h1 : zbs b with
 | true => simp; simpa [h1] using hO
 | false =>
  simp
  refine zhv b _ _ ?_
  cases h2 : bUp b with
  | true => simp; simpa [h1, h2] using hO
  | false =>
   simp
   refine zkb b _ _ ?_
   cases h3 : zaL b with
   | true => simp; simpa [h1, h2, h3] using hO
   | false => simp [e1]; simpa [h1, h2, h3] using hO
theorem zu9 (s : List UInt8) (H : zaa) (K : AV → zaa → Prop) (hK : K (.bool (kwF kwds s)) H) : ACalls tP zkA [.str s] H K := by
 refine ACalls.out (zyZ fun hs => ?_)
 have hO := zb9 (K := K) (H := H) (r := .bool (kwF kwds s)) hs rfl rfl hK
 have step : ∀ (w : List UInt8) (ws : List (List UInt8)) (rest : Prop), (Out H.length K (.bool (kwF ws s)) H → rest) → Out H.length K (.bool (kwF (w :: ws) s)) H →
   zac .eql false (.str s) (.str w) fun t => zag t (zaY t H (Out H.length K)) rest := by
  intro w ws rest h h'
  simp only [kwF, List.any_cons] at h h'
  cases e : (s == w) with
  | true => simpa [zaY, e] using h'
  | false => rw [e, Bool.false_or] at h'; simpa [zaY, e] using h h'
 unfold zrr
 revert hO
 unfold kwds
 iterate 27 refine step _ _ _ ?_
 intro h'
 simp only [kwF, List.any_cons, List.any_nil, Bool.or_false] at h'
 cases e : (s == [119, 114, 105, 116, 101]) <;> rw [e] at h' <;> simpa [zaY, e] using h'
theorem zva (s : List UInt8) (H : zaa) (K : AV → zaa → Prop) (hK : K (.bool (kwF kwds s)) H) : ACalls tP zgz [.str s] H K := by
 refine ACalls.out (zxR fun hs => ?_)
 have hO := zb9 (K := K) (H := H) (r := .bool (kwF kwds s)) hs rfl rfl hK
 have e : zq2 (.str s) H (Out H.length K) = zlE (.str s) (.sl (kwds.map fun w => [.str w]) .full) (.int .i64 0) H (Out H.length K) := rfl
 rw [e]
 have hlen : kwds.length = 28 := rfl
 generalize kwds = ws at *
 refine zxP (Inv := fun q t4 H' => ∃ i : Nat, i ≤ ws.length ∧ q = ws.length - i ∧ t4 = .int .i64 i ∧ kwF (ws.drop i) s = kwF ws s ∧ H' = H) ws.length ?_ ?_
 ·intro _; exact ⟨0, by omega, by omega, rfl, by simp, rfl⟩
 ·rintro q t8 H' ⟨i, hi, rfl, rfl, ho, rfl⟩ hsc _ hsF Kb hKb
  by_cases hlt : i < ws.length
  ·rw [List.drop_eq_getElem_cons hlt] at ho
   simp only [kwF, List.any_cons] at ho
   cases hz : (ws[i] == s) with
   | true =>
    have hz' : (s == ws[i]) = true := by rw [beq_iff_eq] at hz ⊢; exact hz.symm
    rw [hz', Bool.true_or] at ho
    simp [zhH, hlt, hz]
    unfold kwF at hO
    rw [← ho] at hO
    exact hO
   | false =>
    have hz' : (s == ws[i]) = false := by rw [beq_eq_false_iff_ne] at hz ⊢; exact fun h => hz h.symm
    rw [hz', Bool.false_or] at ho
    simp [zhH, hlt, hz]
    rw [zan (by omega) (by omega)]
    refine hKb _ _ ⟨ws.length - (i + 1), by omega, Back.here (Nat.le_refl _) hs ?_ ⟨_, rfl, i + 1, by omega, rfl, by simp, ho, rfl⟩⟩
    simp [zhI, AV.sc, AV.scV, AV.scA, AV.scB]
  ·simp [zhH, hlt]
   obtain rfl : i = ws.length := by omega
   rw [List.drop_length] at ho
   rw [← ho] at hO
   exact hO
end Go.Proofs.YtacebbdfgbfgiaaGreat
namespace Go.Proofs.YtacebbdfgbfgiaaGreat
open Go Go.Abs
theorem zok {b : UInt8} (h : zaL b = true) : 48 ≤ (b.toNat : Int) ∧ (b.toNat : Int) ≤ 57 := by simpa [zaL] using h
theorem zwf (s : List UInt8) (hd : ∀ b ∈ s, zaL b = true) (hl : s.length ≤ 1000000) (H : zaa) (K : AV → zaa → Prop) (hK : K (.bool (zbE s 0)) H) : ACalls tP zfz [.str s] H K := by
 refine ACalls.out (zy7 fun hs => ?_)
 have hO := zb9 (K := K) (H := H) (r := .bool (zbE s 0)) hs rfl rfl hK
 simp [zrt]
 refine zy5 (Inv := fun q t3 t7 H' => ∃ (i : Nat) (n : Int), i ≤ s.length ∧ q = s.length - i ∧ t7 = .int .i64 i ∧ t3 = .int .i64 n ∧ 0 ≤ n ∧ n ≤ 1000000 ∧ zbE (s.drop i) n = zbE s 0 ∧ H' = H) s.length ?_ ?_
 ·intro _; exact ⟨0, 0, by omega, by omega, rfl, rfl, by omega, by omega, by simp, rfl⟩
 ·rintro q t3 t7 H' ⟨i, n, hi, rfl, rfl, rfl, hn0, hn1, ho, rfl⟩ hsc _ hsF Kb hKb
  by_cases hlt : i < s.length
  ·have hb := zok (hd s[i] (List.getElem_mem hlt))
   rw [List.drop_eq_getElem_cons hlt, zbE] at ho
   simp [zlW, hlt]
   rw [IntWalk.u8_in _ (by omega), zan (n := n * 10) (by omega) (by omega), zan (n := (s[i].toNat : Int) - 48) (by omega) (by omega), zan (by omega) (by omega), zan (by omega) (by omega)]
   by_cases hg : 1000000 < n * 10 + ((s[i].toNat : Int) - 48)
   ·rw [if_pos hg] at ho
    have hg' : decide (1000000 < n * 10 + ((s[i].toNat : Int) - 48)) = true := by simpa using hg
    rw [← ho] at hO
    rw [hg']
    simpa using hO
   ·rw [if_neg hg] at ho
    have hg' : decide (1000000 < n * 10 + ((s[i].toNat : Int) - 48)) = false := by simpa using hg
    rw [hg']
    simp only [zoa, Bool.false_eq_true, if_false]
    refine hKb _ _ ⟨s.length - (i + 1), by omega, Back.here (Nat.le_refl _) hs ?_ ⟨_, _, rfl, i + 1, _, by omega, rfl, by simp, rfl, by omega, by omega, ho, rfl⟩⟩
    simp [zh0, AV.sc, AV.scV, AV.scA, AV.scB]
  ·simp [zlW, hlt]
   obtain rfl : i = s.length := by omega
   rw [List.drop_length, zbE] at ho
   rw [← ho] at hO
   exact hO
theorem zpO (cl : UInt8 → Bool) (f : FuncId) (hcl : zdq tP f = true) (hf : ∀ (b : UInt8) (H : zaa) (K : AV → zaa → Prop), K (.bool (cl b)) H → ACalls tP f [.int .u8 b.toNat] H K)
  (s : List UInt8) (hl : s.length ≤ 1000000) (H : zaa) (K : AV → zaa → Prop) (hK : K (.str (s.takeWhile cl)) H) : ACalls tP zgD [.str s, .fn f []] H K := by
 refine ACalls.out (zyS fun hs => ?_)
 have hO := zb9 (K := K) (H := H) (r := .str (s.takeWhile cl)) hs rfl rfl hK
 simp [zro]
 refine zyQ (Inv := fun q t5 H' => ∃ i : Nat, i ≤ s.length ∧ q = s.length - i ∧ t5 = .int .i64 i ∧ s.take i ++ (s.drop i).takeWhile cl = s.takeWhile cl ∧ H' = H) s.length ?_ ?_
 ·intro _; exact ⟨0, by omega, by omega, rfl, by simp, rfl⟩
 ·rintro q t5 H' ⟨i, hi, rfl, rfl, ho, rfl⟩ hsc _ hsF Kb hKb
  by_cases hlt : i < s.length
  ·rw [List.drop_eq_getElem_cons hlt, List.takeWhile_cons] at ho
   simp [zlU, hlt]
   simp only [aCallV, hcl, List.append_nil]
   refine hf _ _ _ ?_
   cases hc : cl s[i] with
   | true =>
    rw [hc, if_pos rfl, List.append_cons, ← List.take_succ_eq_append_getElem hlt] at ho
    simp
    rw [zan (by omega) (by omega)]
    refine hKb _ _ ⟨s.length - (i + 1), by omega, Back.here (Nat.le_refl _) hs ?_ ⟨_, rfl, i + 1, by omega, rfl, by simp, ho, rfl⟩⟩
    simp [zhY, AV.sc, AV.scV, AV.scA, AV.scB]
   | false =>
    rw [hc, if_neg (by simp), List.append_nil] at ho
    rw [← ho] at hO
    simp [hi]
    exact hO
  ·simp [zlU, hlt]
   obtain rfl : i = s.length := by omega
   rw [List.drop_length, List.takeWhile_nil, List.append_nil, List.take_length] at ho
   rw [← ho] at hO
   simpa using hO
theorem zwZ (s : List UInt8) (hd : ∀ b ∈ s, zaL b = true) (hl : s.length ≤ 1000000) (H : zaa) (K : AV → zaa → Prop) (hK : ∀ n, K (.tup [.int .i64 n, .bool (zbE s 0)]) H) : ACalls tP zeB [.str s] H K := by
 refine ACalls.out (zxX fun hs => ?_)
 have hO : ∀ n, Out H.length K (.tup [.int .i64 n, .bool (zbE s 0)]) H := fun n => Out.tup0 hs (hK n) ⟨zaR rfl rfl, zaR rfl rfl, trivial⟩
 simp only [zq3]
 refine zxV (Inv := fun q t3 t7 H' => ∃ (i : Nat) (n : Int), i ≤ s.length ∧ q = s.length - i ∧ t7 = .int .i64 i ∧ t3 = .int .i64 n ∧ 0 ≤ n ∧ n ≤ 1000000 ∧ zbE (s.drop i) n = zbE s 0 ∧ H' = H) s.length ?_ ?_
 ·intro _; exact ⟨0, 0, by omega, by omega, rfl, rfl, by omega, by omega, by simp, rfl⟩
 ·rintro q t3 t7 H' ⟨i, n, hi, rfl, rfl, rfl, hn0, hn1, ho, rfl⟩ hsc _ hsF Kb hKb
  by_cases hlt : i < s.length
  ·have hb := zok (hd s[i] (List.getElem_mem hlt))
   rw [List.drop_eq_getElem_cons hlt, zbE] at ho
   simp [zlF, hlt]
   rw [IntWalk.u8_in _ (by omega), zan (n := n * 10) (by omega) (by omega), zan (n := (s[i].toNat : Int) - 48) (by omega) (by omega), zan (by omega) (by omega), zan (by omega) (by omega)]
   by_cases hg : 1000000 < n * 10 + ((s[i].toNat : Int) - 48)
   ·rw [if_pos hg] at ho
    have hg' : decide (1000000 < n * 10 + ((s[i].toNat : Int) - 48)) = true := by simpa using hg
    rw [← ho] at hO
    rw [hg']
    simpa [AV.isV] using hO 0
   ·rw [if_neg hg] at ho
    have hg' : decide (1000000 < n * 10 + ((s[i].toNat : Int) - 48)) = false := by simpa using hg
    rw [hg']
    simp only [zoa, Bool.false_eq_true, if_false]
    refine hKb _ _ ⟨s.length - (i + 1), by omega, Back.here (Nat.le_refl _) hs ?_ ⟨_, _, rfl, i + 1, _, by omega, rfl, by simp, rfl, by omega, by omega, ho, rfl⟩⟩
    simp [zhK, AV.sc, AV.scV, AV.scA, AV.scB]
  ·simp [zlF, hlt, AV.isV]
   obtain rfl : i = s.length := by omega
   rw [List.drop_length, zbE] at ho
   rw [← ho] at hO
   exact hO n
theorem zwR (b : UInt8) (r : List UInt8) : (b :: r).take 1 = [b] := by simp
theorem zlc {s : List UInt8} (h : ¬ 2 ≤ s.length) : zcx s = false := by
 match s, h with
 | [], _ => rfl
 | [b], _ => simp [zcx]
 | _ :: _ :: _, h => simp at h
theorem zqc (b : UInt8) (r : List UInt8) (h : zcx (b :: r) = false) : sgn (b :: r) = if sgns.contains b = true then 1 else 0 := by simp [sgn, h]
theorem zwc (b : UInt8) (r : List UInt8) (H : zaa) (K : AV → zaa → Prop) (hK : K (.str ((b :: r).take (sgn (b :: r)))) H) : ACalls tP zkB [.str (b :: r)] H K := by
 refine ACalls.out (zzb fun hs => ?_)
 have hO := zb9 (K := K) (H := H) (r := .str ((b :: r).take (sgn (b :: r)))) hs rfl rfl hK
 have one : zcx (b :: r) = false → zh1 (.str (b :: r)) H (Out H.length K) := by
  intro h2
  rw [zqc b r h2] at hO
  have hO : Out H.length K (.str (if sgns.contains b = true then [b] else [])) H := by
   cases hc : sgns.contains b <;> rw [hc] at hO <;> simpa using hO
  have step : ∀ (c : UInt8) (cs : List UInt8) (rest : Prop), (Out H.length K (.str (if cs.contains b = true then [b] else [])) H → rest) → Out H.length K (.str (if (c :: cs).contains b = true then [b] else [])) H →
    zac .eql false (.str [b]) (.str [c]) fun t => zag t (zbS (.str (b :: r)) t H (Out H.length K)) rest := by
   intro c cs rest h h'
   rw [List.contains_cons] at h'
   cases e : (b == c) with
   | true => rw [e] at h'; simpa [zbS, e] using h'
   | false =>
    rw [e, Bool.false_or] at h'
    simpa [zbS, e] using h h'
  unfold zh1
  simp only [zuc, zt7, zt6, Int.toNat_one, zwR, List.drop_zero]
  refine ⟨by decide, ⟨by omega, by simp⟩, ?_⟩
  revert hO
  unfold sgns
  iterate 12 refine step _ _ _ ?_
  intro h'
  rw [List.contains_cons] at h'
  cases e : (b == 95) <;> rw [e] at h' <;> simpa [zbS, e] using h'
 by_cases hl : 2 ≤ (b :: r).length
 ·have hl' : (2 : Int) ≤ r.length + 1 := by simp only [List.length_cons] at hl; omega
  have hl2 : 1 ≤ r.length := by simp only [List.length_cons] at hl; omega
  cases h2 : zcx (b :: r) with
  | true =>
   have h3 : sgn (b :: r) = 2 := by simp [sgn, h2]
   rw [h3] at hO
   unfold zcx at h2
   simp only [List.take_succ_cons] at h2 hO
   cases e1 : (b :: List.take 1 r == [45, 62]) with
   | true => simpa [zeZ, hl', hl2, zed, e1] using hO
   | false =>
    cases e2 : (b :: List.take 1 r == [60, 61]) with
    | true => simpa [zeZ, hl', hl2, zed, e1, e2] using hO
    | false =>
     rw [e1, e2] at h2
     simp only [Bool.false_or] at h2
     simpa [zeZ, hl', hl2, zed, e1, e2, h2] using hO
  | false =>
   have ho := one h2
   unfold zcx at h2
   simp only [List.take_succ_cons] at h2
   rw [Bool.or_eq_false_iff, Bool.or_eq_false_iff] at h2
   simpa [zeZ, hl', hl2, zed, h2.1.1, h2.1.2, h2.2] using ho
 ·have ho := one (zlc hl)
  have : ¬ ((2 : Int) ≤ r.length + 1) := by simp only [List.length_cons] at hl; omega
  simpa [zeZ, this] using ho
end Go.Proofs.YtacebbdfgbfgiaaGreat
