import Derived.Test.YtacebbdfgbfgiaaGreatKY12
import Derived.Test.YtacebbdfgbfgiaaGreatVO
import Derived.Test.YtacebbdfgbfgiaaGreatKNum
import Derived.Test.YtacebbdfgbfgiaaGreatProg
import Derived.KernelRfl
import Derived.Test.YtacebbdfgbfgiaaGreatAbsQ1
set_option linter.unusedSimpArgs false
set_option linter.unusedVariables false
namespace Go.Proofs.YtacebbdfgbfgiaaGreat
open Go Go.Abs
set_option maxRecDepth 8000
def za7 (l : List Bool) : List AV := l.map AV.bool
@[simp] theorem zGz (l : List Bool) : (za7 l).length = l.length := by simp [za7]
theorem ztx (n : Nat) : (List.replicate n [AV.bool false]).flatten = za7 (List.replicate n false) := by
 induction n with
 | zero => rfl
 | succ n ih => simp [List.replicate_succ, ih, za7]
theorem znC {l : List Bool} {i : Nat} (h : i < l.length) (b : Bool) : (za7 l).take i ++ .bool b :: (za7 l).drop (i + 1) = za7 (l.set i b) := by
 simp [za7, List.set_eq_take_append_cons_drop, h]
theorem znB (m : Nat) (l : List Bool) : (za7 l).all (AV.scA m) = true := by simp [za7]
theorem zoZ : ∀ l : List Bool, zaA (za7 l) = some (l.map fun b => [AV.bool b]).flatten
 | [] => rfl
 | b :: l => by
  have := zoZ l
  simp [za7] at this ⊢
  simp [zaA, this, AV.pd]
theorem zmd (data : List Dat) (d : Nat) (c : Nat) (hd : d < data.length) (hc : c < (data[d]).cons.length) (hl : data.length ≤ 1000000) (hcl : (data[d]).cons.length ≤ 1000000) (hal : ((data[d]).cons[c]).args.length ≤ 1000000)
  (hb : ∀ x ∈ ((data[d]).cons[c]).args, x.nodes ≤ 1000000) (H : zaa) (K : AV → zaa → Prop)
  (hK : K (.sl (((data[d]).cons[c]).args.map fun t => [.bool (zbp d (data[d]).vars t)]) .none) H) :
  ACalls tP zcV [.sl (data.map Dat.cs) .none, .int .i64 d, .int .i64 c] H K := by
 refine ACalls.out (zAH fun hs => ?_)
 have e1 : (data.map Dat.cs)[d]? = some (data[d]).cs := by simp [hd]
 have e2 : ((data[d]).cons.map Con.cs)[c]? = some ((data[d]).cons[c]).cs := by simp [hc]
 generalize hD : data[d] = D at *
 generalize hA : D.cons[c] = C at *
 have h1 : ¬ (d : Int) < 0 := by omega
 have h2 : ¬ (data.length : Int) ≤ d := by omega
 have h3 : ¬ (c : Int) < 0 := by omega
 have h4 : ¬ (D.cons.length : Int) ≤ c := by omega
 simp [zrA, h1, h2, h3, h4, e1, e2, Dat.cs, Con.cs, hd, hD, hc, hA]
 simp only [zbr, Int.toNat_natCast, ztx]
 refine ⟨⟨by omega, by omega, by omega, by omega⟩, ?_⟩
 refine zAF (Inv := fun q t49 H' => ∃ (i : Nat) (bs : List Bool), i ≤ C.args.length ∧ q = C.args.length - i ∧ t49 = .int .i64 i ∧ bs.length = C.args.length ∧ (∀ j (hj : j < i) (h' : j < C.args.length), bs[j]? = some (zbp d D.vars C.args[j])) ∧ H' = H ++ [.cells (za7 bs)]) C.args.length ?_ ?_
 ·intro _; exact ⟨0, _, by omega, by omega, rfl, by simp, by omega, rfl⟩
 ·rintro q t49 H' ⟨i, bs, hi, rfl, rfl, hbl, hbs, rfl⟩ hsc hlen hsF Kb hKb
  by_cases hlt : i < C.args.length
  ·obtain ⟨k, n, ks, hx⟩ : ∃ k n ks, C.args[i] = .mk k n ks := by cases h : C.args[i] with | mk a b c => exact ⟨a, b, c, rfl⟩
   have hnb := hb _ (List.getElem_mem hlt)
   rw [hx, VT.nodes] at hnb
   have hll := VT.len_le ks
   have inner : ∀ b0 : Bool, b0 = (k == 5 && n == (d : Int) && (ks.length : Int) == D.vars) →
     zmc (.sl (data.map Dat.cs) .none) (.int .i64 d) (.ms H.length 0 C.args.length C.args.length) (.int .i64 i) (.sl (VT.css C.args) .none) (.int .i64 C.args.length) (.int .i64 i) (.sl (VT.css ks) .none) (.int .i64 ks.length) (.int .i64 0)
      (H ++ [.cells (za7 (bs.set i b0)), .cells [.int .i64 k, .int .i64 n, .sl (VT.css ks) .none]]) (Out H.length K) Kb := by
    intro b0 hb0
    refine zAE (Inv := fun q t80 H' => ∃ (j : Nat) (b : Bool), j ≤ ks.length ∧ q = ks.length - j ∧ t80 = .int .i64 j ∧ (b && zbW (ks.drop j) j) = zbp d D.vars C.args[i] ∧ H' = H ++ [.cells (za7 (bs.set i b)), .cells [.int .i64 k, .int .i64 n, .sl (VT.css ks) .none]]) ks.length ?_ ?_
    ·intro _; exact ⟨0, b0, by omega, by omega, rfl, by simp [hx, zbp, hb0], rfl⟩
    ·rintro q t80 H' ⟨j, b, hj, rfl, rfl, hob, rfl⟩ hsc1 hlen1 hsF1 Kb1 hKb1
     have hsc0 : ∀ b : Bool, HSc (H ++ [.cells (za7 (bs.set i b))]) := fun b => hs.snoc (by simp [AB.sc, znB])
     have hsc2 : ∀ b : Bool, HSc (H ++ [.cells (za7 (bs.set i b)), .cells [.int .i64 k, .int .i64 n, .sl (VT.css ks) .none]]) := fun b => hs.append (by simp [AB.sc, znB])
     by_cases hjl : j < ks.length
     ·obtain ⟨k', n', ks', hx'⟩ : ∃ k' n' ks', ks[j] = .mk k' n' ks' := by cases h : ks[j] with | mk a b c => exact ⟨a, b, c, rfl⟩
      have hib : i < bs.length := by omega
      rw [List.drop_eq_getElem_cons hjl, zbW, hx', zfd] at hob
      have hback : ∀ (b' : Bool) J, (b' && zbW (ks.drop (j + 1)) (j + 1)) = zbp d D.vars C.args[i] → zmb (.sl (data.map Dat.cs) .none) (.int .i64 d) (.ms H.length 0 C.args.length C.args.length) (.int .i64 i) (.sl (VT.css C.args) .none) (.int .i64 C.args.length) (.int .i64 i) (.sl (VT.css ks) .none) (.int .i64 ks.length) (.int .i64 j)
        (H ++ .cells (za7 (bs.set i b')) :: .cells [.int .i64 k, .int .i64 n, .sl (VT.css ks) .none] :: J) (Out H.length K) Kb Kb1 := by
       intro b' J hb'
       simp [zmb]
       rw [zal (by omega) (by omega)]
       refine hKb1 _ _ ⟨ks.length - (j + 1), by omega, Back.at (J := J) (H2 := H ++ [.cells (za7 (bs.set i b')), .cells [.int .i64 k, .int .i64 n, .sl (VT.css ks) .none]]) (by simp) (by simp) (hsc2 _) ?_ ⟨_, rfl, j + 1, b', by omega, rfl, by simp, hb', rfl⟩⟩
       simp [zif, AV.sc, AV.scV, AV.scA, AV.scB]
      have hstore : ∀ l, List.take i (za7 (bs.set i b)) ++ .bool false :: List.drop (i + 1) (za7 (bs.set i b)) = l → l = za7 (bs.set i false) := by
       rintro _ rfl
       rw [znC (by simpa using hib)]; simp
      cases g1 : (k' == 4) with
      | false =>
       have : (k' != 4) = true := by simp [bne, g1]
       rw [g1] at hob
       simp [zeM, zeN, hjl, hx', VT.cs, this, hlt, hbl, hstore _ rfl]
       refine ⟨by omega, hback _ _ ?_⟩; simpa using hob.symm
      | true =>
      have g1' : (k' != 4) = false := by simp [bne, g1]
      cases g2 : (n' == (j : Int)) with
      | false =>
       have : (n' != (j : Int)) = true := by simp [bne, g2]
       rw [g1, g2] at hob
       simp [zeM, zeN, hjl, hx', VT.cs, g1', this, hlt, hbl, hstore _ rfl]
       refine ⟨by omega, hback _ _ ?_⟩; simpa using hob.symm
      | true =>
      have g2' : (n' != (j : Int)) = false := by simp [bne, g2]
      by_cases g3 : ks'.length = 0
      ·have g3' : ¬ (0 : Int) < ks'.length := by omega
       have g3'' : ¬ 0 < ks'.length := by omega
       simp [zeM, zeN, hjl, hx', VT.cs, g1', g2', g3', g3'']
       refine hback _ _ ?_; simpa [g1, g2, g3] using hob
      ·have g3' : (0 : Int) < ks'.length := by omega
       have g3'' : 0 < ks'.length := by omega
       have g4 : (ks'.length == 0) = false := by simpa using g3
       rw [g4] at hob
       simp [zeM, zeN, hjl, hx', VT.cs, g1', g2', g3', g3'', hlt, hbl, hstore _ rfl]
       refine ⟨by omega, hback _ _ ?_⟩; simpa using hob.symm
     ·obtain rfl : j = ks.length := by omega
      rw [List.drop_length, zbW, Bool.and_true] at hob
      simp [zeM]
      rw [zal (by omega) (by omega)]
      refine hKb _ _ ⟨C.args.length - (i + 1), by omega, Back.at (J := [.cells [.int .i64 k, .int .i64 n, .sl (VT.css ks) .none]]) (H2 := H ++ [.cells (za7 (bs.set i b))]) (by simp) (by simp) (hsc0 _) ?_ ⟨_, rfl, i + 1, bs.set i b, by omega, rfl, by simp, by simpa using hbl, ?_, rfl⟩⟩
      ·simp [zig, AV.sc, AV.scV, AV.scA, AV.scB]
      ·intro j hj h'
       by_cases hji : j = i
       ·subst hji; rw [← hob]; simp [hbl, hlt]
       ·rw [List.getElem?_set_ne (by omega)]; exact hbs j (by omega) h'
   have hstore : ∀ b l, List.take i (za7 bs) ++ .bool b :: List.drop (i + 1) (za7 bs) = l → l = za7 (bs.set i b) := by
    rintro b _ rfl
    rw [znC (by omega)]
   cases h5 : (k == 5) with
   | false => simp [zfO, hlt, hx, VT.cs, e1, hd, hD, Dat.cs, h5, hbl, hstore _ _ rfl]; refine ⟨by omega, inner _ ?_⟩; simp [h5]
   | true =>
   cases hn : (n == (d : Int)) with
   | false => simp [zfO, hlt, hx, VT.cs, e1, hd, hD, Dat.cs, h5, hn, hbl, hstore _ _ rfl]; refine ⟨by omega, inner _ ?_⟩; simp [h5, hn]
   | true => simp [zfO, hlt, hx, VT.cs, e1, hd, hD, Dat.cs, h5, hn, hbl, hstore _ _ rfl]; refine ⟨by omega, inner _ ?_⟩; simp [h5, hn]
  ·obtain rfl : i = C.args.length := by omega
   simp [zfO]
   have hbe : bs = C.args.map (zbp d D.vars) := by
    refine List.ext_getElem (by simpa using hbl) fun j h1 h2 => ?_
    have := hbs j (by omega) (by omega)
    rw [List.getElem?_eq_getElem h1] at this
    simpa using this
   subst hbe
   refine ⟨_, H, _, rfl, Nat.le_refl _, hs, .one (.frz H.length 0 _ _ 1 (za7 (C.args.map (zbp d D.vars))) (C.args.map fun t => [.bool (zbp d D.vars t)]) (Nat.le_refl _) (by simp) (by simp) ?_ (by simp) (by simp) (Nat.le_refl _)), hK⟩
   rw [List.drop_zero, List.take_of_length_le (by simp), zoZ, List.map_map]
   rfl
end Go.Proofs.YtacebbdfgbfgiaaGreat
namespace Go.Abs
open Go
def zbm (b : UInt8) : Bool := decide (97 ≤ (b.toNat : Int)) && decide ((b.toNat : Int) ≤ 122)
def bUp (b : UInt8) : Bool := decide (65 ≤ (b.toNat : Int)) && decide ((b.toNat : Int) ≤ 90)
def zaE (b : UInt8) : Bool := decide (48 ≤ (b.toNat : Int)) && decide ((b.toNat : Int) ≤ 57)
def bIn (b : UInt8) : Bool := zbm b || bUp b || zaE b || b == 95
def zco (b : UInt8) : Bool := b == 9 || b == 10 || b == 13 || b == 32
def zbA : List UInt8 → Int → Bool
 | [], _ => true
 | b :: l, n => let m := n * 10 + ((b.toNat : Int) - 48)
  if m > 1000000 then false else zbA l m
def zct (r : List UInt8) : Bool := r.take 2 == [45, 62] || r.take 2 == [60, 61] || r.take 2 == [61, 61]
def sgns : List UInt8 := [40, 41, 44, 61, 124, 43, 45, 42, 47, 37, 60, 59, 95]
def sgn (r : List UInt8) : Nat :=
 if zct r = true then 2 else match r with
 | [] => 0
 | b :: _ => if sgns.contains b = true then 1 else 0
structure Tk where
 kind : Int
 text : List UInt8
 pos : Nat
def tok (kw : List UInt8 → Bool) (b : UInt8) (r : List UInt8) : Except Int (Int × Nat) :=
 if (zbm b || bUp b) = true then
  let n := (r.takeWhile bIn).length + 1
  if n > 24 then .error 9 else .ok (if bUp b = true then 2 else if kw ((b :: r).take n) = true then 4 else 1, n)
 else if zaE b = true then
  let n := (r.takeWhile zaE).length + 1
  if b == 48 && decide (n > 1) then .error 2 else if zbA ((b :: r).take n) 0 = true then .ok (3, n) else .error 9
 else
  let n := sgn (b :: r)
  if n = 0 then .error 2 else .ok (5, n)
theorem zkK {kw : List UInt8 → Bool} {b : UInt8} {r : List UInt8} {k : Int} {n : Nat} (h : tok kw b r = .ok (k, n)) : 0 < n := by
 unfold tok at h
 split at h
 ·simp only at h; split at h <;> simp at h; omega
 ·split at h
  ·simp only at h; split at h
   ·simp at h
   ·split at h <;> simp at h; omega
  ·simp only at h; split at h <;> simp at h; omega
def za2 (kw : List UInt8 → Bool) (r : List UInt8) (pos : Nat) : Except (Nat × Int) (List Tk) :=
 match r with
 | [] => .ok [⟨6, [], pos⟩]
 | b :: r' =>
  if zco b = true then za2 kw r' (pos + 1)
  else if b == 35 then za2 kw (r'.dropWhile (· != 10)) (pos + 1 + (r'.takeWhile (· != 10)).length)
  else match tok kw b r' with
   | .error e => .error (pos, e)
   | .ok (k, n) => match za2 kw (r'.drop (n - 1)) (pos + n) with
    | .error e => .error e
    | .ok l => .ok (⟨k, (b :: r').take n, pos⟩ :: l)
termination_by r.length
decreasing_by
 ·simp
 ·have := (List.dropWhile_sublist (p := (· != 10)) (l := r')).length_le; simp; omega
 ·simp; omega
end Go.Abs
namespace Go.Proofs.YtacebbdfgbfgiaaGreat
open Go Go.Abs
set_option maxRecDepth 100000
def zdY : Nat → List Bool
 | 5 => rl false [0,1,4,2,54]
 | 9 => rl false [0,1,4,2,54]
 | _ => []
noncomputable def zk9 : Code := Tryz.f122.body.getD .skip
noncomputable def zxg : List ResultVar := Tryz.f122.results.toList
def zeG (t0 t5 t6 : AV) : List AV := t0 :: ux 4 (t5 :: t6 :: ux 54 [])
def zqv : List Bool := zdY 5
noncomputable def zla : Code := zao [1, 0, 1, 1, 1, 1, 0, 0, 0] zk9
def zqs (K : Kt) : AExit → List AV → zaa → Prop := zap tP zdY [1, 0, 1, 1, 1, 1, 0, 0] zk9 (zaw tP zxg K)
def zhn (t0 t5 t6 : AV) (H : zaa) (K : Kt) : Prop := ALoop tP zla (zqs K) (zeG t0 t5 t6) H
def zeH (t0 t5 t6 : AV) (H : zaa) (K : Kt) (Kb5 : Lt) : Prop :=
 Kb5 (zeG t0 t5 t6) H
def zhl (t0 t5 t6 : AV) : List AV := t0 :: ux 4 (t5 :: t6 :: ux 54 [])
def zxe : List Bool := zdY 9
noncomputable def zxb : Code := zao [1, 0, 1, 0, 1, 0, 0, 0, 0] zla
def zxa (K : Kt) (Kb5 : Lt) : AExit → List AV → zaa → Prop := zap tP zdY [1, 0, 1, 0, 1, 0, 0, 0] zla (zbz zqv Kb5 (zqs K))
def zqu (t0 t5 t6 : AV) (H : zaa) (K : Kt) (Kb5 : Lt) : Prop := ALoop tP zxb (zxa K Kb5) (zhl t0 t5 t6) H
def zqt (t0 t5 : AV) (H : zaa) (K : Kt) : Prop :=
 zah 0 t0 fun t57 =>
 zau [(.int .i64 0), (.str []), (.int .i64 0)] [(0, 1), (1, 1), (2, 1)] [(0, (.int .i64 6)), (2, t57)] fun t58 =>
 zax 3 [(.int .i64 0), (.str []), (.int .i64 0)] 1 [(0, t58)] fun t59 =>
 zar zdf 3 32 t5 t59 H fun t60 H =>
 zav [t60, (.int .i64 0), (.int .i64 0)] (K · H)
def zhm (t0 t5 : AV) (H : zaa) (K : Kt) : Prop :=
 zqt t0 t5 H K
def zk8 (t0 t5 t6 : AV) (H : zaa) (K : Kt) (Kb5 : Lt) (Kb9 : Lt) : Prop :=
 zah 0 t0 fun t28 =>
 zac .lss false t6 t28 fun t29 =>
 zag t29
 (za9 t0 t6 fun t34 =>
 zac .eql false t34 (.int .u8 10) fun t35 =>
 zag t35
 (zeH t0 t5 t6 H K Kb5)
 (zac .add false t6 (.int .i64 1) fun t31 =>
 Kb9 (zhl t0 t5 t31) H))
 (zhm t0 t5 H K)
def zk7 (t0 t5 t6 : AV) (H : zaa) (K : Kt) (Kb5 : Lt) : Prop :=
 zah 0 t0 fun t14 =>
 zac .lss false t6 t14 fun t15 =>
 zag t15
 (za9 t0 t6 fun t18 =>
 ACalls tP zjQ [t18] H fun t19 H =>
 zag t19
 (zac .add false t6 (.int .i64 1) fun t21 =>
 zeH t0 t5 t21 H K Kb5)
 (za9 t0 t6 fun t24 =>
 zac .eql false t24 (.int .u8 35) fun t25 =>
 zag t25
 (zqu t0 t5 t6 H K Kb5)
 (ACalls tP zjR [t0, t6] H fun t39 H =>
 zas t39 0 fun t40 =>
 zas t39 1 fun t41 =>
 zat [(.int .i64 0), (.str []), (.int .i64 0)] H fun t7 H =>
 zak 3 t7 t40 H fun H =>
 zac .neq false t41 (.int .i64 0) fun t43 =>
 zag t43
 (zav [.snil, t6, t41] (K · H))
 (zad true 3 t7 H fun t47 =>
 zax 3 [(.int .i64 0), (.str []), (.int .i64 0)] 1 [(0, t47)] fun t48 =>
 zar zdf 3 32 t5 t48 H fun t49 H =>
 zaf 1 t7 fun t51 =>
 zad false 1 t51 H fun t52 =>
 zah 0 t52 fun t53 =>
 zac .add false t6 t53 fun t54 =>
 zeH t0 t49 t54 H K Kb5))))
 (zhm t0 t5 H K)
def zk6 (t0 : AV) (H : zaa) (K : Kt) : Prop :=
 zah 0 t0 fun t10 =>
 zac .gtr false t10 (.int .i64 16384) fun t11 =>
 zag t11
 (zav [.snil, (.int .i64 0), (.int .i64 9)] (K · H))
 (zhn t0 .snil (.int .i64 0) H K)
theorem zxd {t0 t5 t6 : AV} {H : zaa} {K : Kt} {Kb5 : Lt} (Inv : Nat → AV → zaa → Prop) (n : Nat) (h0 : HSc H → Inv n t6 H)
  (round : Rd1 (fun t6 => zhl t0 t5 t6) (fun t6 => fun H Kb9 => zk8 t0 t5 t6 H K Kb5 Kb9) H Inv) : zqu t0 t5 t6 H K Kb5 :=
 lp1 (M := zdY) zxe t6 (by kernel_rfl) Inv n h0 round
theorem zxc {t0 t5 t6 : AV} {H : zaa} {K : Kt} (Inv : Nat → AV → AV → zaa → Prop) (n : Nat) (h0 : HSc H → Inv n t5 t6 H)
  (round : Rd2 (fun t5 => fun t6 => zeG t0 t5 t6) (fun t5 => fun t6 => fun H Kb5 => zk7 t0 t5 t6 H K Kb5) H Inv) : zhn t0 t5 t6 H K :=
 lp2 (M := zdY) zqv t5 t6 (by kernel_rfl) Inv n h0 round
theorem zxf {t0 : AV} {H : zaa} {K : Kt} (h : HSc H → zk6 t0 H K) : ACalls tP zjO [t0] H K :=
 zan (M := zdY) Tryz.func122 (c := zk9) (by kernel_rfl) (fun hs => Eq.mpr (by kernel_rfl) (h hs))
def zcg : Nat → List Bool
 | 5 => rl false [0,1,4,2,193]
 | 10 => rl false [0,1,4,2,193]
 | 18 => rl false [0,1,4,4,191]
 | 29 => rl false [0,1,4,4,191]
 | _ => []
noncomputable def zkV : Code := Tryz.f103.body.getD .skip
noncomputable def zwp : List ResultVar := Tryz.f103.results.toList
def zdX (t0 t5 t6 : AV) : List AV := t0 :: ux 4 (t5 :: t6 :: ux 193 [])
def zhb : List Bool := zcg 5
noncomputable def zdW : Code := zao [1, 1, 1, 0, 1, 0, 0] zkV
def zg5 (K : Kt) : AExit → List AV → zaa → Prop := zap tP zcg [1, 1, 1, 0, 1, 0] zkV (zaw tP zwp K)
def zha (t0 t5 t6 : AV) (H : zaa) (K : Kt) : Prop := ALoop tP zdW (zg5 K) (zdX t0 t5 t6) H
def zdx (t0 t5 t6 : AV) (H : zaa) (K : Kt) (Kb5 : Lt) : Prop :=
 Kb5 (zdX t0 t5 t6) H
def zg8 (t0 t5 t6 : AV) : List AV := t0 :: ux 4 (t5 :: t6 :: ux 193 [])
def zwl : List Bool := zcg 10
noncomputable def zwe : Code := zao [1, 0, 1, 1, 0, 1, 0, 0, 0, 0] zdW
def zwb (K : Kt) (Kb5 : Lt) : AExit → List AV → zaa → Prop := zap tP zcg [1, 0, 1, 1, 0, 1, 0, 0, 0] zdW (zbz zhb Kb5 (zg5 K))
def zqd (t0 t5 t6 : AV) (H : zaa) (K : Kt) (Kb5 : Lt) : Prop := ALoop tP zwe (zwb K Kb5) (zg8 t0 t5 t6) H
def zkS (t0 t5 t6 : AV) (H : zaa) (K : Kt) (Kb5 : Lt) (Kb10 : Lt) : Prop :=
 zah 0 t0 fun t42 =>
 zac .lss false t6 t42 fun t43 =>
 zab t43 true H (fun K' => K' t0 H) fun t45 H =>
 zab t43 true H (fun K' => K' t6 H) fun t46 H =>
 zab t43 true H (fun K' => za9 t45 t46 (K' · H)) fun t47 H =>
 zab t43 true H (fun K' => zac .neq false t47 (.int .u8 10) (K' · H)) fun t48 H =>
 zai t43 t48 (.bool false) fun t49 =>
 zag t49
 (zac .add false t6 (.int .i64 1) fun t51 =>
 Kb10 (zg8 t0 t5 t51) H)
 (zdx t0 t5 t6 H K Kb5)
def zfH (t0 t5 t6 t7 t8 : AV) : List AV := t0 :: ux 4 (t5 :: t6 :: t7 :: t8 :: ux 191 [])
def zwm : List Bool := zcg 18
noncomputable def zwf : Code := zao [1, 0, 1, 1, 1, 1, 0, 0, 1, 0, 0, 0, 0] zdW
def zwc (K : Kt) (Kb5 : Lt) : AExit → List AV → zaa → Prop := zap tP zcg [1, 0, 1, 1, 1, 1, 0, 0, 1, 0, 0, 0] zdW (zbz zhb Kb5 (zg5 K))
def zkW (t0 t5 t6 t7 t8 : AV) (H : zaa) (K : Kt) (Kb5 : Lt) : Prop := ALoop tP zwf (zwc K Kb5) (zfH t0 t5 t6 t7 t8) H
def zfI (t0 t5 t6 t8 : AV) (H : zaa) (K : Kt) (Kb5 : Lt) : Prop :=
 zac .add false t6 t8 fun t193 =>
 zdx t0 t5 t193 H K Kb5
def zdz (t0 t5 t6 t8 : AV) (H : zaa) (K : Kt) (Kb5 : Lt) : Prop :=
 zfI t0 t5 t6 t8 H K Kb5
def zdy (t0 t5 t6 t8 t9 : AV) (H : zaa) (K : Kt) (Kb5 : Lt) : Prop :=
 zac .add false t6 t8 fun t135 =>
 zaD 0 0 t0 (some t6) (some t135) fun t136 =>
 zau [(.int .i64 0), (.str []), (.int .i64 0)] [(0, 1), (1, 1), (2, 1)] [(0, t9), (1, t136), (2, t6)] fun t138 =>
 zax 3 [(.int .i64 0), (.str []), (.int .i64 0)] 1 [(0, t138)] fun t139 =>
 zar zaU 3 32 t5 t139 H fun t140 H =>
 zdz t0 t140 t6 t8 H K Kb5
def zkT (t0 t5 t6 t7 t8 : AV) (H : zaa) (K : Kt) (Kb5 : Lt) (Kb18 : Lt) : Prop :=
 zac .add false t6 t8 fun t79 =>
 zah 0 t0 fun t81 =>
 zac .lss false t79 t81 fun t82 =>
 zab t82 true H (fun K' => K' t0 H) fun t84 H =>
 zab t82 true H (fun K' => K' t6 H) fun t85 H =>
 zab t82 true H (fun K' => K' t8 H) fun t86 H =>
 zab t82 true H (fun K' => zac .add false t85 t86 (K' · H)) fun t87 H =>
 zab t82 true H (fun K' => za9 t84 t87 (K' · H)) fun t88 H =>
 zab t82 true H (fun K' => ACalls tP zgg [t88] H K') fun t89 H =>
 zab t82 true H (fun K' => K' t89 H) fun t90 H =>
 zab t90 false H (fun K' => K' t0 H) fun t91 H =>
 zab t90 false H (fun K' => K' t6 H) fun t92 H =>
 zab t90 false H (fun K' => K' t8 H) fun t93 H =>
 zab t90 false H (fun K' => zac .add false t92 t93 (K' · H)) fun t94 H =>
 zab t90 false H (fun K' => za9 t91 t94 (K' · H)) fun t95 H =>
 zab t90 false H (fun K' => ACalls tP zem [t95] H K') fun t96 H =>
 zab t82 true H (fun K' => zai t90 (.bool true) t96 (K' · H)) fun t97 H =>
 zab t82 true H (fun K' => K' t97 H) fun t98 H =>
 zab t98 false H (fun K' => K' t0 H) fun t99 H =>
 zab t98 false H (fun K' => K' t6 H) fun t100 H =>
 zab t98 false H (fun K' => K' t8 H) fun t101 H =>
 zab t98 false H (fun K' => zac .add false t100 t101 (K' · H)) fun t102 H =>
 zab t98 false H (fun K' => za9 t99 t102 (K' · H)) fun t103 H =>
 zab t98 false H (fun K' => ACalls tP zfg [t103] H K') fun t104 H =>
 zab t82 true H (fun K' => zai t98 (.bool true) t104 (K' · H)) fun t105 H =>
 zab t82 true H (fun K' => K' t105 H) fun t106 H =>
 zab t106 false H (fun K' => K' t0 H) fun t107 H =>
 zab t106 false H (fun K' => K' t6 H) fun t108 H =>
 zab t106 false H (fun K' => K' t8 H) fun t109 H =>
 zab t106 false H (fun K' => zac .add false t108 t109 (K' · H)) fun t110 H =>
 zab t106 false H (fun K' => za9 t107 t110 (K' · H)) fun t111 H =>
 zab t106 false H (fun K' => zac .eql false t111 (.int .u8 95) (K' · H)) fun t112 H =>
 zab t82 true H (fun K' => zai t106 (.bool true) t112 (K' · H)) fun t113 H =>
 zai t82 t113 (.bool false) fun t114 =>
 zag t114
 (zac .add false t8 (.int .i64 1) fun t116 =>
 Kb18 (zfH t0 t5 t6 t7 t116) H)
 (zac .gtr false t8 (.int .i64 24) fun t118 =>
 zag t118
 (zav [.snil, t6, (.int .i64 9)] (K · H))
 (ACalls tP zem [t7] H fun t121 H =>
 zag t121
 (zdy t0 t5 t6 t8 (.int .i64 2) H K Kb5)
 (zac .add false t6 t8 fun t126 =>
 zaD 0 0 t0 (some t6) (some t126) fun t127 =>
 ACalls tP zgh [t127] H fun t128 H =>
 zag t128
 (zdy t0 t5 t6 t8 (.int .i64 4) H K Kb5)
 (zdy t0 t5 t6 t8 (.int .i64 1) H K Kb5))))
def zg9 (t0 t5 t6 t7 t8 : AV) : List AV := t0 :: ux 4 (t5 :: t6 :: t7 :: t8 :: ux 191 [])
def zwn : List Bool := zcg 29
noncomputable def zwg : Code := zao [1, 0, 1, 1, 1, 1, 0, 0, 1, 1, 1, 0, 0, 0, 0] zdW
def zwd (K : Kt) (Kb5 : Lt) : AExit → List AV → zaa → Prop := zap tP zcg [1, 0, 1, 1, 1, 1, 0, 0, 1, 1, 1, 0, 0, 0] zdW (zbz zhb Kb5 (zg5 K))
def zkX (t0 t5 t6 t7 t8 : AV) (H : zaa) (K : Kt) (Kb5 : Lt) : Prop := ALoop tP zwg (zwd K Kb5) (zg9 t0 t5 t6 t7 t8) H
def zkU (t0 t5 t6 t7 t8 : AV) (H : zaa) (K : Kt) (Kb5 : Lt) (Kb29 : Lt) : Prop :=
 zac .add false t6 t8 fun t146 =>
 zah 0 t0 fun t148 =>
 zac .lss false t146 t148 fun t149 =>
 zab t149 true H (fun K' => K' t0 H) fun t151 H =>
 zab t149 true H (fun K' => K' t6 H) fun t152 H =>
 zab t149 true H (fun K' => K' t8 H) fun t153 H =>
 zab t149 true H (fun K' => zac .add false t152 t153 (K' · H)) fun t154 H =>
 zab t149 true H (fun K' => za9 t151 t154 (K' · H)) fun t155 H =>
 zab t149 true H (fun K' => ACalls tP zfg [t155] H K') fun t156 H =>
 zai t149 t156 (.bool false) fun t157 =>
 zag t157
 (zac .add false t8 (.int .i64 1) fun t159 =>
 Kb29 (zg9 t0 t5 t6 t7 t159) H)
 (zac .gtr false t8 (.int .i64 1) fun t161 =>
 zab t161 true H (fun K' => K' t7 H) fun t163 H =>
 zab t161 true H (fun K' => zac .eql false t163 (.int .u8 48) (K' · H)) fun t164 H =>
 zai t161 t164 (.bool false) fun t165 =>
 zag t165
 (zav [.snil, t6, (.int .i64 2)] (K · H))
 (zac .add false t6 t8 fun t172 =>
 zaD 0 0 t0 (some t6) (some t172) fun t173 =>
 ACalls tP zen [t173] H fun t174 H =>
 zas t174 0 fun t175 =>
 zas t174 1 fun t176 =>
 aUn .not t176 fun t178 =>
 zag t178
 (zav [.snil, t6, (.int .i64 9)] (K · H))
 (zac .add false t6 t8 fun t185 =>
 zaD 0 0 t0 (some t6) (some t185) fun t186 =>
 zau [(.int .i64 0), (.str []), (.int .i64 0)] [(0, 1), (1, 1), (2, 1)] [(0, (.int .i64 3)), (1, t186), (2, t6)] fun t188 =>
 zax 3 [(.int .i64 0), (.str []), (.int .i64 0)] 1 [(0, t188)] fun t189 =>
 zar zaU 3 32 t5 t189 H fun t190 H =>
 zdz t0 t190 t6 t8 H K Kb5)))
def zg6 (t0 t5 t6 : AV) (H : zaa) (K : Kt) (Kb5 : Lt) : Prop :=
 zah 0 t0 fun t17 =>
 zac .lss false t6 t17 fun t18 =>
 zag t18
 (za9 t0 t6 fun t21 =>
 zac .eql false t21 (.int .u8 9) fun t23 =>
 zab t23 false H (fun K' => K' t21 H) fun t25 H =>
 zab t23 false H (fun K' => zac .eql false t25 (.int .u8 10) (K' · H)) fun t26 H =>
 zai t23 (.bool true) t26 fun t27 =>
 zab t27 false H (fun K' => K' t21 H) fun t29 H =>
 zab t27 false H (fun K' => zac .eql false t29 (.int .u8 13) (K' · H)) fun t30 H =>
 zai t27 (.bool true) t30 fun t31 =>
 zab t31 false H (fun K' => K' t21 H) fun t33 H =>
 zab t31 false H (fun K' => zac .eql false t33 (.int .u8 32) (K' · H)) fun t34 H =>
 zai t31 (.bool true) t34 fun t35 =>
 zag t35
 (zac .add false t6 (.int .i64 1) fun t37 =>
 zdx t0 t5 t37 H K Kb5)
 (zac .eql false t21 (.int .u8 35) fun t39 =>
 zag t39
 (zqd t0 t5 t6 H K Kb5)
 (ACalls tP zgg [t21] H fun t72 H =>
 zab t72 false H (fun K' => K' t21 H) fun t74 H =>
 zab t72 false H (fun K' => ACalls tP zem [t74] H K') fun t75 H =>
 zai t72 (.bool true) t75 fun t76 =>
 zag t76
 (zkW t0 t5 t6 t21 (.int .i64 1) H K Kb5)
 (ACalls tP zfg [t21] H fun t143 H =>
 zag t143
 (zkX t0 t5 t6 t21 (.int .i64 1) H K Kb5)
 (zaD 0 0 t0 (some t6) none fun t54 =>
 ACalls tP zjN [t54] H fun t55 H =>
 zac .eql false t55 (.int .i64 0) fun t57 =>
 zag t57
 (zav [.snil, t6, (.int .i64 2)] (K · H))
 (zac .add false t6 t55 fun t64 =>
 zaD 0 0 t0 (some t6) (some t64) fun t65 =>
 zau [(.int .i64 0), (.str []), (.int .i64 0)] [(0, 1), (1, 1), (2, 1)] [(0, (.int .i64 5)), (1, t65), (2, t6)] fun t67 =>
 zax 3 [(.int .i64 0), (.str []), (.int .i64 0)] 1 [(0, t67)] fun t68 =>
 zar zaU 3 32 t5 t68 H fun t69 H =>
 zdz t0 t69 t6 t55 H K Kb5))))))
 (zah 0 t0 fun t196 =>
 zau [(.int .i64 0), (.str []), (.int .i64 0)] [(0, 1), (1, 1), (2, 1)] [(0, (.int .i64 6)), (1, (.str [])), (2, t196)] fun t197 =>
 zax 3 [(.int .i64 0), (.str []), (.int .i64 0)] 1 [(0, t197)] fun t198 =>
 zar zaU 3 32 t5 t198 H fun t199 H =>
 zav [t199, (.int .i64 0), (.int .i64 0)] (K · H))
def zkR (t0 : AV) (H : zaa) (K : Kt) : Prop :=
 zah 0 t0 fun t13 =>
 zac .gtr false t13 (.int .i64 16384) fun t14 =>
 zag t14
 (zav [.snil, (.int .i64 0), (.int .i64 9)] (K · H))
 (zha t0 .snil (.int .i64 0) H K)
theorem zwh {t0 t5 t6 : AV} {H : zaa} {K : Kt} {Kb5 : Lt} (Inv : Nat → AV → zaa → Prop) (n : Nat) (h0 : HSc H → Inv n t6 H)
  (round : Rd1 (fun t6 => zg8 t0 t5 t6) (fun t6 => fun H Kb10 => zkS t0 t5 t6 H K Kb5 Kb10) H Inv) : zqd t0 t5 t6 H K Kb5 :=
 lp1 (M := zcg) zwl t6 (by kernel_rfl) Inv n h0 round
theorem zwi {t0 t5 t6 t7 t8 : AV} {H : zaa} {K : Kt} {Kb5 : Lt} (Inv : Nat → AV → zaa → Prop) (n : Nat) (h0 : HSc H → Inv n t8 H)
  (round : Rd1 (fun t8 => zfH t0 t5 t6 t7 t8) (fun t8 => fun H Kb18 => zkT t0 t5 t6 t7 t8 H K Kb5 Kb18) H Inv) : zkW t0 t5 t6 t7 t8 H K Kb5 :=
 lp1 (M := zcg) zwm t8 (by kernel_rfl) Inv n h0 round
theorem zwj {t0 t5 t6 t7 t8 : AV} {H : zaa} {K : Kt} {Kb5 : Lt} (Inv : Nat → AV → zaa → Prop) (n : Nat) (h0 : HSc H → Inv n t8 H)
  (round : Rd1 (fun t8 => zg9 t0 t5 t6 t7 t8) (fun t8 => fun H Kb29 => zkU t0 t5 t6 t7 t8 H K Kb5 Kb29) H Inv) : zkX t0 t5 t6 t7 t8 H K Kb5 :=
 lp1 (M := zcg) zwn t8 (by kernel_rfl) Inv n h0 round
theorem zwk {t0 t5 t6 : AV} {H : zaa} {K : Kt} (Inv : Nat → AV → AV → zaa → Prop) (n : Nat) (h0 : HSc H → Inv n t5 t6 H)
  (round : Rd2 (fun t5 => fun t6 => zdX t0 t5 t6) (fun t5 => fun t6 => fun H Kb5 => zg6 t0 t5 t6 H K Kb5) H Inv) : zha t0 t5 t6 H K :=
 lp2 (M := zcg) zhb t5 t6 (by kernel_rfl) Inv n h0 round
theorem zwo {t0 : AV} {H : zaa} {K : Kt} (h : HSc H → zkR t0 H K) : ACalls tP zjL [t0] H K :=
 zan (M := zcg) Tryz.func103 (c := zkV) (by kernel_rfl) (fun hs => Eq.mpr (by kernel_rfl) (h hs))
def zxu (_ : Nat) : List Bool := []
noncomputable def zxv : Code := Tryz.f135.body.getD .skip
def zqA (t0 : AV) (H : zaa) (K : Kt) : Prop :=
 zac .eql false t0 (.int .u8 9) fun t4 =>
 zab t4 false H (fun K' => K' t0 H) fun t6 H =>
 zab t4 false H (fun K' => zac .eql false t6 (.int .u8 10) (K' · H)) fun t7 H =>
 zai t4 (.bool true) t7 fun t8 =>
 zab t8 false H (fun K' => K' t0 H) fun t10 H =>
 zab t8 false H (fun K' => zac .eql false t10 (.int .u8 13) (K' · H)) fun t11 H =>
 zai t8 (.bool true) t11 fun t12 =>
 zab t12 false H (fun K' => K' t0 H) fun t14 H =>
 zab t12 false H (fun K' => zac .eql false t14 (.int .u8 32) (K' · H)) fun t15 H =>
 zai t12 (.bool true) t15 fun t16 =>
 K t16 H
theorem zxw {t0 : AV} {H : zaa} {K : Kt} (h : HSc H → zqA t0 H K) : ACalls tP zjQ [t0] H K :=
 zan (M := zxu) Tryz.func135 (c := zxv) (by kernel_rfl) (fun hs => Eq.mpr (by kernel_rfl) (h hs))
end Go.Proofs.YtacebbdfgbfgiaaGreat
namespace Go.Proofs.YtacebbdfgbfgiaaGreat
open Go Go.Abs
set_option maxRecDepth 100000
def zxx (_ : Nat) : List Bool := []
noncomputable def zxy : Code := Tryz.f136.body.getD .skip
def zqB (t4 t6 : AV) (H : zaa) (K : Kt) : Prop :=
 zad true 3 t6 H fun t74 =>
 zak 3 t4 t74 H fun H =>
 zad true 3 t4 H fun r0 =>
 zav [r0, (.int .i64 0)] (K · H)
def zeJ (t4 t6 : AV) (H : zaa) (K : Kt) : Prop :=
 zqB t4 t6 H K
def zeI (t4 t6 : AV) (H : zaa) (K : Kt) : Prop :=
 zeJ t4 t6 H K
def zle (t0 t1 : AV) (H : zaa) (K : Kt) : Prop :=
 zat [(.int .i64 0), (.str []), (.int .i64 0)] H fun t4 H =>
 zau [(.int .i64 0), (.str []), (.int .i64 0)] [(0, 1), (1, 1), (2, 1)] [(2, t1)] fun t9 =>
 zat [(.int .i64 0), (.str []), (.int .i64 0)] H fun t6 H =>
 zak 3 t6 t9 H fun H =>
 za9 t0 t1 fun t12 =>
 ACalls tP zgk [t12] H fun t25 H =>
 zab t25 false H (fun K' => K' t12 H) fun t27 H =>
 zab t25 false H (fun K' => ACalls tP zfi [t27] H K') fun t28 H =>
 zai t25 (.bool true) t28 fun t29 =>
 zag t29
 (zaD 0 0 t0 (some t1) none fun t32 =>
 ACalls tP zgl [t32, (.fn zfj [])] H fun t33 H =>
 zaf 1 t6 fun t34 =>
 zak 1 t34 t33 H fun H =>
 zaf 1 t6 fun t37 =>
 zad false 1 t37 H fun t38 =>
 zah 0 t38 fun t39 =>
 zac .gtr false t39 (.int .i64 24) fun t40 =>
 zag t40
 (zau [(.int .i64 0), (.str []), (.int .i64 0)] [(0, 1), (1, 1), (2, 1)] [] fun t41 =>
 zak 3 t4 t41 H fun H =>
 zad true 3 t4 H fun r0 =>
 zav [r0, (.int .i64 9)] (K · H))
 (ACalls tP zfi [t12] H fun t44 H =>
 zag t44
 (zaf 0 t6 fun t45 =>
 zak 1 t45 (.int .i64 2) H fun H =>
 zeI t4 t6 H K)
 (zaf 1 t6 fun t47 =>
 zad false 1 t47 H fun t48 =>
 ACalls tP zjS [t48] H fun t49 H =>
 zag t49
 (zaf 0 t6 fun t50 =>
 zak 1 t50 (.int .i64 4) H fun H =>
 zeI t4 t6 H K)
 (zaf 0 t6 fun t35 =>
 zak 1 t35 (.int .i64 1) H fun H =>
 zeI t4 t6 H K))))
 (ACalls tP zdQ [t12] H fun t53 H =>
 zag t53
 (zaf 0 t6 fun t54 =>
 zak 1 t54 (.int .i64 3) H fun H =>
 zaD 0 0 t0 (some t1) none fun t57 =>
 ACalls tP zgl [t57, (.fn zdQ [])] H fun t58 H =>
 zaf 1 t6 fun t59 =>
 zak 1 t59 t58 H fun H =>
 zac .eql false t12 (.int .u8 48) fun t61 =>
 zab t61 true H (fun K' => zaf 1 t6 (K' · H)) fun t63 H =>
 zab t61 true H (fun K' => zad false 1 t63 H (K' · H)) fun t64 H =>
 zab t61 true H (fun K' => zah 0 t64 (K' · H)) fun t65 H =>
 zab t61 true H (fun K' => zac .gtr false t65 (.int .i64 1) (K' · H)) fun t66 H =>
 zai t61 t66 (.bool false) fun t67 =>
 zag t67
 (zau [(.int .i64 0), (.str []), (.int .i64 0)] [(0, 1), (1, 1), (2, 1)] [] fun t68 =>
 zak 3 t4 t68 H fun H =>
 zad true 3 t4 H fun r0 =>
 zav [r0, (.int .i64 2)] (K · H))
 (zaf 1 t6 fun t69 =>
 zad false 1 t69 H fun t70 =>
 ACalls tP zfk [t70] H fun t71 H =>
 aUn .not t71 fun t72 =>
 zag t72
 (zau [(.int .i64 0), (.str []), (.int .i64 0)] [(0, 1), (1, 1), (2, 1)] [] fun t73 =>
 zak 3 t4 t73 H fun H =>
 zad true 3 t4 H fun r0 =>
 zav [r0, (.int .i64 9)] (K · H))
 (zeJ t4 t6 H K)))
 (zaf 0 t6 fun t13 =>
 zak 1 t13 (.int .i64 5) H fun H =>
 zaD 0 0 t0 (some t1) none fun t16 =>
 ACalls tP zjT [t16] H fun t17 H =>
 zaf 1 t6 fun t18 =>
 zak 1 t18 t17 H fun H =>
 zaf 1 t6 fun t19 =>
 zad false 1 t19 H fun t20 =>
 zac .eql false t20 (.str []) fun t21 =>
 zag t21
 (zau [(.int .i64 0), (.str []), (.int .i64 0)] [(0, 1), (1, 1), (2, 1)] [] fun t22 =>
 zak 3 t4 t22 H fun H =>
 zad true 3 t4 H fun r0 =>
 zav [r0, (.int .i64 2)] (K · H))
 (zeJ t4 t6 H K)))
theorem zxz {t0 t1 : AV} {H : zaa} {K : Kt} (h : HSc H → zle t0 t1 H K) : ACalls tP zjR [t0, t1] H K :=
 zan (M := zxx) Tryz.func136 (c := zxy) (by kernel_rfl) (fun hs => Eq.mpr (by kernel_rfl) (h hs))
def zwG (_ : Nat) : List Bool := []
noncomputable def zwH : Code := Tryz.f116.body.getD .skip
def zql (t0 : AV) (H : zaa) (K : Kt) : Prop :=
 zac .geq false t0 (.int .u8 97) fun t4 =>
 zab t4 true H (fun K' => K' t0 H) fun t6 H =>
 zab t4 true H (fun K' => zac .leq false t6 (.int .u8 122) (K' · H)) fun t7 H =>
 zai t4 t7 (.bool false) fun t8 =>
 K t8 H
theorem zwI {t0 : AV} {H : zaa} {K : Kt} (h : HSc H → zql t0 H K) : ACalls tP zgg [t0] H K :=
 zan (M := zwG) Tryz.func116 (c := zwH) (by kernel_rfl) (fun hs => Eq.mpr (by kernel_rfl) (h hs))
def zwJ (_ : Nat) : List Bool := []
noncomputable def zwK : Code := Tryz.f117.body.getD .skip
def zqm (t0 : AV) (H : zaa) (K : Kt) : Prop :=
 zac .geq false t0 (.int .u8 65) fun t4 =>
 zab t4 true H (fun K' => K' t0 H) fun t6 H =>
 zab t4 true H (fun K' => zac .leq false t6 (.int .u8 90) (K' · H)) fun t7 H =>
 zai t4 t7 (.bool false) fun t8 =>
 K t8 H
theorem zwL {t0 : AV} {H : zaa} {K : Kt} (h : HSc H → zqm t0 H K) : ACalls tP zem [t0] H K :=
 zan (M := zwJ) Tryz.func117 (c := zwK) (by kernel_rfl) (fun hs => Eq.mpr (by kernel_rfl) (h hs))
def zwM (_ : Nat) : List Bool := []
noncomputable def zwN : Code := Tryz.f118.body.getD .skip
def zqn (t0 : AV) (H : zaa) (K : Kt) : Prop :=
 zac .geq false t0 (.int .u8 48) fun t4 =>
 zab t4 true H (fun K' => K' t0 H) fun t6 H =>
 zab t4 true H (fun K' => zac .leq false t6 (.int .u8 57) (K' · H)) fun t7 H =>
 zai t4 t7 (.bool false) fun t8 =>
 K t8 H
theorem zwO {t0 : AV} {H : zaa} {K : Kt} (h : HSc H → zqn t0 H K) : ACalls tP zfg [t0] H K :=
 zan (M := zwM) Tryz.func118 (c := zwN) (by kernel_rfl) (fun hs => Eq.mpr (by kernel_rfl) (h hs))
def zhd : Nat → List Bool
 | 3 => rl false [0,1,2,2,13]
 | _ => []
noncomputable def zk0 : Code := Tryz.f119.body.getD .skip
noncomputable def zwU : List ResultVar := Tryz.f119.results.toList
def zhf (t0 t3 t4 : AV) : List AV := t0 :: ux 2 (t3 :: t4 :: ux 13 [])
def zwS : List Bool := zhd 3
noncomputable def zwQ : Code := zao [1, 1, 0, 1, 0, 0] zk0
def zwP (K : Kt) : AExit → List AV → zaa → Prop := zap tP zhd [1, 1, 0, 1, 0] zk0 (zaw tP zwU K)
def zk1 (t0 t3 t4 : AV) (H : zaa) (K : Kt) : Prop := ALoop tP zwQ (zwP K) (zhf t0 t3 t4) H
def zhe (t0 t3 t4 : AV) (H : zaa) (K : Kt) (Kb3 : Lt) : Prop :=
 zah 1 t3 fun t8 =>
 zac .lss false t4 t8 fun t9 =>
 zag t9
 (zaj 1 t3 t4 fun t14 =>
 zad false 1 t14 H fun t15 =>
 zac .eql false t15 t0 fun t17 =>
 zag t17
 (K (.bool true) H)
 (zac .add false t4 (.int .i64 1) fun t11 =>
 Kb3 (zhf t0 t3 t11) H))
 (K (.bool false) H)
def zqo (t0 : AV) (H : zaa) (K : Kt) : Prop :=
 zax 1 [(.str [])] 28 [(0, (.str [97, 114, 114, 97, 121])), (1, (.str [98, 111, 111, 108])), (2, (.str [99, 97, 116, 99, 104])), (3, (.str [100, 97, 116, 97])), (4, (.str [101, 108, 115, 101])), (5, (.str [101, 110, 100])), (6, (.str [102, 97, 108, 115, 101])), (7, (.str [102, 110])), (8, (.str [102, 117, 110])), (9, (.str [103, 101, 116])), (10, (.str [105, 102])), (11, (.str [105, 110])), (12, (.str [105, 110, 116])), (13, (.str [108, 101, 110])), (14, (.str [108, 101, 116])), (15, (.str [109, 97, 116, 99, 104])), (16, (.str [110, 101, 119])), (17, (.str [114, 97, 105, 115, 101])), (18, (.str [114, 101, 97, 100])), (19, (.str [114, 101, 102])), (20, (.str [115, 101, 116])), (21, (.str [116, 104, 101, 110])), (22, (.str [116, 105, 99, 107])), (23, (.str [116, 114, 117, 101])), (24, (.str [116, 114, 121])), (25, (.str [117, 110, 105, 116])), (26, (.str [119, 105, 116, 104])), (27, (.str [119, 114, 105, 116, 101]))] fun t5 =>
 zk1 t0 t5 (.int .i64 0) H K
theorem zwR {t0 t3 t4 : AV} {H : zaa} {K : Kt} (Inv : Nat → AV → zaa → Prop) (n : Nat) (h0 : HSc H → Inv n t4 H)
  (round : Rd1 (fun t4 => zhf t0 t3 t4) (fun t4 => fun H Kb3 => zhe t0 t3 t4 H K Kb3) H Inv) : zk1 t0 t3 t4 H K :=
 lp1 (M := zhd) zwS t4 (by kernel_rfl) Inv n h0 round
theorem zwT {t0 : AV} {H : zaa} {K : Kt} (h : HSc H → zqo t0 H K) : ACalls tP zgh [t0] H K :=
 zan (M := zhd) Tryz.func119 (c := zk0) (by kernel_rfl) (fun hs => Eq.mpr (by kernel_rfl) (h hs))
def zhg : Nat → List Bool
 | 3 => rl false [0,1,3,2,17]
 | _ => []
noncomputable def zk3 : Code := Tryz.f120.body.getD .skip
noncomputable def zw0 : List ResultVar := Tryz.f120.results.toList
def zhh (t0 t4 t5 : AV) : List AV := t0 :: ux 3 (t4 :: t5 :: ux 17 [])
def zwY : List Bool := zhg 3
noncomputable def zwW : Code := zao [1, 1, 0, 1, 0, 0] zk3
def zwV (K : Kt) : AExit → List AV → zaa → Prop := zap tP zhg [1, 1, 0, 1, 0] zk3 (zaw tP zw0 K)
def zqq (t0 t4 t5 : AV) (H : zaa) (K : Kt) : Prop := ALoop tP zwW (zwV K) (zhh t0 t4 t5) H
def zk2 (t0 t4 t5 : AV) (H : zaa) (K : Kt) (Kb3 : Lt) : Prop :=
 zah 0 t0 fun t8 =>
 zac .lss false t5 t8 fun t9 =>
 zag t9
 (zac .mul false t4 (.int .i64 10) fun t13 =>
 za9 t0 t5 fun t16 =>
 zac .sub false t16 (.int .u8 48) fun t17 =>
 zcj .i64 t17 fun t18 =>
 zac .add false t13 t18 fun t19 =>
 zac .gtr false t19 (.int .i64 1000000) fun t21 =>
 zag t21
 (zav [(.int .i64 0), (.bool false)] (K · H))
 (zac .add false t5 (.int .i64 1) fun t11 =>
 Kb3 (zhh t0 t19 t11) H))
 (zav [t4, (.bool true)] (K · H))
def zqp (t0 : AV) (H : zaa) (K : Kt) : Prop :=
 zqq t0 (.int .i64 0) (.int .i64 0) H K
theorem zwX {t0 t4 t5 : AV} {H : zaa} {K : Kt} (Inv : Nat → AV → AV → zaa → Prop) (n : Nat) (h0 : HSc H → Inv n t4 t5 H)
  (round : Rd2 (fun t4 => fun t5 => zhh t0 t4 t5) (fun t4 => fun t5 => fun H Kb3 => zk2 t0 t4 t5 H K Kb3) H Inv) : zqq t0 t4 t5 H K :=
 lp2 (M := zhg) zwY t4 t5 (by kernel_rfl) Inv n h0 round
theorem zwZ {t0 : AV} {H : zaa} {K : Kt} (h : HSc H → zqp t0 H K) : ACalls tP zen [t0] H K :=
 zan (M := zhg) Tryz.func120 (c := zk3) (by kernel_rfl) (fun hs => Eq.mpr (by kernel_rfl) (h hs))
def zhi : Nat → List Bool
 | 5 => rl false [0,1,2,2,30]
 | _ => []
noncomputable def zk4 : Code := Tryz.f121.body.getD .skip
noncomputable def zw6 : List ResultVar := Tryz.f121.results.toList
def zhk (t0 t3 t4 : AV) : List AV := t0 :: ux 2 (t3 :: t4 :: ux 30 [])
def zw4 : List Bool := zhi 5
noncomputable def zw2 : Code := zao [1, 1, 1, 0, 1, 0, 0] zk4
def zw1 (K : Kt) : AExit → List AV → zaa → Prop := zap tP zhi [1, 1, 1, 0, 1, 0] zk4 (zaw tP zw6 K)
def zk5 (t0 t3 t4 : AV) (H : zaa) (K : Kt) : Prop := ALoop tP zw2 (zw1 K) (zhk t0 t3 t4) H
def zhj (t0 t3 t4 : AV) (H : zaa) (K : Kt) (Kb5 : Lt) : Prop :=
 zah 0 t3 fun t25 =>
 zac .lss false t4 t25 fun t26 =>
 zag t26
 (zae H (fun K' => K' t0 H) fun t29 =>
 zae H (fun K' => za9 t29 (.int .i64 0) (K' · H)) fun t30 =>
 zae H (fun K' => K' t3 H) fun t31 =>
 zae H (fun K' => K' t4 H) fun t32 =>
 zae H (fun K' => za9 t31 t32 (K' · H)) fun t33 =>
 zae H (fun K' => zac .eql false t30 t33 (K' · H)) fun t34 =>
 zag t34
 (K (.int .i64 1) H)
 (zac .add false t4 (.int .i64 1) fun t28 =>
 Kb5 (zhk t0 t3 t28) H))
 (K (.int .i64 0) H)
def zeF (t0 : AV) (H : zaa) (K : Kt) : Prop :=
 zah 0 t0 fun t6 =>
 zac .geq false t6 (.int .i64 2) fun t7 =>
 zab t7 true H (fun K' => K' t0 H) fun t9 H =>
 zab t7 true H (fun K' => zaD 0 0 t9 none (some (.int .i64 2)) (K' · H)) fun t10 H =>
 zab t7 true H (fun K' => zac .eql false t10 (.str [45, 62]) (K' · H)) fun t11 H =>
 zab t7 true H (fun K' => K' t11 H) fun t12 H =>
 zab t12 false H (fun K' => K' t0 H) fun t13 H =>
 zab t12 false H (fun K' => zaD 0 0 t13 none (some (.int .i64 2)) (K' · H)) fun t14 H =>
 zab t12 false H (fun K' => zac .eql false t14 (.str [60, 61]) (K' · H)) fun t15 H =>
 zab t7 true H (fun K' => zai t12 (.bool true) t15 (K' · H)) fun t16 H =>
 zab t7 true H (fun K' => K' t16 H) fun t17 H =>
 zab t17 false H (fun K' => K' t0 H) fun t18 H =>
 zab t17 false H (fun K' => zaD 0 0 t18 none (some (.int .i64 2)) (K' · H)) fun t19 H =>
 zab t17 false H (fun K' => zac .eql false t19 (.str [61, 61]) (K' · H)) fun t20 H =>
 zab t7 true H (fun K' => zai t17 (.bool true) t20 (K' · H)) fun t21 H =>
 zai t7 t21 (.bool false) fun t22 =>
 zag t22
 (K (.int .i64 2) H)
 (zk5 t0 (.str [40, 41, 44, 61, 124, 43, 45, 42, 47, 37, 60, 59, 95]) (.int .i64 0) H K)
theorem zw3 {t0 t3 t4 : AV} {H : zaa} {K : Kt} (Inv : Nat → AV → zaa → Prop) (n : Nat) (h0 : HSc H → Inv n t4 H)
  (round : Rd1 (fun t4 => zhk t0 t3 t4) (fun t4 => fun H Kb5 => zhj t0 t3 t4 H K Kb5) H Inv) : zk5 t0 t3 t4 H K :=
 lp1 (M := zhi) zw4 t4 (by kernel_rfl) Inv n h0 round
theorem zw5 {t0 : AV} {H : zaa} {K : Kt} (h : HSc H → zeF t0 H K) : ACalls tP zjN [t0] H K :=
 zan (M := zhi) Tryz.func121 (c := zk4) (by kernel_rfl) (fun hs => Eq.mpr (by kernel_rfl) (h hs))
def zxD (_ : Nat) : List Bool := []
noncomputable def zxE : Code := Tryz.f141.body.getD .skip
def zqD (t0 : AV) (H : zaa) (K : Kt) : Prop :=
 zac .geq false t0 (.int .u8 97) fun t4 =>
 zab t4 true H (fun K' => K' t0 H) fun t6 H =>
 zab t4 true H (fun K' => zac .leq false t6 (.int .u8 122) (K' · H)) fun t7 H =>
 zai t4 t7 (.bool false) fun t8 =>
 K t8 H
theorem zxF {t0 : AV} {H : zaa} {K : Kt} (h : HSc H → zqD t0 H K) : ACalls tP zgk [t0] H K :=
 zan (M := zxD) Tryz.func141 (c := zxE) (by kernel_rfl) (fun hs => Eq.mpr (by kernel_rfl) (h hs))
def zxM (_ : Nat) : List Bool := []
noncomputable def zxN : Code := Tryz.f142.body.getD .skip
def zqE (t0 : AV) (H : zaa) (K : Kt) : Prop :=
 zac .geq false t0 (.int .u8 65) fun t4 =>
 zab t4 true H (fun K' => K' t0 H) fun t6 H =>
 zab t4 true H (fun K' => zac .leq false t6 (.int .u8 90) (K' · H)) fun t7 H =>
 zai t4 t7 (.bool false) fun t8 =>
 K t8 H
theorem zxO {t0 : AV} {H : zaa} {K : Kt} (h : HSc H → zqE t0 H K) : ACalls tP zfi [t0] H K :=
 zan (M := zxM) Tryz.func142 (c := zxN) (by kernel_rfl) (fun hs => Eq.mpr (by kernel_rfl) (h hs))
def zhv : Nat → List Bool
 | 2 => rl false [0,2,3,1,16]
 | _ => []
noncomputable def zlj : Code := Tryz.f143.body.getD .skip
noncomputable def zxU : List ResultVar := Tryz.f143.results.toList
def zhw (t0 t1 t5 : AV) : List AV := t0 :: t1 :: ux 3 (t5 :: ux 16 [])
def zxS : List Bool := zhv 2
noncomputable def zxQ : Code := zao [1, 1, 0, 0, 0] zlj
def zxP (K : Kt) : AExit → List AV → zaa → Prop := zap tP zhv [1, 1, 0, 0] zlj (zaw tP zxU K)
def zqG (t0 t1 t5 : AV) (H : zaa) (K : Kt) : Prop := ALoop tP zxQ (zxP K) (zhw t0 t1 t5) H
def zli (t0 t1 t5 : AV) (H : zaa) (K : Kt) (Kb2 : Lt) : Prop :=
 zah 0 t0 fun t8 =>
 zac .lss false t5 t8 fun t9 =>
 zab t9 true H (fun K' => K' t1 H) fun t11 H =>
 zab t9 true H (fun K' => K' t0 H) fun t12 H =>
 zab t9 true H (fun K' => K' t5 H) fun t13 H =>
 zab t9 true H (fun K' => za9 t12 t13 (K' · H)) fun t14 H =>
 zab t9 true H (fun K' => aCallV tP t11 [t14] H K') fun t15 H =>
 zai t9 t15 (.bool false) fun t16 =>
 zag t16
 (zac .add false t5 (.int .i64 1) fun t18 =>
 Kb2 (zhw t0 t1 t18) H)
 (zaD 0 0 t0 none (some t5) fun t21 =>
 K t21 H)
def zqF (t0 t1 : AV) (H : zaa) (K : Kt) : Prop :=
 zqG t0 t1 (.int .i64 0) H K
theorem zxR {t0 t1 t5 : AV} {H : zaa} {K : Kt} (Inv : Nat → AV → zaa → Prop) (n : Nat) (h0 : HSc H → Inv n t5 H)
  (round : Rd1 (fun t5 => zhw t0 t1 t5) (fun t5 => fun H Kb2 => zli t0 t1 t5 H K Kb2) H Inv) : zqG t0 t1 t5 H K :=
 lp1 (M := zhv) zxS t5 (by kernel_rfl) Inv n h0 round
theorem zxT {t0 t1 : AV} {H : zaa} {K : Kt} (h : HSc H → zqF t0 t1 H K) : ACalls tP zgl [t0, t1] H K :=
 zan (M := zhv) Tryz.func143 (c := zlj) (by kernel_rfl) (fun hs => Eq.mpr (by kernel_rfl) (h hs))
def zxV (_ : Nat) : List Bool := []
noncomputable def zxW : Code := Tryz.f144.body.getD .skip
def zqH (t0 : AV) (H : zaa) (K : Kt) : Prop :=
 ACalls tP zgk [t0] H fun t4 H =>
 zab t4 false H (fun K' => K' t0 H) fun t6 H =>
 zab t4 false H (fun K' => ACalls tP zfi [t6] H K') fun t7 H =>
 zai t4 (.bool true) t7 fun t8 =>
 zab t8 false H (fun K' => K' t0 H) fun t10 H =>
 zab t8 false H (fun K' => ACalls tP zdQ [t10] H K') fun t11 H =>
 zai t8 (.bool true) t11 fun t12 =>
 zab t12 false H (fun K' => K' t0 H) fun t14 H =>
 zab t12 false H (fun K' => zac .eql false t14 (.int .u8 95) (K' · H)) fun t15 H =>
 zai t12 (.bool true) t15 fun t16 =>
 K t16 H
theorem zxX {t0 : AV} {H : zaa} {K : Kt} (h : HSc H → zqH t0 H K) : ACalls tP zfj [t0] H K :=
 zan (M := zxV) Tryz.func144 (c := zxW) (by kernel_rfl) (fun hs => Eq.mpr (by kernel_rfl) (h hs))
def zxY (_ : Nat) : List Bool := []
noncomputable def zxZ : Code := Tryz.f145.body.getD .skip
def zaR (t4 : AV) (H : zaa) (K : Kt) : Prop :=
 zag t4
 (K (.bool true) H)
 (K (.bool false) H)
def zqI (t0 : AV) (H : zaa) (K : Kt) : Prop :=
 zac .eql false t0 (.str [97, 114, 114, 97, 121]) fun t5 =>
 zag t5
 (zaR t5 H K)
 (zac .eql false t0 (.str [98, 111, 111, 108]) fun t6 =>
 zag t6
 (zaR t6 H K)
 (zac .eql false t0 (.str [99, 97, 116, 99, 104]) fun t7 =>
 zag t7
 (zaR t7 H K)
 (zac .eql false t0 (.str [100, 97, 116, 97]) fun t8 =>
 zag t8
 (zaR t8 H K)
 (zac .eql false t0 (.str [101, 108, 115, 101]) fun t9 =>
 zag t9
 (zaR t9 H K)
 (zac .eql false t0 (.str [101, 110, 100]) fun t10 =>
 zag t10
 (zaR t10 H K)
 (zac .eql false t0 (.str [102, 97, 108, 115, 101]) fun t11 =>
 zag t11
 (zaR t11 H K)
 (zac .eql false t0 (.str [102, 110]) fun t12 =>
 zag t12
 (zaR t12 H K)
 (zac .eql false t0 (.str [102, 117, 110]) fun t13 =>
 zag t13
 (zaR t13 H K)
 (zac .eql false t0 (.str [103, 101, 116]) fun t14 =>
 zag t14
 (zaR t14 H K)
 (zac .eql false t0 (.str [105, 102]) fun t15 =>
 zag t15
 (zaR t15 H K)
 (zac .eql false t0 (.str [105, 110]) fun t16 =>
 zag t16
 (zaR t16 H K)
 (zac .eql false t0 (.str [105, 110, 116]) fun t17 =>
 zag t17
 (zaR t17 H K)
 (zac .eql false t0 (.str [108, 101, 110]) fun t18 =>
 zag t18
 (zaR t18 H K)
 (zac .eql false t0 (.str [108, 101, 116]) fun t19 =>
 zag t19
 (zaR t19 H K)
 (zac .eql false t0 (.str [109, 97, 116, 99, 104]) fun t20 =>
 zag t20
 (zaR t20 H K)
 (zac .eql false t0 (.str [110, 101, 119]) fun t21 =>
 zag t21
 (zaR t21 H K)
 (zac .eql false t0 (.str [114, 97, 105, 115, 101]) fun t22 =>
 zag t22
 (zaR t22 H K)
 (zac .eql false t0 (.str [114, 101, 97, 100]) fun t23 =>
 zag t23
 (zaR t23 H K)
 (zac .eql false t0 (.str [114, 101, 102]) fun t24 =>
 zag t24
 (zaR t24 H K)
 (zac .eql false t0 (.str [115, 101, 116]) fun t25 =>
 zag t25
 (zaR t25 H K)
 (zac .eql false t0 (.str [116, 104, 101, 110]) fun t26 =>
 zag t26
 (zaR t26 H K)
 (zac .eql false t0 (.str [116, 105, 99, 107]) fun t27 =>
 zag t27
 (zaR t27 H K)
 (zac .eql false t0 (.str [116, 114, 117, 101]) fun t28 =>
 zag t28
 (zaR t28 H K)
 (zac .eql false t0 (.str [116, 114, 121]) fun t29 =>
 zag t29
 (zaR t29 H K)
 (zac .eql false t0 (.str [117, 110, 105, 116]) fun t30 =>
 zag t30
 (zaR t30 H K)
 (zac .eql false t0 (.str [119, 105, 116, 104]) fun t31 =>
 zag t31
 (zaR t31 H K)
 (zac .eql false t0 (.str [119, 114, 105, 116, 101]) fun t32 =>
 zaR t32 H K)))))))))))))))))))))))))))
theorem zx0 {t0 : AV} {H : zaa} {K : Kt} (h : HSc H → zqI t0 H K) : ACalls tP zjS [t0] H K :=
 zan (M := zxY) Tryz.func145 (c := zxZ) (by kernel_rfl) (fun hs => Eq.mpr (by kernel_rfl) (h hs))
def zx1 (_ : Nat) : List Bool := []
noncomputable def zx2 : Code := Tryz.f146.body.getD .skip
def zqJ (t0 : AV) (H : zaa) (K : Kt) : Prop :=
 zac .geq false t0 (.int .u8 48) fun t4 =>
 zab t4 true H (fun K' => K' t0 H) fun t6 H =>
 zab t4 true H (fun K' => zac .leq false t6 (.int .u8 57) (K' · H)) fun t7 H =>
 zai t4 t7 (.bool false) fun t8 =>
 K t8 H
theorem zx3 {t0 : AV} {H : zaa} {K : Kt} (h : HSc H → zqJ t0 H K) : ACalls tP zdQ [t0] H K :=
 zan (M := zx1) Tryz.func146 (c := zx2) (by kernel_rfl) (fun hs => Eq.mpr (by kernel_rfl) (h hs))
def zhx : Nat → List Bool
 | 3 => rl false [0,1,2,1,2,2,13]
 | _ => []
noncomputable def zll : Code := Tryz.f147.body.getD .skip
noncomputable def zx9 : List ResultVar := Tryz.f147.results.toList
def zhy (t0 t3 t6 t7 : AV) : List AV := t0 :: ux 2 (t3 :: ux 2 (t6 :: t7 :: ux 13 []))
def zx7 : List Bool := zhx 3
noncomputable def zx5 : Code := zao [1, 1, 0, 1, 0, 0] zll
def zx4 (K : Kt) : AExit → List AV → zaa → Prop := zap tP zhx [1, 1, 0, 1, 0] zll (zaw tP zx9 K)
def zqL (t0 t3 t6 t7 : AV) (H : zaa) (K : Kt) : Prop := ALoop tP zx5 (zx4 K) (zhy t0 t3 t6 t7) H
def zlk (t0 t3 t6 t7 : AV) (H : zaa) (K : Kt) (Kb3 : Lt) : Prop :=
 zac .lss false t7 t6 fun t8 =>
 zag t8
 (zac .mul false t3 (.int .i64 10) fun t11 =>
 za9 t0 t7 fun t14 =>
 zac .sub false t14 (.int .u8 48) fun t15 =>
 zcj .i64 t15 fun t16 =>
 zac .add false t11 t16 fun t17 =>
 zac .gtr false t17 (.int .i64 1000000) fun t19 =>
 zag t19
 (K (.bool false) H)
 (zac .add false t7 (.int .i64 1) fun t20 =>
 Kb3 (zhy t0 t17 t6 t20) H))
 (K (.bool true) H)
def zqK (t0 : AV) (H : zaa) (K : Kt) : Prop :=
 zah 0 t0 fun t6 =>
 zqL t0 (.int .i64 0) t6 (.int .i64 0) H K
theorem zx6 {t0 t3 t6 t7 : AV} {H : zaa} {K : Kt} (Inv : Nat → AV → AV → zaa → Prop) (n : Nat) (h0 : HSc H → Inv n t3 t7 H)
  (round : Rd2 (fun t3 => fun t7 => zhy t0 t3 t6 t7) (fun t3 => fun t7 => fun H Kb3 => zlk t0 t3 t6 t7 H K Kb3) H Inv) : zqL t0 t3 t6 t7 H K :=
 lp2 (M := zhx) zx7 t3 t7 (by kernel_rfl) Inv n h0 round
theorem zx8 {t0 : AV} {H : zaa} {K : Kt} (h : HSc H → zqK t0 H K) : ACalls tP zfk [t0] H K :=
 zan (M := zhx) Tryz.func147 (c := zll) (by kernel_rfl) (fun hs => Eq.mpr (by kernel_rfl) (h hs))
def zya (_ : Nat) : List Bool := []
noncomputable def zyb : Code := Tryz.f148.body.getD .skip
def zbN (t0 t16 : AV) (H : zaa) (K : Kt) : Prop :=
 zag t16
 (zaD 0 0 t0 none (some (.int .i64 1)) fun t31 =>
 K t31 H)
 (K (.str []) H)
def zhz (t0 : AV) (H : zaa) (K : Kt) : Prop :=
 zaD 0 0 t0 none (some (.int .i64 1)) fun t15 =>
 zac .eql false t15 (.str [40]) fun t17 =>
 zag t17
 (zbN t0 t17 H K)
 (zac .eql false t15 (.str [41]) fun t18 =>
 zag t18
 (zbN t0 t18 H K)
 (zac .eql false t15 (.str [44]) fun t19 =>
 zag t19
 (zbN t0 t19 H K)
 (zac .eql false t15 (.str [61]) fun t20 =>
 zag t20
 (zbN t0 t20 H K)
 (zac .eql false t15 (.str [124]) fun t21 =>
 zag t21
 (zbN t0 t21 H K)
 (zac .eql false t15 (.str [43]) fun t22 =>
 zag t22
 (zbN t0 t22 H K)
 (zac .eql false t15 (.str [45]) fun t23 =>
 zag t23
 (zbN t0 t23 H K)
 (zac .eql false t15 (.str [42]) fun t24 =>
 zag t24
 (zbN t0 t24 H K)
 (zac .eql false t15 (.str [47]) fun t25 =>
 zag t25
 (zbN t0 t25 H K)
 (zac .eql false t15 (.str [37]) fun t26 =>
 zag t26
 (zbN t0 t26 H K)
 (zac .eql false t15 (.str [60]) fun t27 =>
 zag t27
 (zbN t0 t27 H K)
 (zac .eql false t15 (.str [59]) fun t28 =>
 zag t28
 (zbN t0 t28 H K)
 (zac .eql false t15 (.str [95]) fun t29 =>
 zbN t0 t29 H K))))))))))))
def zdZ (t0 t8 : AV) (H : zaa) (K : Kt) : Prop :=
 zag t8
 (zaD 0 0 t0 none (some (.int .i64 2)) fun t13 =>
 K t13 H)
 (zhz t0 H K)
def zeK (t0 : AV) (H : zaa) (K : Kt) : Prop :=
 zah 0 t0 fun t4 =>
 zac .geq false t4 (.int .i64 2) fun t5 =>
 zag t5
 (zaD 0 0 t0 none (some (.int .i64 2)) fun t7 =>
 zac .eql false t7 (.str [45, 62]) fun t9 =>
 zag t9
 (zdZ t0 t9 H K)
 (zac .eql false t7 (.str [60, 61]) fun t10 =>
 zag t10
 (zdZ t0 t10 H K)
 (zac .eql false t7 (.str [61, 61]) fun t11 =>
 zdZ t0 t11 H K)))
 (zhz t0 H K)
theorem zyc {t0 : AV} {H : zaa} {K : Kt} (h : HSc H → zeK t0 H K) : ACalls tP zjT [t0] H K :=
 zan (M := zya) Tryz.func148 (c := zyb) (by kernel_rfl) (fun hs => Eq.mpr (by kernel_rfl) (h hs))
def zwq (_ : Nat) : List Bool := []
noncomputable def zwr : Code := Tryz.f104.body.getD .skip
def zqe (t0 : AV) (H : zaa) (K : Kt) : Prop :=
 ACalls tP zjO [t0] H fun t8 H =>
 zas t8 0 fun t9 =>
 zas t8 1 fun t10 =>
 zas t8 2 fun t11 =>
 zac .eql false t11 (.int .i64 0) fun t13 =>
 zab t13 true H (fun K' => K' t9 H) fun t15 H =>
 zab t13 true H (fun K' => zah 1 t15 (K' · H)) fun t16 H =>
 zab t13 true H (fun K' => zac .eql false t16 (.int .i64 2) (K' · H)) fun t17 H =>
 zai t13 t17 (.bool false) fun t18 =>
 zab t18 true H (fun K' => K' t9 H) fun t20 H =>
 zab t18 true H (fun K' => zaj 3 t20 (.int .i64 0) (K' · H)) fun t21 H =>
 zab t18 true H (fun K' => zaf 0 t21 (K' · H)) fun t22 H =>
 zab t18 true H (fun K' => zad false 1 t22 H (K' · H)) fun t23 H =>
 zab t18 true H (fun K' => zac .eql false t23 (.int .i64 2) (K' · H)) fun t24 H =>
 zai t18 t24 (.bool false) fun t25 =>
 zab t25 true H (fun K' => K' t9 H) fun t27 H =>
 zab t25 true H (fun K' => zaj 3 t27 (.int .i64 0) (K' · H)) fun t28 H =>
 zab t25 true H (fun K' => zaf 1 t28 (K' · H)) fun t29 H =>
 zab t25 true H (fun K' => zad false 1 t29 H (K' · H)) fun t30 H =>
 zab t25 true H (fun K' => K' t0 H) fun t31 H =>
 zab t25 true H (fun K' => zac .eql false t30 t31 (K' · H)) fun t32 H =>
 zai t25 t32 (.bool false) fun t33 =>
 K t33 H
theorem zws {t0 : AV} {H : zaa} {K : Kt} (h : HSc H → zqe t0 H K) : ACalls tP zgd [t0] H K :=
 zan (M := zwq) Tryz.func104 (c := zwr) (by kernel_rfl) (fun hs => Eq.mpr (by kernel_rfl) (h hs))
def zB2 (_ : Nat) : List Bool := []
noncomputable def zB3 : Code := Tryz.f83.body.getD .skip
def zr3 (t0 : AV) (H : zaa) (K : Kt) : Prop :=
 ACalls tP zjL [t0] H fun t8 H =>
 zas t8 0 fun t9 =>
 zas t8 1 fun t10 =>
 zas t8 2 fun t11 =>
 zac .eql false t11 (.int .i64 0) fun t13 =>
 zab t13 true H (fun K' => K' t9 H) fun t15 H =>
 zab t13 true H (fun K' => zah 1 t15 (K' · H)) fun t16 H =>
 zab t13 true H (fun K' => zac .eql false t16 (.int .i64 2) (K' · H)) fun t17 H =>
 zai t13 t17 (.bool false) fun t18 =>
 zab t18 true H (fun K' => K' t9 H) fun t20 H =>
 zab t18 true H (fun K' => zaj 3 t20 (.int .i64 0) (K' · H)) fun t21 H =>
 zab t18 true H (fun K' => zaf 0 t21 (K' · H)) fun t22 H =>
 zab t18 true H (fun K' => zad false 1 t22 H (K' · H)) fun t23 H =>
 zab t18 true H (fun K' => zac .eql false t23 (.int .i64 2) (K' · H)) fun t24 H =>
 zai t18 t24 (.bool false) fun t25 =>
 zab t25 true H (fun K' => K' t9 H) fun t27 H =>
 zab t25 true H (fun K' => zaj 3 t27 (.int .i64 0) (K' · H)) fun t28 H =>
 zab t25 true H (fun K' => zaf 1 t28 (K' · H)) fun t29 H =>
 zab t25 true H (fun K' => zad false 1 t29 H (K' · H)) fun t30 H =>
 zab t25 true H (fun K' => K' t0 H) fun t31 H =>
 zab t25 true H (fun K' => zac .eql false t30 t31 (K' · H)) fun t32 H =>
 zai t25 t32 (.bool false) fun t33 =>
 K t33 H
theorem zB4 {t0 : AV} {H : zaa} {K : Kt} (h : HSc H → zr3 t0 H K) : ACalls tP zgD [t0] H K :=
 zan (M := zB2) Tryz.func83 (c := zB3) (by kernel_rfl) (fun hs => Eq.mpr (by kernel_rfl) (h hs))
end Go.Proofs.YtacebbdfgbfgiaaGreat

namespace Go.Proofs.YtacebbdfgbfgiaaGreat
open Go Go.Abs
def kwds : List (List UInt8) := [[97, 114, 114, 97, 121], [98, 111, 111, 108], [99, 97, 116, 99, 104], [100, 97, 116, 97], [101, 108, 115, 101], [101, 110, 100], [102, 97, 108, 115, 101], [102, 110], [102, 117, 110], [103, 101, 116], [105, 102], [105, 110], [105, 110, 116], [108, 101, 110], [108, 101, 116], [109, 97, 116, 99, 104], [110, 101, 119], [114, 97, 105, 115, 101], [114, 101, 97, 100], [114, 101, 102], [115, 101, 116], [116, 104, 101, 110], [116, 105, 99, 107], [116, 114, 117, 101], [116, 114, 121], [117, 110, 105, 116], [119, 105, 116, 104], [119, 114, 105, 116, 101]]
def kwF (ws : List (List UInt8)) (s : List UInt8) : Bool := ws.any (s == ·)
theorem zb4 {H : zaa} {K : AV → zaa → Prop} {r : AV} (hsc : HSc H) (hv : r.isV = true) (hr : r.scV H.length = true) (h : K r H) : Out H.length K r H := by
 have := Out.same (J := []) rfl hsc hv hr h
 simpa using this
theorem zbM (b c : UInt8) : ((b.toNat : Int) == (c.toNat : Int)) = (b == c) := by
 rw [Bool.eq_iff_iff]
 simp only [beq_iff_eq]
 constructor
 ·intro h; exact UInt8.toNat_inj.mp (by omega)
 ·rintro rfl; rfl
theorem zop (b : UInt8) (H : zaa) (K : AV → zaa → Prop) (hK : K (.bool (zbm b)) H) : ACalls tP zgg [.int .u8 b.toNat] H K := by
 refine ACalls.out (zwI fun hs => ?_)
 have hO := zb4 (K := K) (H := H) (r := .bool (zbm b)) hs rfl rfl hK
 unfold zbm at hO
 cases h1 : decide (97 ≤ (b.toNat : Int)) <;> simp [zql, h1] <;> simpa [h1] using hO
theorem zg2 (b : UInt8) (H : zaa) (K : AV → zaa → Prop) (hK : K (.bool (bUp b)) H) : ACalls tP zem [.int .u8 b.toNat] H K := by
 refine ACalls.out (zwL fun hs => ?_)
 have hO := zb4 (K := K) (H := H) (r := .bool (bUp b)) hs rfl rfl hK
 unfold bUp at hO
 cases h1 : decide (65 ≤ (b.toNat : Int)) <;> simp [zqm, h1] <;> simpa [h1] using hO
theorem zjt (b : UInt8) (H : zaa) (K : AV → zaa → Prop) (hK : K (.bool (zaE b)) H) : ACalls tP zfg [.int .u8 b.toNat] H K := by
 refine ACalls.out (zwO fun hs => ?_)
 have hO := zb4 (K := K) (H := H) (r := .bool (zaE b)) hs rfl rfl hK
 unfold zaE at hO
 cases h1 : decide (48 ≤ (b.toNat : Int)) <;> simp [zqn, h1] <;> simpa [h1] using hO
theorem zjJ (b : UInt8) (H : zaa) (K : AV → zaa → Prop) (hK : K (.bool (zbm b)) H) : ACalls tP zgk [.int .u8 b.toNat] H K := by
 refine ACalls.out (zxF fun hs => ?_)
 have hO := zb4 (K := K) (H := H) (r := .bool (zbm b)) hs rfl rfl hK
 unfold zbm at hO
 cases h1 : decide (97 ≤ (b.toNat : Int)) <;> simp [zqD, h1] <;> simpa [h1] using hO
theorem zg3 (b : UInt8) (H : zaa) (K : AV → zaa → Prop) (hK : K (.bool (bUp b)) H) : ACalls tP zfi [.int .u8 b.toNat] H K := by
 refine ACalls.out (zxO fun hs => ?_)
 have hO := zb4 (K := K) (H := H) (r := .bool (bUp b)) hs rfl rfl hK
 unfold bUp at hO
 cases h1 : decide (65 ≤ (b.toNat : Int)) <;> simp [zqE, h1] <;> simpa [h1] using hO
theorem zju (b : UInt8) (H : zaa) (K : AV → zaa → Prop) (hK : K (.bool (zaE b)) H) : ACalls tP zdQ [.int .u8 b.toNat] H K := by
 refine ACalls.out (zx3 fun hs => ?_)
 have hO := zb4 (K := K) (H := H) (r := .bool (zaE b)) hs rfl rfl hK
 unfold zaE at hO
 cases h1 : decide (48 ≤ (b.toNat : Int)) <;> simp [zqJ, h1] <;> simpa [h1] using hO
theorem ztw (b : UInt8) (H : zaa) (K : AV → zaa → Prop) (hK : K (.bool (zco b)) H) : ACalls tP zjQ [.int .u8 b.toNat] H K := by
 refine ACalls.out (zxw fun hs => ?_)
 have hO := zb4 (K := K) (H := H) (r := .bool (zco b)) hs rfl rfl hK
 unfold zco at hO
 have e1 : ((b.toNat : Int) == 9) = (b == 9) := zbM b 9
 have e2 : ((b.toNat : Int) == 10) = (b == 10) := zbM b 10
 have e3 : ((b.toNat : Int) == 13) = (b == 13) := zbM b 13
 have e4 : ((b.toNat : Int) == 32) = (b == 32) := zbM b 32
 cases h1 : (b == 9) <;> cases h2 : (b == 10) <;> cases h3 : (b == 13) <;> simp [zqA, e1, e2, e3, e4, h1, h2, h3] <;> simpa [h1, h2, h3] using hO
theorem zv4 (b : UInt8) (H : zaa) (K : AV → zaa → Prop) (hK : K (.bool (bIn b)) H) : ACalls tP zfj [.int .u8 b.toNat] H K := by
 refine ACalls.out (zxX fun hs => ?_)
 have hO := zb4 (K := K) (H := H) (r := .bool (bIn b)) hs rfl rfl hK
 unfold bIn at hO
 have e1 : ((b.toNat : Int) == 95) = (b == 95) := zbM b 95
 unfold zqH
 refine zjJ b _ _ ?_
 cases h1 : zbm b with
 | true => simp; simpa [h1] using hO
 | false =>
  simp
  refine zg3 b _ _ ?_
  cases h2 : bUp b with
  | true => simp; simpa [h1, h2] using hO
  | false =>
   simp
   refine zju b _ _ ?_
   cases h3 : zaE b with
   | true => simp; simpa [h1, h2, h3] using hO
   | false => simp [e1]; simpa [h1, h2, h3] using hO
theorem zt8 (s : List UInt8) (H : zaa) (K : AV → zaa → Prop) (hK : K (.bool (kwF kwds s)) H) : ACalls tP zjS [.str s] H K := by
 refine ACalls.out (zx0 fun hs => ?_)
 have hO := zb4 (K := K) (H := H) (r := .bool (kwF kwds s)) hs rfl rfl hK
 have step : ∀ (w : List UInt8) (ws : List (List UInt8)) (rest : Prop), (Out H.length K (.bool (kwF ws s)) H → rest) → Out H.length K (.bool (kwF (w :: ws) s)) H →
   zac .eql false (.str s) (.str w) fun t => zag t (zaR t H (Out H.length K)) rest := by
  intro w ws rest h h'
  simp only [kwF, List.any_cons] at h h'
  cases e : (s == w) with
  | true => simpa [zaR, e] using h'
  | false => rw [e, Bool.false_or] at h'; simpa [zaR, e] using h h'
 unfold zqI
 revert hO
 unfold kwds
 iterate 27 refine step _ _ _ ?_
 intro h'
 simp only [kwF, List.any_cons, List.any_nil, Bool.or_false] at h'
 cases e : (s == [119, 114, 105, 116, 101]) <;> rw [e] at h' <;> simpa [zaR, e] using h'
theorem zt9 (s : List UInt8) (H : zaa) (K : AV → zaa → Prop) (hK : K (.bool (kwF kwds s)) H) : ACalls tP zgh [.str s] H K := by
 refine ACalls.out (zwT fun hs => ?_)
 have hO := zb4 (K := K) (H := H) (r := .bool (kwF kwds s)) hs rfl rfl hK
 have e : zqo (.str s) H (Out H.length K) = zk1 (.str s) (.sl (kwds.map fun w => [.str w]) .full) (.int .i64 0) H (Out H.length K) := rfl
 rw [e]
 have hlen : kwds.length = 28 := rfl
 generalize kwds = ws at *
 refine zwR (Inv := fun q t4 H' => ∃ i : Nat, i ≤ ws.length ∧ q = ws.length - i ∧ t4 = .int .i64 i ∧ kwF (ws.drop i) s = kwF ws s ∧ H' = H) ws.length ?_ ?_
 ·intro _; exact ⟨0, by omega, by omega, rfl, by simp, rfl⟩
 ·rintro q t8 H' ⟨i, hi, rfl, rfl, ho, rfl⟩ hsc _ hsF Kb hKb
  by_cases hlt : i < ws.length
  ·rw [List.drop_eq_getElem_cons hlt] at ho
   simp only [kwF, List.any_cons] at ho
   cases hz : (ws[i] == s) with
   | true =>
    have hz' : (s == ws[i]) = true := by rw [beq_iff_eq] at hz ⊢; exact hz.symm
    rw [hz', Bool.true_or] at ho
    simp [zhe, hlt, hz]
    unfold kwF at hO
    rw [← ho] at hO
    exact hO
   | false =>
    have hz' : (s == ws[i]) = false := by rw [beq_eq_false_iff_ne] at hz ⊢; exact fun h => hz h.symm
    rw [hz', Bool.false_or] at ho
    simp [zhe, hlt, hz]
    rw [zal (by omega) (by omega)]
    refine hKb _ _ ⟨ws.length - (i + 1), by omega, Back.here (Nat.le_refl _) hs ?_ ⟨_, rfl, i + 1, by omega, rfl, by simp, ho, rfl⟩⟩
    simp [zhf, AV.sc, AV.scV, AV.scA, AV.scB]
  ·simp [zhe, hlt]
   obtain rfl : i = ws.length := by omega
   rw [List.drop_length] at ho
   rw [← ho] at hO
   exact hO
end Go.Proofs.YtacebbdfgbfgiaaGreat
namespace Go.Proofs.YtacebbdfgbfgiaaGreat
open Go Go.Abs
theorem znz {b : UInt8} (h : zaE b = true) : 48 ≤ (b.toNat : Int) ∧ (b.toNat : Int) ≤ 57 := by simpa [zaE] using h
theorem zve (s : List UInt8) (hd : ∀ b ∈ s, zaE b = true) (hl : s.length ≤ 1000000) (H : zaa) (K : AV → zaa → Prop) (hK : K (.bool (zbA s 0)) H) : ACalls tP zfk [.str s] H K := by
 refine ACalls.out (zx8 fun hs => ?_)
 have hO := zb4 (K := K) (H := H) (r := .bool (zbA s 0)) hs rfl rfl hK
 simp [zqK]
 refine zx6 (Inv := fun q t3 t7 H' => ∃ (i : Nat) (n : Int), i ≤ s.length ∧ q = s.length - i ∧ t7 = .int .i64 i ∧ t3 = .int .i64 n ∧ 0 ≤ n ∧ n ≤ 1000000 ∧ zbA (s.drop i) n = zbA s 0 ∧ H' = H) s.length ?_ ?_
 ·intro _; exact ⟨0, 0, by omega, by omega, rfl, rfl, by omega, by omega, by simp, rfl⟩
 ·rintro q t3 t7 H' ⟨i, n, hi, rfl, rfl, rfl, hn0, hn1, ho, rfl⟩ hsc _ hsF Kb hKb
  by_cases hlt : i < s.length
  ·have hb := znz (hd s[i] (List.getElem_mem hlt))
   rw [List.drop_eq_getElem_cons hlt, zbA] at ho
   simp [zlk, hlt]
   rw [IntWalk.u8_in _ (by omega), zal (n := n * 10) (by omega) (by omega), zal (n := (s[i].toNat : Int) - 48) (by omega) (by omega), zal (by omega) (by omega), zal (by omega) (by omega)]
   by_cases hg : 1000000 < n * 10 + ((s[i].toNat : Int) - 48)
   ·rw [if_pos hg] at ho
    have hg' : decide (1000000 < n * 10 + ((s[i].toNat : Int) - 48)) = true := by simpa using hg
    rw [← ho] at hO
    rw [hg']
    simpa using hO
   ·rw [if_neg hg] at ho
    have hg' : decide (1000000 < n * 10 + ((s[i].toNat : Int) - 48)) = false := by simpa using hg
    rw [hg']
    simp only [zno, Bool.false_eq_true, if_false]
    refine hKb _ _ ⟨s.length - (i + 1), by omega, Back.here (Nat.le_refl _) hs ?_ ⟨_, _, rfl, i + 1, _, by omega, rfl, by simp, rfl, by omega, by omega, ho, rfl⟩⟩
    simp [zhy, AV.sc, AV.scV, AV.scA, AV.scB]
  ·simp [zlk, hlt]
   obtain rfl : i = s.length := by omega
   rw [List.drop_length, zbA] at ho
   rw [← ho] at hO
   exact hO
theorem zo5 (cl : UInt8 → Bool) (f : FuncId) (hcl : zdd tP f = true) (hf : ∀ (b : UInt8) (H : zaa) (K : AV → zaa → Prop), K (.bool (cl b)) H → ACalls tP f [.int .u8 b.toNat] H K)
  (s : List UInt8) (hl : s.length ≤ 1000000) (H : zaa) (K : AV → zaa → Prop) (hK : K (.str (s.takeWhile cl)) H) : ACalls tP zgl [.str s, .fn f []] H K := by
 refine ACalls.out (zxT fun hs => ?_)
 have hO := zb4 (K := K) (H := H) (r := .str (s.takeWhile cl)) hs rfl rfl hK
 simp [zqF]
 refine zxR (Inv := fun q t5 H' => ∃ i : Nat, i ≤ s.length ∧ q = s.length - i ∧ t5 = .int .i64 i ∧ s.take i ++ (s.drop i).takeWhile cl = s.takeWhile cl ∧ H' = H) s.length ?_ ?_
 ·intro _; exact ⟨0, by omega, by omega, rfl, by simp, rfl⟩
 ·rintro q t5 H' ⟨i, hi, rfl, rfl, ho, rfl⟩ hsc _ hsF Kb hKb
  by_cases hlt : i < s.length
  ·rw [List.drop_eq_getElem_cons hlt, List.takeWhile_cons] at ho
   simp [zli, hlt]
   simp only [aCallV, hcl, List.append_nil]
   refine hf _ _ _ ?_
   cases hc : cl s[i] with
   | true =>
    rw [hc, if_pos rfl, List.append_cons, ← List.take_succ_eq_append_getElem hlt] at ho
    simp
    rw [zal (by omega) (by omega)]
    refine hKb _ _ ⟨s.length - (i + 1), by omega, Back.here (Nat.le_refl _) hs ?_ ⟨_, rfl, i + 1, by omega, rfl, by simp, ho, rfl⟩⟩
    simp [zhw, AV.sc, AV.scV, AV.scA, AV.scB]
   | false =>
    rw [hc, if_neg (by simp), List.append_nil] at ho
    rw [← ho] at hO
    simp [hi]
    exact hO
  ·simp [zli, hlt]
   obtain rfl : i = s.length := by omega
   rw [List.drop_length, List.takeWhile_nil, List.append_nil, List.take_length] at ho
   rw [← ho] at hO
   simpa using hO
theorem zv1 (s : List UInt8) (hd : ∀ b ∈ s, zaE b = true) (hl : s.length ≤ 1000000) (H : zaa) (K : AV → zaa → Prop) (hK : ∀ n, K (.tup [.int .i64 n, .bool (zbA s 0)]) H) : ACalls tP zen [.str s] H K := by
 refine ACalls.out (zwZ fun hs => ?_)
 have hO : ∀ n, Out H.length K (.tup [.int .i64 n, .bool (zbA s 0)]) H := fun n => Out.tup0 hs (hK n) ⟨zaY rfl rfl, zaY rfl rfl, trivial⟩
 simp only [zqp]
 refine zwX (Inv := fun q t3 t7 H' => ∃ (i : Nat) (n : Int), i ≤ s.length ∧ q = s.length - i ∧ t7 = .int .i64 i ∧ t3 = .int .i64 n ∧ 0 ≤ n ∧ n ≤ 1000000 ∧ zbA (s.drop i) n = zbA s 0 ∧ H' = H) s.length ?_ ?_
 ·intro _; exact ⟨0, 0, by omega, by omega, rfl, rfl, by omega, by omega, by simp, rfl⟩
 ·rintro q t3 t7 H' ⟨i, n, hi, rfl, rfl, rfl, hn0, hn1, ho, rfl⟩ hsc _ hsF Kb hKb
  by_cases hlt : i < s.length
  ·have hb := znz (hd s[i] (List.getElem_mem hlt))
   rw [List.drop_eq_getElem_cons hlt, zbA] at ho
   simp [zk2, hlt]
   rw [IntWalk.u8_in _ (by omega), zal (n := n * 10) (by omega) (by omega), zal (n := (s[i].toNat : Int) - 48) (by omega) (by omega), zal (by omega) (by omega), zal (by omega) (by omega)]
   by_cases hg : 1000000 < n * 10 + ((s[i].toNat : Int) - 48)
   ·rw [if_pos hg] at ho
    have hg' : decide (1000000 < n * 10 + ((s[i].toNat : Int) - 48)) = true := by simpa using hg
    rw [← ho] at hO
    rw [hg']
    simpa [AV.isV] using hO 0
   ·rw [if_neg hg] at ho
    have hg' : decide (1000000 < n * 10 + ((s[i].toNat : Int) - 48)) = false := by simpa using hg
    rw [hg']
    simp only [zno, Bool.false_eq_true, if_false]
    refine hKb _ _ ⟨s.length - (i + 1), by omega, Back.here (Nat.le_refl _) hs ?_ ⟨_, _, rfl, i + 1, _, by omega, rfl, by simp, rfl, by omega, by omega, ho, rfl⟩⟩
    simp [zhh, AV.sc, AV.scV, AV.scA, AV.scB]
  ·simp [zk2, hlt, AV.isV]
   obtain rfl : i = s.length := by omega
   rw [List.drop_length, zbA] at ho
   rw [← ho] at hO
   exact hO n
theorem zvS (b : UInt8) (r : List UInt8) : (b :: r).take 1 = [b] := by simp
theorem zkB {s : List UInt8} (h : ¬ 2 ≤ s.length) : zct s = false := by
 match s, h with
 | [], _ => rfl
 | [b], _ => simp [zct]
 | _ :: _ :: _, h => simp at h
theorem zpu (b : UInt8) (r : List UInt8) (h : zct (b :: r) = false) : sgn (b :: r) = if sgns.contains b = true then 1 else 0 := by simp [sgn, h]
theorem zvb (b : UInt8) (r : List UInt8) (H : zaa) (K : AV → zaa → Prop) (hK : K (.str ((b :: r).take (sgn (b :: r)))) H) : ACalls tP zjT [.str (b :: r)] H K := by
 refine ACalls.out (zyc fun hs => ?_)
 have hO := zb4 (K := K) (H := H) (r := .str ((b :: r).take (sgn (b :: r)))) hs rfl rfl hK
 have one : zct (b :: r) = false → zhz (.str (b :: r)) H (Out H.length K) := by
  intro h2
  rw [zpu b r h2] at hO
  have hO : Out H.length K (.str (if sgns.contains b = true then [b] else [])) H := by
   cases hc : sgns.contains b <;> rw [hc] at hO <;> simpa using hO
  have step : ∀ (c : UInt8) (cs : List UInt8) (rest : Prop), (Out H.length K (.str (if cs.contains b = true then [b] else [])) H → rest) → Out H.length K (.str (if (c :: cs).contains b = true then [b] else [])) H →
    zac .eql false (.str [b]) (.str [c]) fun t => zag t (zbN (.str (b :: r)) t H (Out H.length K)) rest := by
   intro c cs rest h h'
   rw [List.contains_cons] at h'
   cases e : (b == c) with
   | true => rw [e] at h'; simpa [zbN, e] using h'
   | false =>
    rw [e, Bool.false_or] at h'
    simpa [zbN, e] using h h'
  unfold zhz
  simp only [ztg, ztb, zta, Int.toNat_one, zvS, List.drop_zero]
  refine ⟨by decide, ⟨by omega, by simp⟩, ?_⟩
  revert hO
  unfold sgns
  iterate 12 refine step _ _ _ ?_
  intro h'
  rw [List.contains_cons] at h'
  cases e : (b == 95) <;> rw [e] at h' <;> simpa [zbN, e] using h'
 by_cases hl : 2 ≤ (b :: r).length
 ·have hl' : (2 : Int) ≤ r.length + 1 := by simp only [List.length_cons] at hl; omega
  have hl2 : 1 ≤ r.length := by simp only [List.length_cons] at hl; omega
  cases h2 : zct (b :: r) with
  | true =>
   have h3 : sgn (b :: r) = 2 := by simp [sgn, h2]
   rw [h3] at hO
   unfold zct at h2
   simp only [List.take_succ_cons] at h2 hO
   cases e1 : (b :: List.take 1 r == [45, 62]) with
   | true => simpa [zeK, hl', hl2, zdZ, e1] using hO
   | false =>
    cases e2 : (b :: List.take 1 r == [60, 61]) with
    | true => simpa [zeK, hl', hl2, zdZ, e1, e2] using hO
    | false =>
     rw [e1, e2] at h2
     simp only [Bool.false_or] at h2
     simpa [zeK, hl', hl2, zdZ, e1, e2, h2] using hO
  | false =>
   have ho := one h2
   unfold zct at h2
   simp only [List.take_succ_cons] at h2
   rw [Bool.or_eq_false_iff, Bool.or_eq_false_iff] at h2
   simpa [zeK, hl', hl2, zdZ, h2.1.1, h2.1.2, h2.2] using ho
 ·have ho := one (zkB hl)
  have : ¬ ((2 : Int) ≤ r.length + 1) := by simp only [List.length_cons] at hl; omega
  simpa [zeK, this] using ho
end Go.Proofs.YtacebbdfgbfgiaaGreat
