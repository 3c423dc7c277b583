import Derived.Test.YtjkkonpjecoieaaGreatKGA
import Derived.Test.YtjkkonpjecoieaaGreatIT
import Derived.Test.YtjkkonpjecoieaaGreatKNum
import Derived.Test.YtjkkonpjecoieaaGreatProg
import Derived.KernelRfl
import Derived.Test.YtjkkonpjecoieaaGreatKGB7
import Derived.Test.YtjkkonpjecoieaaGreatKV5
set_option linter.unusedSimpArgs false
set_option linter.unusedVariables false
namespace Go.Proofs.YtjkkonpjecoieaaGreat
open Go Go.Abs
def pick : List VT → List Bool → List VT
 | x :: l, b :: bs => if b then pick l bs else x :: pick l bs
 | _, _ => []
def zb3 (data : List Dat) (t : VT) (c : Int) : Option (List VT) := (za7 data t c).map fun l => pick l ((za8 data t.num.toNat).getD c.toNat [])
mutual
def zbW (data : List Dat) : IT → VT → Int × Bool
 | .mk n ks, t =>
  if t.kind = 6 then (if n = 0 then (if t.kids.length = ks.length then zbu data ks t.kids 0 else (0, false)) else (0, false))
  else if t.kind = 7 then (n, decide (0 ≤ n) && decide (n ≤ 6) && decide (ks.length = 0))
  else if t.kind = 5 then (if n = 0 then zcj data ks t 0 else (0, false))
  else (0, decide (n = 0) && decide (ks.length = 0))
def zbu (data : List Dat) : List IT → List VT → Int → Int × Bool
 | [], _, a => (a, decide (a ≤ 6))
 | v :: vs, ts, a => match ts with
  | t :: ts => if (zbW data v t).2 then zbu data vs ts (a + (zbW data v t).1) else (0, false)
  | [] => (0, false)
def zcj (data : List Dat) : List IT → VT → Int → Int × Bool
 | [], _, a => (a, true)
 | .mk c ks :: es, t, a => match zb3 data t c with
  | none => (0, false)
  | some ps => if ps.length = ks.length then
    (if (zbu data ks ps 0).2 && decide (a + (1 + (zbu data ks ps 0).1) ≤ 6) then zcj data es t (a + (1 + (zbu data ks ps 0).1)) else (0, false))
   else (0, false)
end
mutual
def rdV (data : List Dat) : IT → VT → Int
 | .mk n ks, t =>
  if t.kind = 6 then (if n = 0 then (if t.kids.length = ks.length then rdA data ks t.kids 0 else -1) else -1)
  else if t.kind = 7 then (if 0 ≤ n ∧ n ≤ 6 ∧ ks.length = 0 then n else -1)
  else if t.kind = 5 then (if n = 0 ∧ ks.length ≤ 6 then rdE data ks t 0 else -1)
  else (if n = 0 ∧ ks.length = 0 then 0 else -1)
def rdA (data : List Dat) : List IT → List VT → Int → Int
 | [], _, a => a
 | v :: vs, ts, a => match ts with
  | t :: ts => if rdV data v t < 0 ∨ a + rdV data v t > 6 then -1 else rdA data vs ts (a + rdV data v t)
  | [] => -1
def rdE (data : List Dat) : List IT → VT → Int → Int
 | [], _, a => a
 | .mk c ks :: es, t, a => if c < 0 ∨ 8 ≤ c then -1 else match zb3 data t c with
  | none => -1
  | some ps => if ps.length = ks.length then
    (if rdA data ks ps 0 < 0 ∨ a + 1 + rdA data ks ps 0 > 6 then -1 else rdE data es t (a + (1 + rdA data ks ps 0)))
   else -1
end
theorem zxH {data : List Dat} (h8 : ∀ D ∈ data, D.cons.length ≤ 8) {t : VT} {c : Int} {ps : List VT} (h : zb3 data t c = some ps) : 0 ≤ c ∧ c < 8 := by
 unfold zb3 at h
 cases hf : za7 data t c with
 | none => rw [hf] at h; cases h
 | some l =>
  obtain ⟨_, k1, k2, hn, hc, _⟩ := zff hf
  have := h8 _ (List.getElem_mem hn)
  omega
def agr (m : Int × Bool) (r : Int) : Prop := (m.2 = true → m.1 = r ∧ 0 ≤ r ∧ r ≤ 6) ∧ (m.2 = false → r = -1)
theorem zc4 : agr (0, false) (-1) := ⟨fun h => (by cases h), fun _ => rfl⟩
mutual
theorem zgb {data : List Dat} (h8 : ∀ D ∈ data, D.cons.length ≤ 8) : ∀ (v : IT) (t : VT), agr (zbW data v t) (rdV data v t)
 | .mk n ks, t => by
  have hA := (zkb h8 ks t.kids 0 (by omega)).1 (by omega)
  have hE := zo9 h8 ks t 0 (by omega) (by omega)
  unfold zbW rdV
  split
  ·split
   ·split
    ·exact hA
    ·exact zc4
   ·exact zc4
  ·split
   ·refine ⟨fun h => ?_, fun h => ?_⟩
    ·simp at h
     rw [if_pos ⟨h.1.1, h.1.2, by simpa using h.2⟩]
     exact ⟨rfl, h.1.1, h.1.2⟩
    ·rw [if_neg]
     rintro ⟨h1, h2, h3⟩
     simp [h1, h2, h3] at h
   ·split
    ·by_cases hn : n = 0
     ·simp only [hn, if_true, true_and]
      by_cases hl : ks.length ≤ 6
      ·rw [if_pos hl]; exact hE.1
      ·rw [if_neg hl]
       refine ⟨fun h => ?_, fun _ => rfl⟩
       have := hE.2 h
       omega
     ·simp only [hn, if_false, false_and]
      exact zc4
    ·refine ⟨fun h => ?_, fun h => ?_⟩
     ·simp at h
      simp [h]
     ·rw [if_neg]
      rintro ⟨h1, h2⟩
      simp [h1, h2] at h
theorem zkb {data : List Dat} (h8 : ∀ D ∈ data, D.cons.length ≤ 8) : ∀ (vs : List IT) (ts : List VT) (a : Int), 0 ≤ a → (a ≤ 6 → agr (zbu data vs ts a) (rdA data vs ts a)) ∧ (6 < a → (zbu data vs ts a).2 = false)
 | [], ts, a, ha => by
  simp only [zbu, rdA]
  exact ⟨fun h => ⟨fun _ => ⟨rfl, ha, h⟩, fun h2 => by simp at h2; omega⟩, fun h => by simp; omega⟩
 | v :: vs, ts, a, ha => by
  match ts with
  | [] => simp only [zbu, rdA]; exact ⟨fun _ => zc4, fun _ => by trivial⟩
  | t :: ts =>
   obtain ⟨g1, g2⟩ := zgb h8 v t
   simp only [zbu, rdA]
   cases hb : (zbW data v t).2 with
   | false =>
    rw [g2 hb]
    simp
    exact fun _ => zc4
   | true =>
    obtain ⟨e1, e2, e3⟩ := g1 hb
    rw [e1]
    have hn := zkb h8 vs ts (a + rdV data v t) (by omega)
    simp only [if_true]
    refine ⟨fun h => ?_, fun h => hn.2 (by omega)⟩
    by_cases h6 : a + rdV data v t > 6
    ·rw [if_pos (.inr h6)]
     exact ⟨fun h => (by rw [hn.2 (by omega)] at h; cases h), fun _ => rfl⟩
    ·rw [if_neg (by omega)]
     exact hn.1 (by omega)
theorem zo9 {data : List Dat} (h8 : ∀ D ∈ data, D.cons.length ≤ 8) : ∀ (es : List IT) (t : VT) (a : Int), 0 ≤ a → a ≤ 6 → agr (zcj data es t a) (rdE data es t a) ∧ ((zcj data es t a).2 = true → a + es.length ≤ 6)
 | [], t, a, h0, h6 => by
  simp only [zcj, rdE]
  exact ⟨⟨fun _ => ⟨rfl, h0, h6⟩, fun h => by cases h⟩, fun _ => by simpa using h6⟩
 | .mk c ks :: es, t, a, h0, h6 => by
  simp only [zcj, rdE]
  cases hp : zb3 data t c with
  | none => simp only [ite_self]; exact ⟨zc4, fun h => by cases h⟩
  | some ps =>
   obtain ⟨c0, c8⟩ := zxH h8 hp
   rw [if_neg (show ¬(c < 0 ∨ 8 ≤ c) by omega)]
   simp only
   by_cases hl : ps.length = ks.length
   ·simp only [hl, if_true]
    obtain ⟨g1, g2⟩ := (zkb h8 ks ps 0 (by omega)).1 (by omega)
    cases hb : (zbu data ks ps 0).2 with
    | false =>
     rw [g2 hb]
     simp
     exact zc4
    | true =>
     obtain ⟨e1, e2, e3⟩ := g1 hb
     rw [e1]
     by_cases hh : a + (1 + rdA data ks ps 0) ≤ 6
     ·have hn := zo9 h8 es t (a + (1 + rdA data ks ps 0)) (by omega) hh
      rw [if_neg (show ¬(rdA data ks ps 0 < 0 ∨ a + 1 + rdA data ks ps 0 > 6) by omega)]
      simp only [hh, decide_true, Bool.and_self, if_true]
      refine ⟨hn.1, fun h => ?_⟩
      have := hn.2 h
      simp only [List.length_cons]
      omega
     ·rw [if_pos (show rdA data ks ps 0 < 0 ∨ a + 1 + rdA data ks ps 0 > 6 by omega)]
      simp [hh]
      exact zc4
   ·simp only [hl, if_false]
    exact ⟨zc4, fun h => by cases h⟩
end
end Go.Proofs.YtjkkonpjecoieaaGreat
namespace Go.Proofs.YtjkkonpjecoieaaGreat
open Go Go.Abs
set_option maxRecDepth 100000
def zGD (_ : Nat) : List Bool := []
noncomputable def zGE : Code := Tryz.f44.body.getD .skip
def zuO (t0 t1 t2 : AV) (H : zaa) (K : Kt) : Prop :=
 zap t1 H fun t4 H =>
 zap t2 H fun t5 H =>
 zad true 3 t4 H fun t8 =>
 zad true 2 t5 H fun t9 =>
 ACalls tP zlx [t0, t8, t9] H fun t10 H =>
 zac .geq false t10 (.int .i64 0) fun t11 =>
 K t11 H
theorem zGF {t0 t1 t2 : AV} {H : zaa} {K : Kt} (h : HSc H → zuO t0 t1 t2 H K) : ACalls tP zlo [t0, t1, t2] H K :=
 zam (M := zGD) Tryz.func44 (c := zGE) (by kernel_rfl) (fun hs => Eq.mpr (by kernel_rfl) (h hs))
def zJf (_ : Nat) : List Bool := []
noncomputable def zJg : Code := Tryz.f88.body.getD .skip
def zvD (t0 t1 t2 : AV) (H : zaa) (K : Kt) : Prop :=
 zap t1 H fun t4 H =>
 zap t2 H fun t5 H =>
 zad true 3 t4 H fun t10 =>
 ACalls tP zg0 [t0, t10] H fun t11 H =>
 aUn .not t11 fun t12 =>
 zag t12
 (K (.int .i64 (-1)) H)
 (zad true 3 t4 H fun t15 =>
 zad true 2 t5 H fun t16 =>
 ACalls tP zgC [t0, t15, t16] H fun t17 H =>
 zax t17 0 fun t18 =>
 zax t17 1 fun t19 =>
 aUn .not t19 fun t21 =>
 zag t21
 (K (.int .i64 (-1)) H)
 (K t18 H))
theorem zJh {t0 t1 t2 : AV} {H : zaa} {K : Kt} (h : HSc H → zvD t0 t1 t2 H K) : ACalls tP zlx [t0, t1, t2] H K :=
 zam (M := zJf) Tryz.func88 (c := zJg) (by kernel_rfl) (fun hs => Eq.mpr (by kernel_rfl) (h hs))
def zHR (_ : Nat) : List Bool := []
noncomputable def zHS : Code := Tryz.f73.body.getD .skip
def zva (t0 t1 : AV) (H : zaa) (K : Kt) : Prop :=
 zap t1 H fun t3 H =>
 zav [.snil, .snil, .snil, .snil] [(0, 1), (1, 1), (2, 1), (3, 1)] [(0, t0)] fun t6 =>
 ACalls tP zgy [t6] H fun t7 H =>
 zab t7 true H (fun K' => K' t0 H) fun t9 H =>
 zab t7 true H (fun K' => zad true 3 t3 H (K' · H)) fun t10 H =>
 zab t7 true H (fun K' => ACalls tP zex [t9, t10, (.int .i64 0)] H K') fun t11 H =>
 zai t7 t11 (.bool false) fun t12 =>
 K t12 H
theorem zHT {t0 t1 : AV} {H : zaa} {K : Kt} (h : HSc H → zva t0 t1 H K) : ACalls tP zg0 [t0, t1] H K :=
 zam (M := zHR) Tryz.func73 (c := zHS) (by kernel_rfl) (fun hs => Eq.mpr (by kernel_rfl) (h hs))
def zhU : Nat → List Bool
 | 13 => rl false [0,1,3,1,3,1,44,3,42]
 | _ => []
noncomputable def zmp : Code := Tryz.f131.body.getD .skip
noncomputable def zAU : List ResultVar := Tryz.f131.results.toList
def zhV (t0 t4 t8 t53 t54 t55 : AV) : List AV := t0 :: ux 3 (t4 :: ux 3 (t8 :: ux 44 (t53 :: t54 :: t55 :: ux 42 [])))
def zAS : List Bool := zhU 13
noncomputable def zAQ : Code := zar [1, 0, 1, 0, 1, 1, 1, 1, 1, 0, 1, 1, 0, 1, 0, 0] zmp
def zAP (K : Kt) : AExit → List AV → zaa → Prop := zas tP zhU [1, 0, 1, 0, 1, 1, 1, 1, 1, 0, 1, 1, 0, 1, 0] zmp (zaw tP zAU K)
def zsC (t0 t4 t8 t53 t54 t55 : AV) (H : zaa) (K : Kt) : Prop := ALoop tP zAQ (zAP K) (zhV t0 t4 t8 t53 t54 t55) H
def zmo (t0 t4 t8 t53 t54 t55 : AV) (H : zaa) (K : Kt) (Kb13 : Lt) : Prop :=
 zac .lss false t55 t54 fun t56 =>
 zag t56
 (zaj 2 t53 t55 fun t57 =>
 zad true 2 t57 H fun t58 =>
 zau [(.int .i64 0), .snil] H fun t10 H =>
 zak 2 t10 t58 H fun H =>
 zad true 3 t4 H fun t61 =>
 zaf 0 t10 fun t62 =>
 zad false 1 t62 H fun t63 =>
 ACalls tP zk5 [t0, t61, t63] H fun t64 H =>
 zax t64 0 fun t65 =>
 zax t64 1 fun t66 =>
 aUn .not t66 fun t68 =>
 zag t68
 (zay [(.int .i64 0), (.bool false)] (K · H))
 (zaf 1 t10 fun t72 =>
 zad false 1 t72 H fun t73 =>
 ACalls tP zgJ [t0, t65, t73] H fun t74 H =>
 zax t74 0 fun t75 =>
 zax t74 1 fun t76 =>
 zac .add false (.int .i64 1) t75 fun t79 =>
 zac .add false t8 t79 fun t80 =>
 aUn .not t76 fun t82 =>
 zab t82 false H (fun K' => K' t80 H) fun t84 H =>
 zab t82 false H (fun K' => zac .gtr false t84 (.int .i64 6) (K' · H)) fun t85 H =>
 zai t82 (.bool true) t85 fun t86 =>
 zag t86
 (zay [(.int .i64 0), (.bool false)] (K · H))
 (zac .add false t55 (.int .i64 1) fun t87 =>
 Kb13 (zhV t0 t4 t80 t53 t54 t87) H)))
 (zay [t8, (.bool true)] (K · H))
def zcI (t0 t1 t2 : AV) (H : zaa) (K : Kt) : Prop :=
 zap t1 H fun t4 H =>
 zap t2 H fun t5 H =>
 zaf 0 t4 fun t14 =>
 zad false 1 t14 H fun t15 =>
 zac .eql false t15 (.int .i64 6) fun t17 =>
 zag t17
 (zaf 0 t5 fun t18 =>
 zad false 1 t18 H fun t19 =>
 zac .neq false t19 (.int .i64 0) fun t20 =>
 zag t20
 (zay [(.int .i64 0), (.bool false)] (K · H))
 (zaf 2 t4 fun t22 =>
 zad false 1 t22 H fun t23 =>
 zaf 1 t5 fun t24 =>
 zad false 1 t24 H fun t25 =>
 ACalls tP zgJ [t0, t23, t25] H fun t26 H =>
 zax t26 0 fun t27 =>
 zax t26 1 fun t28 =>
 zay [t27, t28] (K · H)))
 (zac .eql false t15 (.int .i64 7) fun t30 =>
 zag t30
 (zae H (fun K' => zaf 0 t5 (K' · H)) fun t31 =>
 zae H (fun K' => zan false 1 t31 H (K' · H)) fun t32 =>
 zae H (fun K' => zaf 0 t5 (K' · H)) fun t33 =>
 zae H (fun K' => zan false 1 t33 H (K' · H)) fun t34 =>
 zae H (fun K' => zac .geq false t34 (.int .i64 0) (K' · H)) fun t35 =>
 zae H (fun K' => K' t35 H) fun t36 =>
 zab t36 true H (fun K' => zae H (fun K'' => zaf 0 t5 (K'' · H)) (K' · H)) fun t37 H =>
 zab t36 true H (fun K' => zae H (fun K'' => zan false 1 t37 H (K'' · H)) (K' · H)) fun t38 H =>
 zab t36 true H (fun K' => zae H (fun K'' => zac .leq false t38 (.int .i64 6) (K'' · H)) (K' · H)) fun t39 H =>
 zae H (fun K' => zai t36 t39 (.bool false) (K' · H)) fun t40 =>
 zae H (fun K' => K' t40 H) fun t41 =>
 zab t41 true H (fun K' => zae H (fun K'' => zaf 1 t5 (K'' · H)) (K' · H)) fun t42 H =>
 zab t41 true H (fun K' => zae H (fun K'' => zan false 1 t42 H (K'' · H)) (K' · H)) fun t43 H =>
 zab t41 true H (fun K' => zae H (fun K'' => zah 1 t43 (K'' · H)) (K' · H)) fun t44 H =>
 zab t41 true H (fun K' => zae H (fun K'' => zac .eql false t44 (.int .i64 0) (K'' · H)) (K' · H)) fun t45 H =>
 zae H (fun K' => zai t41 t45 (.bool false) (K' · H)) fun t46 =>
 zae H (fun K' => K' t32 H) fun t6 =>
 zae H (fun K' => K' t46 H) fun t7 =>
 zay [t6, t7] (K · H))
 (zac .eql false t15 (.int .i64 5) fun t48 =>
 zag t48
 (zaf 0 t5 fun t49 =>
 zad false 1 t49 H fun t50 =>
 zac .neq false t50 (.int .i64 0) fun t51 =>
 zag t51
 (zay [(.int .i64 0), (.bool false)] (K · H))
 (zaf 1 t5 fun t52 =>
 zad false 1 t52 H fun t53 =>
 zah 1 t53 fun t54 =>
 zsC t0 t4 (.int .i64 0) t53 t54 (.int .i64 0) H K))
 (zae H (fun K' => zaf 0 t5 (K' · H)) fun t89 =>
 zae H (fun K' => zan false 1 t89 H (K' · H)) fun t90 =>
 zae H (fun K' => zac .eql false t90 (.int .i64 0) (K' · H)) fun t91 =>
 zae H (fun K' => K' t91 H) fun t92 =>
 zab t92 true H (fun K' => zae H (fun K'' => zaf 1 t5 (K'' · H)) (K' · H)) fun t93 H =>
 zab t92 true H (fun K' => zae H (fun K'' => zan false 1 t93 H (K'' · H)) (K' · H)) fun t94 H =>
 zab t92 true H (fun K' => zae H (fun K'' => zah 1 t94 (K'' · H)) (K' · H)) fun t95 H =>
 zab t92 true H (fun K' => zae H (fun K'' => zac .eql false t95 (.int .i64 0) (K'' · H)) (K' · H)) fun t96 H =>
 zae H (fun K' => zai t92 t96 (.bool false) (K' · H)) fun t97 =>
 zae H (fun K' => K' (.int .i64 0) H) fun t6 =>
 zae H (fun K' => K' t97 H) fun t7 =>
 zay [t6, t7] (K · H))))
theorem zAR {t0 t4 t8 t53 t54 t55 : AV} {H : zaa} {K : Kt} (Inv : Nat → AV → AV → zaa → Prop) (n : Nat) (h0 : HSc H → Inv n t8 t55 H)
  (round : Rd2 (fun t8 => fun t55 => zhV t0 t4 t8 t53 t54 t55) (fun t8 => fun t55 => fun H Kb13 => zmo t0 t4 t8 t53 t54 t55 H K Kb13) H Inv) : zsC t0 t4 t8 t53 t54 t55 H K :=
 lp2 (M := zhU) zAS t8 t55 (by kernel_rfl) Inv n h0 round
theorem zAT {t0 t1 t2 : AV} {H : zaa} {K : Kt} (h : HSc H → zcI t0 t1 t2 H K) : ACalls tP zgC [t0, t1, t2] H K :=
 zam (M := zhU) Tryz.func131 (c := zmp) (by kernel_rfl) (fun hs => Eq.mpr (by kernel_rfl) (h hs))
def zFW (_ : Nat) : List Bool := []
noncomputable def zFX : Code := Tryz.f34.body.getD .skip
def zuy (t0 t1 : AV) (H : zaa) (K : Kt) : Prop :=
 zap t1 H fun t3 H =>
 ACalls tP zgV [t0] H fun t6 H =>
 zab t6 true H (fun K' => K' t0 H) fun t8 H =>
 zab t6 true H (fun K' => zad true 3 t3 H (K' · H)) fun t9 H =>
 zab t6 true H (fun K' => ACalls tP zfz [t8, t9, (.int .i64 0)] H K') fun t10 H =>
 zai t6 t10 (.bool false) fun t11 =>
 K t11 H
theorem zFY {t0 t1 : AV} {H : zaa} {K : Kt} (h : HSc H → zuy t0 t1 H K) : ACalls tP zll [t0, t1] H K :=
 zam (M := zFW) Tryz.func34 (c := zFX) (by kernel_rfl) (fun hs => Eq.mpr (by kernel_rfl) (h hs))
def zix : Nat → List Bool
 | 5 => rl false [0,1,1,1,5,1,9,3,23]
 | _ => []
noncomputable def zm5 : Code := Tryz.f177.body.getD .skip
noncomputable def zDp : List ResultVar := Tryz.f177.results.toList
def ziy (t0 t2 t8 t18 t19 t20 : AV) : List AV := t0 :: ux 1 (t2 :: ux 5 (t8 :: ux 9 (t18 :: t19 :: t20 :: ux 23 [])))
def zDn : List Bool := zix 5
noncomputable def zDl : Code := zar [1, 1, 1, 0, 1, 0, 0] zm5
def zDk (K : Kt) : AExit → List AV → zaa → Prop := zas tP zix [1, 1, 1, 0, 1, 0] zm5 (zaw tP zDp K)
def ztF (t0 t2 t8 t18 t19 t20 : AV) (H : zaa) (K : Kt) : Prop := ALoop tP zDl (zDk K) (ziy t0 t2 t8 t18 t19 t20) H
def zm4 (t0 t2 t8 t18 t19 t20 : AV) (H : zaa) (K : Kt) (Kb5 : Lt) : Prop :=
 zac .lss false t20 t19 fun t21 =>
 zag t21
 (zaj 3 t18 t20 fun t23 =>
 zad true 3 t23 H fun t24 =>
 zau [(.int .i64 0), (.int .i64 0), .snil] H fun t10 H =>
 zak 3 t10 t24 H fun H =>
 zae H (fun K' => K' t0 H) fun t26 =>
 zae H (fun K' => zan true 3 t10 H (K' · H)) fun t27 =>
 zae H (fun K' => K' t2 H) fun t28 =>
 zae H (fun K' => K' t20 H) fun t29 =>
 zae H (fun K' => zaj 2 t28 t29 (K' · H)) fun t30 =>
 zae H (fun K' => zan true 2 t30 H (K' · H)) fun t31 =>
 za6 H (fun H K' => ACalls tP zgC [t26, t27, t31] H K') fun t32 =>
 zae H (fun K' => K' t32 H) fun t25 =>
 zae H (fun K' => zax t25 0 (K' · H)) fun t33 =>
 zae H (fun K' => zax t25 1 (K' · H)) fun t34 =>
 zae H (fun K' => K' t33 H) fun t11 =>
 zae H (fun K' => K' t34 H) fun t12 =>
 aUn .not t12 fun t36 =>
 zag t36
 (zay [(.int .i64 0), (.bool false)] (K · H))
 (zac .add false t8 t11 fun t39 =>
 zac .add false t20 (.int .i64 1) fun t40 =>
 Kb5 (ziy t0 t2 t39 t18 t19 t40) H))
 (zac .leq false t8 (.int .i64 6) fun t43 =>
 zay [t8, t43] (K · H))
def zm3 (t0 t1 t2 : AV) (H : zaa) (K : Kt) : Prop :=
 zah 1 t1 fun t14 =>
 zah 1 t2 fun t16 =>
 zac .neq false t14 t16 fun t17 =>
 zag t17
 (zay [(.int .i64 0), (.bool false)] (K · H))
 (zah 1 t1 fun t19 =>
 ztF t0 t2 (.int .i64 0) t1 t19 (.int .i64 0) H K)
theorem zDm {t0 t2 t8 t18 t19 t20 : AV} {H : zaa} {K : Kt} (Inv : Nat → AV → AV → zaa → Prop) (n : Nat) (h0 : HSc H → Inv n t8 t20 H)
  (round : Rd2 (fun t8 => fun t20 => ziy t0 t2 t8 t18 t19 t20) (fun t8 => fun t20 => fun H Kb5 => zm4 t0 t2 t8 t18 t19 t20 H K Kb5) H Inv) : ztF t0 t2 t8 t18 t19 t20 H K :=
 lp2 (M := zix) zDn t8 t20 (by kernel_rfl) Inv n h0 round
theorem zDo {t0 t1 t2 : AV} {H : zaa} {K : Kt} (h : HSc H → zm3 t0 t1 t2 H K) : ACalls tP zgJ [t0, t1, t2] H K :=
 zam (M := zix) Tryz.func177 (c := zm5) (by kernel_rfl) (fun hs => Eq.mpr (by kernel_rfl) (h hs))
def ziz : Nat → List Bool
 | 6 => rl false [8,1,1,1,15,3,15]
 | _ => []
noncomputable def zm7 : Code := Tryz.f178.body.getD .skip
noncomputable def zDv : List ResultVar := Tryz.f178.results.toList
def ziA (t8 t10 t26 t27 t28 : AV) : List AV := ux 8 (t8 :: ux 1 (t10 :: ux 15 (t26 :: t27 :: t28 :: ux 15 [])))
def zDt : List Bool := ziz 6
noncomputable def zDr : Code := zar [1, 1, 1, 1, 0, 1, 0, 0] zm7
def zDq (K : Kt) : AExit → List AV → zaa → Prop := zas tP ziz [1, 1, 1, 1, 0, 1, 0] zm7 (zaw tP zDv K)
def ziC (t8 t10 t26 t27 t28 : AV) (H : zaa) (K : Kt) : Prop := ALoop tP zDr (zDq K) (ziA t8 t10 t26 t27 t28) H
def ztI (t8 t10 t26 t27 t28 : AV) (H : zaa) (K : Kt) (Kb6 : Lt) : Prop :=
 zac .add false t28 (.int .i64 1) fun t42 =>
 Kb6 (ziA t8 t10 t26 t27 t42) H
def ziB (t8 t10 t26 t27 t28 : AV) (H : zaa) (K : Kt) (Kb6 : Lt) : Prop :=
 ztI t8 t10 t26 t27 t28 H K Kb6
def zm6 (t8 t10 t26 t27 t28 : AV) (H : zaa) (K : Kt) (Kb6 : Lt) : Prop :=
 zac .lss false t28 t27 fun t29 =>
 zag t29
 (zaj 1 t26 t28 fun t31 =>
 zad false 1 t31 H fun t32 =>
 aUn .not t32 fun t34 =>
 zag t34
 (zaj 3 t8 t28 fun t38 =>
 zad true 3 t38 H fun t39 =>
 zaB 3 [(.int .i64 0), (.int .i64 0), .snil] 1 [(0, t39)] fun t40 =>
 zaA za0 3 40 t10 t40 H fun t41 H =>
 ziB t8 t41 t26 t27 t28 H K Kb6)
 (ziB t8 t10 t26 t27 t28 H K Kb6))
 (zay [t10, (.bool true)] (K · H))
def ztH (t0 t1 t2 : AV) (H : zaa) (K : Kt) : Prop :=
 zap t1 H fun t4 H =>
 zad true 3 t4 H fun t15 =>
 ACalls tP zgX [t0, t15, t2] H fun t17 H =>
 zax t17 0 fun t18 =>
 zax t17 1 fun t19 =>
 aUn .not t19 fun t21 =>
 zag t21
 (zay [.snil, (.bool false)] (K · H))
 (zaf 1 t4 fun t23 =>
 zad false 1 t23 H fun t24 =>
 ACalls tP zeC [t0, t24, t2] H fun t26 H =>
 zah 1 t26 fun t27 =>
 ziC t18 .snil t26 t27 (.int .i64 0) H K)
theorem zDs {t8 t10 t26 t27 t28 : AV} {H : zaa} {K : Kt} (Inv : Nat → AV → AV → zaa → Prop) (n : Nat) (h0 : HSc H → Inv n t10 t28 H)
  (round : Rd2 (fun t10 => fun t28 => ziA t8 t10 t26 t27 t28) (fun t10 => fun t28 => fun H Kb6 => zm6 t8 t10 t26 t27 t28 H K Kb6) H Inv) : ziC t8 t10 t26 t27 t28 H K :=
 lp2 (M := ziz) zDt t10 t28 (by kernel_rfl) Inv n h0 round
theorem zDu {t0 t1 t2 : AV} {H : zaa} {K : Kt} (h : HSc H → ztH t0 t1 t2 H K) : ACalls tP zk5 [t0, t1, t2] H K :=
 zam (M := ziz) Tryz.func178 (c := zm7) (by kernel_rfl) (fun hs => Eq.mpr (by kernel_rfl) (h hs))
end Go.Proofs.YtjkkonpjecoieaaGreat

namespace Go.Proofs.YtjkkonpjecoieaaGreat
open Go Go.Abs
set_option maxRecDepth 100000
def zhK : Nat → List Bool
 | 5 => rl false [0,2,5,1,32,3,16]
 | _ => []
noncomputable def zmg : Code := Tryz.f126.body.getD .skip
noncomputable def zAw : List ResultVar := Tryz.f126.results.toList
def zhL (t0 t1 t7 t40 t41 t42 : AV) : List AV := t0 :: t1 :: ux 5 (t7 :: ux 32 (t40 :: t41 :: t42 :: ux 16 []))
def zAu : List Bool := zhK 5
noncomputable def zAs : Code := zar [1, 1, 1, 0, 1, 0, 0] zmg
def zAr (K : Kt) : AExit → List AV → zaa → Prop := zas tP zhK [1, 1, 1, 0, 1, 0] zmg (zaw tP zAw K)
def zhM (t0 t1 t7 t40 t41 t42 : AV) (H : zaa) (K : Kt) : Prop := ALoop tP zAs (zAr K) (zhL t0 t1 t7 t40 t41 t42) H
def zmf (t0 t1 t7 t40 t41 t42 : AV) (H : zaa) (K : Kt) (Kb5 : Lt) : Prop :=
 zac .lss false t42 t41 fun t43 =>
 zag t43
 (zaj 3 t40 t42 fun t44 =>
 zad true 3 t44 H fun t45 =>
 zau [(.int .i64 0), (.int .i64 0), .snil] H fun t9 H =>
 zak 3 t9 t45 H fun H =>
 zae H (fun K' => K' t7 H) fun t46 =>
 zae H (fun K' => zan true 3 t9 H (K' · H)) fun t47 =>
 zae H (fun K' => K' t1 H) fun t48 =>
 zae H (fun K' => K' t0 H) fun t49 =>
 zae H (fun K' => K' t1 H) fun t50 =>
 zae H (fun K' => zaj 3 t49 t50 (K' · H)) fun t51 =>
 zae H (fun K' => zaf 1 t51 (K' · H)) fun t52 =>
 zae H (fun K' => zan false 1 t52 H (K' · H)) fun t53 =>
 za6 H (fun H K' => ACalls tP zg4 [t47, t48, t53] H K') fun t54 =>
 zae H (fun K' => zaB 1 [(.bool false)] 1 [(0, t54)] (K' · H)) fun t55 =>
 zaA zeo 1 1 t46 t55 H fun t56 H =>
 zae H (fun K' => K' t56 H) fun t7 =>
 zac .add false t42 (.int .i64 1) fun t57 =>
 Kb5 (zhL t0 t1 t7 t40 t41 t57) H)
 (K t7 H)
def zsy (t0 t1 t2 : AV) (H : zaa) (K : Kt) : Prop :=
 zac .lss false t1 (.int .i64 0) fun t11 =>
 zab t11 false H (fun K' => K' t1 H) fun t13 H =>
 zab t11 false H (fun K' => K' t0 H) fun t14 H =>
 zab t11 false H (fun K' => zah 1 t14 (K' · H)) fun t15 H =>
 zab t11 false H (fun K' => zac .geq false t13 t15 (K' · H)) fun t16 H =>
 zai t11 (.bool true) t16 fun t17 =>
 zab t17 false H (fun K' => K' t2 H) fun t19 H =>
 zab t17 false H (fun K' => zac .lss false t19 (.int .i64 0) (K' · H)) fun t20 H =>
 zai t17 (.bool true) t20 fun t21 =>
 zab t21 false H (fun K' => K' t2 H) fun t23 H =>
 zab t21 false H (fun K' => K' t0 H) fun t24 H =>
 zab t21 false H (fun K' => K' t1 H) fun t25 H =>
 zab t21 false H (fun K' => zaj 3 t24 t25 (K' · H)) fun t26 H =>
 zab t21 false H (fun K' => zaf 2 t26 (K' · H)) fun t27 H =>
 zab t21 false H (fun K' => zad false 1 t27 H (K' · H)) fun t28 H =>
 zab t21 false H (fun K' => zah 1 t28 (K' · H)) fun t29 H =>
 zab t21 false H (fun K' => zac .geq false t23 t29 (K' · H)) fun t30 H =>
 zai t21 (.bool true) t30 fun t31 =>
 zag t31
 (K .snil H)
 (zaj 3 t0 t1 fun t34 =>
 zaf 2 t34 fun t35 =>
 zad false 1 t35 H fun t36 =>
 zaj 2 t36 t2 fun t38 =>
 zaf 1 t38 fun t39 =>
 zad false 1 t39 H fun t40 =>
 zah 1 t40 fun t41 =>
 zhM t0 t1 .snil t40 t41 (.int .i64 0) H K)
theorem zAt {t0 t1 t7 t40 t41 t42 : AV} {H : zaa} {K : Kt} (Inv : Nat → AV → AV → zaa → Prop) (n : Nat) (h0 : HSc H → Inv n t7 t42 H)
  (round : Rd2 (fun t7 => fun t42 => zhL t0 t1 t7 t40 t41 t42) (fun t7 => fun t42 => fun H Kb5 => zmf t0 t1 t7 t40 t41 t42 H K Kb5) H Inv) : zhM t0 t1 t7 t40 t41 t42 H K :=
 lp2 (M := zhK) zAu t7 t42 (by kernel_rfl) Inv n h0 round
theorem zAv {t0 t1 t2 : AV} {H : zaa} {K : Kt} (h : HSc H → zsy t0 t1 t2 H K) : ACalls tP zgB [t0, t1, t2] H K :=
 zam (M := zhK) Tryz.func126 (c := zmg) (by kernel_rfl) (fun hs => Eq.mpr (by kernel_rfl) (h hs))
end Go.Proofs.YtjkkonpjecoieaaGreat

namespace Go.Proofs.YtjkkonpjecoieaaGreat
open Go Go.Abs
set_option maxRecDepth 8000
def zbT (l : List Bool) : List (List AV) := l.map fun b => [.bool b]
theorem zsz (data : List Dat) (d : Nat) (c : Nat) (hd : d < data.length) (hc : c < (data[d]).cons.length) (hl : data.length ≤ 1000000) (hcl : (data[d]).cons.length ≤ 1000000) (hal : ((data[d]).cons[c]).args.length ≤ 1000000)
  (hb : ∀ x ∈ ((data[d]).cons[c]).args, x.nodes ≤ 1000000) (H : zaa) (K : Kt)
  (hK : K (.sl (zbT (zbC d data[d] (data[d]).cons[c])) .none) H) :
  ACalls tP zgB [.sl (data.map Dat.cs) .none, .int .i64 d, .int .i64 c] H K := by
 refine ACalls.out (zAv fun hs => ?_)
 have e1 : (data.map Dat.cs)[d]? = some (data[d]).cs := by simp [hd]
 have e2 : ((data[d]).cons.map Con.cs)[c]? = some ((data[d]).cons[c]).cs := by simp [hc]
 generalize hD : data[d] = D at *
 generalize hA : D.cons[c] = C at *
 have h1 : ¬ (d : Int) < 0 := by omega
 have h2 : ¬ (data.length : Int) ≤ d := by omega
 have h3 : ¬ (c : Int) < 0 := by omega
 have h4 : ¬ (D.cons.length : Int) ≤ c := by omega
 simp [zsy, h1, h2, h3, h4, e1, e2, Dat.cs, Con.cs, hd, hD, hc, hA]
 unfold zhM
 refine ALoop.own 7 zeo 1 rfl ?_
 show zhM (.sl (data.map Dat.cs) .none) (.int .i64 d) (.sl [] (.own H.length)) (.sl (VT.css C.args) .none) (.int .i64 C.args.length) (.int .i64 0) (H ++ [.perm zeo 1 0]) (Out H.length K)
 have hperm : ∀ n, HSc (H ++ [.perm zeo 1 n]) := fun n => hs.append rfl
 refine zAt (Inv := fun q t7 t42 H' => ∃ i : Nat, i ≤ C.args.length ∧ q = C.args.length - i ∧ t42 = .int .i64 i ∧ t7 = .sl (zbT ((zbC d D C).take i)) (.own H.length) ∧ H' = H ++ [.perm zeo 1 i]) C.args.length ?_ ?_
 ·intro _; exact ⟨0, by omega, by omega, rfl, rfl, rfl⟩
 ·rintro q t7 t42 H' ⟨i, hi, rfl, rfl, rfl, rfl⟩ hsc hlen hsF Kb hKb
  have hrl : (zbC d D C).length = C.args.length := by simp [zbC]
  by_cases hlt : i < C.args.length
  ·obtain ⟨x, y, z, hvx, hx, hy, hz⟩ := zaE C.args[i]
   have hnb := hb _ (List.getElem_mem hlt)
   simp [zmf, hlt, hvx, Nat.add_assoc, e1, hd, hD, Dat.cs]
   rw [← hvx]
   refine ⟨⟨hx, hy, hz⟩, ?_⟩
   refine zbq (.bool (zbk d D.vars C.args[i])) (fun J => zoT _ _ _ hnb _ _ ⟨rfl, rfl⟩) ?_
   simp [zaB, zbj, zaz, AV.pd, zaA, zaV, zaN, zbT]
   have hmin : min i (zbC d D C).length = i := by omega
   rw [hmin]
   refine ⟨rfl, ⟨by omega, by omega⟩, ?_⟩
   rw [zaq (by omega) (by omega)]
   have hst : List.take i (List.map (fun b => [AV.bool b]) (zbC d D C)) ++ [[AV.bool (zbk (↑d) D.vars C.args[i])]] = zbT ((zbC d D C).take (i + 1)) := by
    rw [List.take_succ_eq_append_getElem (by omega)]
    simp [zbT, zbC]
   rw [hst]
   refine hKb _ _ ⟨C.args.length - (i + 1), by omega, Back.at (J := [.cells C.args[i].cs]) (H2 := H ++ [.perm zeo 1 (i + 1)]) (by simp) (by simp) (hperm _) ?_ ⟨_, _, rfl, i + 1, by omega, rfl, by simp, rfl, rfl⟩⟩
   simp [zhL, AV.sc, AV.scV, AV.scA, AV.scB]
  ·obtain rfl : i = C.args.length := by omega
   rw [List.take_of_length_le (by omega)]
   simp [zmf]
   exact Out.at rfl (Nat.le_refl _) hs (.atom (.sl _ _)) rfl (by simp [zbT, AV.scV, AV.scA, AV.scB]) hK
def zhW : Nat → List Bool
 | 3 => rl false [3,1,3,3,9]
 | _ => []
noncomputable def zmr : Code := Tryz.f14.body.getD .skip
noncomputable def zA1 : List ResultVar := Tryz.f14.results.toList
def zhX (t3 t7 t8 t9 : AV) : List AV := ux 3 (t3 :: ux 3 (t7 :: t8 :: t9 :: ux 9 []))
def zAZ : List Bool := zhW 3
noncomputable def zAX : Code := zar [1, 1, 0, 1, 0, 0] zmr
def zAW (K : Kt) : AExit → List AV → zaa → Prop := zas tP zhW [1, 1, 0, 1, 0] zmr (zaw tP zA1 K)
def zsD (t3 t7 t8 t9 : AV) (H : zaa) (K : Kt) : Prop := ALoop tP zAX (zAW K) (zhX t3 t7 t8 t9) H
def zmq (t3 t7 t8 t9 : AV) (H : zaa) (K : Kt) (Kb3 : Lt) : Prop :=
 zac .lss false t9 t8 fun t10 =>
 zag t10
 (zaj 3 t7 t9 fun t11 =>
 zad true 3 t11 H fun t12 =>
 zau [(.int .i64 0), (.int .i64 0), .snil] H fun t5 H =>
 zak 3 t5 t12 H fun H =>
 zad true 3 t5 H fun t14 =>
 ACalls tP zgz [t14] H fun t15 H =>
 zac .add false t3 t15 fun t16 =>
 zac .add false t9 (.int .i64 1) fun t17 =>
 Kb3 (zhX t16 t7 t8 t17) H)
 (K t3 H)
def zst (t0 : AV) (H : zaa) (K : Kt) : Prop :=
 zap t0 H fun t1 H =>
 zaf 2 t1 fun t6 =>
 zad false 1 t6 H fun t7 =>
 zah 1 t7 fun t8 =>
 zsD (.int .i64 1) t7 t8 (.int .i64 0) H K
theorem zAY {t3 t7 t8 t9 : AV} {H : zaa} {K : Kt} (Inv : Nat → AV → AV → zaa → Prop) (n : Nat) (h0 : HSc H → Inv n t3 t9 H)
  (round : Rd2 (fun t3 => fun t9 => zhX t3 t7 t8 t9) (fun t3 => fun t9 => fun H Kb3 => zmq t3 t7 t8 t9 H K Kb3) H Inv) : zsD t3 t7 t8 t9 H K :=
 lp2 (M := zhW) zAZ t3 t9 (by kernel_rfl) Inv n h0 round
theorem zA0 {t0 : AV} {H : zaa} {K : Kt} (h : HSc H → zst t0 H K) : ACalls tP zgz [t0] H K :=
 zam (M := zhW) Tryz.func14 (c := zmr) (by kernel_rfl) (fun hs => Eq.mpr (by kernel_rfl) (h hs))
def zEX (_ : Nat) : List Bool := []
noncomputable def zEY : Code := Tryz.f23.body.getD .skip
def zt9 (t0 t1 : AV) (H : zaa) (K : Kt) : Prop :=
 zap t0 H fun t2 H =>
 zap t1 H fun t3 H =>
 zaf 0 t2 fun t5 =>
 zad false 1 t5 H fun t6 =>
 zaf 0 t3 fun t7 =>
 zad false 1 t7 H fun t8 =>
 zac .eql true t6 t8 fun t9 =>
 zab t9 true H (fun K' => zaf 1 t2 (K' · H)) fun t11 H =>
 zab t9 true H (fun K' => zad false 1 t11 H (K' · H)) fun t12 H =>
 zab t9 true H (fun K' => zaf 1 t3 (K' · H)) fun t13 H =>
 zab t9 true H (fun K' => zad false 1 t13 H (K' · H)) fun t14 H =>
 zab t9 true H (fun K' => ACalls tP zgZ [t12, t14] H K') fun t15 H =>
 zai t9 t15 (.bool false) fun t16 =>
 zab t16 true H (fun K' => zaf 2 t2 (K' · H)) fun t18 H =>
 zab t16 true H (fun K' => zad false 1 t18 H (K' · H)) fun t19 H =>
 zab t16 true H (fun K' => zaf 2 t3 (K' · H)) fun t20 H =>
 zab t16 true H (fun K' => zad false 1 t20 H (K' · H)) fun t21 H =>
 zab t16 true H (fun K' => ACalls tP zgZ [t19, t21] H K') fun t22 H =>
 zai t16 t22 (.bool false) fun t23 =>
 K t23 H
theorem zEZ {t0 t1 : AV} {H : zaa} {K : Kt} (h : HSc H → zt9 t0 t1 H K) : ACalls tP zld [t0, t1] H K :=
 zam (M := zEX) Tryz.func23 (c := zEY) (by kernel_rfl) (fun hs => Eq.mpr (by kernel_rfl) (h hs))
def zjt : Nat → List Bool
 | 4 => rl false [0,2,10,2,12]
 | _ => []
noncomputable def zob : Code := Tryz.f63.body.getD .skip
noncomputable def zHx : List ResultVar := Tryz.f63.results.toList
def zju (t0 t1 t12 t13 : AV) : List AV := t0 :: t1 :: ux 10 (t12 :: t13 :: ux 12 [])
def zHv : List Bool := zjt 4
noncomputable def zHt : Code := zar [1, 1, 0, 1, 0, 0] zob
def zHs (K : Kt) : AExit → List AV → zaa → Prop := zas tP zjt [1, 1, 0, 1, 0] zob (zaw tP zHx K)
def zu1 (t0 t1 t12 t13 : AV) (H : zaa) (K : Kt) : Prop := ALoop tP zHt (zHs K) (zju t0 t1 t12 t13) H
def zoa (t0 t1 t12 t13 : AV) (H : zaa) (K : Kt) (Kb4 : Lt) : Prop :=
 zac .lss false t13 t12 fun t14 =>
 zag t14
 (zae H (fun K' => K' t0 H) fun t16 =>
 zae H (fun K' => K' t13 H) fun t17 =>
 zae H (fun K' => zaj 1 t16 t17 (K' · H)) fun t18 =>
 zae H (fun K' => zan false 1 t18 H (K' · H)) fun t19 =>
 zae H (fun K' => K' t1 H) fun t20 =>
 zae H (fun K' => K' t13 H) fun t21 =>
 zae H (fun K' => zaj 1 t20 t21 (K' · H)) fun t22 =>
 zae H (fun K' => zan false 1 t22 H (K' · H)) fun t23 =>
 zae H (fun K' => zac .neq false t19 t23 (K' · H)) fun t24 =>
 zag t24
 (K (.bool false) H)
 (zac .add false t13 (.int .i64 1) fun t25 =>
 Kb4 (zju t0 t1 t12 t25) H))
 (K (.bool true) H)
def zu0 (t0 t1 : AV) (H : zaa) (K : Kt) : Prop :=
 zah 1 t0 fun t7 =>
 zah 1 t1 fun t9 =>
 zac .neq false t7 t9 fun t10 =>
 zag t10
 (K (.bool false) H)
 (zah 1 t0 fun t12 =>
 zu1 t0 t1 t12 (.int .i64 0) H K)
theorem zHu {t0 t1 t12 t13 : AV} {H : zaa} {K : Kt} (Inv : Nat → AV → zaa → Prop) (n : Nat) (h0 : HSc H → Inv n t13 H)
  (round : Rd1 (fun t13 => zju t0 t1 t12 t13) (fun t13 => fun H Kb4 => zoa t0 t1 t12 t13 H K Kb4) H Inv) : zu1 t0 t1 t12 t13 H K :=
 lp1 (M := zjt) zHv t13 (by kernel_rfl) Inv n h0 round
theorem zHw {t0 t1 : AV} {H : zaa} {K : Kt} (h : HSc H → zu0 t0 t1 H K) : ACalls tP zgZ [t0, t1] H K :=
 zam (M := zjt) Tryz.func63 (c := zob) (by kernel_rfl) (fun hs => Eq.mpr (by kernel_rfl) (h hs))
def zjI : Nat → List Bool
 | 4 => rl false [0,1,1,2,1,1,3,1,11,2,17]
 | _ => []
noncomputable def zos : Code := Tryz.f80.body.getD .skip
noncomputable def zIv : List ResultVar := Tryz.f80.results.toList
def zf3 (t0 t2 t3 t5 t9 t21 t22 : AV) : List AV := t0 :: ux 1 (t2 :: t3 :: ux 1 (t5 :: ux 3 (t9 :: ux 11 (t21 :: t22 :: ux 17 []))))
def zIt : List Bool := zjI 4
noncomputable def zIr : Code := zar [1, 1, 1, 0, 1, 0, 0] zos
def zIq (K : Kt) : AExit → List AV → zaa → Prop := zas tP zjI [1, 1, 1, 0, 1, 0] zos (zaw tP zIv K)
def zvm (t0 t2 t3 t5 t9 t21 t22 : AV) (H : zaa) (K : Kt) : Prop := ALoop tP zIr (zIq K) (zf3 t0 t2 t3 t5 t9 t21 t22) H
def zot (t0 t2 t3 t5 t9 t21 t22 : AV) (H : zaa) (K : Kt) (Kb4 : Lt) : Prop :=
 zac .add false t22 (.int .i64 1) fun t38 =>
 Kb4 (zf3 t0 t2 t3 t5 t9 t21 t38) H
def zjJ (t0 t2 t3 t5 t9 t21 t22 : AV) (H : zaa) (K : Kt) (Kb4 : Lt) : Prop :=
 zot t0 t2 t3 t5 t9 t21 t22 H K Kb4
def zor (t0 t2 t3 t5 t9 t21 t22 : AV) (H : zaa) (K : Kt) (Kb4 : Lt) : Prop :=
 zac .lss false t22 t21 fun t23 =>
 zag t23
 (zaj 1 t9 t22 fun t27 =>
 zad false 1 t27 H fun t28 =>
 zag t28
 (zaf 2 t5 fun t30 =>
 zad false 1 t30 H fun t31 =>
 zaj 3 t31 t22 fun t33 =>
 zad true 3 t33 H fun t34 =>
 ACalls tP zfF [t0, t34, t2, t3] H fun t37 H =>
 zjJ t0 t2 t37 t5 t9 t21 t22 H K Kb4)
 (zjJ t0 t2 t3 t5 t9 t21 t22 H K Kb4))
 (K t3 H)
def zvl (t0 t1 t2 t3 : AV) (H : zaa) (K : Kt) : Prop :=
 zap t1 H fun t5 H =>
 zad true 3 t5 H fun t12 =>
 zaB 3 [(.int .i64 0), (.int .i64 0), .snil] 1 [(0, t12)] fun t13 =>
 zaA zbe 3 40 t3 t13 H fun t14 H =>
 zaf 1 t5 fun t17 =>
 zad false 1 t17 H fun t18 =>
 ACalls tP zgB [t0, t2, t18] H fun t19 H =>
 zah 1 t19 fun t21 =>
 zvm t0 t2 t14 t5 t19 t21 (.int .i64 0) H K
theorem zIs {t0 t2 t3 t5 t9 t21 t22 : AV} {H : zaa} {K : Kt} (Inv : Nat → AV → AV → zaa → Prop) (n : Nat) (h0 : HSc H → Inv n t3 t22 H)
  (round : Rd2 (fun t3 => fun t22 => zf3 t0 t2 t3 t5 t9 t21 t22) (fun t3 => fun t22 => fun H Kb4 => zor t0 t2 t3 t5 t9 t21 t22 H K Kb4) H Inv) : zvm t0 t2 t3 t5 t9 t21 t22 H K :=
 lp2 (M := zjI) zIt t3 t22 (by kernel_rfl) Inv n h0 round
theorem zIu {t0 t1 t2 t3 : AV} {H : zaa} {K : Kt} (h : HSc H → zvl t0 t1 t2 t3 H K) : ACalls tP zfF [t0, t1, t2, t3] H K :=
 zam (M := zjI) Tryz.func80 (c := zos) (by kernel_rfl) (fun hs => Eq.mpr (by kernel_rfl) (h hs))
end Go.Proofs.YtjkkonpjecoieaaGreat
namespace Go.Proofs.YtjkkonpjecoieaaGreat
open Go Go.Abs Go.RowKit
set_option maxRecDepth 8000
def zqO (data : List Dat) (v t : VT) : List VT := if t.kind = 5 then (if zbN data v t = true then za2 (za8 data t.num.toNat) v else []) else []
theorem zqP (data : List Dat) (v : VT) (k n : Int) (al : List VT) : zqO data v (.mk k n al) = if k = 5 then (if zbN data v (.mk k n al) = true then za2 (za8 data n.toNat) v else []) else [] := rfl
theorem ACalls.ownA {P : Program} {f : FuncId} {us : List AV} {H : zaa} {K : AV → zaa → Prop} (e size : Nat) (h : ACalls P f (us ++ [.sl [] (.own H.length)]) (H ++ [.perm e size 0]) K) : ACalls P f (us ++ [.snil]) H K := by
 intro B w G vs hH hv
 obtain ⟨hE, hH'⟩ := hH.newOwn e size
 have hv2 : All2 (TRel w ⟨G.L, G.μ ++ [.own (.slice none 0 0) size 0]⟩) vs.toList (us ++ [.sl [] (.own H.length)]) := by
  refine All2.of_get (by simpa using hv.length) fun i x y hx hy => ?_
  by_cases hi : i < us.length
  ·rw [List.getElem?_append_left hi] at hy
   obtain ⟨x', h1, h2⟩ := hv.get (i := i) (b := y) (by rw [List.getElem?_append_left hi]; exact hy)
   rw [hx] at h1
   cases h1
   exact hE.trel h2
  ·have hlt := (List.getElem?_eq_some_iff.1 hy).1
   simp at hlt
   obtain rfl : i = us.length := by omega
   simp at hy
   subst hy
   obtain ⟨x', h1, h2⟩ := hv.get (i := us.length) (b := .snil) (by simp)
   rw [hx] at h1
   cases h1
   have h2 : x = .slice none 0 0 := h2
   subst h2
   refine ⟨.slE _ _, .slice none 0 0, size, 0, ?_, Nat.le_refl _, fun _ => ⟨rfl, by simp⟩⟩
   rw [← hH.len]
   simp
 refine (h B w _ vs hH' hv2).mono fun e' w' hp => ?_
 obtain ⟨v, r, H', G'', h1, h2, h3⟩ := hp
 exact ⟨v, r, H', G'', h1, hE.trans h2, h3⟩
theorem zxP (rs : List (List Bool)) (b : Nat) : ∀ v : VT, v.nodes ≤ b → ∀ x ∈ za2 rs v, x.nodes ≤ b := by
 intro v
 induction hm : v.nodes using Nat.strongRecOn generalizing v with
 | _ m ih =>
  intro hb x hx
  obtain ⟨k, n, ks⟩ := v
  have key : ∀ (l : List VT) (bs : List Bool), (∀ y ∈ l, y.nodes < m) → ∀ x ∈ zbl rs l bs, x.nodes ≤ b := by
   intro l
   induction l with
   | nil => intro bs _ x hx; simp [zbl] at hx
   | cons y l ihl =>
    intro bs hy x hx
    match bs with
    | [] => simp [zbl] at hx
    | c :: bs =>
     simp only [zbl, List.mem_append] at hx
     rcases hx with hx | hx
     ·split at hx
      ·have h1 := hy y (by simp)
       exact ih _ h1 y rfl (by omega) x hx
      ·simp at hx
     ·exact ihl bs (fun z hz => hy z (by simp [hz])) x hx
  simp only [za2, List.mem_cons] at hx
  rcases hx with rfl | hx
  ·omega
  ·exact key ks _ (fun y hy => by have := zfm (k := k) (n := n) y hy; omega) x hx
theorem zIw {data : List Dat} (hk : zbp data) {n : Nat} {al : List VT} {rs : List (List Bool)} (hrs : rs = za8 data n) : ∀ (m : Nat) (v : VT), v.nodes ≤ m → v.nodes ≤ 10000 → zat data v (.mk 5 n al) = true → ∀ (H : zaa) (io : Nat) (l : List VT), H[io]? = some (.perm zbe 3 l.length) → l.length + (za2 rs v).length ≤ 1000000 →
  ∀ K : Kt, K (.sl (VT.css (l ++ za2 rs v)) (.own io)) (H.set io (.perm zbe 3 (l ++ za2 rs v).length)) → ACalls tP zfF [.sl (data.map Dat.cs) .none, .agg v.cs, .int .i64 n, .sl (VT.css l) (.own io)] H K := by
 intro m
 induction m with
 | zero => intro v h; have := v.nodes_pos; omega
 | succ m ih =>
  intro v hm hb hh H io l hP hlb K hK
  obtain ⟨vk, c, ks⟩ := v
  obtain ⟨rfl, n0, c0, c8, hn, hc, hkl, _, hrc, hrl, hkid⟩ := zgl hh
  simp only [Int.toNat_natCast] at hn hc hkl hrc hrl hkid
  rw [← hrs] at hrc hrl
  have hll := VT.len_le ks
  have hnn : (VT.mk 5 c ks).nodes = VT.nodesL ks + 1 := by simp [VT.nodes]
  have hlt0 := zbH hP
  obtain ⟨f1, f2, f3⟩ := zeq hk
  have hdm := List.getElem_mem hn
  have hcm := List.getElem_mem hc
  obtain ⟨g1, g2⟩ := f2 _ hdm _ hcm
  have hpre : za2 rs (.mk 5 c ks) = .mk 5 c ks :: zbl rs ks (rs.getD c.toNat []) := by rw [za2]
  generalize hbs : rs.getD c.toNat [] = bs at *
  have hbl : bs.length = ks.length := by rw [hrc, zbC, List.length_map]; exact hkl.symm
  have hrec : ∀ (i : Nat) (hi : i < ks.length) (hi2 : i < bs.length), bs[i] = true → zat data ks[i] (.mk 5 n al) = true := fun i hi hi2 hb => by
   refine hkid i hi (by omega) ?_
   have : bs[i] = zbk n (data[n]).vars (((data[n]).cons[c.toNat]).args[i]'(by omega)) := by simp [hrc, zbC]
   rw [← this]; exact hb
  rw [hpre] at hK hlb
  simp only [List.length_cons] at hlb
  have hpk := zhe rs ks bs
  refine ACalls.out (zIu fun hs => ?_)
  obtain ⟨c, rfl⟩ : ∃ x : Nat, c = x := ⟨c.toNat, by omega⟩
  simp only [Int.toNat_natCast] at hc hkl hrc hcm g1 g2
  have hVc : (VT.mk 5 (c : Int) ks).cs = [.int .i64 5, .int .i64 c, .sl (VT.css ks) .none] := rfl
  have hg : (H ++ [AB.cells (VT.mk 5 (c : Int) ks).cs])[io]? = some (.perm zbe 3 l.length) := zbd hP
  simp [zvl]
  rw [zdO]
  have hset0 : ∀ X : AB, (H ++ [AB.cells (VT.mk 5 (c : Int) ks).cs]).set io X = H.set io X ++ [AB.cells (VT.mk 5 (c : Int) ks).cs] := fun X => zb8 X hP
  simp only [zaA, zaV, zaN, hg, hset0]
  refine ⟨by simp, by simp, ⟨by simp; omega, by simp; omega⟩, ?_⟩
  simp [hVc, List.getElem?_append]
  refine zsz data n c hn hc f1 (f3 _ hdm) (by omega) (fun x hx => by have := g2 x hx; omega) _ _ ?_
  rw [← hrc]
  simp [zbT]
  have hst : VT.css l ++ [(VT.mk 5 (c : Int) ks).cs] = VT.css (l ++ [.mk 5 c ks]) := by rw [zpy]
  rw [← hVc, hst]
  have hscp : ∀ q, HSc (H.set io (.perm zbe 3 q)) := fun q => hs.set rfl
  refine zIs (Inv := fun q t3 t22 H' => ∃ (i : Nat) (acc : List VT), i ≤ ks.length ∧ q = ks.length - i ∧ t22 = .int .i64 i ∧ t3 = .sl (VT.css acc) (.own io) ∧ acc ++ zbl rs (ks.drop i) (bs.drop i) = l ++ .mk 5 c ks :: zbl rs ks bs ∧
   H' = H.set io (.perm zbe 3 acc.length) ++ [.cells (VT.mk 5 c ks).cs]) ks.length ?_ ?_
  ·intro _; exact ⟨0, l ++ [.mk 5 c ks], by omega, by omega, rfl, rfl, by simp, by simp⟩
  ·rintro q t3 t22 H' ⟨i, acc, hi, rfl, rfl, rfl, ho, rfl⟩ hsc' hlen hsF Kb hKb
   have hlo := congrArg List.length ho
   simp only [List.length_append, List.length_cons] at hlo
   by_cases hlt : i < ks.length
   ·have hlt2 : i < bs.length := by omega
    obtain ⟨x, y, z, hvx, hx, hy, hz⟩ := zaE ks[i]
    have hkn := VT.kid_lt (k := 5) (n := (c : Int)) hlt
    rw [zqN hlt hlt2] at ho hlo
    have hpa : (H.set io (.perm zbe 3 acc.length) ++ [AB.cells (VT.mk 5 (c : Int) ks).cs])[io]? = some (.perm zbe 3 acc.length) := zbd (zbK _ hP)
    have hback : ∀ acc' J, acc' ++ zbl rs (ks.drop (i + 1)) (bs.drop (i + 1)) = l ++ .mk 5 c ks :: zbl rs ks bs →
      Kb (zf3 (.sl (data.map Dat.cs) .none) (.int .i64 n) (.sl (VT.css acc') (.own io)) (.ptr H.length 0) (.sl (bs.map fun b => [.bool b]) .none) (.int .i64 bs.length) (.int .i64 (IntKind.i64.wrap (i + 1)))) (H.set io (.perm zbe 3 acc'.length) ++ ([.cells (VT.mk 5 c ks).cs] ++ J)) := by
     intro acc' J ha
     rw [zaq (by omega) (by omega)]
     refine hKb _ _ ⟨ks.length - (i + 1), by omega, Back.at (J := J) (H2 := H.set io (.perm zbe 3 acc'.length) ++ [.cells (VT.mk 5 c ks).cs]) (by simp) (by simp) ((hscp _).append (by simp [AB.sc])) ?_ ⟨_, _, rfl, i + 1, acc', by omega, rfl, by simp, rfl, ha, rfl⟩⟩
     simp [zf3, AV.sc, AV.scV, AV.scA, AV.scB]
     try omega
    simp [zor, hlt, hlt2, hbl]
    cases hbi : bs[i] with
    | true =>
     rw [hbi, if_pos rfl] at ho hlo
     simp only [List.length_append] at hlo
     simp [hVc, hlt, hvx, List.getElem?_append]
     rw [← hVc, ← hvx]
     refine ih ks[i] (by omega) (by omega) (hrec i hlt hlt2 hbi) _ io acc hpa (by omega) _ ?_
     rw [zb8 _ (zbK _ hP), List.set_set]
     simp [zjJ, zot]
     have := hback (acc ++ za2 rs ks[i]) [] (by simpa using ho)
     simpa [hbl] using this
    | false =>
     rw [hbi] at ho
     simp at ho
     simp [zjJ, zot]
     have := hback acc [] ho
     simpa [hbl] using this
   ·obtain rfl : i = ks.length := by omega
    rw [List.drop_length] at ho
    simp only [zbl, List.append_nil] at ho
    subst ho
    simp [zor, hbl]
    exact Out.at rfl (by simp) (hscp _) .rfl' rfl (by simp [AV.scV, AV.scA, AV.scB]; omega) (by simpa using hK)
end Go.Proofs.YtjkkonpjecoieaaGreat
namespace Go.Proofs.YtjkkonpjecoieaaGreat
open Go Go.Abs
set_option maxRecDepth 8000
theorem zpo : zcC tP zcM = true := by kernel_rfl
theorem zy7 {data : List Dat} {n : Int} {al : List VT} {rs : List (List Bool)} (hrs : rs = za8 data n.toNat) : ∀ (m : Nat) (v : VT), v.nodes ≤ m → v.nodes ≤ 10000 → zat data v (.mk 5 n al) = true → ∀ (H : zaa) (io iv ir is : Nat) (l : List VT), Pw H io iv ir is rs l → l.length + (za2 rs v).length ≤ 1000000 →
  ∀ K : Kt, K (.tup []) (pw H io iv (l ++ za2 rs v)) → ACalls tP zcM [.agg v.cs, .ptr io 0, .ptr ir 0, .ptr is 0] H K := by
 intro m
 induction m with
 | zero => intro v h; have := v.nodes_pos; omega
 | succ m ih =>
  intro v hm hb hh H io iv ir is l hP hlb K hK
  obtain ⟨vk, c, ks⟩ := v
  obtain ⟨rfl, n0, c0, c8, hn, hc, hkl, _, hrc, hrl, hkid⟩ := zgl hh
  rw [← hrs] at hrc hrl
  have hll := VT.len_le ks
  have hnn : (VT.mk 5 c ks).nodes = VT.nodesL ks + 1 := by simp [VT.nodes]
  refine ACalls.out (zIo fun hs => ?_)
  have hne := hP.ne
  have l1 := zbH hP.h1
  have l2 := zbH hP.h2
  have hpre : za2 rs (.mk 5 c ks) = .mk 5 c ks :: zbl rs ks (rs.getD c.toNat []) := by rw [za2]
  generalize hbs : rs.getD c.toNat [] = bs at *
  have hbl : bs.length = ks.length := by rw [hrc, zbC, List.length_map]; exact hkl.symm
  have hcr : c.toNat < rs.length := by rw [hrl]; exact hc
  have hrow : rs[c.toNat] = bs := by rw [← hbs]; simp [List.getD_eq_getElem?_getD, hcr]
  have hrec : ∀ (i : Nat) (hi : i < ks.length) (hi2 : i < bs.length), bs[i] = true → zat data ks[i] (.mk 5 n al) = true := fun i hi hi2 hb => by
   refine hkid i hi (by omega) ?_
   have : bs[i] = zbk n.toNat (data[n.toNat]).vars (((data[n.toNat]).cons[c.toNat]).args[i]'(by omega)) := by simp [hrc, zbC]
   rw [← this]; exact hb
  rw [hpre] at hK hlb
  simp only [List.length_cons] at hlb
  have hcl := zkl l
  -- what stands behind the first region
  have hj : ∀ X, X = pw H io iv (l ++ [.mk 5 c ks]) ++ [.cells (VT.mk 5 c ks).cs] → ze0 (.ptr ir 0) (.ptr is 0) (.ptr H.length 0) X (Out H.length K) := by
   rintro X rfl
   obtain ⟨c, rfl⟩ : ∃ x : Nat, c = x := ⟨c.toNat, by omega⟩
   simp only [Int.toNat_natCast] at hcr hrow
   have hcr2 : c < (zbJ rs).length := by simpa [zbJ] using hcr
   have hr1' : (zbJ rs)[c]'hcr2 = [.sl (bs.map fun b => [.bool b]) .none] := by simp [zbJ, hrow]
   have hPN : Pw (pw H io iv (l ++ [.mk 5 c ks])) io iv ir is rs (l ++ [.mk 5 c ks]) := hP.next
   obtain ⟨tok, h3⟩ := hPN.h3
   have h3' : (pw H io iv (l ++ [.mk 5 c ks]) ++ [AB.cells [.int .i64 5, .int .i64 c, .sl (VT.css ks) .none]])[ir]? = some (.cells [.sl (zbJ rs) tok]) := zbd h3
   have h5' : ∀ acc, (pw H io iv acc ++ [AB.cells [.int .i64 5, .int .i64 c, .sl (VT.css ks) .none]])[H.length]? = some (.cells [.int .i64 5, .int .i64 c, .sl (VT.css ks) .none]) := fun acc => by simp [List.getElem?_append]
   simp [ze0, VT.cs, h3', h5', hcr2, hr1']
   refine zIm (Inv := fun q t17 H' => ∃ (i : Nat) (acc : List VT), i ≤ bs.length ∧ q = bs.length - i ∧ t17 = .int .i64 i ∧ acc ++ zbl rs (ks.drop i) (bs.drop i) = l ++ .mk 5 c ks :: zbl rs ks bs ∧
    H' = pw H io iv acc ++ [.cells [.int .i64 5, .int .i64 c, .sl (VT.css ks) .none]]) bs.length ?_ ?_
   ·intro _; exact ⟨0, l ++ [.mk 5 c ks], by omega, by omega, rfl, by simp, rfl⟩
   ·rintro q t17 H' ⟨i, acc, hi, rfl, rfl, ho, rfl⟩ hsc' hlen hsF Kb hKb
    have hlo := congrArg List.length ho
    simp only [List.length_append, List.length_cons] at hlo
    have hpk := zhe rs ks bs
    by_cases hlt : i < bs.length
    ·have hlt2 : i < ks.length := by omega
     obtain ⟨x, y, z, hvx, hx, hy, hz⟩ := zaE ks[i]
     have hkn := VT.kid_lt (k := 5) (n := (c : Int)) hlt2
     rw [zqN hlt2 hlt] at ho hlo
     have hPA : Pw (pw H io iv acc) io iv ir is rs acc := hP.next
     have h4 := hPA.h4
     have hback : ∀ acc' J, acc' ++ zbl rs (ks.drop (i + 1)) (bs.drop (i + 1)) = l ++ .mk 5 c ks :: zbl rs ks bs →
       zbG (.ptr is 0) (.ptr H.length 0) (.sl (bs.map fun b => [.bool b]) .none) (.int .i64 bs.length) (.int .i64 i) (pw H io iv acc' ++ ([.cells [.int .i64 5, .int .i64 c, .sl (VT.css ks) .none]] ++ J)) (Out H.length K) Kb := by
      intro acc' J ha
      simp [zbG, zvj]
      rw [zaq (by omega) (by omega)]
      refine hKb _ _ ⟨bs.length - (i + 1), by omega, Back.at (J := J) (H2 := pw H io iv acc' ++ [.cells [.int .i64 5, .int .i64 c, .sl (VT.css ks) .none]]) (by simp) (by simp) ((hP.hsc hs).append (by simp [AB.sc, AV.scA, AV.scB])) ?_ ⟨_, rfl, i + 1, acc', by omega, rfl, by simp, ha, rfl⟩⟩
      have l4 := zbH h4
      simp at l4
      simp [zjH, AV.sc, AV.scV, AV.scA, AV.scB]
      try omega
     have l4 := zbH h4
     simp at l4
     have h4' : (pw H io iv acc ++ [AB.cells [.int .i64 5, .int .i64 c, .sl (VT.css ks) .none]])[is]? = some (.cells [.fn zcM [.ptr io 0, .ptr ir 0, .ptr is 0]]) := zbd h4
     simp [zop, hlt, hlt2]
     cases hbi : bs[i] with
     | true =>
      rw [hbi, if_pos rfl] at ho hlo
      simp [h4', h5', hlt2, hvx]
      simp only [aCallV, zpo]
      rw [← hvx]
      refine ih ks[i] (by omega) (by omega) (hrec i hlt2 hlt hbi) _ io iv ir is acc hPA.app (by simp only [List.length_append] at hlo; omega) _ ?_
      rw [hPA.pw_app, zxQ hne]
      exact hback (acc ++ za2 rs ks[i]) [] (by simpa using ho)
     | false =>
      rw [hbi] at ho
      simp at ho
      try simp
      exact hback acc [] ho
    ·obtain rfl : i = bs.length := by omega
     rw [hbl, List.drop_length] at ho
     simp only [zbl, List.append_nil] at ho
     simp [zop]
     have := zy0 (n := H.length) (J := [.cells [.int .i64 5, .int .i64 c, .sl (VT.css ks) .none]]) (K := K) rfl (by simp) (hP.hsc (l' := acc) hs) (by rw [ho]; exact hK)
     first
      | exact this
      | (simp only [zvZ]; exact this)
  have g1 : (H ++ [AB.cells (VT.mk 5 c ks).cs])[io]? = some (.cells [.ov iv l.length]) := zbd hP.h1
  have g2 : (H ++ [AB.cells (VT.mk 5 c ks).cs])[iv]? = some (.vec zbe 3 l.length (VT.css l).flatten) := zbd hP.h2
  simp [zvi, g1]
  simp [zaB, zbj, zaz, AV.pd, zaA, zaV, g2]
  refine ⟨⟨by omega, by omega⟩, ?_⟩
  have hup := zy2 l (.mk 5 c ks) (AV.int IntKind.i64 0) (AV.int IntKind.i64 0) (AV.sl [] Tok.none)
  have hcl2 := zkl l
  have hfin : ((H ++ [AB.cells (VT.mk 5 c ks).cs]).set iv (.vec zbe 3 (l.length + 1) (VT.css (l ++ [.mk 5 c ks])).flatten)).set io (.cells [.ov iv (l.length + 1)]) = pw H io iv (l ++ [.mk 5 c ks]) ++ [.cells (VT.mk 5 c ks).cs] := by
   rw [← hP.pw_app]
   simp [pw]
  generalize hA : List.set (H ++ [AB.cells (VT.mk 5 c ks).cs]) iv (AB.vec zbe 3 (l.length + 1) ((VT.css l).flatten ++ [AV.int IntKind.i64 0, AV.int IntKind.i64 0, AV.sl [] Tok.none])) = A
  have fA1 : A[io]? = some (.cells [.ov iv l.length]) := by rw [← hA, List.getElem?_set_ne (fun e => hne e.symm)]; exact g1
  have fA2 : A[iv]? = some (.vec zbe 3 (l.length + 1) ((VT.css l).flatten ++ [AV.int IntKind.i64 0, AV.int IntKind.i64 0, AV.sl [] Tok.none])) := by rw [← hA]; exact List.getElem?_set_self (zbH g2)
  have hA1 : ∀ X Y, (A.set iv X).set io Y = ((H ++ [AB.cells (VT.mk 5 c ks).cs]).set iv X).set io Y := fun X Y => by rw [← hA, List.set_set]
  have hA2 : ∀ X Y, (A.set io Y).set iv X = ((H ++ [AB.cells (VT.mk 5 c ks).cs]).set iv X).set io Y := fun X Y => by rw [List.set_comm _ _ hne]; exact hA1 X Y
  have fB1 : ∀ X, (A.set iv X)[io]? = some (.cells [.ov iv l.length]) := fun X => by rw [List.getElem?_set_ne (fun e => hne e.symm)]; exact fA1
  have fB2 : ∀ Y, (A.set io Y)[iv]? = some (.vec zbe 3 (l.length + 1) ((VT.css l).flatten ++ [AV.int IntKind.i64 0, AV.int IntKind.i64 0, AV.sl [] Tok.none])) := fun Y => by rw [List.getElem?_set_ne hne]; exact fA2
  have st : ∀ X, X = pw H io iv (l ++ [.mk 5 c ks]) ++ [.cells (VT.mk 5 c ks).cs] → ze0 (.ptr ir 0) (.ptr is 0) (.ptr H.length 0) X (Out H.length K) := hj
  rw [fA1, fA2]
  refine ⟨⟨by omega, ?_, ?_⟩, ?_⟩
  ·rw [zka, hup]
   refine ⟨⟨rfl, by simp, (by rw [List.length_append, hcl2]; simp), by simp⟩, ?_⟩
   rw [fB1]
   simp
   exact st _ (by rw [hA1, hfin])
  ·simp
   rw [fB2, zka, hup]
   refine ⟨⟨rfl, by simp, (by rw [List.length_append, hcl2]; simp), by simp⟩, ?_⟩
   exact st _ (by rw [hA2, hfin])
  ·simp
   refine ⟨by omega, ?_⟩
   rw [fB2, zka, hup]
   refine ⟨⟨rfl, by simp, (by rw [List.length_append, hcl2]; simp), by simp⟩, ?_⟩
   exact st _ (by rw [hA2, hfin])
theorem zFV (data : List Dat) (hk : zbp data) (v : VT) (n : Int) (al : List VT) (hv : v.nodes ≤ 5000) (hhv : zat data v (.mk 5 n al) = true) (H : zaa) (K : Kt)
  (hK : K (.sl (VT.css (za2 (za8 data n.toNat) v)) .none) H) : ACalls tP zlk [.sl (data.map Dat.cs) .none, .agg (VT.mk 5 n al).cs, .agg v.cs] H K := by
 refine ACalls.out (zFT fun hs => ?_)
 have hhv0 := hhv
 obtain ⟨vk, c, ks⟩ := v
 obtain ⟨_, n0, _, _, hn, _, _, _, _, hrl, _⟩ := zgl hhv
 obtain ⟨f1, f2, f3⟩ := zeq hk
 obtain ⟨n, rfl⟩ : ∃ x : Nat, n = x := ⟨n.toNat, by omega⟩
 simp only [Int.toNat_natCast] at hn hrl hK
 have hTc : (VT.mk 5 (n : Int) al).cs = [.int .i64 5, .int .i64 n, .sl (VT.css al) .none] := rfl
 have hVc : (VT.mk vk c ks).cs = [.int .i64 vk, .int .i64 c, .sl (VT.css ks) .none] := rfl
 have e1 : (data.map Dat.cs)[n]? = some (data[n]).cs := by simp [hn]
 have hdm := List.getElem_mem hn
 have hcl := f3 _ hdm
 simp [zux, hTc, hVc, e1, hn, Dat.cs, Nat.add_assoc]
 generalize hrs : za8 data n = rs at *
 have hrow : ∀ (i : Nat) (hi : i < (data[n]).cons.length), rs[i]? = some (zbC n data[n] (data[n]).cons[i]) := fun i hi => by rw [← hrs]; simp [za8, hn, hi]
 unfold zi2
 refine ALoop.ownC (H.length + 2) 0 zcE 1 (cs := [.snil]) (by simp) rfl ?_
 have hset : (H ++ [AB.cells [.int .i64 5, .int .i64 n, .sl (VT.css al) .none], .cells [.int .i64 vk, .int .i64 c, .sl (VT.css ks) .none], .cells [.snil]]).set (H.length + 2) (.cells ([AV.snil].set 0 (.sl [] (.own (H ++ [AB.cells [.int .i64 5, .int .i64 n, .sl (VT.css al) .none], .cells [.int .i64 vk, .int .i64 c, .sl (VT.css ks) .none], .cells [.snil]]).length)))) ++ [.perm zcE 1 0] =
   H ++ [.cells [.int .i64 5, .int .i64 n, .sl (VT.css al) .none], .cells [.int .i64 vk, .int .i64 c, .sl (VT.css ks) .none], .cells [.sl [] (.own (H.length + 3))], .perm zcE 1 0] := by simp [List.set_append_right]
 rw [hset]
 show zi2 (.sl (data.map Dat.cs) .none) (.ptr H.length 0) (.ptr (H.length + 1) 0) (.ptr (H.length + 2) 0) (.int .i64 (data[n]).cons.length) (.int .i64 0) _ (Out H.length K)
 have hsc : ∀ i, HSc (H ++ [.cells [.int .i64 5, .int .i64 n, .sl (VT.css al) .none], .cells [.int .i64 vk, .int .i64 c, .sl (VT.css ks) .none], .cells [.sl (zbJ (rs.take i)) (.own (H.length + 3))], .perm zcE 1 i]) := fun i => hs.append (by simp [AB.sc, AV.scA, AV.scB])
 refine zFR (Inv := fun q t28 H' => ∃ i : Nat, i ≤ (data[n]).cons.length ∧ q = (data[n]).cons.length - i ∧ t28 = .int .i64 i ∧
  H' = H ++ [.cells [.int .i64 5, .int .i64 n, .sl (VT.css al) .none], .cells [.int .i64 vk, .int .i64 c, .sl (VT.css ks) .none], .cells [.sl (zbJ (rs.take i)) (.own (H.length + 3))], .perm zcE 1 i]) (data[n]).cons.length ?_ ?_
 ·intro _; exact ⟨0, by omega, by omega, rfl, by simp [zbJ]⟩
 ·rintro q t28 H' ⟨i, hi, rfl, rfl, rfl⟩ hsc' hlen hsF Kb hKb
  by_cases hlt : i < (data[n]).cons.length
  ·have hcm := List.getElem_mem hlt
   obtain ⟨g1, g2⟩ := f2 _ hdm _ hcm
   have hr := hrow i hlt
   have hil : i < rs.length := (List.getElem?_eq_some_iff.1 hr).1
   simp [znG, hlt]
   refine zbq (.sl ((zbC n data[n] (data[n]).cons[i]).map fun b => [.bool b]) .none) (fun J => zoo data n i hn hlt f1 hcl (by omega) (fun x hx => by have := g2 x hx; omega) _ _ ⟨by simp [zbC, Function.comp_def], rfl⟩) ?_
   have hl1 : (zbJ (rs.take i)).length = i := by simp [zbJ]; omega
   simp [zaB, zbj, zaz, AV.pd, zaA, zaV, zaN, hl1, AV.known, List.set_append_right]
   refine ⟨⟨by omega, by omega⟩, ?_⟩
   rw [zaq (by omega) (by omega)]
   have hst : zbJ (rs.take i) ++ [[.sl ((zbC n data[n] (data[n]).cons[i]).map fun b => [.bool b]) .none]] = zbJ (rs.take (i + 1)) := by
    rw [List.take_add_one, hr]
    simp [zbJ]
   rw [hst]
   refine hKb _ _ ⟨(data[n]).cons.length - (i + 1), by omega, Back.at (J := []) (H2 := H ++ [.cells [.int .i64 5, .int .i64 n, .sl (VT.css al) .none], .cells [.int .i64 vk, .int .i64 c, .sl (VT.css ks) .none], .cells [.sl (zbJ (rs.take (i + 1))) (.own (H.length + 3))], .perm zcE 1 (i + 1)]) (by simp) (by simp) (hsc _) ?_ ⟨_, rfl, i + 1, by omega, rfl, by simp, rfl⟩⟩
   simp [zi1, AV.sc, AV.scV, AV.scA, AV.scB]
  ·obtain rfl : i = (data[n]).cons.length := by omega
   have htk : rs.take (data[n]).cons.length = rs := List.take_of_length_le (by omega)
   rw [htk] at *
   simp [znG, AV.known, List.set_append_right, Nat.add_assoc]
   refine ⟨⟨rfl, rfl, rfl⟩, ?_⟩
   simp only [aCallV, zpo]
   refine ACalls.ovC (id := H.length + 4) (j := 0) (cs := [.snil]) zbe 3 (by simp) rfl ?_
   have hset2 : (H ++ [AB.cells [.int .i64 5, .int .i64 n, .sl (VT.css al) .none], .cells [.int .i64 vk, .int .i64 c, .sl (VT.css ks) .none], .cells [.sl (zbJ rs) (.own (H.length + 3))], .perm zcE 1 (data[n]).cons.length, .cells [.snil], .cells [.fn zcM [.ptr (H.length + 4) 0, .ptr (H.length + 2) 0, .ptr (H.length + 5) 0]]]).set (H.length + 4) (.cells ([AV.snil].set 0 (.ov (H ++ [AB.cells [.int .i64 5, .int .i64 n, .sl (VT.css al) .none], .cells [.int .i64 vk, .int .i64 c, .sl (VT.css ks) .none], .cells [.sl (zbJ rs) (.own (H.length + 3))], .perm zcE 1 (data[n]).cons.length, .cells [.snil], .cells [.fn zcM [.ptr (H.length + 4) 0, .ptr (H.length + 2) 0, .ptr (H.length + 5) 0]]]).length 0))) ++ [.vec zbe 3 0 []] =
     H ++ [AB.cells [.int .i64 5, .int .i64 n, .sl (VT.css al) .none], .cells [.int .i64 vk, .int .i64 c, .sl (VT.css ks) .none], .cells [.sl (zbJ rs) (.own (H.length + 3))], .perm zcE 1 (data[n]).cons.length, .cells [.ov (H.length + 6) 0], .cells [.fn zcM [.ptr (H.length + 4) 0, .ptr (H.length + 2) 0, .ptr (H.length + 5) 0]], .vec zbe 3 0 []] := by simp [List.set_append_right]
   rw [hset2]
   have hP : Pw (H ++ [AB.cells [.int .i64 5, .int .i64 n, .sl (VT.css al) .none], .cells [.int .i64 vk, .int .i64 c, .sl (VT.css ks) .none], .cells [.sl (zbJ rs) (.own (H.length + 3))], .perm zcE 1 (data[n]).cons.length, .cells [.ov (H.length + 6) 0], .cells [.fn zcM [.ptr (H.length + 4) 0, .ptr (H.length + 2) 0, .ptr (H.length + 5) 0]], .vec zbe 3 0 []]) (H.length + 4) (H.length + 6) (H.length + 2) (H.length + 5) rs [] :=
    ⟨by omega, ⟨by omega, by omega⟩, ⟨by omega, by omega⟩, by simp, by simp [VT.css], ⟨.own (H.length + 3), by simp⟩, by simp⟩
   have hpl := zeF rs (.mk vk c ks)
   refine zy7 (n := n) (al := al) (by simpa using hrs.symm) _ (.mk vk c ks) (Nat.le_refl _) (by omega) hhv0 _ _ _ _ _ [] hP (by simp; omega) _ ?_
   have hN := hP.next (l' := [] ++ za2 rs (.mk vk c ks))
   have hN1 := hN.h1
   have hN2 := hN.h2
   rw [List.nil_append] at hN1 hN2 ⊢
   rw [hN1]
   simp only [zvV, zaY, List.getElem?_cons_zero]
   generalize za2 rs (.mk vk c ks) = l at *
   refine ⟨.sl (VT.css l) .none, H, [AB.cells [.int .i64 5, .int .i64 n, .sl (VT.css al) .none], .cells [.int .i64 vk, .int .i64 c, .sl (VT.css ks) .none], .cells [.sl (zbJ rs) (.own (H.length + 3))], .perm zcE 1 (data[n]).cons.length, .cells [.ov (H.length + 6) l.length], .cells [.fn zcM [.ptr (H.length + 4) 0, .ptr (H.length + 2) 0, .ptr (H.length + 5) 0]], .vec zbe 3 l.length (VT.css l).flatten], ?_, Nat.le_refl _, hs, .one (.vfz (H.length + 6) zbe 3 l.length _ (VT.css l) (by omega) hN2 (zqK l) (by simp) (fun c hc => ?_)), hK⟩
   ·simp [pw, List.set_append_right]
   ·rw [VT.css_map] at hc
    obtain ⟨v, _, rfl⟩ := List.mem_map.1 hc
    simp
theorem zqH : ∀ (a : List VT) (b : List Bool) (x : VT) (y : Bool), a.length = b.length → pick (a ++ [x]) (b ++ [y]) = pick a b ++ (if y then [] else [x])
 | [], [], x, y, _ => by cases y <;> rfl
 | [], _ :: _, _, _, h => by cases h
 | _ :: _, [], _, _, h => by cases h
 | c :: a, d :: b, x, y, h => by
  have := zqH a b x y (by simpa using h)
  cases d <;> simp [pick, this]
theorem zxM {l : List VT} {bs : List Bool} {i : Nat} (h : l.length = bs.length) (hi : i < l.length) : pick (l.take (i + 1)) (bs.take (i + 1)) = pick (l.take i) (bs.take i) ++ (if bs[i]'(by omega) then [] else [l[i]]) := by
 rw [List.take_succ_eq_append_getElem hi, List.take_succ_eq_append_getElem (by omega : i < bs.length)]
 exact zqH _ _ _ _ (by simp; omega)
theorem zqG : ∀ (a : List VT) (b : List Bool), (pick a b).length ≤ a.length
 | [], b => by simp [pick]
 | _ :: _, [] => by simp [pick]
 | c :: a, d :: b => by
  have := zqG a b
  cases d <;> simp [pick] <;> omega
theorem zwd {l : List Bool} {i : Nat} (h : i < (zbT l).length) : (zbT l)[i] = [.bool (l[i]'(by simpa [zbT] using h))] := by simp [zbT]
theorem zpj (l : List Bool) : (zbT l).length = l.length := by simp [zbT]
theorem zxK {data : List Dat} {k n : Int} {ks : List VT} {c : Int} {l : List VT} (hk : zbp data) (hf : za7 data (.mk k n ks) c = some l) :
  ∃ bs, l.length = bs.length ∧ l.length ≤ 8 ∧ zb3 data (.mk k n ks) c = some (pick l bs) ∧ (∀ x ∈ l, x.nodes ≤ 200) ∧ k = 5 ∧
   (∀ H K, K (.sl (zbT bs) .none) H → ACalls tP zeC [.sl (data.map Dat.cs) .none, .int .i64 n, .int .i64 c] H K) ∧
   (∀ H K, K (.sl (zbT bs) .none) H → ACalls tP zgB [.sl (data.map Dat.cs) .none, .int .i64 n, .int .i64 c] H K) := by
 obtain ⟨k5, n0, c0, hn, hc, hv, rfl, h200⟩ := zff hf
 obtain ⟨f1, f2, f3⟩ := zeq hk
 have hd := List.getElem_mem hn
 have hcm := List.getElem_mem hc
 obtain ⟨g1, g2⟩ := f2 _ hd _ hcm
 have g3 := f3 _ hd
 have h8 := ((hk.2 _ hd).2.2 _ hcm).2.1
 refine ⟨zbC n.toNat data[n.toNat] (data[n.toNat]).cons[c.toNat], by simp [zbC], by simpa using h8, ?_, h200, k5, fun H K hK => ?_, fun H K hK => ?_⟩
 ·simp [zb3, hf, za8, hn, hc, List.getD_eq_getElem?_getD, VT.num]
 ·have := zoo data n.toNat c.toNat hn hc f1 g3 (by omega) (fun x hx => by have := g2 x hx; omega) H K (by simpa [zbT, zbC, Function.comp_def] using hK)
  rwa [Int.toNat_of_nonneg n0, Int.toNat_of_nonneg c0] at this
 ·have := zsz data n.toNat c.toNat hn hc f1 g3 (by omega) (fun x hx => by have := g2 x hx; omega) H K hK
  rwa [Int.toNat_of_nonneg n0, Int.toNat_of_nonneg c0] at this
theorem zxJ {data : List Dat} {t : VT} {c : Int} (hf : za7 data t c = none) : zb3 data t c = none := by simp [zb3, hf]
theorem zDw (data : List Dat) (hk : zbp data) (t : VT) (ht : t.nodes ≤ 1000) (c : Int) (H : zaa) (K : Kt) (hK : K (zcL (zb3 data t c)) H) :
  ACalls tP zk5 [.sl (data.map Dat.cs) .none, .agg t.cs, .int .i64 c] H K := by
 refine ACalls.out (zDu fun hs => ?_)
 obtain ⟨f1, f2, f3⟩ := zeq hk
 obtain ⟨k, n, ks⟩ := t
 simp [ztH, VT.cs, Nat.add_assoc]
 refine zuS data f1 f2 f3 (.mk k n ks) ht c _ _ ?_
 cases hf : za7 data (.mk k n ks) c with
 | none =>
  rw [zxJ hf] at hK
  simp [zcL]
  refine ⟨⟨rfl, rfl⟩, ?_⟩
  exact Out.tup (bs := [.sl [] .none, .bool false]) hs hK ⟨zdA, zaQ rfl rfl, trivial⟩
 | some l =>
  obtain ⟨bs, hlb, hl8, hpay, h200, k5, hsc, _⟩ := zxK hk hf
  rw [hpay] at hK
  simp [zcL]
  refine hsc _ _ ?_
  simp [zpj]
  unfold ziC
  refine ALoop.own 10 za0 3 rfl ?_
  have hl1 : (H ++ [AB.cells [AV.int IntKind.i64 k, AV.int IntKind.i64 n, AV.sl (VT.css ks) Tok.none]]).length = H.length + 1 := by simp
  rw [hl1]
  show ziC (.sl (VT.css l) .none) (.sl [] (.own (H.length + 1))) (.sl (zbT bs) .none) (.int .i64 bs.length) (.int .i64 0) (H ++ [.cells [.int .i64 k, .int .i64 n, .sl (VT.css ks) .none]] ++ [.perm za0 3 0]) (Out H.length K)
  have hperm : ∀ m, HSc (H ++ [.cells [.int .i64 k, .int .i64 n, .sl (VT.css ks) .none], .perm za0 3 m]) := fun m => hs.append (by simp [AB.sc, AV.scA, AV.scB])
  refine zDs (Inv := fun q t10 t28 H' => ∃ i : Nat, i ≤ bs.length ∧ q = bs.length - i ∧ t28 = .int .i64 i ∧ t10 = .sl (VT.css (pick (l.take i) (bs.take i))) (.own (H.length + 1)) ∧ H' = H ++ [.cells [.int .i64 k, .int .i64 n, .sl (VT.css ks) .none], .perm za0 3 (pick (l.take i) (bs.take i)).length]) bs.length ?_ ?_
  ·intro _; exact ⟨0, by omega, by omega, rfl, by simp [pick, VT.css], by simp [pick]⟩
  ·rintro q t10 t28 H' ⟨i, hi, rfl, rfl, rfl, rfl⟩ hsc' hlen hsF Kb hKb
   by_cases hlt : i < bs.length
   ·have hps := zxM hlb (by omega : i < l.length)
    have hpl := zqG (l.take i) (bs.take i)
    rw [List.length_take] at hpl
    have hnext : ∀ J, ziB (.sl (VT.css l) .none) (.sl (VT.css (pick (l.take (i + 1)) (bs.take (i + 1)))) (.own (H.length + 1))) (.sl (zbT bs) .none) (.int .i64 bs.length) (.int .i64 i)
      (H ++ .cells [.int .i64 k, .int .i64 n, .sl (VT.css ks) .none] :: .perm za0 3 (pick (l.take (i + 1)) (bs.take (i + 1))).length :: J) (Out H.length K) Kb := by
     intro J
     simp [ziB, ztI]
     rw [zaq (by omega) (by omega)]
     refine hKb _ _ ⟨bs.length - (i + 1), by omega, Back.at (J := J) (H2 := H ++ [.cells [.int .i64 k, .int .i64 n, .sl (VT.css ks) .none], .perm za0 3 (pick (l.take (i + 1)) (bs.take (i + 1))).length]) (by simp) (by simp) (hperm _) ?_ ⟨_, _, rfl, i + 1, by omega, rfl, by simp, rfl, rfl⟩⟩
     simp [ziA, AV.sc, AV.scV, AV.scA, AV.scB]
    simp [zm6, zpj, hlt, zwd]
    cases hbi : bs[i] with
    | true =>
     rw [hbi] at hps
     simp at hps
     simp
     have := hnext []
     rw [hps] at this
     exact this
    | false =>
     rw [hbi] at hps
     simp only [Bool.false_eq_true, if_false] at hps
     simp [show i < l.length by omega]
     rw [zdO]
     simp [zaA, zaV, zaN]
     have := hnext []
     rw [hps] at this
     rw [show VT.css (pick (l.take i) (bs.take i) ++ [l[i]]) = VT.css (pick (l.take i) (bs.take i)) ++ [l[i].cs] by simp [VT.css_map], show (pick (l.take i) (bs.take i) ++ [l[i]]).length = (pick (l.take i) (bs.take i)).length + 1 by simp] at this
     exact ⟨⟨by omega, by omega⟩, this⟩
   ·obtain rfl : i = bs.length := by omega
    rw [List.take_of_length_le (by omega), List.take_length] at *
    simp [zm6]
    refine ⟨⟨rfl, rfl⟩, ?_⟩
    exact Out.tup (bs := [.sl (VT.css (pick l bs)) .none, .bool true]) hs hK ⟨slV, zaQ rfl rfl, trivial⟩
def pos (v : Bool) (bs : List Bool) (i : Nat) : List Nat := (List.range i).filter fun j => bs.getD j false == v
end Go.Proofs.YtjkkonpjecoieaaGreat
