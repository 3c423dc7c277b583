import Derived.Test.YtjkkonpjecoieaaGreatAbsW
import Derived.Test.YtjkkonpjecoieaaGreatKNum
import Derived.Test.YtjkkonpjecoieaaGreatProg
import Derived.KernelRfl
set_option linter.unusedSimpArgs false
set_option linter.unusedVariables false
namespace Go.Abs
open Go Go.RowKit
variable {P : Program} {B : Nat} {w : World} {G : Gh} {H : zaa}
theorem zt1 (h : HRel B w G H) (e size : Nat) : TRel w ⟨G.L, G.μ ++ [.own (.slice none 0 0) size 0]⟩ (.slice none 0 0) (.ov H.length 0) := by
 refine ⟨⟨none, 0, rfl, fun h => absurd h (by omega)⟩, .slice none 0 0, size, 0, ?_, Nat.le_refl _, fun _ => rfl⟩
 rw [← h.len]
 simp
theorem ALoop.vec {c : Code} {Q : AExit → List AV → zaa → Prop} {F : List AV} (i e size : Nat) (hi : F[i]? = some .snil)
  (h : ALoop P c Q (F.set i (.ov H.length 0)) (H ++ [.vec e size 0 []])) : ALoop P c Q F H := by
 intro B w G a hH hF hd
 obtain ⟨hE, hH'⟩ := hH.newVec e size
 have hF' : FRel w ⟨G.L, G.μ ++ [.own (.slice none 0 0) size 0]⟩ a.tmps (F.set i (.ov H.length 0)) := by
  unfold FRel
  obtain ⟨v, h1, h2⟩ := All2.get hF hi
  have h2 : v = .slice none 0 0 := h2
  subst h2
  have hset : a.tmps.toList = a.tmps.toList.set i (.slice none 0 0) := by
   apply List.ext_getElem?
   intro k
   by_cases hk : k = i
   ·subst hk; rw [List.getElem?_set_self (List.getElem?_eq_some_iff.1 h1).1]; exact h1
   ·rw [List.getElem?_set_ne (fun h => hk h.symm)]
  rw [hset]
  exact All2.set i (hF.ext hE) (zt1 hH e size)
 refine wp_mono (h B w _ a hH' hF' hd) fun e a' w' hp => ?_
 obtain ⟨F'', H'', G'', e'', rfl, k1, k2, k3, k4, k5⟩ := hp
 exact ⟨F'', H'', G'', e'', rfl, hE.trans k1, k2, k3, k4, k5⟩
theorem ACalls.vecRes {f : FuncId} {args : List AV} {K : Kt} (e size : Nat) (h : ACalls P f args H fun r H' => (r = .snil ∧ K (.ov H'.length 0) (H' ++ [.vec e size 0 []])) ∨ K r H') : ACalls P f args H K := by
 intro B w G vs hH hv
 refine (h B w G vs hH hv).mono fun ex w' ⟨v, r, H', G', h1, h2, h3, h4, h5⟩ => ?_
 rcases h5 with ⟨rfl, hk⟩ | hk
 ·have h4 : v = .slice none 0 0 := h4
  subst h4
  obtain ⟨hE, hH'⟩ := h3.newVec e size
  exact ⟨_, _, _, _, h1, h2.trans hE, hH', zt1 h3 e size, hk⟩
 ·exact ⟨v, r, H', G', h1, h2, h3, h4, hk⟩
theorem ACalls.withSc {f : FuncId} {args : List AV} {K : Kt} (h : ACalls P f args H fun r H' => HSc H' → K r H') : ACalls P f args H K := by
 intro B w G vs hH hv
 exact (h B w G vs hH hv).mono fun ex w' ⟨v, r, H', G', h1, h2, h3, h4, h5⟩ => ⟨v, r, H', G', h1, h2, h3, h4, h5 h3.sc⟩
theorem zvy {vs : List Value} : ∀ {cs cs' : List AV}, All2 WkA cs cs' → ∀ {vs : List Value}, All2 (ARel w G) vs cs → All2 (ARel w G) vs cs'
 | [], [], _, _, hv => hv
 | x :: cs, x' :: cs', hw, [], hv => hv.elim
 | x :: cs, x' :: cs', hw, v :: vs, hv => ⟨hw.1.arel hv.1, zvy (vs := []) hw.2 hv.2⟩
 | [], _ :: _, hw, _, _ => hw.elim
 | _ :: _, [], hw, _, _ => hw.elim
theorem ALoop.reCell {c : Code} {Q : AExit → List AV → zaa → Prop} {F : List AV} {id : Nat} {cs : List AV} (cs' : List AV) (hid : H[id]? = some (.cells cs)) (hw : All2 WkA cs cs') (h : ALoop P c Q F (H.set id (.cells cs'))) : ALoop P c Q F H := by
 intro B w G a hH hF hd
 exact h B w G a (hH.reCell hid fun vs hv => zvy (vs := []) hw hv) hF hd
theorem HRel.frzV (h : HRel B w G H) {id e size n : Nat} {cs : List AV} (hH : H[id]? = some (.vec e size n cs)) {es : List (List AV)} (hp : zaB cs = some es.flatten) (hlen : es.length = n) (hsz : ∀ c ∈ es, c.length = size) :
  ∃ G', Ext B w G w G' ∧ HRel B w G' (H.set id .dead) ∧ ∀ v, ARel w G v (.ov id n) → DRel w G'.L v (.sl es .none) := by
 have hlt : id < G.μ.length := by rw [h.len]; exact (List.getElem?_eq_some_iff.1 hH).1
 obtain ⟨gi, hgi⟩ : ∃ gi, G.μ[id]? = some gi := ⟨_, List.getElem?_eq_getElem hlt⟩
 have hok := h.ok id _ _ hH hgi
 cases gi with
 | gap => exact hok.elim
 | blk b => exact hok.elim
 | own v0 s0 n0 =>
  obtain ⟨rfl, rfl, ⟨xs, hown, hcs⟩, hL0⟩ := hok
  have hown2 := hown
  obtain ⟨hl, hrow⟩ := hown2
  rcases hrow with ⟨h1, h2⟩ | ⟨g, cap, cur, h1, hB, hw, hcap, hcm, hcz, htk⟩
  ·subst h1
   refine ⟨G, Ext.refl _ _ _, ⟨by simp [h.len], ?_, h.dist, h.fresh, h.lt, h.base⟩, ?_⟩
   ·intro id' ab gi k1 k2
    by_cases hid : id' = id
    ·subst hid
     rw [List.getElem?_set_self (List.getElem?_eq_some_iff.1 hH).1] at k1
     cases k1
     rw [hgi] at k2
     cases k2
     exact fun b hb => by simp [Value.ownBlock] at hb
    ·rw [List.getElem?_set_ne (fun h => hid h.symm)] at k1
     exact h.ok id' ab gi k1 k2
   ·intro v hv
    obtain ⟨⟨a, cap0, rfl, _⟩, v', s', n', hμ, _, heq⟩ := hv
    have hes : es = [] := List.eq_nil_of_length_eq_zero (by omega)
    subst hes
    subst hlen
    exact .slE _ _
  ·subst h1
   have hLg : G.L g = 0 := hL0 g rfl
   have he : Ext B w G w ⟨fun x => if x = g then cur.size else G.L x, G.μ⟩ :=
    ⟨Nat.le_refl _, Below.refl _ _, fun x => by by_cases hx : x = g <;> simp [hx, hLg], fun _ _ _ => rfl, fun _ gi h => ⟨gi, h, gi.le_refl⟩⟩
   refine ⟨_, he, ⟨by simp [h.len], ?_, h.dist, fun x hx => ?_, h.lt, h.base⟩, ?_⟩
   ·intro id' ab gi k1 k2
    by_cases hid : id' = id
    ·subst hid
     rw [List.getElem?_set_self (List.getElem?_eq_some_iff.1 hH).1] at k1
     cases k1
     have k2 : G.μ[id']? = some gi := k2
     rw [hgi] at k2
     cases k2
     intro b hb
     simp [Value.ownBlock] at hb
     subst hb
     exact ⟨cur, e, _, hw, by simp⟩
    ·rw [List.getElem?_set_ne (fun h => hid h.symm)] at k1
     refine (h.ok id' ab gi k1 k2).keep he (fun x hx => ⟨rfl, ?_⟩)
     have : ¬ x = g := fun hxb => hid (h.dist id' id gi _ g k2 hgi (by rw [hx, hxb]) rfl)
     simp [this]
   ·have := h.lt id _ g hgi rfl
    have h3 : ¬ x = g := by omega
    simp [h3, h.fresh x hx]
   ·intro v hv
    obtain ⟨⟨a, cap0, rfl, _⟩, v', s', n', hμ, _, heq⟩ := hv
    rw [hgi] at hμ
    simp only [Option.some.injEq, GI.own.injEq] at hμ
    obtain ⟨rfl, rfl, rfl⟩ := hμ
    have hvv := heq rfl
    simp only [Value.slice.injEq, true_and] at hvv
    obtain ⟨rfl, rfl⟩ := hvv
    subst hlen
    by_cases hes : es = []
    ·subst hes; exact .slE _ _
    ·obtain ⟨_, _, _, hcell⟩ := zdj hown
     refine DRel.of_flat_at (zs := xs) hsz hes hcap ?_ ((zdk hcs hp).mono fun _ _ => he.drel) ?_
     ·simp only [if_true]
      rw [hcz, Nat.zero_add]
      exact Nat.mul_le_mul_right _ hcap
     ·intro j u hj
      rw [Nat.zero_add, hcell j (by rw [← hl]; exact (List.getElem?_eq_some_iff.1 hj).1)]
      exact hj
theorem ACalls.frzV {f : FuncId} {x : AV} {K : Kt} (id e size n : Nat) (cs : List AV) (es : List (List AV)) (hH : H[id]? = some (.vec e size n cs)) (hp : zaB cs = some es.flatten) (hlen : es.length = n) (hsz : ∀ c ∈ es, c.length = size)
  (h : ACalls P f [.agg [x, .sl es .none]] (H.set id .dead) K) : ACalls P f [.agg [x, .ov id n]] H K := by
 intro B w G vs hR hv
 obtain ⟨G', hE, hR', hd⟩ := hR.frzV hH hp hlen hsz
 refine (h B w G' vs hR' ?_).mono fun e w' ⟨v, r, H', G'', k1, k2, k3, k4, k5⟩ => ⟨v, r, H', G'', k1, hE.trans k2, k3, k4, k5⟩
 generalize vs.toList = l at *
 match l, hv with
 | [v], ⟨⟨us, hu, h1⟩, _⟩ =>
  refine ⟨⟨us, hu, ?_⟩, trivial⟩
  generalize us.toList = m at *
  match m, h1 with
  | [a, b], ⟨h2, h3, _⟩ => exact ⟨hE.arel h2, hd b h3, trivial⟩
end Go.Abs
namespace Go.Proofs.YtjkkonpjecoieaaGreat
open Go Go.Abs
set_option maxRecDepth 8000
theorem zgt (A : List Nat) (x : Nat) : zaq (A ++ [x]) = zaq A + 1000000000 ^ A.length * x := by rw [zgs]; simp [zaq]
theorem ztv {A B : List Nat} (hl : A.length = B.length) (hA : ∀ x ∈ A, x < 1000000000) (i : Nat) (hi : i < A.length) (hd : A.drop (i + 1) = B.drop (i + 1)) (hlt : A[i] < B[i]'(by omega)) : zaq A < zaq B := by
 have e1 : ∀ (l : List Nat) (h : i < l.length), zaq l = zaq (l.take i) + 1000000000 ^ i * (l[i] + 1000000000 * zaq (l.drop (i + 1))) := by
  intro l h
  conv => lhs; rw [← List.take_append_drop i l, zgs, List.drop_eq_getElem_cons h, zaq]
  rw [List.length_take, Nat.min_eq_left (by omega)]
 rw [e1 A hi, e1 B (by omega), hd]
 have h1 := zeE (A.take i) (fun x hx => hA x (List.mem_of_mem_take hx))
 rw [List.length_take, Nat.min_eq_left (by omega)] at h1
 generalize hZ : zaq (B.drop (i + 1)) = Z
 generalize A[i] = a at hlt ⊢
 generalize B[i] = b at hlt ⊢
 have h2 : 1000000000 ^ i * (a + 1000000000 * Z + 1) ≤ 1000000000 ^ i * (b + 1000000000 * Z) := Nat.mul_le_mul_left _ (by omega)
 rw [Nat.mul_succ] at h2
 omega
def zc2 (a b : Nat) : Int := if a < b then -1 else if b < a then 1 else 0
def us (l : List Nat) : List AV := l.map fun (n : Nat) => AV.int .u32 (n : Int)
@[simp] theorem zSO (l : List Nat) : (us l).length = l.length := by simp [us]
theorem zor (l : List Nat) : (zap l).flatten = us l := by induction l with
 | nil => rfl
 | cons x l ih => simp only [zap, us, List.map_cons, List.flatten_cons] at ih ⊢; rw [ih]; rfl
theorem zi5 : ∀ (l : List Nat), zaB (us l) = some (us l)
 | [] => rfl
 | x :: l => by simp only [us, List.map_cons, zaB, AV.pd]; rw [show zaB (List.map (fun n : Nat => AV.int .u32 (n : Int)) l) = some (us l) from zi5 l]; rfl
theorem zDx (l : List Nat) (i : Nat) (h : i < l.length) : (us l)[i]? = some (.int .u32 ((l[i] : Nat) : Int)) := by simp [us, h]
theorem zvu (l : List Nat) (i x : Nat) (h : i < l.length) : (us l).take i ++ [AV.int .u32 (x : Int)] ++ (us l).drop (i + 1) = us (l.set i x) := by
 simp only [us, ← List.map_take, ← List.map_drop]
 rw [List.set_eq_take_append_cons_drop, if_pos h]
 simp
theorem zvw (n : Nat) : List.replicate n (AV.int .u32 0) = us (List.replicate n 0) := by simp [us]
theorem zzV {k : AV → Prop} (l : List Nat) (i : Nat) (h : i < l.length) : zbc false 1 i (us l) k = k (.int .u32 ((l[i] : Nat) : Int)) := by
 simp [zbc, zDx l i h]
theorem zDy (O : List Nat) (i x : Nat) (h : i < O.length) : List.take i (us O) ++ AV.int .u32 (x : Int) :: List.drop (i + 1) (us O) = us (O.set i x) := by rw [← zvu O i x h]; simp
theorem zCs {O : List Nat} (hO : ∀ x ∈ O, x < 1000000000) {i x : Nat} (hx : x < 1000000000) : ∀ y ∈ O.set i x, y < 1000000000 := by
 intro y hy
 rcases List.mem_or_eq_of_mem_set hy with hy | rfl
 ·exact hO y hy
 ·exact hx
def zan (z : Int) : List AV := [.bool (decide (z < 0)), .sl (zap (lim z.natAbs)) .none, .sl (zap [1]) .none]
def Sm (z : Int) : Prop := z.natAbs < 1000000000 ^ 30
theorem Sm.len {z : Int} (h : Sm z) : (lim z.natAbs).length ≤ 30 := zbO h
theorem zdI : lim 1 = [1] := ztq (by omega) (by omega)
theorem zmN (n : Nat) : ∀ x ∈ lim n, x < 4294967296 := fun x hx => by have := zcQ n x hx; omega
@[simp] theorem zB1 (z : Int) : (zan z).length = 3 := rfl
@[simp] theorem zB0 (z : Int) : (zan z).all AV.known = true := rfl
theorem zcE {H J : zaa} {K : Kt} {z : Int} (hs : HSc H) (hK : K (.agg (zan z)) H) : Out H.length K (.agg (zan z)) (H ++ J) := Out.one hs .rfl' rfl rfl hK
theorem zBo {a b : Nat} (ha : a < 1000000000 ^ 30) (hb : b < 1000000000 ^ 30) : a * b < 1000000000 ^ 100 := by
 have := Nat.mul_lt_mul'' ha hb
 rw [← Nat.pow_add] at this
 exact Nat.lt_of_lt_of_le this (Nat.pow_le_pow_right (by omega) (by omega))
theorem ziG : (1 : Nat) < 1000000000 ^ 30 := by decide
theorem zCt (a b : Int) : (if (decide (a < 0) != decide (b < 0)) = true then -((a.natAbs * b.natAbs : Nat) : Int) else ((a.natAbs * b.natAbs : Nat) : Int)) = a * b := by
 rw [← Int.natAbs_mul]
 by_cases ha : a < 0 <;> by_cases hb : b < 0 <;> simp [ha, hb]
 ·have := Int.mul_pos_of_neg_of_neg ha hb; omega
 ·have := Int.mul_nonpos_of_nonpos_of_nonneg (Int.le_of_lt ha) (by omega : 0 ≤ b); omega
 ·have := Int.mul_nonpos_of_nonneg_of_nonpos (by omega : 0 ≤ a) (Int.le_of_lt hb); omega
 ·have := Int.mul_nonneg (by omega : 0 ≤ a) (by omega : 0 ≤ b); omega
theorem Sm.neg {z : Int} (h : Sm z) : Sm (-z) := by unfold Sm at h ⊢; rwa [Int.natAbs_neg]
end Go.Proofs.YtjkkonpjecoieaaGreat
namespace Go.Proofs.YtjkkonpjecoieaaGreat
open Go Go.Abs
set_option maxRecDepth 100000
def zjz : Nat → List Bool
 | 3 => rl false [3,1,3,3,9]
 | _ => []
noncomputable def zo6 : Code := Tryz.f14.body.getD .skip
noncomputable def zFE : List ResultVar := Tryz.f14.results.toList
def zjA (t3 t7 t8 t9 : AV) : List AV := ux 3 (t3 :: ux 3 (t7 :: t8 :: t9 :: ux 9 []))
def zFC : List Bool := zjz 3
noncomputable def zFA : Code := zas [1, 1, 0, 1, 0, 0] zo6
def zFz (K : Kt) : AExit → List AV → zaa → Prop := zat tP zjz [1, 1, 0, 1, 0] zo6 (zaA tP zFE K)
def zwk (t3 t7 t8 t9 : AV) (H : zaa) (K : Kt) : Prop := ALoop tP zFA (zFz K) (zjA t3 t7 t8 t9) H
def zo5 (t3 t7 t8 t9 : AV) (H : zaa) (K : Kt) (Kb3 : Lt) : Prop :=
 zac .lss false t9 t8 fun t10 =>
 zag t10
 (zaj 3 t7 t9 fun t11 =>
 zad true 3 t11 H fun t12 =>
 zau [(.int .i64 0), (.int .i64 0), .snil] H fun t5 H =>
 zak 3 t5 t12 H fun H =>
 zad true 3 t5 H fun t14 =>
 ACalls tP zhX [t14] H fun t15 H =>
 zac .add false t3 t15 fun t16 =>
 zac .add false t9 (.int .i64 1) fun t17 =>
 Kb3 (zjA t16 t7 t8 t17) H)
 (K t3 H)
def zvX (t0 : AV) (H : zaa) (K : Kt) : Prop :=
 zao t0 H fun t1 H =>
 zaf 2 t1 fun t6 =>
 zad false 1 t6 H fun t7 =>
 zah 1 t7 fun t8 =>
 zwk (.int .i64 1) t7 t8 (.int .i64 0) H K
theorem zFB {t3 t7 t8 t9 : AV} {H : zaa} {K : Kt} (Inv : Nat → AV → AV → zaa → Prop) (n : Nat) (h0 : HSc H → Inv n t3 t9 H)
  (round : Rd2 (fun t3 => fun t9 => zjA t3 t7 t8 t9) (fun t3 => fun t9 => fun H Kb3 => zo5 t3 t7 t8 t9 H K Kb3) H Inv) : zwk t3 t7 t8 t9 H K :=
 lp2 (M := zjz) zFC t3 t9 (by kernel_rfl) Inv n h0 round
theorem zFD {t0 : AV} {H : zaa} {K : Kt} (h : HSc H → zvX t0 H K) : ACalls tP zhX [t0] H K :=
 zam (M := zjz) Tryz.func14 (c := zo6) (by kernel_rfl) (fun hs => Eq.mpr (by kernel_rfl) (h hs))
end Go.Proofs.YtjkkonpjecoieaaGreat
namespace Go.Abs
def chs : Nat → Nat → Nat
 | _, 0 => 1
 | 0, _ + 1 => 0
 | n + 1, k + 1 => chs n k + chs n (k + 1)
@[simp] theorem zAA (n : Nat) : chs n 0 = 1 := by cases n <;> rfl
theorem zgb : ∀ {n k : Nat}, n < k → chs n k = 0
 | 0, k + 1, _ => rfl
 | n + 1, k + 1, h => by rw [chs, zgb (by omega), zgb (by omega)]
theorem zhI : ∀ (n k : Nat), (k + 1) * chs n (k + 1) = chs n k * (n - k)
 | 0, k => by simp [chs]
 | n + 1, 0 => by
  have := zhI n 0
  simp only [chs, zAA] at this ⊢
  omega
 | n + 1, k + 1 => by
  have h1 := zhI n k
  have h2 := zhI n (k + 1)
  simp only [chs]
  rw [show n + 1 - (k + 1) = n - k by omega]
  by_cases hk : k + 1 ≤ n
  ·obtain ⟨m, rfl⟩ : ∃ m, n = k + 1 + m := ⟨n - (k + 1), by omega⟩
   rw [show k + 1 + m - k = m + 1 by omega] at h1 ⊢
   rw [show k + 1 + m - (k + 1) = m by omega] at h2
   grind
  ·rw [zgb (show n < k + 1 by omega), zgb (show n < k + 1 + 1 by omega), show n - k = 0 by omega]
   simp
theorem zhH : ∀ (n k : Nat), chs n k ≤ n ^ k
 | n, 0 => by simp
 | 0, k + 1 => by simp [chs]
 | n + 1, k + 1 => by
  have h1 := zhH n k
  have h2 := zhH n (k + 1)
  have h3 : n ^ k ≤ (n + 1) ^ k := Nat.pow_le_pow_left (by omega) k
  simp only [chs, Nat.pow_succ] at h2 ⊢
  have h4 : n ^ k * n ≤ (n + 1) ^ k * n := Nat.mul_le_mul_right _ h3
  rw [Nat.mul_add]
  omega
end Go.Abs
namespace Go.Proofs.YtjkkonpjecoieaaGreat
open Go Go.Abs
set_option maxRecDepth 8000
end Go.Proofs.YtjkkonpjecoieaaGreat
namespace Go.Proofs.YtjkkonpjecoieaaGreat
open Go Go.Abs
set_option maxRecDepth 8000
theorem zCA {n : Nat} (h : n < 1000000000 ^ 30) : Sm (n : Int) := by unfold Sm; rw [Int.natAbs_natCast]; exact h
@[simp] theorem zSu (z : Int) : List.take 3 (zan z) = zan z := rfl
@[simp] theorem zSt (z : Int) : List.drop 3 (zan z) = [] := rfl
@[simp] theorem zcn (z : Int) : (∀ x ∈ zan z, x.known = true) = True := by simp [zan, AV.known]
end Go.Proofs.YtjkkonpjecoieaaGreat
namespace Go.Abs
open Go

inductive VT where
 | mk (kind num : Int) (kids : List VT)

mutual
def VT.cs : VT → List AV
 | .mk k n ks => [.int .i64 k, .int .i64 n, .sl (VT.css ks) .none]
def VT.css : List VT → List (List AV)
 | [] => []
 | v :: vs => VT.cs v :: VT.css vs
end
mutual
def VT.nodes : VT → Nat
 | .mk _ _ ks => VT.nodesL ks + 1
def VT.nodesL : List VT → Nat
 | [] => 0
 | v :: vs => VT.nodes v + VT.nodesL vs
end
theorem VT.css_map : ∀ ks : List VT, VT.css ks = ks.map VT.cs
 | [] => rfl
 | v :: vs => by simp [VT.css, VT.css_map vs]
theorem VT.nodes_pos : ∀ v : VT, 0 < v.nodes
 | .mk _ _ _ => by simp [VT.nodes]
theorem VT.nodesL_app : ∀ (a b : List VT), VT.nodesL (a ++ b) = VT.nodesL a + VT.nodesL b
 | [], b => by simp [VT.nodesL]
 | v :: a, b => by simp [VT.nodesL, VT.nodesL_app a b]; omega
@[simp] theorem VT.cs_len (v : VT) : v.cs.length = 3 := by cases v; simp [VT.cs]
@[simp] theorem VT.css_len (ks : List VT) : (VT.css ks).length = ks.length := by simp [VT.css_map]
@[simp] theorem VT.cs_take (v : VT) : v.cs.take 3 = v.cs := by cases v; simp [VT.cs]
@[simp] theorem VT.cs_known (v : VT) : v.cs.all AV.known = true := by cases v; simp [VT.cs, AV.known]
@[simp] theorem VT.cs_scA (v : VT) (n : Nat) : v.cs.all (AV.scA n) = true := by cases v; simp [VT.cs, AV.scA, AV.scB]
@[simp] theorem VT.css_at {ks : List VT} {i : Nat} (h : i < ks.length) : (VT.css ks)[i]?.getD [] = (ks[i]).cs := by simp [VT.css_map, h]
@[simp] theorem VT.css_get {ks : List VT} {i : Nat} (h : i < (VT.css ks).length) : (VT.css ks)[i] = (ks[i]'(by simpa using h)).cs := by simp [VT.css_map]
theorem VT.css_getD {ks : List VT} {i : Nat} (h : i < ks.length) : (VT.css ks).getD i [] = (ks[i]).cs := by simp [VT.css_map, List.getD_eq_getElem?_getD, h]
theorem VT.kid_lt {k n : Int} {ks : List VT} {i : Nat} (h : i < ks.length) : (ks[i]).nodes < (VT.mk k n ks).nodes := by
 have h1 : VT.nodesL ks = VT.nodesL (ks.take i) + ((ks[i]).nodes + VT.nodesL (ks.drop (i + 1))) := by
  conv => lhs; rw [← List.take_append_drop i ks, VT.nodesL_app, List.drop_eq_getElem_cons h]
  rw [VT.nodesL]
 simp only [VT.nodes]
 omega
theorem VT.len_le : ∀ ks : List VT, ks.length ≤ VT.nodesL ks
 | [] => by simp
 | v :: vs => by have := VT.len_le vs; have := v.nodes_pos; simp [VT.nodesL]; omega
theorem VT.nodesL_take {ks : List VT} {i : Nat} (h : i < ks.length) : VT.nodesL (ks.take (i + 1)) = VT.nodesL (ks.take i) + (ks[i]).nodes := by
 rw [List.take_succ_eq_append_getElem h, VT.nodesL_app]; simp [VT.nodesL]
theorem VT.nodesL_take_le (ks : List VT) (i : Nat) : VT.nodesL (ks.take i) ≤ VT.nodesL ks := by
 conv => rhs; rw [← List.take_append_drop i ks, VT.nodesL_app]
 omega
def VT.leaf (k : Int) : Bool := k == 6 || k == 7 || k == 8
mutual
def VT.size : VT → Nat
 | .mk k _ ks => if VT.leaf k = true then 1 else VT.sizeL ks + 1
def VT.sizeL : List VT → Nat
 | [] => 0
 | v :: vs => VT.size v + VT.sizeL vs
end
mutual
theorem VT.size_le : ∀ v : VT, v.size ≤ v.nodes
 | .mk k n ks => by
  have := VT.sizeL_le ks
  simp only [VT.size, VT.nodes]
  split <;> omega
theorem VT.sizeL_le : ∀ ks : List VT, VT.sizeL ks ≤ VT.nodesL ks
 | [] => by simp [VT.sizeL, VT.nodesL]
 | v :: vs => by have := VT.size_le v; have := VT.sizeL_le vs; simp only [VT.sizeL, VT.nodesL]; omega
end
/- The guard on a value's nodes: what is left of a number behind it, and whether it was enough. -/
mutual
def VT.val : VT → Int → Bool × Int
 | .mk _ _ ks, n => if n - 1 < 0 then (false, n - 1) else VT.valL ks (n - 1)
def VT.valL : List VT → Int → Bool × Int
 | [], n => (true, n)
 | v :: vs, n => match VT.val v n with
  | (true, m) => VT.valL vs m
  | (false, m) => (false, m)
end
mutual
theorem VT.val_spec : ∀ (v : VT) (n : Int), 0 ≤ n → ((VT.val v n).1 = true → (VT.val v n).2 = n - v.nodes ∧ 0 ≤ (VT.val v n).2) ∧ -1 ≤ (VT.val v n).2 ∧ (VT.val v n).2 ≤ n
 | .mk k m ks, n, h => by
  simp only [VT.val, VT.nodes]
  split
  ·simp; omega
  ·have := VT.valL_spec ks (n - 1) (by omega)
   refine ⟨fun ht => ?_, by omega, by omega⟩
   have := this.1 ht
   omega
theorem VT.valL_spec : ∀ (ks : List VT) (n : Int), 0 ≤ n → ((VT.valL ks n).1 = true → (VT.valL ks n).2 = n - VT.nodesL ks ∧ 0 ≤ (VT.valL ks n).2) ∧ -1 ≤ (VT.valL ks n).2 ∧ (VT.valL ks n).2 ≤ n
 | [], n, h => by simp [VT.valL, VT.nodesL]; omega
 | v :: vs, n, h => by
  have h1 := VT.val_spec v n h
  simp only [VT.valL, VT.nodesL]
  split
  ·rename_i m hm
   rw [hm] at h1
   have h2 := h1.1 rfl
   simp only at h2
   have h3 := VT.valL_spec vs m h2.2
   refine ⟨fun ht => ?_, by omega, by omega⟩
   have := h3.1 ht
   omega
  ·rename_i m hm
   rw [hm] at h1
   simp only at h1
   exact ⟨by simp, by omega, by omega⟩
end
theorem VT.valL_drop {ks : List VT} {i : Nat} (h : i < ks.length) (n : Int) : VT.valL (ks.drop i) n = match VT.val ks[i] n with
  | (true, m) => VT.valL (ks.drop (i + 1)) m
  | (false, m) => (false, m) := by rw [List.drop_eq_getElem_cons h, VT.valL]
end Go.Abs
namespace Go.Abs
open Go
def icmp (a b : Int) : Int := if a < b then -1 else if b < a then 1 else 0
def cor (a b : Int) : Int := if a = 0 then b else a
theorem zgp (a b : Int) : icmp a b = - icmp b a := by unfold icmp; split <;> split <;> first | omega | (split <;> omega)
theorem zmI (a b : Int) : icmp a b = 0 ↔ a = b := by unfold icmp; split <;> first | omega | (split <;> omega)
theorem zgq (a b : Int) : icmp a b = -1 ∨ icmp a b = 0 ∨ icmp a b = 1 := by unfold icmp; split <;> first | omega | (split <;> omega)
theorem zew {a a' b b' : Int} (h : a = - b) (h' : a' = - b') : cor a a' = - cor b b' := by unfold cor; split <;> split <;> omega
theorem zgc (a b : Int) : cor a b = 0 ↔ a = 0 ∧ b = 0 := by unfold cor; split <;> omega
theorem zex {a b : Int} (h : a = -1 ∨ a = 0 ∨ a = 1) (h' : b = -1 ∨ b = 0 ∨ b = 1) : cor a b = -1 ∨ cor a b = 0 ∨ cor a b = 1 := by unfold cor; split <;> omega
theorem zsE {a b : Int} (h : a ≠ 0) : cor a b = a := by simp [cor, h]
theorem zsF {a b : Int} (h : a = 0) : cor a b = b := by simp [cor, h]
def Tri (a b c : Int) : Prop := a ≤ 0 → b ≤ 0 → c ≤ 0 ∧ (c = 0 → a = 0 ∧ b = 0)
theorem Tri.icmp (x y z : Int) : Tri (icmp x y) (icmp y z) (icmp x z) := by
 unfold Tri Go.Abs.icmp
 intro h1 h2
 split at h1 <;> split at h2 <;> (try split at h1) <;> (try split at h2) <;> split <;> (try split) <;> omega
theorem Tri.cor {a b c a' b' c' : Int} (h : Tri a b c) (h' : Tri a' b' c') : Tri (cor a a') (cor b b') (cor c c') := by
 unfold Tri Go.Abs.cor at *
 intro h1 h2
 by_cases ha : a = 0 <;> by_cases hb : b = 0 <;> by_cases hc : c = 0 <;> simp only [ha, hb, hc, if_true, if_false] at * <;> first | omega | (simp_all; done) | (have := h' h1 h2; simp_all; omega)
mutual
def VT.cmp : VT → VT → Int
 | .mk k n ks, .mk k' n' ks' => cor (icmp k k') (cor (icmp n n') (cor (icmp ks.length ks'.length) (VT.cmpL ks ks')))
def VT.cmpL : List VT → List VT → Int
 | v :: vs, w :: ws => cor (VT.cmp v w) (VT.cmpL vs ws)
 | [], [] => 0
 | [], _ :: _ => -1
 | _ :: _, [] => 1
end
mutual
def VT.same : VT → VT → Bool
 | .mk k n ks, .mk k' n' ks' => k == k' && n == n' && VT.sameL ks ks'
def VT.sameL : List VT → List VT → Bool
 | v :: vs, w :: ws => VT.same v w && VT.sameL vs ws
 | [], [] => true
 | [], _ :: _ => false
 | _ :: _, [] => false
end
mutual
theorem VT.cmp_anti : ∀ v w : VT, VT.cmp v w = - VT.cmp w v
 | .mk k n ks, .mk k' n' ks' => by
  simp only [VT.cmp]
  exact zew (zgp _ _) (zew (zgp _ _) (zew (zgp _ _) (VT.cmpL_anti ks ks')))
theorem VT.cmpL_anti : ∀ v w : List VT, VT.cmpL v w = - VT.cmpL w v
 | v :: vs, w :: ws => by simp only [VT.cmpL]; exact zew (VT.cmp_anti v w) (VT.cmpL_anti vs ws)
 | [], [] => by simp [VT.cmpL]
 | [], _ :: _ => by simp [VT.cmpL]
 | _ :: _, [] => by simp [VT.cmpL]
end
mutual
theorem VT.cmp_rng : ∀ v w : VT, VT.cmp v w = -1 ∨ VT.cmp v w = 0 ∨ VT.cmp v w = 1
 | .mk k n ks, .mk k' n' ks' => by
  simp only [VT.cmp]
  exact zex (zgq _ _) (zex (zgq _ _) (zex (zgq _ _) (VT.cmpL_rng ks ks')))
theorem VT.cmpL_rng : ∀ v w : List VT, VT.cmpL v w = -1 ∨ VT.cmpL v w = 0 ∨ VT.cmpL v w = 1
 | v :: vs, w :: ws => by simp only [VT.cmpL]; exact zex (VT.cmp_rng v w) (VT.cmpL_rng vs ws)
 | [], [] => by simp [VT.cmpL]
 | [], _ :: _ => by simp [VT.cmpL]
 | _ :: _, [] => by simp [VT.cmpL]
end
theorem VT.sameL_len : ∀ v w : List VT, VT.sameL v w = true → v.length = w.length
 | v :: vs, w :: ws => by simp only [VT.sameL, Bool.and_eq_true, List.length_cons]; intro h; have := VT.sameL_len vs ws h.2; omega
 | [], [] => by simp
 | [], _ :: _ => by simp [VT.sameL]
 | _ :: _, [] => by simp [VT.sameL]
mutual
theorem VT.cmp_zero : ∀ v w : VT, VT.cmp v w = 0 ↔ VT.same v w = true
 | .mk k n ks, .mk k' n' ks' => by
  have h := VT.cmpL_zero ks ks'
  simp only [VT.cmp, VT.same, zgc, zmI, Bool.and_eq_true, beq_iff_eq, and_assoc, h]
  constructor
  ·rintro ⟨a, b, _, c⟩; exact ⟨a, b, c⟩
  ·rintro ⟨a, b, c⟩; exact ⟨a, b, by have := VT.sameL_len _ _ c; omega, c⟩
theorem VT.cmpL_zero : ∀ v w : List VT, VT.cmpL v w = 0 ↔ VT.sameL v w = true
 | v :: vs, w :: ws => by simp only [VT.cmpL, VT.sameL, zgc, Bool.and_eq_true, VT.cmp_zero v w, VT.cmpL_zero vs ws]
 | [], [] => by simp [VT.cmpL, VT.sameL]
 | [], _ :: _ => by simp [VT.cmpL, VT.sameL]
 | _ :: _, [] => by simp [VT.cmpL, VT.sameL]
end
mutual
theorem VT.cmp_tri : ∀ v w x : VT, Tri (VT.cmp v w) (VT.cmp w x) (VT.cmp v x)
 | .mk k n ks, .mk k' n' ks', .mk k'' n'' ks'' => by
  simp only [VT.cmp]
  exact (Tri.icmp _ _ _).cor ((Tri.icmp _ _ _).cor ((Tri.icmp _ _ _).cor (VT.cmpL_tri ks ks' ks'')))
theorem VT.cmpL_tri : ∀ v w x : List VT, Tri (VT.cmpL v w) (VT.cmpL w x) (VT.cmpL v x)
 | v :: vs, w :: ws, x :: xs => by simp only [VT.cmpL]; exact (VT.cmp_tri v w x).cor (VT.cmpL_tri vs ws xs)
 | [], [], [] => by simp [VT.cmpL, Tri]
 | [], [], _ :: _ => by simp [VT.cmpL, Tri]
 | [], _ :: _, [] => by simp [VT.cmpL, Tri]
 | [], _ :: _, _ :: _ => by simp [VT.cmpL, Tri]
 | _ :: _, [], [] => by simp [VT.cmpL, Tri]
 | _ :: _, [], _ :: _ => by simp [VT.cmpL, Tri]
 | _ :: _, _ :: _, [] => by simp [VT.cmpL, Tri]
end
theorem VT.cmpL_drop {a b : List VT} {i : Nat} (ha : i < a.length) (hb : i < b.length) : VT.cmpL (a.drop i) (b.drop i) = cor (VT.cmp a[i] b[i]) (VT.cmpL (a.drop (i + 1)) (b.drop (i + 1))) := by
 rw [List.drop_eq_getElem_cons ha, List.drop_eq_getElem_cons hb, VT.cmpL]
theorem VT.sameL_drop {a b : List VT} {i : Nat} (ha : i < a.length) (hb : i < b.length) : VT.sameL (a.drop i) (b.drop i) = (VT.same a[i] b[i] && VT.sameL (a.drop (i + 1)) (b.drop (i + 1))) := by
 rw [List.drop_eq_getElem_cons ha, List.drop_eq_getElem_cons hb, VT.sameL]
end Go.Abs
namespace Go.Abs
open Go
structure Con where
 name : List UInt8
 args : List VT
structure Dat where
 name : List UInt8
 vars : Int
 cons : List Con
structure Cod where
 name : List UInt8
 params : List Int
 capt : List Int
 res : VT
 body : Int
structure CEx where
 op : Int
 num : Int
 vars : List Int
 binds : List (List Int)
 kids : List Int
 ty : VT
structure Cor where
 data : List Dat
 codes : List Cod
 vars : List VT
 exprs : List CEx
def ints (l : List Int) : List (List AV) := l.map fun n => [.int .i64 n]
def rows (l : List (List Int)) : List (List AV) := l.map fun r => [.sl (ints r) .none]
def Con.cs (c : Con) : List AV := [.str c.name, .sl (VT.css c.args) .none]
def Dat.cs (d : Dat) : List AV := [.str d.name, .int .i64 d.vars, .sl (d.cons.map Con.cs) .none]
def Cod.cs (c : Cod) : List AV := .str c.name :: .sl (ints c.params) .none :: .sl (ints c.capt) .none :: (c.res.cs ++ [.int .i64 c.body])
def CEx.cs (e : CEx) : List AV := .int .i64 e.op :: .int .i64 e.num :: .sl (ints e.vars) .none :: .sl (rows e.binds) .none :: .sl (ints e.kids) .none :: e.ty.cs
def Cor.cs (c : Cor) : List AV := [.sl (c.data.map Dat.cs) .none, .sl (c.codes.map Cod.cs) .none, .sl (VT.css c.vars) .none, .sl (c.exprs.map CEx.cs) .none]
@[simp] theorem zSd (l : List Int) : (ints l).length = l.length := by simp [ints]
@[simp] theorem zSv (l : List (List Int)) : (rows l).length = l.length := by simp [rows]
def VT.kind : VT → Int | .mk k _ _ => k
def VT.num : VT → Int | .mk _ n _ => n
def VT.kids : VT → List VT | .mk _ _ ks => ks
def za6 (data : List Dat) (vars k n : Int) (len : Nat) : Bool :=
 if k == 1 || k == 2 || k == 3 then n == 0 && len == 0
 else if k == 4 then decide (0 ≤ n) && decide (n < vars) && len == 0
 else if k == 5 then decide (0 ≤ n) && (match data[n.toNat]? with | some d => (len : Int) == d.vars | none => false)
 else if k == 6 then n == 0 && decide (2 ≤ len) && decide (len ≤ 6)
 else if k == 7 || k == 8 then n == 0 && len == 1
 else if k == 9 then n == 0 && decide (1 ≤ len) && decide (len ≤ 7)
 else false
mutual
def zaS (data : List Dat) (vars : Int) : VT → Bool
 | .mk k n asx => za6 data vars k n asx.length && za7 data vars asx
def za7 (data : List Dat) (vars : Int) : List VT → Bool
 | [] => true
 | t :: ts => zaS data vars t && za7 data vars ts
end
def zaQ (data : List Dat) (vars : Int) (t : VT) : Bool := decide (t.nodes ≤ 200) && zaS data vars t
mutual
def subst (args : List VT) : VT → VT
 | .mk k n ks => if k = 4 ∧ 0 ≤ n ∧ n < args.length then (args[n.toNat]?).getD (.mk 0 0 []) else .mk k n (zaJ args ks)
def zaJ (args : List VT) : List VT → List VT
 | [] => []
 | t :: ts => subst args t :: zaJ args ts
end
def zaR (data : List Dat) (t : VT) (c : Int) : Option (List VT) :=
 if t.kind = 5 ∧ 0 ≤ t.num ∧ 0 ≤ c then
  match data[t.num.toNat]? with
  | some d => if (t.kids.length : Int) = d.vars then
    match d.cons[c.toNat]? with
    | some k => let l := k.args.map (subst t.kids)
     if l.all (fun x => decide (x.nodes ≤ 200)) = true then some l else none
    | none => none
   else none
  | none => none
 else none
end Go.Abs
namespace Go.Proofs.YtjkkonpjecoieaaGreat
open Go Go.Abs
set_option maxRecDepth 100000
def zlu : Nat → List Bool
 | 5 => rl false [1,2,2,1,24]
 | _ => []
noncomputable def zre : Code := Tryz.f72.body.getD .skip
noncomputable def zNd : List ResultVar := Tryz.f72.results.toList
def zlv (t1 t2 t5 : AV) : List AV := ux 1 (t1 :: t2 :: ux 2 (t5 :: ux 24 []))
def zNb : List Bool := zlu 5
noncomputable def zM9 : Code := zas [1, 1, 1, 0, 1, 0, 0] zre
def zM8 (K : Kt) : AExit → List AV → zaa → Prop := zat tP zlu [1, 1, 1, 0, 1, 0] zre (zaA tP zNd K)
def zzb (t1 t2 t5 : AV) (H : zaa) (K : Kt) : Prop := ALoop tP zM9 (zM8 K) (zlv t1 t2 t5) H
def zrd (t1 t2 t5 : AV) (H : zaa) (K : Kt) (Kb5 : Lt) : Prop :=
 zaf 2 t2 fun t16 =>
 zad false 1 t16 H fun t17 =>
 zah 1 t17 fun t18 =>
 zac .lss false t5 t18 fun t19 =>
 zag t19
 (zaf 2 t2 fun t22 =>
 zad false 1 t22 H fun t23 =>
 zaj 3 t23 t5 fun t25 =>
 zad true 3 t25 H fun t26 =>
 ACalls tP zgM [t26, t1] H fun t28 H =>
 aUn .not t28 fun t29 =>
 zag t29
 (K (.bool false) H)
 (zac .add false t5 (.int .i64 1) fun t21 =>
 Kb5 (zlv t1 t2 t21) H))
 (K (.bool true) H)
def zza (t0 t1 : AV) (H : zaa) (K : Kt) : Prop :=
 zao t0 H fun t2 H =>
 za3 t1 fun t7 =>
 zad false 1 t7 H fun t8 =>
 zac .sub false t8 (.int .i64 1) fun t9 =>
 za3 t1 fun t10 =>
 zak 1 t10 t9 H fun H =>
 za3 t1 fun t12 =>
 zad false 1 t12 H fun t13 =>
 zac .lss false t13 (.int .i64 0) fun t14 =>
 zag t14
 (K (.bool false) H)
 (zzb t1 t2 (.int .i64 0) H K)
theorem zNa {t1 t2 t5 : AV} {H : zaa} {K : Kt} (Inv : Nat → AV → zaa → Prop) (n : Nat) (h0 : HSc H → Inv n t5 H)
  (round : Rd1 (fun t5 => zlv t1 t2 t5) (fun t5 => fun H Kb5 => zrd t1 t2 t5 H K Kb5) H Inv) : zzb t1 t2 t5 H K :=
 lp1 (M := zlu) zNb t5 (by kernel_rfl) Inv n h0 round
theorem zNc {t0 t1 : AV} {H : zaa} {K : Kt} (h : HSc H → zza t0 t1 H K) : ACalls tP zgM [t0, t1] H K :=
 zam (M := zlu) Tryz.func72 (c := zre) (by kernel_rfl) (fun hs => Eq.mpr (by kernel_rfl) (h hs))
def zKN (_ : Nat) : List Bool := []
noncomputable def zKO : Code := Tryz.f30.body.getD .skip
def zyo (t0 : AV) (H : zaa) (K : Kt) : Prop :=
 zao t0 H fun t1 H =>
 zau [(.int .i64 0)] H fun t3 H =>
 zak 1 t3 (.int .i64 250) H fun H =>
 zad true 3 t1 H fun t4 =>
 ACalls tP zgM [t4, t3] H fun t5 H =>
 K t5 H
theorem zKP {t0 : AV} {H : zaa} {K : Kt} (h : HSc H → zyo t0 H K) : ACalls tP znu [t0] H K :=
 zam (M := zKN) Tryz.func30 (c := zKO) (by kernel_rfl) (fun hs => Eq.mpr (by kernel_rfl) (h hs))
def zdz : Nat → List Bool
 | 4 => rl false [13,3,43]
 | 9 => rl false [13,3,14,3,26]
 | 15 => rl false [7,1,5,3,14,3,14,3,9]
 | _ => []
noncomputable def zqu : Code := Tryz.f29.body.getD .skip
noncomputable def zKL : List ResultVar := Tryz.f29.results.toList
def zhn (t13 t14 t15 : AV) : List AV := ux 13 (t13 :: t14 :: t15 :: ux 43 [])
def zym : List Bool := zdz 4
noncomputable def zqv : Code := zas [1, 1, 0, 1, 0, 0] zqu
def zyh (K : Kt) : AExit → List AV → zaa → Prop := zat tP zdz [1, 1, 0, 1, 0] zqu (zaA tP zKL K)
def zyk (t13 t14 t15 : AV) (H : zaa) (K : Kt) : Prop := ALoop tP zqv (zyh K) (zhn t13 t14 t15) H
def zkR (t13 t14 t15 t30 t31 t32 : AV) : List AV := ux 13 (t13 :: t14 :: t15 :: ux 14 (t30 :: t31 :: t32 :: ux 26 []))
def zyn : List Bool := zdz 9
noncomputable def zqw : Code := zas [1, 1, 0, 0, 1, 1, 1, 0, 0] zqv
def zyi (K : Kt) (Kb4 : Lt) : AExit → List AV → zaa → Prop := zat tP zdz [1, 1, 0, 0, 1, 1, 1, 0] zqv (zbz zym Kb4 (zyh K))
def zyl (t13 t14 t15 t30 t31 t32 : AV) (H : zaa) (K : Kt) (Kb4 : Lt) : Prop := ALoop tP zqw (zyi K Kb4) (zkR t13 t14 t15 t30 t31 t32) H
def zkQ (t7 t13 t14 t15 t30 t31 t32 t47 t48 t49 : AV) : List AV := ux 7 (t7 :: ux 5 (t13 :: t14 :: t15 :: ux 14 (t30 :: t31 :: t32 :: ux 14 (t47 :: t48 :: t49 :: ux 9 []))))
def zKJ : List Bool := zdz 15
noncomputable def zKF : Code := zas [1, 1, 0, 0, 1, 1, 1, 1, 0, 0] zqw
def zKE (K : Kt) (Kb4 : Lt) (Kb9 : Lt) : AExit → List AV → zaa → Prop := zat tP zdz [1, 1, 0, 0, 1, 1, 1, 1, 0] zqw (zbz zyn Kb9 (zyi K Kb4))
def zyj (t7 t13 t14 t15 t30 t31 t32 t47 t48 t49 : AV) (H : zaa) (K : Kt) (Kb4 : Lt) (Kb9 : Lt) : Prop := ALoop tP zKF (zKE K Kb4 Kb9) (zkQ t7 t13 t14 t15 t30 t31 t32 t47 t48 t49) H
def zqr (t7 t13 t14 t15 t30 t31 t32 t47 t48 t49 : AV) (H : zaa) (K : Kt) (Kb4 : Lt) (Kb9 : Lt) (Kb15 : Lt) : Prop :=
 zac .lss false t49 t48 fun t50 =>
 zag t50
 (zaj 3 t47 t49 fun t51 =>
 zad true 3 t51 H fun t52 =>
 zau [(.int .i64 0), (.int .i64 0), .snil] H fun t9 H =>
 zak 3 t9 t52 H fun H =>
 zad true 3 t9 H fun t53 =>
 ACalls tP zgM [t53, t7] H fun t54 H =>
 aUn .not t54 fun t55 =>
 zag t55
 (K (.bool false) H)
 (zac .add false t49 (.int .i64 1) fun t56 =>
 Kb15 (zkQ t7 t13 t14 t15 t30 t31 t32 t47 t48 t56) H))
 (zac .add false t32 (.int .i64 1) fun t57 =>
 Kb9 (zkR t13 t14 t15 t30 t31 t57) H)
def zqt (t13 t14 t15 t30 t31 t32 : AV) (H : zaa) (K : Kt) (Kb4 : Lt) (Kb9 : Lt) : Prop :=
 zac .lss false t32 t31 fun t33 =>
 zag t33
 (zaj 2 t30 t32 fun t34 =>
 zad true 2 t34 H fun t35 =>
 zau [(.str []), .snil] H fun t6 H =>
 zak 2 t6 t35 H fun H =>
 zaf 0 t6 fun t36 =>
 zad false 1 t36 H fun t37 =>
 zah 0 t37 fun t38 =>
 zac .gtr false t38 (.int .i64 40) fun t39 =>
 zab t39 false H (fun K' => zaf 1 t6 (K' · H)) fun t41 H =>
 zab t39 false H (fun K' => zad false 1 t41 H (K' · H)) fun t42 H =>
 zab t39 false H (fun K' => zah 1 t42 (K' · H)) fun t43 H =>
 zab t39 false H (fun K' => zac .gtr false t43 (.int .i64 8) (K' · H)) fun t44 H =>
 zai t39 (.bool true) t44 fun t45 =>
 zag t45
 (K (.bool false) H)
 (zau [(.int .i64 0)] H fun t7 H =>
 zak 1 t7 (.int .i64 20) H fun H =>
 zaf 1 t6 fun t46 =>
 zad false 1 t46 H fun t47 =>
 zah 1 t47 fun t48 =>
 zyj t7 t13 t14 t15 t30 t31 t32 t47 t48 (.int .i64 0) H K Kb4 Kb9))
 (zac .add false t15 (.int .i64 1) fun t58 =>
 Kb4 (zhn t13 t14 t58) H)
def zqs (t13 t14 t15 : AV) (H : zaa) (K : Kt) (Kb4 : Lt) : Prop :=
 zac .lss false t15 t14 fun t16 =>
 zag t16
 (zaj 3 t13 t15 fun t17 =>
 zad true 3 t17 H fun t18 =>
 zau [(.str []), (.int .i64 0), .snil] H fun t4 H =>
 zak 3 t4 t18 H fun H =>
 zaf 0 t4 fun t19 =>
 zad false 1 t19 H fun t20 =>
 zah 0 t20 fun t21 =>
 zac .gtr false t21 (.int .i64 40) fun t22 =>
 zab t22 false H (fun K' => zaf 2 t4 (K' · H)) fun t24 H =>
 zab t22 false H (fun K' => zad false 1 t24 H (K' · H)) fun t25 H =>
 zab t22 false H (fun K' => zah 1 t25 (K' · H)) fun t26 H =>
 zab t22 false H (fun K' => zac .gtr false t26 (.int .i64 10) (K' · H)) fun t27 H =>
 zai t22 (.bool true) t27 fun t28 =>
 zag t28
 (K (.bool false) H)
 (zaf 2 t4 fun t29 =>
 zad false 1 t29 H fun t30 =>
 zah 1 t30 fun t31 =>
 zyl t13 t14 t15 t30 t31 (.int .i64 0) H K Kb4))
 (K (.bool true) H)
def zqq (t0 : AV) (H : zaa) (K : Kt) : Prop :=
 zah 1 t0 fun t11 =>
 zac .gtr false t11 (.int .i64 14) fun t12 =>
 zag t12
 (K (.bool false) H)
 (zah 1 t0 fun t14 =>
 zyk t0 t14 (.int .i64 0) H K)
theorem zKG {t7 t13 t14 t15 t30 t31 t32 t47 t48 t49 : AV} {H : zaa} {K : Kt} {Kb4 : Lt} {Kb9 : Lt} (Inv : Nat → AV → zaa → Prop) (n : Nat) (h0 : HSc H → Inv n t49 H)
  (round : Rd1 (fun t49 => zkQ t7 t13 t14 t15 t30 t31 t32 t47 t48 t49) (fun t49 => fun H Kb15 => zqr t7 t13 t14 t15 t30 t31 t32 t47 t48 t49 H K Kb4 Kb9 Kb15) H Inv) : zyj t7 t13 t14 t15 t30 t31 t32 t47 t48 t49 H K Kb4 Kb9 :=
 lp1 (M := zdz) zKJ t49 (by kernel_rfl) Inv n h0 round
theorem zKI {t13 t14 t15 t30 t31 t32 : AV} {H : zaa} {K : Kt} {Kb4 : Lt} (Inv : Nat → AV → zaa → Prop) (n : Nat) (h0 : HSc H → Inv n t32 H)
  (round : Rd1 (fun t32 => zkR t13 t14 t15 t30 t31 t32) (fun t32 => fun H Kb9 => zqt t13 t14 t15 t30 t31 t32 H K Kb4 Kb9) H Inv) : zyl t13 t14 t15 t30 t31 t32 H K Kb4 :=
 lp1 (M := zdz) zyn t32 (by kernel_rfl) Inv n h0 round
theorem zKH {t13 t14 t15 : AV} {H : zaa} {K : Kt} (Inv : Nat → AV → zaa → Prop) (n : Nat) (h0 : HSc H → Inv n t15 H)
  (round : Rd1 (fun t15 => zhn t13 t14 t15) (fun t15 => fun H Kb4 => zqs t13 t14 t15 H K Kb4) H Inv) : zyk t13 t14 t15 H K :=
 lp1 (M := zdz) zym t15 (by kernel_rfl) Inv n h0 round
theorem zKK {t0 : AV} {H : zaa} {K : Kt} (h : HSc H → zqq t0 H K) : ACalls tP znt [t0] H K :=
 zam (M := zdz) Tryz.func29 (c := zqu) (by kernel_rfl) (fun hs => Eq.mpr (by kernel_rfl) (h hs))
def zEo (_ : Nat) : List Bool := []
noncomputable def zEp : Code := Tryz.f121.body.getD .skip
def zvW (t0 t1 t2 : AV) (H : zaa) (K : Kt) : Prop :=
 zao t1 H fun t4 H =>
 zax [.snil, (.int .i64 0), (.int .i64 0)] [(0, 1), (1, 1), (2, 1)] [(0, t0), (1, t2), (2, (.int .i64 200))] fun t10 =>
 zao t10 H fun t11 H =>
 zad true 3 t4 H fun t13 =>
 ACalls tP zh4 [t11, t13] H fun t14 H =>
 K t14 H
theorem zEq {t0 t1 t2 : AV} {H : zaa} {K : Kt} (h : HSc H → zvW t0 t1 t2 H K) : ACalls tP zfn [t0, t1, t2] H K :=
 zam (M := zEo) Tryz.func121 (c := zEp) (by kernel_rfl) (fun hs => Eq.mpr (by kernel_rfl) (h hs))
def zdQ : Nat → List Bool
 | 171022 => rl false [2,2,16,1,53,1,34]
 | 150010 => rl false [2,2,1,2,13,2,87]
 | 100007 => rl false [2,2,1,2,13,1,88]
 | 100002 => rl false [2,2,105]
 | _ => []
noncomputable def zdR : Code := Tryz.f165.body.getD .skip
noncomputable def zj6 : List ResultVar := Tryz.f165.results.toList
def zfM (t2 t3 t5 t6 : AV) (H : zaa) (K : Kt) : Prop :=
 zaf 0 t3 fun t79 =>
 zad false 1 t79 H fun t80 =>
 zac .neq false t80 (.int .i64 4) fun t81 =>
 zab t81 true H (fun K' => zaf 0 t3 (K' · H)) fun t83 H =>
 zab t81 true H (fun K' => zad false 1 t83 H (K' · H)) fun t84 H =>
 zab t81 true H (fun K' => zac .neq false t84 (.int .i64 5) (K' · H)) fun t85 H =>
 zai t81 t85 (.bool false) fun t86 =>
 zab t86 true H (fun K' => zaf 1 t3 (K' · H)) fun t88 H =>
 zab t86 true H (fun K' => zad false 1 t88 H (K' · H)) fun t89 H =>
 zab t86 true H (fun K' => zac .neq false t89 (.int .i64 0) (K' · H)) fun t90 H =>
 zai t86 t90 (.bool false) fun t91 =>
 zag t91
 (K (.bool false) H)
 (zaf 2 t3 fun t92 =>
 zad false 1 t92 H fun t93 =>
 zah 1 t93 fun t94 =>
 zac .lss false t94 t5 fun t96 =>
 zab t96 false H (fun K' => zaf 2 t3 (K' · H)) fun t98 H =>
 zab t96 false H (fun K' => zad false 1 t98 H (K' · H)) fun t99 H =>
 zab t96 false H (fun K' => zah 1 t99 (K' · H)) fun t100 H =>
 zab t96 false H (fun K' => K' t6 H) fun t101 H =>
 zab t96 false H (fun K' => zac .gtr false t100 t101 (K' · H)) fun t102 H =>
 zai t96 (.bool true) t102 fun t103 =>
 zag t103
 (K (.bool false) H)
 (zaf 2 t3 fun t104 =>
 zad false 1 t104 H fun t105 =>
 zb2 zia [t2] fun t106 =>
 ACalls tP zeH [t105, t106] H fun t107 H =>
 aUn .not t107 fun t108 =>
 K t108 H))
def zdb (t2 t3 t5 t6 : AV) (H : zaa) (K : Kt) : Prop :=
 zfM t2 t3 t5 t6 H K
noncomputable def zHC : Code := zas [1, 1, 1, 1, 0, 1, 0, 1, 1, 1, 1, 1, 1, 1, 1, 1] zdR
def zHB (K : Kt) : AExit → List AV → zaa → Prop := zat tP zdQ [1, 1, 1, 1, 0, 1, 0, 1, 1, 1, 1, 1, 1, 1, 1, 1] zdR (zaA tP zj6 K)
def zpC (t2 t3 t20 t74 : AV) (H : zaa) (K : Kt) : Prop := AWp tP zHC (zHB K) (ux 2 (t2 :: t3 :: ux 16 (t20 :: ux 53 (t74 :: ux 34 [])))) H
def zj5 (t2 t3 t20 t74 : AV) (H : zaa) (K : Kt) : Prop :=
 zag t74
 (zdb t2 t3 (.int .i64 1) (.int .i64 1) H K)
 (zac .eql false t20 (.int .i64 9) fun t78 =>
 zag t78
 (zdb t2 t3 (.int .i64 1) (.int .i64 7) H K)
 (K (.bool false) H))
noncomputable def zHA : Code := zas [1, 1, 1, 1, 0, 1, 0, 1] zdR
def zHz (K : Kt) : AExit → List AV → zaa → Prop := zat tP zdQ [1, 1, 1, 1, 0, 1, 0, 1] zdR (zaA tP zj6 K)
def zj4 (t2 t3 t5 t6 t20 t21 : AV) (H : zaa) (K : Kt) : Prop := AWp tP zHA (zHz K) (ux 2 (t2 :: t3 :: ux 1 (t5 :: t6 :: ux 13 (t20 :: t21 :: ux 87 [])))) H
def zdm (t2 t3 t5 t6 t20 t21 : AV) (H : zaa) (K : Kt) : Prop :=
 zag t21
 (zdb t2 t3 t5 t6 H K)
 (zac .eql false t20 (.int .i64 4) fun t26 =>
 zag t26
 (zae H (fun K' => zaf 1 t3 (K' · H)) fun t27 =>
 zae H (fun K' => zal false 1 t27 H (K' · H)) fun t28 =>
 zae H (fun K' => zac .lss false t28 (.int .i64 0) (K' · H)) fun t29 =>
 zae H (fun K' => K' t29 H) fun t30 =>
 zab t30 false H (fun K' => zae H (fun K'' => zaf 1 t3 (K'' · H)) (K' · H)) fun t31 H =>
 zab t30 false H (fun K' => zae H (fun K'' => zal false 1 t31 H (K'' · H)) (K' · H)) fun t32 H =>
 zab t30 false H (fun K' => zae H (fun K'' => zal false 1 t2 H (K'' · H)) (K' · H)) fun t33 H =>
 zab t30 false H (fun K' => zae H (fun K'' => za3 t33 (K'' · H)) (K' · H)) fun t34 H =>
 zab t30 false H (fun K' => zae H (fun K'' => zaf 1 t34 (K'' · H)) (K' · H)) fun t35 H =>
 zab t30 false H (fun K' => zae H (fun K'' => zal false 1 t35 H (K'' · H)) (K' · H)) fun t36 H =>
 zab t30 false H (fun K' => zae H (fun K'' => zac .geq false t32 t36 (K'' · H)) (K' · H)) fun t37 H =>
 zae H (fun K' => zai t30 (.bool true) t37 (K' · H)) fun t38 =>
 zag t38
 (K (.bool false) H)
 (zdb t2 t3 t5 t6 H K))
 (zac .eql false t20 (.int .i64 5) fun t40 =>
 zag t40
 (zae H (fun K' => zaf 1 t3 (K' · H)) fun t41 =>
 zae H (fun K' => zal false 1 t41 H (K' · H)) fun t42 =>
 zae H (fun K' => zac .lss false t42 (.int .i64 0) (K' · H)) fun t43 =>
 zae H (fun K' => K' t43 H) fun t44 =>
 zab t44 false H (fun K' => zae H (fun K'' => zaf 1 t3 (K'' · H)) (K' · H)) fun t45 H =>
 zab t44 false H (fun K' => zae H (fun K'' => zal false 1 t45 H (K'' · H)) (K' · H)) fun t46 H =>
 zab t44 false H (fun K' => zae H (fun K'' => zal false 1 t2 H (K'' · H)) (K' · H)) fun t47 H =>
 zab t44 false H (fun K' => zae H (fun K'' => za3 t47 (K'' · H)) (K' · H)) fun t48 H =>
 zab t44 false H (fun K' => zae H (fun K'' => zaf 0 t48 (K'' · H)) (K' · H)) fun t49 H =>
 zab t44 false H (fun K' => zae H (fun K'' => zal false 1 t49 H (K'' · H)) (K' · H)) fun t50 H =>
 zab t44 false H (fun K' => zae H (fun K'' => zah 1 t50 (K'' · H)) (K' · H)) fun t51 H =>
 zab t44 false H (fun K' => zae H (fun K'' => zac .geq false t46 t51 (K'' · H)) (K' · H)) fun t52 H =>
 zae H (fun K' => zai t44 (.bool true) t52 (K' · H)) fun t53 =>
 zag t53
 (K (.bool false) H)
 (zae H (fun K' => zal false 1 t2 H (K' · H)) fun t54 =>
 zae H (fun K' => za3 t54 (K' · H)) fun t55 =>
 zae H (fun K' => zaf 0 t55 (K' · H)) fun t56 =>
 zae H (fun K' => zal false 1 t56 H (K' · H)) fun t57 =>
 zae H (fun K' => zaf 1 t3 (K' · H)) fun t58 =>
 zae H (fun K' => zal false 1 t58 H (K' · H)) fun t59 =>
 zae H (fun K' => zaj 3 t57 t59 (K' · H)) fun t60 =>
 zae H (fun K' => zaf 1 t60 (K' · H)) fun t61 =>
 zae H (fun K' => zal false 1 t61 H (K' · H)) fun t62 =>
 zae H (fun K' => zal false 1 t2 H (K' · H)) fun t63 =>
 zae H (fun K' => za3 t63 (K' · H)) fun t64 =>
 zae H (fun K' => zaf 0 t64 (K' · H)) fun t65 =>
 zae H (fun K' => zal false 1 t65 H (K' · H)) fun t66 =>
 zae H (fun K' => zaf 1 t3 (K' · H)) fun t67 =>
 zae H (fun K' => zal false 1 t67 H (K' · H)) fun t68 =>
 zae H (fun K' => zaj 3 t66 t68 (K' · H)) fun t69 =>
 zae H (fun K' => zaf 1 t69 (K' · H)) fun t70 =>
 zae H (fun K' => zal false 1 t70 H (K' · H)) fun t71 =>
 zae H (fun K' => K' t62 H) fun t5 =>
 zae H (fun K' => K' t71 H) fun t6 =>
 zdb t2 t3 t5 t6 H K))
 (zac .eql false t20 (.int .i64 6) fun t73 =>
 zag t73
 (zdb t2 t3 (.int .i64 2) (.int .i64 6) H K)
 (zac .eql false t20 (.int .i64 7) fun t75 =>
 zag t75
 (zpC t2 t3 t20 t75 H K)
 (zac .eql false t20 (.int .i64 8) fun t76 =>
 zpC t2 t3 t20 t76 H K)))))
noncomputable def zHx : Code := zas [1, 1, 1, 1, 0, 1] zdR
def zHw (K : Kt) : AExit → List AV → zaa → Prop := zat tP zdQ [1, 1, 1, 1, 0, 1] zdR (zaA tP zj6 K)
def zxf (t2 t3 t5 t6 t20 : AV) (H : zaa) (K : Kt) : Prop := AWp tP zHx (zHw K) (ux 2 (t2 :: t3 :: ux 1 (t5 :: t6 :: ux 13 (t20 :: ux 88 [])))) H
def zpB (t2 t3 t5 t6 t20 : AV) (H : zaa) (K : Kt) : Prop :=
 zac .eql false t20 (.int .i64 1) fun t22 =>
 zag t22
 (zj4 t2 t3 t5 t6 t20 t22 H K)
 (zac .eql false t20 (.int .i64 2) fun t23 =>
 zag t23
 (zj4 t2 t3 t5 t6 t20 t23 H K)
 (zac .eql false t20 (.int .i64 3) fun t24 =>
 zj4 t2 t3 t5 t6 t20 t24 H K))
noncomputable def zHu : Code := zas [1, 1] zdR
def zHt (K : Kt) : AExit → List AV → zaa → Prop := zat tP zdQ [1, 1] zdR (zaA tP zj6 K)
def zpz (t2 t3 : AV) (H : zaa) (K : Kt) : Prop := AWp tP zHu (zHt K) (ux 2 (t2 :: t3 :: ux 105 [])) H
def zpA (t2 t3 : AV) (H : zaa) (K : Kt) : Prop :=
 zad false 1 t2 H fun t14 =>
 za3 t14 fun t15 =>
 zaf 2 t15 fun t16 =>
 zad false 1 t16 H fun t17 =>
 zac .lss false t17 (.int .i64 0) fun t18 =>
 zag t18
 (K (.bool false) H)
 (zaf 0 t3 fun t19 =>
 zad false 1 t19 H fun t20 =>
 zxf t2 t3 (.int .i64 0) (.int .i64 0) t20 H K)
def zxe (t0 t1 : AV) (H : zaa) (K : Kt) : Prop :=
 zao t0 H fun t2 H =>
 zao t1 H fun t3 H =>
 zad false 1 t2 H fun t7 =>
 za3 t7 fun t8 =>
 zaf 2 t8 fun t9 =>
 zad false 1 t9 H fun t10 =>
 zac .sub false t10 (.int .i64 1) fun t11 =>
 za3 t7 fun t12 =>
 zaf 2 t12 fun t13 =>
 zak 1 t13 t11 H fun H =>
 zpz t2 t3 H K
theorem zxh {t2 t3 t20 t74 : AV} {H : zaa} {K : Kt} (h : HSc H → zj5 t2 t3 t20 t74 H K) : zpC t2 t3 t20 t74 H K :=
 fun B w G a hH hF hd => zet (M := zdQ) _ _ _ _ (Eq.mpr (by kernel_rfl) (h hH.sc)) B w G a hH hF hd
theorem zxg {t2 t3 t5 t6 t20 t21 : AV} {H : zaa} {K : Kt} (h : HSc H → zdm t2 t3 t5 t6 t20 t21 H K) : zj4 t2 t3 t5 t6 t20 t21 H K :=
 fun B w G a hH hF hd => zet (M := zdQ) _ _ _ _ (Eq.mpr (by kernel_rfl) (h hH.sc)) B w G a hH hF hd
theorem zHy {t2 t3 t5 t6 t20 : AV} {H : zaa} {K : Kt} (h : HSc H → zpB t2 t3 t5 t6 t20 H K) : zxf t2 t3 t5 t6 t20 H K :=
 fun B w G a hH hF hd => zet (M := zdQ) _ _ _ _ (Eq.mpr (by kernel_rfl) (h hH.sc)) B w G a hH hF hd
theorem zHv {t2 t3 : AV} {H : zaa} {K : Kt} (h : HSc H → zpA t2 t3 H K) : zpz t2 t3 H K :=
 fun B w G a hH hF hd => zet (M := zdQ) _ _ _ _ (Eq.mpr (by kernel_rfl) (h hH.sc)) B w G a hH hF hd
theorem zHD {t0 t1 : AV} {H : zaa} {K : Kt} (h : HSc H → zxe t0 t1 H K) : ACalls tP zh4 [t0, t1] H K :=
 zam (M := zdQ) Tryz.func165 (c := zdR) (by kernel_rfl) (fun hs => Eq.mpr (by kernel_rfl) (h hs))
def zJg (_ : Nat) : List Bool := []
noncomputable def zJh : Code := Tryz.f199.body.getD .skip
def zxM (t0 t1 : AV) (H : zaa) (K : Kt) : Prop :=
 zao t0 H fun t2 H =>
 zad false 1 t1 H fun t4 =>
 zad true 3 t2 H fun t5 =>
 ACalls tP zh4 [t4, t5] H fun t6 H =>
 aUn .not t6 fun t7 =>
 K t7 H
theorem zJi {t0 t1 : AV} {H : zaa} {K : Kt} (h : HSc H → zxM t0 t1 H K) : ACalls tP zia [t0, t1] H K :=
 zam (M := zJg) Tryz.func199 (c := zJh) (by kernel_rfl) (fun hs => Eq.mpr (by kernel_rfl) (h hs))
def zJd (_ : Nat) : List Bool := []
noncomputable def zJe : Code := Tryz.f191.body.getD .skip
def zxL (t0 t1 : AV) (H : zaa) (K : Kt) : Prop :=
 ACalls tP zno [t0, t1] H fun t7 H =>
 zac .geq false t7 (.int .i64 0) fun t8 =>
 K t8 H
theorem zJf {t0 t1 : AV} {H : zaa} {K : Kt} (h : HSc H → zxL t0 t1 H K) : ACalls tP zeH [t0, t1] H K :=
 zam (M := zJd) Tryz.func191 (c := zJe) (by kernel_rfl) (fun hs => Eq.mpr (by kernel_rfl) (h hs))
def zkF : Nat → List Bool
 | 2 => rl false [0,2,5,2,10]
 | _ => []
noncomputable def zqf : Code := Tryz.f208.body.getD .skip
noncomputable def zJP : List ResultVar := Tryz.f208.results.toList
def zkG (t0 t1 t7 t8 : AV) : List AV := t0 :: t1 :: ux 5 (t7 :: t8 :: ux 10 [])
def zJN : List Bool := zkF 2
noncomputable def zJL : Code := zas [1, 0, 1, 0, 0] zqf
def zJK (K : Kt) : AExit → List AV → zaa → Prop := zat tP zkF [1, 0, 1, 0] zqf (zaA tP zJP K)
def zxY (t0 t1 t7 t8 : AV) (H : zaa) (K : Kt) : Prop := ALoop tP zJL (zJK K) (zkG t0 t1 t7 t8) H
def zqe (t0 t1 t7 t8 : AV) (H : zaa) (K : Kt) (Kb2 : Lt) : Prop :=
 zac .lss false t8 t7 fun t9 =>
 zag t9
 (zaj 3 t0 t8 fun t14 =>
 zad true 3 t14 H fun t15 =>
 aCallV tP t1 [t15] H fun t16 H =>
 zag t16
 (K t8 H)
 (zac .add false t8 (.int .i64 1) fun t18 =>
 Kb2 (zkG t0 t1 t7 t18) H))
 (K (.int .i64 (-1)) H)
def zxX (t0 t1 : AV) (H : zaa) (K : Kt) : Prop :=
 zah 1 t0 fun t7 =>
 zxY t0 t1 t7 (.int .i64 0) H K
theorem zJM {t0 t1 t7 t8 : AV} {H : zaa} {K : Kt} (Inv : Nat → AV → zaa → Prop) (n : Nat) (h0 : HSc H → Inv n t8 H)
  (round : Rd1 (fun t8 => zkG t0 t1 t7 t8) (fun t8 => fun H Kb2 => zqe t0 t1 t7 t8 H K Kb2) H Inv) : zxY t0 t1 t7 t8 H K :=
 lp1 (M := zkF) zJN t8 (by kernel_rfl) Inv n h0 round
theorem zJO {t0 t1 : AV} {H : zaa} {K : Kt} (h : HSc H → zxX t0 t1 H K) : ACalls tP zno [t0, t1] H K :=
 zam (M := zkF) Tryz.func208 (c := zqf) (by kernel_rfl) (fun hs => Eq.mpr (by kernel_rfl) (h hs))
end Go.Proofs.YtjkkonpjecoieaaGreat
namespace Go.Proofs.YtjkkonpjecoieaaGreat
open Go Go.Abs
set_option maxRecDepth 100000
def zdB : Nat → List Bool
 | 8 => rl false [2,1,1,1,3,2,49,3,46]
 | 13 => rl false [2,1,1,1,3,2,67,3,28]
 | 20 => rl false [4,1,9,1,78,3,12]
 | _ => []
noncomputable def ze4 : Code := Tryz.f45.body.getD .skip
noncomputable def zqS : List ResultVar := Tryz.f45.results.toList
def zla (t2 t4 t8 t9 t59 t60 t61 : AV) : List AV := ux 2 (t2 :: ux 1 (t4 :: ux 3 (t8 :: t9 :: ux 49 (t59 :: t60 :: t61 :: ux 46 []))))
def zL8 : List Bool := zdB 8
noncomputable def zL2 : Code := zas [1, 1, 1, 1, 1, 0, 1, 0, 0] ze4
def zLZ (K : Kt) : AExit → List AV → zaa → Prop := zat tP zdB [1, 1, 1, 1, 1, 0, 1, 0] ze4 (zaA tP zqS K)
def zyP (t2 t4 t8 t9 t59 t60 t61 : AV) (H : zaa) (K : Kt) : Prop := ALoop tP zL2 (zLZ K) (zla t2 t4 t8 t9 t59 t60 t61) H
def zk8 (t2 t4 t8 t9 t77 t78 t79 : AV) : List AV := ux 2 (t2 :: ux 1 (t4 :: ux 3 (t8 :: t9 :: ux 67 (t77 :: t78 :: t79 :: ux 28 []))))
def zL6 : List Bool := zdB 13
noncomputable def zL0 : Code := zas [1, 1, 1, 1, 1, 1, 0, 1, 0, 0] ze4
def zLX (K : Kt) : AExit → List AV → zaa → Prop := zat tP zdB [1, 1, 1, 1, 1, 1, 0, 1, 0] ze4 (zaA tP zqS K)
def zyO (t2 t4 t8 t9 t77 t78 t79 : AV) (H : zaa) (K : Kt) : Prop := ALoop tP zL0 (zLX K) (zk8 t2 t4 t8 t9 t77 t78 t79) H
def zk9 (t4 t14 t93 t94 t95 : AV) : List AV := ux 4 (t4 :: ux 9 (t14 :: ux 78 (t93 :: t94 :: t95 :: ux 12 [])))
def zL7 : List Bool := zdB 20
noncomputable def zL1 : Code := zas [1, 1, 1, 1, 1, 1, 1, 1, 0, 1, 0, 0] ze4
def zLY (K : Kt) : AExit → List AV → zaa → Prop := zat tP zdB [1, 1, 1, 1, 1, 1, 1, 1, 0, 1, 0] ze4 (zaA tP zqS K)
def zlb (t4 t14 t93 t94 t95 : AV) (H : zaa) (K : Kt) : Prop := ALoop tP zL1 (zLY K) (zk9 t4 t14 t93 t94 t95) H
def zqQ (t4 t14 t93 t94 t95 : AV) (H : zaa) (K : Kt) (Kb20 : Lt) : Prop :=
 zac .lss false t95 t94 fun t96 =>
 zag t96
 (zaj 3 t93 t95 fun t97 =>
 zad true 3 t97 H fun t98 =>
 zau [(.int .i64 0), (.int .i64 0), .snil] H fun t16 H =>
 zak 3 t16 t98 H fun H =>
 zad true 3 t16 H fun t100 =>
 zaf 2 t4 fun t101 =>
 zad false 1 t101 H fun t102 =>
 ACalls tP zgQ [t100, t102] H fun t103 H =>
 zaz 3 [(.int .i64 0), (.int .i64 0), .snil] 1 [(0, t103)] fun t104 =>
 zaw zaV 3 40 t14 t104 H fun t105 H =>
 zac .add false t95 (.int .i64 1) fun t106 =>
 Kb20 (zk9 t4 t105 t93 t94 t106) H)
 (zaD [t14, (.bool true)] (K · H))
def zqP (t2 t4 t8 t9 t77 t78 t79 : AV) (H : zaa) (K : Kt) (Kb13 : Lt) : Prop :=
 zac .lss false t79 t78 fun t80 =>
 zag t80
 (zaj 3 t77 t79 fun t81 =>
 zad true 3 t81 H fun t82 =>
 zau [(.int .i64 0), (.int .i64 0), .snil] H fun t13 H =>
 zak 3 t13 t82 H fun H =>
 zad true 3 t13 H fun t83 =>
 ACalls tP ziB [t83, t9] H fun t85 H =>
 zac .gtr false t85 (.int .i64 200) fun t86 =>
 zag t86
 (zaD [.snil, (.bool false)] (K · H))
 (zac .add false t79 (.int .i64 1) fun t87 =>
 Kb13 (zk8 t2 t4 t8 t9 t77 t78 t87) H))
 (zaf 2 t8 fun t88 =>
 zad false 1 t88 H fun t89 =>
 zaj 2 t89 t2 fun t91 =>
 zaf 1 t91 fun t92 =>
 zad false 1 t92 H fun t93 =>
 zah 1 t93 fun t94 =>
 zlb t4 .snil t93 t94 (.int .i64 0) H K)
def zqR (t2 t4 t8 t9 t59 t60 t61 : AV) (H : zaa) (K : Kt) (Kb8 : Lt) : Prop :=
 zac .lss false t61 t60 fun t62 =>
 zag t62
 (zaj 3 t59 t61 fun t64 =>
 zad true 3 t64 H fun t65 =>
 zau [(.int .i64 0), (.int .i64 0), .snil] H fun t11 H =>
 zak 3 t11 t65 H fun H =>
 zad true 3 t11 H fun t68 =>
 ACalls tP ziA [t68] H fun t69 H =>
 zaj 1 t9 t61 fun t70 =>
 zak 1 t70 t69 H fun H =>
 zac .add false t61 (.int .i64 1) fun t71 =>
 Kb8 (zla t2 t4 t8 t9 t59 t60 t71) H)
 (zaf 2 t8 fun t72 =>
 zad false 1 t72 H fun t73 =>
 zaj 2 t73 t2 fun t75 =>
 zaf 1 t75 fun t76 =>
 zad false 1 t76 H fun t77 =>
 zah 1 t77 fun t78 =>
 zyO t2 t4 t8 t9 t77 t78 (.int .i64 0) H K)
def zyN (t0 t1 t2 : AV) (H : zaa) (K : Kt) : Prop :=
 zao t1 H fun t4 H =>
 zaf 0 t4 fun t17 =>
 zad false 1 t17 H fun t18 =>
 zac .neq false t18 (.int .i64 5) fun t19 =>
 zab t19 false H (fun K' => zaf 1 t4 (K' · H)) fun t21 H =>
 zab t19 false H (fun K' => zad false 1 t21 H (K' · H)) fun t22 H =>
 zab t19 false H (fun K' => zac .lss false t22 (.int .i64 0) (K' · H)) fun t23 H =>
 zai t19 (.bool true) t23 fun t24 =>
 zab t24 false H (fun K' => zaf 1 t4 (K' · H)) fun t26 H =>
 zab t24 false H (fun K' => zad false 1 t26 H (K' · H)) fun t27 H =>
 zab t24 false H (fun K' => K' t0 H) fun t28 H =>
 zab t24 false H (fun K' => zah 1 t28 (K' · H)) fun t29 H =>
 zab t24 false H (fun K' => zac .geq false t27 t29 (K' · H)) fun t30 H =>
 zai t24 (.bool true) t30 fun t31 =>
 zag t31
 (zaD [.snil, (.bool false)] (K · H))
 (zaf 1 t4 fun t33 =>
 zad false 1 t33 H fun t34 =>
 zaj 3 t0 t34 fun t35 =>
 zad true 3 t35 H fun t36 =>
 zau [(.str []), (.int .i64 0), .snil] H fun t8 H =>
 zak 3 t8 t36 H fun H =>
 zaf 2 t4 fun t37 =>
 zad false 1 t37 H fun t38 =>
 zah 1 t38 fun t39 =>
 zaf 1 t8 fun t40 =>
 zad false 1 t40 H fun t41 =>
 zac .neq false t39 t41 fun t42 =>
 zab t42 false H (fun K' => K' t2 H) fun t44 H =>
 zab t42 false H (fun K' => zac .lss false t44 (.int .i64 0) (K' · H)) fun t45 H =>
 zai t42 (.bool true) t45 fun t46 =>
 zab t46 false H (fun K' => K' t2 H) fun t48 H =>
 zab t46 false H (fun K' => zaf 2 t8 (K' · H)) fun t49 H =>
 zab t46 false H (fun K' => zad false 1 t49 H (K' · H)) fun t50 H =>
 zab t46 false H (fun K' => zah 1 t50 (K' · H)) fun t51 H =>
 zab t46 false H (fun K' => zac .geq false t48 t51 (K' · H)) fun t52 H =>
 zai t46 (.bool true) t52 fun t53 =>
 zag t53
 (zaD [.snil, (.bool false)] (K · H))
 (zaf 2 t4 fun t54 =>
 zad false 1 t54 H fun t55 =>
 zah 1 t55 fun t56 =>
 zbp 8 [(.int .i64 0)] t56 t56 H fun t57 H =>
 zaf 2 t4 fun t58 =>
 zad false 1 t58 H fun t59 =>
 zah 1 t59 fun t60 =>
 zyP t2 t4 t8 t57 t59 t60 (.int .i64 0) H K))
theorem zL4 {t4 t14 t93 t94 t95 : AV} {H : zaa} {K : Kt} (Inv : Nat → AV → AV → zaa → Prop) (n : Nat) (h0 : HSc H → Inv n t14 t95 H)
  (round : Rd2 (fun t14 => fun t95 => zk9 t4 t14 t93 t94 t95) (fun t14 => fun t95 => fun H Kb20 => zqQ t4 t14 t93 t94 t95 H K Kb20) H Inv) : zlb t4 t14 t93 t94 t95 H K :=
 lp2 (M := zdB) zL7 t14 t95 (by kernel_rfl) Inv n h0 round
theorem zL3 {t2 t4 t8 t9 t77 t78 t79 : AV} {H : zaa} {K : Kt} (Inv : Nat → AV → zaa → Prop) (n : Nat) (h0 : HSc H → Inv n t79 H)
  (round : Rd1 (fun t79 => zk8 t2 t4 t8 t9 t77 t78 t79) (fun t79 => fun H Kb13 => zqP t2 t4 t8 t9 t77 t78 t79 H K Kb13) H Inv) : zyO t2 t4 t8 t9 t77 t78 t79 H K :=
 lp1 (M := zdB) zL6 t79 (by kernel_rfl) Inv n h0 round
theorem zL5 {t2 t4 t8 t9 t59 t60 t61 : AV} {H : zaa} {K : Kt} (Inv : Nat → AV → zaa → Prop) (n : Nat) (h0 : HSc H → Inv n t61 H)
  (round : Rd1 (fun t61 => zla t2 t4 t8 t9 t59 t60 t61) (fun t61 => fun H Kb8 => zqR t2 t4 t8 t9 t59 t60 t61 H K Kb8) H Inv) : zyP t2 t4 t8 t9 t59 t60 t61 H K :=
 lp1 (M := zdB) zL8 t61 (by kernel_rfl) Inv n h0 round
theorem zL9 {t0 t1 t2 : AV} {H : zaa} {K : Kt} (h : HSc H → zyN t0 t1 t2 H K) : ACalls tP zeb [t0, t1, t2] H K :=
 zam (M := zdB) Tryz.func45 (c := ze4) (by kernel_rfl) (fun hs => Eq.mpr (by kernel_rfl) (h hs))
def zlT : Nat → List Bool
 | 3 => rl false [3,1,3,3,9]
 | _ => []
noncomputable def zrE : Code := Tryz.f89.body.getD .skip
noncomputable def zOE : List ResultVar := Tryz.f89.results.toList
def zlU (t3 t7 t8 t9 : AV) : List AV := ux 3 (t3 :: ux 3 (t7 :: t8 :: t9 :: ux 9 []))
def zOC : List Bool := zlT 3
noncomputable def zOA : Code := zas [1, 1, 0, 1, 0, 0] zrE
def zOz (K : Kt) : AExit → List AV → zaa → Prop := zat tP zlT [1, 1, 0, 1, 0] zrE (zaA tP zOE K)
def zzD (t3 t7 t8 t9 : AV) (H : zaa) (K : Kt) : Prop := ALoop tP zOA (zOz K) (zlU t3 t7 t8 t9) H
def zrD (t3 t7 t8 t9 : AV) (H : zaa) (K : Kt) (Kb3 : Lt) : Prop :=
 zac .lss false t9 t8 fun t10 =>
 zag t10
 (zaj 3 t7 t9 fun t11 =>
 zad true 3 t11 H fun t12 =>
 zau [(.int .i64 0), (.int .i64 0), .snil] H fun t5 H =>
 zak 3 t5 t12 H fun H =>
 zad true 3 t5 H fun t14 =>
 ACalls tP ziA [t14] H fun t15 H =>
 zac .add false t3 t15 fun t16 =>
 zac .add false t9 (.int .i64 1) fun t17 =>
 Kb3 (zlU t16 t7 t8 t17) H)
 (K t3 H)
def zzC (t0 : AV) (H : zaa) (K : Kt) : Prop :=
 zao t0 H fun t1 H =>
 zaf 2 t1 fun t6 =>
 zad false 1 t6 H fun t7 =>
 zah 1 t7 fun t8 =>
 zzD (.int .i64 1) t7 t8 (.int .i64 0) H K
theorem zOB {t3 t7 t8 t9 : AV} {H : zaa} {K : Kt} (Inv : Nat → AV → AV → zaa → Prop) (n : Nat) (h0 : HSc H → Inv n t3 t9 H)
  (round : Rd2 (fun t3 => fun t9 => zlU t3 t7 t8 t9) (fun t3 => fun t9 => fun H Kb3 => zrD t3 t7 t8 t9 H K Kb3) H Inv) : zzD t3 t7 t8 t9 H K :=
 lp2 (M := zlT) zOC t3 t9 (by kernel_rfl) Inv n h0 round
theorem zOD {t0 : AV} {H : zaa} {K : Kt} (h : HSc H → zzC t0 H K) : ACalls tP ziA [t0] H K :=
 zam (M := zlT) Tryz.func89 (c := zrE) (by kernel_rfl) (fun hs => Eq.mpr (by kernel_rfl) (h hs))
def zlV : Nat → List Bool
 | 5 => rl false [1,1,3,1,23,3,12]
 | _ => []
noncomputable def zrH : Code := Tryz.f90.body.getD .skip
noncomputable def zOL : List ResultVar := Tryz.f90.results.toList
def zlW (t1 t5 t29 t30 t31 : AV) : List AV := ux 1 (t1 :: ux 3 (t5 :: ux 23 (t29 :: t30 :: t31 :: ux 12 [])))
def zOJ : List Bool := zlV 5
noncomputable def zOH : Code := zas [1, 1, 1, 0, 1, 0, 0] zrH
def zOG (K : Kt) : AExit → List AV → zaa → Prop := zat tP zlV [1, 1, 1, 0, 1, 0] zrH (zaA tP zOL K)
def zrJ (t1 t5 t29 t30 t31 : AV) (H : zaa) (K : Kt) : Prop := ALoop tP zOH (zOG K) (zlW t1 t5 t29 t30 t31) H
def zrI (t5 : AV) (H : zaa) (K : Kt) : Prop :=
 K t5 H
def zlX (t5 : AV) (H : zaa) (K : Kt) : Prop :=
 zrI t5 H K
def zrG (t1 t5 t29 t30 t31 : AV) (H : zaa) (K : Kt) (Kb5 : Lt) : Prop :=
 zac .lss false t31 t30 fun t32 =>
 zag t32
 (zaj 3 t29 t31 fun t33 =>
 zad true 3 t33 H fun t34 =>
 zau [(.int .i64 0), (.int .i64 0), .snil] H fun t7 H =>
 zak 3 t7 t34 H fun H =>
 zad true 3 t7 H fun t36 =>
 ACalls tP ziB [t36, t1] H fun t38 H =>
 zac .add false t5 t38 fun t39 =>
 zac .gtr false t39 (.int .i64 200) fun t41 =>
 zag t41
 (zlX t39 H K)
 (zac .add false t31 (.int .i64 1) fun t42 =>
 Kb5 (zlW t1 t39 t29 t30 t42) H))
 (zlX t5 H K)
def zrF (t0 t1 : AV) (H : zaa) (K : Kt) : Prop :=
 zao t0 H fun t2 H =>
 zaf 0 t2 fun t8 =>
 zad false 1 t8 H fun t9 =>
 zac .eql false t9 (.int .i64 4) fun t10 =>
 zab t10 true H (fun K' => zaf 1 t2 (K' · H)) fun t12 H =>
 zab t10 true H (fun K' => zad false 1 t12 H (K' · H)) fun t13 H =>
 zab t10 true H (fun K' => zac .geq false t13 (.int .i64 0) (K' · H)) fun t14 H =>
 zai t10 t14 (.bool false) fun t15 =>
 zab t15 true H (fun K' => zaf 1 t2 (K' · H)) fun t17 H =>
 zab t15 true H (fun K' => zad false 1 t17 H (K' · H)) fun t18 H =>
 zab t15 true H (fun K' => K' t1 H) fun t19 H =>
 zab t15 true H (fun K' => zah 1 t19 (K' · H)) fun t20 H =>
 zab t15 true H (fun K' => zac .lss false t18 t20 (K' · H)) fun t21 H =>
 zai t15 t21 (.bool false) fun t22 =>
 zag t22
 (zaf 1 t2 fun t24 =>
 zad false 1 t24 H fun t25 =>
 zaj 1 t1 t25 fun t26 =>
 zad false 1 t26 H fun t27 =>
 K t27 H)
 (zaf 2 t2 fun t28 =>
 zad false 1 t28 H fun t29 =>
 zah 1 t29 fun t30 =>
 zrJ t1 (.int .i64 1) t29 t30 (.int .i64 0) H K)
theorem zOI {t1 t5 t29 t30 t31 : AV} {H : zaa} {K : Kt} (Inv : Nat → AV → AV → zaa → Prop) (n : Nat) (h0 : HSc H → Inv n t5 t31 H)
  (round : Rd2 (fun t5 => fun t31 => zlW t1 t5 t29 t30 t31) (fun t5 => fun t31 => fun H Kb5 => zrG t1 t5 t29 t30 t31 H K Kb5) H Inv) : zrJ t1 t5 t29 t30 t31 H K :=
 lp2 (M := zlV) zOJ t5 t31 (by kernel_rfl) Inv n h0 round
theorem zOK {t0 t1 : AV} {H : zaa} {K : Kt} (h : HSc H → zrF t0 t1 H K) : ACalls tP ziB [t0, t1] H K :=
 zam (M := zlV) Tryz.func90 (c := zrH) (by kernel_rfl) (fun hs => Eq.mpr (by kernel_rfl) (h hs))
def zlY : Nat → List Bool
 | 5 => rl false [1,1,2,2,29,3,13]
 | _ => []
noncomputable def zrM : Code := Tryz.f91.body.getD .skip
noncomputable def zOS : List ResultVar := Tryz.f91.results.toList
def zlZ (t1 t4 t5 t35 t36 t37 : AV) : List AV := ux 1 (t1 :: ux 2 (t4 :: t5 :: ux 29 (t35 :: t36 :: t37 :: ux 13 [])))
def zOQ : List Bool := zlY 5
noncomputable def zOO : Code := zas [1, 1, 1, 0, 1, 0, 0] zrM
def zON (K : Kt) : AExit → List AV → zaa → Prop := zat tP zlY [1, 1, 1, 0, 1, 0] zrM (zaA tP zOS K)
def zht (t1 t4 t5 t35 t36 t37 : AV) (H : zaa) (K : Kt) : Prop := ALoop tP zOO (zON K) (zlZ t1 t4 t5 t35 t36 t37) H
def zrL (t1 t4 t5 t35 t36 t37 : AV) (H : zaa) (K : Kt) (Kb5 : Lt) : Prop :=
 zac .lss false t37 t36 fun t38 =>
 zag t38
 (zaj 3 t35 t37 fun t39 =>
 zad true 3 t39 H fun t40 =>
 zau [(.int .i64 0), (.int .i64 0), .snil] H fun t7 H =>
 zak 3 t7 t40 H fun H =>
 zae H (fun K' => zaf 2 t5 (K' · H)) fun t41 =>
 zae H (fun K' => zal false 1 t41 H (K' · H)) fun t42 =>
 zae H (fun K' => zal true 3 t7 H (K' · H)) fun t43 =>
 zae H (fun K' => K' t1 H) fun t44 =>
 zaG H (fun H K' => ACalls tP zgQ [t43, t44] H K') fun t45 =>
 zae H (fun K' => zaz 3 [(.int .i64 0), (.int .i64 0), .snil] 1 [(0, t45)] (K' · H)) fun t46 =>
 zaw zaV 3 40 t42 t46 H fun t47 H =>
 zae H (fun K' => zaf 2 t5 (K' · H)) fun t48 =>
 zak 1 t48 t47 H fun H =>
 zac .add false t37 (.int .i64 1) fun t49 =>
 Kb5 (zlZ t1 t4 t5 t35 t36 t49) H)
 (zad true 3 t5 H fun t50 =>
 zak 3 t4 t50 H fun H =>
 zad true 3 t4 H fun r0 =>
 K r0 H)
def zrK (t0 t1 : AV) (H : zaa) (K : Kt) : Prop :=
 zao t0 H fun t2 H =>
 zau [(.int .i64 0), (.int .i64 0), .snil] H fun t4 H =>
 zaf 0 t2 fun t8 =>
 zad false 1 t8 H fun t9 =>
 zac .eql false t9 (.int .i64 4) fun t10 =>
 zab t10 true H (fun K' => zaf 1 t2 (K' · H)) fun t12 H =>
 zab t10 true H (fun K' => zad false 1 t12 H (K' · H)) fun t13 H =>
 zab t10 true H (fun K' => zac .geq false t13 (.int .i64 0) (K' · H)) fun t14 H =>
 zai t10 t14 (.bool false) fun t15 =>
 zab t15 true H (fun K' => zaf 1 t2 (K' · H)) fun t17 H =>
 zab t15 true H (fun K' => zad false 1 t17 H (K' · H)) fun t18 H =>
 zab t15 true H (fun K' => K' t1 H) fun t19 H =>
 zab t15 true H (fun K' => zah 1 t19 (K' · H)) fun t20 H =>
 zab t15 true H (fun K' => zac .lss false t18 t20 (K' · H)) fun t21 H =>
 zai t15 t21 (.bool false) fun t22 =>
 zag t22
 (zaf 1 t2 fun t24 =>
 zad false 1 t24 H fun t25 =>
 zaj 3 t1 t25 fun t26 =>
 zad true 3 t26 H fun t27 =>
 ACalls tP zgQ [t27, .snil] H fun t28 H =>
 zak 3 t4 t28 H fun H =>
 zad true 3 t4 H fun r0 =>
 K r0 H)
 (zaf 0 t2 fun t29 =>
 zad false 1 t29 H fun t30 =>
 zaf 1 t2 fun t31 =>
 zad false 1 t31 H fun t32 =>
 zax [(.int .i64 0), (.int .i64 0), .snil] [(0, 1), (1, 1), (2, 1)] [(0, t30), (1, t32)] fun t33 =>
 zau [(.int .i64 0), (.int .i64 0), .snil] H fun t5 H =>
 zak 3 t5 t33 H fun H =>
 zaf 2 t2 fun t34 =>
 zad false 1 t34 H fun t35 =>
 zah 1 t35 fun t36 =>
 zht t1 t4 t5 t35 t36 (.int .i64 0) H K)
theorem zOP {t1 t4 t5 t35 t36 t37 : AV} {H : zaa} {K : Kt} (Inv : Nat → AV → zaa → Prop) (n : Nat) (h0 : HSc H → Inv n t37 H)
  (round : Rd1 (fun t37 => zlZ t1 t4 t5 t35 t36 t37) (fun t37 => fun H Kb5 => zrL t1 t4 t5 t35 t36 t37 H K Kb5) H Inv) : zht t1 t4 t5 t35 t36 t37 H K :=
 lp1 (M := zlY) zOQ t37 (by kernel_rfl) Inv n h0 round
theorem zOR {t0 t1 : AV} {H : zaa} {K : Kt} (h : HSc H → zrK t0 t1 H K) : ACalls tP zgQ [t0, t1] H K :=
 zam (M := zlY) Tryz.func91 (c := zrM) (by kernel_rfl) (fun hs => Eq.mpr (by kernel_rfl) (h hs))
def zLz (_ : Nat) : List Bool := []
noncomputable def zLA : Code := Tryz.f40.body.getD .skip
def zyH (t0 t1 t2 : AV) (H : zaa) (K : Kt) : Prop :=
 zao t1 H fun t4 H =>
 zad true 3 t4 H fun t7 =>
 ACalls tP zgL [t7] H fun t8 H =>
 zac .leq false t8 (.int .i64 200) fun t9 =>
 zab t9 true H (fun K' => K' t0 H) fun t11 H =>
 zab t9 true H (fun K' => zad true 3 t4 H (K' · H)) fun t12 H =>
 zab t9 true H (fun K' => K' t2 H) fun t13 H =>
 zab t9 true H (fun K' => ACalls tP zix [t11, t12, t13] H K') fun t14 H =>
 zai t9 t14 (.bool false) fun t15 =>
 K t15 H
theorem zLB {t0 t1 t2 : AV} {H : zaa} {K : Kt} (h : HSc H → zyH t0 t1 t2 H K) : ACalls tP zgJ [t0, t1, t2] H K :=
 zam (M := zLz) Tryz.func40 (c := zLA) (by kernel_rfl) (fun hs => Eq.mpr (by kernel_rfl) (h hs))
def zls : Nat → List Bool
 | 3 => rl false [1,1,1,2,16]
 | _ => []
noncomputable def zra : Code := Tryz.f55.body.getD .skip
noncomputable def zMV : List ResultVar := Tryz.f55.results.toList
def zlt (t1 t3 t4 : AV) : List AV := ux 1 (t1 :: ux 1 (t3 :: t4 :: ux 16 []))
def zMT : List Bool := zls 3
noncomputable def zMR : Code := zas [1, 1, 0, 1, 0, 0] zra
def zMQ (K : Kt) : AExit → List AV → zaa → Prop := zat tP zls [1, 1, 0, 1, 0] zra (zaA tP zMV K)
def zy3 (t1 t3 t4 : AV) (H : zaa) (K : Kt) : Prop := ALoop tP zMR (zMQ K) (zlt t1 t3 t4) H
def zq8 (t1 t3 t4 : AV) (H : zaa) (K : Kt) (Kb3 : Lt) : Prop :=
 zaf 2 t1 fun t6 =>
 zad false 1 t6 H fun t7 =>
 zah 1 t7 fun t8 =>
 zac .lss false t4 t8 fun t9 =>
 zag t9
 (zaf 2 t1 fun t13 =>
 zad false 1 t13 H fun t14 =>
 zaj 3 t14 t4 fun t16 =>
 zad true 3 t16 H fun t17 =>
 ACalls tP zgL [t17] H fun t18 H =>
 zac .add false t3 t18 fun t19 =>
 zac .add false t4 (.int .i64 1) fun t11 =>
 Kb3 (zlt t1 t19 t11) H)
 (K t3 H)
def zy2 (t0 : AV) (H : zaa) (K : Kt) : Prop :=
 zao t0 H fun t1 H =>
 zy3 t1 (.int .i64 1) (.int .i64 0) H K
theorem zMS {t1 t3 t4 : AV} {H : zaa} {K : Kt} (Inv : Nat → AV → AV → zaa → Prop) (n : Nat) (h0 : HSc H → Inv n t3 t4 H)
  (round : Rd2 (fun t3 => fun t4 => zlt t1 t3 t4) (fun t3 => fun t4 => fun H Kb3 => zq8 t1 t3 t4 H K Kb3) H Inv) : zy3 t1 t3 t4 H K :=
 lp2 (M := zls) zMT t3 t4 (by kernel_rfl) Inv n h0 round
theorem zMU {t0 : AV} {H : zaa} {K : Kt} (h : HSc H → zy2 t0 H K) : ACalls tP zgL [t0] H K :=
 zam (M := zls) Tryz.func55 (c := zra) (by kernel_rfl) (fun hs => Eq.mpr (by kernel_rfl) (h hs))
end Go.Proofs.YtjkkonpjecoieaaGreat
