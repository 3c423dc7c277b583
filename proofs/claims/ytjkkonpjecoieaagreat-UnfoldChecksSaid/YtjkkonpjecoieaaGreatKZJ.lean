import Derived.Test.YtjkkonpjecoieaaGreatKZ4
import Derived.Test.YtjkkonpjecoieaaGreatKGB8
import Derived.Test.YtjkkonpjecoieaaGreatKNum
import Derived.Test.YtjkkonpjecoieaaGreatProg
import Derived.KernelRfl
import Derived.Test.YtjkkonpjecoieaaGreatKGA
set_option linter.unusedSimpArgs false
set_option linter.unusedVariables false
namespace Go.Proofs.YtjkkonpjecoieaaGreat
open Go Go.Abs
set_option maxRecDepth 8000
theorem ztZ {H : zaa} {K : Kt} (R : List Nat) (hs : HSc H) (hK : K (.sl (zap R) .none) H) : Out H.length K (.ov H.length R.length) (H ++ [.vec zbM 1 R.length (us R)]) :=
 ⟨.sl (zap R) .none, H, [.vec zbM 1 R.length (us R)], rfl, Nat.le_refl _, hs, .one (.vfz H.length zbM 1 R.length (us R) (zap R) (Nat.le_refl _) (by simp) (by rw [zor, zi5]) (by simp) (zfJ R)), hK⟩
theorem zsa (A B : List Nat) (lA : ∀ x ∈ A, x < 1000000000) (lB : ∀ x ∈ B, x < 1000000000) (ha : A.length ≤ 1000) (hb : B.length ≤ A.length) (cA : lim (zaq A) = A) (H : zaa) (K : Kt) (hs : HSc H)
  (hK : K (.sl (zap (lim (zaq A + zaq B))) .none) H) : zjT (.sl (zap A) .none) (.sl (zap B) .none) H (Out H.length K) := by
 have hsc : ∀ R : List Nat, HSc (H ++ [.vec zbM 1 R.length (us R)]) := fun A => hs.append (by simp [AB.sc, us, AV.scA, AV.scB])
 simp [zjT, wi A.length (by omega)]
 refine ⟨⟨by omega, by omega, by omega⟩, ?_⟩
 refine zGk (Inv := fun q t5 t6 t22 H' => ∃ (i c : Nat) (R : List Nat), i ≤ A.length ∧ A.length - i = q ∧ t22 = .int .i64 i ∧ t6 = .int .u32 c ∧ t5 = .ov H.length R.length ∧ R.length = i ∧ (∀ x ∈ R, x < 1000000000) ∧ c ≤ 1 ∧
  zaq R + 1000000000 ^ i * c = zaq (A.take i) + zaq (B.take i) ∧ H' = H ++ [.vec zbM 1 R.length (us R)]) A.length ?_ ?_
 ·intro _; exact ⟨0, 0, [], by omega, rfl, rfl, rfl, rfl, rfl, by simp, by omega, by simp [zaq], rfl⟩
 ·rintro q t5 t6 t22 H' ⟨i, c, R, hi, rfl, rfl, rfl, rfl, hRl, hR, hc, hv, rfl⟩ hsc' hlen hsF Kb hKb
  by_cases hlt : i < A.length
  ·have hbit : ∀ (s : Nat), s ≤ 2 * 999999999 + 1 → s = c + A[i] + (if h : i < B.length then B[i] else 0) →
     zjU (.sl (zap A) .none) (.sl (zap B) .none) (.ov H.length R.length) (.int .u32 s) (.int .i64 A.length) (.int .i64 i) (H ++ [.vec zbM 1 R.length (us R)]) (Out H.length K) Kb := by
    intro s hs1 hs2
    obtain ⟨x, c', hx1, hx2, e1, e2⟩ := zAN s (by omega)
    simp only [zjU]
    simp [e1, e2, zaz, za9, zaB, AV.pd, zaw, zaX, zaO, wi i (by omega)]
    refine ⟨⟨by omega, by omega⟩, ?_⟩
    have e3 : us R ++ [AV.int .u32 (x : Int)] = us (R ++ [x]) := by simp [us]
    rw [e3]
    refine hKb _ _ ⟨A.length - (i + 1), by omega, Back.here (by simp) (by simpa using hsc (R ++ [x])) (by simp [zjS, ux, AV.sc, AV.scA, AV.scB, AV.scV]) ⟨_, _, _, rfl, i + 1, c', R ++ [x], by omega, rfl, rfl, rfl, by simp, by simp [hRl], ?_, by omega, ?_, by simp⟩⟩
    ·intro y hy
     rcases List.mem_append.1 hy with hy | hy
     ·exact hR y hy
     ·simp at hy; omega
    ·have tk : zaq (B.take (i + 1)) = zaq (B.take i) + (if h : i < B.length then B[i] else 0) * 1000000000 ^ i := by
      by_cases h : i < B.length
      ·rw [dif_pos h, zgu B i h]
      ·rw [dif_neg h, List.take_of_length_le (by omega), List.take_of_length_le (by omega)]; simp
     rw [zgt, tk, zgu A i hlt, hRl, Nat.pow_succ]
     generalize (if h : i < B.length then B[i] else 0) = v at *
     grind
   have hxa := lA A[i] (List.getElem_mem hlt)
   obtain ⟨s1, hs1⟩ : ∃ s, s = A[i] + c := ⟨_, rfl⟩
   have w1 : IntKind.u32.wrap (((A[i] : Nat) : Int) + (c : Int)) = (s1 : Int) := by rw [hs1, ← Int.natCast_add]; exact zeQ (by omega)
   by_cases hB : i < B.length
   ·have hxb := lB B[i] (List.getElem_mem hB)
    obtain ⟨s2, hs2⟩ : ∃ s, s = s1 + B[i] := ⟨_, rfl⟩
    have w2 : IntKind.u32.wrap ((s1 : Int) + (B[i] : Nat)) = (s2 : Int) := by rw [hs2, ← Int.natCast_add]; exact zeQ (by omega)
    simp [zhg, hlt, hB, w1, w2]
    exact hbit s2 (by omega) (by simp [hB]; omega)
   ·simp [zhg, hlt, hB, w1]
    exact hbit s1 (by omega) (by simp [hB]; omega)
  ·obtain rfl : i = A.length := by omega
   rw [List.take_length, List.take_of_length_le hb] at hv
   by_cases h0 : c = 0
   ·subst h0
    simp [zhg, zjV]
    have hv' : zaq R = zaq A + zaq B := by simpa using hv
    rw [← hv'] at hK
    have hcan : R = lim (zaq R) := by
     refine zst hR ?_
     by_cases hA0 : A.length = 0
     ·omega
     ·have h3 := ztp (n := zaq A) (by intro h; have hl0 := congrArg List.length cA; rw [h] at hl0; simp at hl0; omega)
      rw [cA] at h3
      have := zto (n := zaq R) (k := A.length - 1) (by omega)
      omega
    rw [← hcan] at hK
    exact ztZ R hs hK
   ·obtain rfl : c = 1 := by omega
    simp [zhg, zjV, zaz, za9, zaB, AV.pd, zaw, zaX, zaO]
    refine ⟨⟨by omega, by omega⟩, ?_⟩
    have e3 : us R ++ [AV.int .u32 1] = us (R ++ [1]) := by simp [us]
    rw [e3]
    have hv' : zaq (R ++ [1]) = zaq A + zaq B := by rw [zgt, hRl]; omega
    rw [← hv'] at hK
    have hcan : R ++ [1] = lim (zaq (R ++ [1])) := by
     refine zst (fun y hy => ?_) ?_
     ·rcases List.mem_append.1 hy with hy | hy
      ·exact hR y hy
      ·simp at hy; omega
     ·have := zto (n := zaq (R ++ [1])) (k := A.length) (by rw [zgt, hRl]; omega)
      simp; omega
    rw [← hcan] at hK
    have := ztZ (R ++ [1]) hs hK
    simpa using this
theorem zGo (a b : Nat) (ha : (lim a).length ≤ 1000) (hb : (lim b).length ≤ 1000) (H : zaa) (K : Kt) (hK : K (.sl (zap (lim (a + b))) .none) H) :
  ACalls tP zm4 [.sl (zap (lim a)) .none, .sl (zap (lim b)) .none] H K := by
 refine ACalls.out (zGm fun hs => ?_)
 by_cases h : (lim a).length < (lim b).length
 ·have h' : ((lim a).length : Int) < ((lim b).length : Int) := by omega
  simp [zpc, h]
  refine zsa (lim b) (lim a) (zcQ b) (zcQ a) hb (by omega) (by rw [zca]) _ _ hs ?_
  rw [zca, zca, Nat.add_comm]; exact hK
 ·have h' : ¬ ((lim a).length : Int) < ((lim b).length : Int) := by omega
  simp [zpc, h]
  refine zsa (lim a) (lim b) (zcQ a) (zcQ b) ha (by omega) (by rw [zca]) _ _ hs ?_
  rw [zca, zca]; exact hK
theorem zhU (a : Nat) (ha : a < 1000000000 ^ 30) (H : zaa) (K : Kt) (hK : K (.sl (zap (lim a)) .none) H) : ACalls tP zcR [.sl (zap (lim a)) .none, .sl (zap [1]) .none] H K := by
 have := zgx a 1 ha ziG H K (by rw [Nat.mul_one]; exact hK)
 rwa [zdI] at this
theorem zBU (a b : Nat) (ha : a < 1000000000 ^ 30) (hb : b < 1000000000 ^ 30) (H : zaa) (K : Kt) (hK : K (.agg (zan ((a + b : Nat) : Int))) H) :
  ACalls tP zmV [.agg (zan (a : Int)), .agg (zan (b : Int))] H K := by
 refine ACalls.out (zEb fun hs => ?_)
 have la := zbO ha
 have lb := zbO hb
 have d0 : ∀ n : Nat, decide ((n : Int) < 0) = false := fun n => by simp
 simp [zvS, zan, d0, Nat.add_assoc]
 refine zaF (.sl (zap (lim a)) .none) (fun J => zhU a ha _ _ ⟨rfl, rfl⟩) ?_
 try simp [Nat.add_assoc]
 refine zaF (.sl (zap (lim b)) .none) (fun J => zhU b hb _ _ ⟨rfl, rfl⟩) ?_
 try simp [Nat.add_assoc]
 refine ztE _ _ ?_
 simp [Nat.add_assoc]
 refine zaF (.sl (zap (lim (a + b))) .none) (fun J => zGo a b (by omega) (by omega) _ _ ⟨rfl, rfl⟩) ?_
 simp [zax, zaP, zct, AV.known, Nat.add_assoc]
 have e1 : zan ((a + b : Nat) : Int) = [.bool false, .sl (zap (lim (a + b))) .none, .sl (zap [1]) .none] := by simp only [zan, d0, Int.natAbs_natCast]
 have := zcE (H := H) (K := K) (z := ((a + b : Nat) : Int)) (J := [.cells [.bool false, .sl (zap (lim a)) .none, .sl (zap [1]) .none], .cells [.bool false, .sl (zap (lim b)) .none, .sl (zap [1]) .none], .cells (zan ((a + b : Nat) : Int))]) hs hK
 rw [e1] at this
 simpa using this
theorem zy8 (a b : Nat) (ha : a < 1000000000 ^ 30) (hb : b < 1000000000 ^ 30) (H : zaa) (K : Kt) (hK : K (.agg (zan ((a + b : Nat) : Int))) H) : ACalls tP zis [.agg (zan (a : Int)), .agg (zan (b : Int))] H K := by
 refine ACalls.out (zM3 fun hs => ?_)
 have la := zbO ha
 have lb := zbO hb
 have lc : (lim (a + b)).length ≤ 31 := zbO (by omega)
 have d0 : ∀ n : Nat, decide ((n : Int) < 0) = false := fun n => by simp
 have e1 : ∀ n : Nat, zan (n : Int) = [.bool false, .sl (zap (lim n)) .none, .sl (zap [1]) .none] := fun n => by simp only [zan, d0, Int.natAbs_natCast]
 simp [zy7, e1, Nat.add_assoc]
 simp only [← e1]
 refine zaF (.agg (zan (a : Int))) (fun J => zeD a (by simpa using by omega) _ _ ⟨rfl, rfl⟩) ?_
 refine zaF (.agg (zan (b : Int))) (fun J => zeD b (by simpa using by omega) _ _ ⟨rfl, rfl⟩) ?_
 refine zaF (.agg (zan ((a + b : Nat) : Int))) (fun J => zBU a b ha hb _ _ ⟨rfl, rfl⟩) ?_
 refine zaF (.agg (zan ((a + b : Nat) : Int))) (fun J => by
  rw [e1 (a + b)]
  exact zoe false (a + b) (by omega) (z := ((a + b : Nat) : Int)) (by simp) _ _ ⟨by rw [e1], rfl⟩) ?_
 rw [e1 (a + b)]
 simp [Nat.add_assoc]
 have := zcE (H := H) (K := K) (z := ((a + b : Nat) : Int)) (J := [.cells (zan (a : Int)), .cells (zan (b : Int)), .cells (zan ((a + b : Nat) : Int))]) hs hK
 rw [e1 (a + b)] at this
 simpa using this
theorem zob (a : Nat) (H : zaa) (K : Kt) (hK : K (.int .i64 (if a = 0 then 0 else 1)) H) : ACalls tP zgz [.agg (zan (a : Int))] H K := by
 refine ACalls.out (zEe fun hs => ?_)
 have d0 : ∀ n : Nat, decide ((n : Int) < 0) = false := fun n => by simp
 have hO : ∀ z J, z = (if a = 0 then (0 : Int) else 1) → Out H.length K (.int .i64 z) (H ++ J) := fun z J h => Out.int rfl (Nat.le_refl _) hs (by rw [h]; exact hK)
 by_cases h : a = 0
 ·subst h
  simp [zoD, zan]
  exact hO 0 _ (by simp)
 ·have hp : 0 < (lim a).length := by rw [zcm h]; simp
  have hb : (((lim a).length : Int) == 0) = false := by
   generalize (lim a).length = q at hp
   simp; omega
  simp [zoD, zan, d0, hb]
  exact hO 1 _ (by simp [h])
theorem zH1 (a : Nat) (ha : a < 1000000000 ^ 30) (H : zaa) (K : Kt) (hK : K (.int .i64 (if a = 0 then 0 else 1)) H) : ACalls tP zng [.agg (zan (a : Int))] H K := by
 refine ACalls.out (zH2 fun hs => ?_)
 have la := zbO ha
 have d0 : ∀ n : Nat, decide ((n : Int) < 0) = false := fun n => by simp
 have e1 : ∀ n : Nat, zan (n : Int) = [.bool false, .sl (zap (lim n)) .none, .sl (zap [1]) .none] := fun n => by simp only [zan, d0, Int.natAbs_natCast]
 simp [zxo, e1, Nat.add_assoc]
 simp only [← e1]
 refine zeD (a : Int) (by simpa using by omega) _ _ ?_
 refine zob a _ _ ?_
 exact Out.int (J := [.cells (zan (a : Int))]) (by simp) (Nat.le_refl _) hs hK
def elE (data : List Dat) (t : VT) : IT → List AV
 | .mk c eks => [.int .i64 c, .sl (IT.css eks) .none, .sl (zaE (pos false ((za4 data t.num.toNat).getD c.toNat []) ((za4 data t.num.toNat).getD c.toNat []).length)) .none, .sl (VT.css ((zbl data t c).getD [])) .none]
def elS (data : List Dat) (t : VT) (ks : List IT) : List (List AV) := ks.map (elE data t)
def hpB (H : zaa) (tn : Int) (tks : List VT) (vk vn : Int) (vks : List VT) (ne : Nat) : zaa :=
 H ++ [.cells [.int .i64 5, .int .i64 tn, .sl (VT.css tks) .none], .cells [.int .i64 vk, .int .i64 vn, .sl (VT.css vks) .none], .cells [.bool false, .snil, .snil], .perm zdH 4 ne]
theorem zmF {H : zaa} (hs : HSc H) {tn : Int} {tks : List VT} {vk vn : Int} {vks : List VT} {ne : Nat} : HSc (hpB H tn tks vk vn vks ne) :=
 hs.append (by simp [AB.sc, AV.scA, AV.scB])
theorem _root_.Go.Abs.ALoop.ownC' {P : Program} {c : Code} {Q : AExit → List AV → zaa → Prop} {F : List AV} {H H2 : zaa} {cs : List AV} (id j e size : Nat) (hid : H[id]? = some (.cells cs)) (hj : cs[j]? = some .snil)
  (hE : H.set id (.cells (cs.set j (.sl [] (.own H.length)))) ++ [.perm e size 0] = H2) (h : ALoop P c Q F H2) : ALoop P c Q F H := ALoop.ownC id j e size hid hj (hE ▸ h)
def hpC (H : zaa) (tn : Int) (tks : List VT) (vk vn : Int) (vks : List VT) (ne : Nat) (c : Int) (eks : List IT) (P : List Nat) (T : List VT) : zaa :=
 hpB H tn tks vk vn vks ne ++ [.cells [.int .i64 c, .sl (IT.css eks) .none], .cells [.int .i64 c, .sl (IT.css eks) .none, .sl (zaE P) (.own (H.length + 6)), .sl (VT.css T) (.own (H.length + 7))], .perm za8 1 P.length, .perm zaV 3 T.length]
theorem zA2 {H : zaa} (hs : HSc H) {tn : Int} {tks : List VT} {vk vn : Int} {vks : List VT} {ne : Nat} {c : Int} {eks : List IT} {P : List Nat} {T : List VT} : HSc (hpC H tn tks vk vn vks ne c eks P T) :=
 (zmF hs).append (by simp [AB.sc, AV.scA, AV.scB, hpB])
theorem zAf {data : List Dat} (hk : za5 data) (h8 : ∀ D ∈ data, D.cons.length ≤ 8) (tn : Int) (ks : List IT) (tks : List VT) (vk vn : Int) (vks : List VT) (hT : (VT.mk 5 tn tks).nodes ≤ 1000) (hkl : ks.length ≤ 6)
  (hrd : 0 ≤ rdE data ks (.mk 5 tn tks) 0) (H : zaa) (K : Kt) (hs : HSc H)
  (h : zhc (.sl (data.map Dat.cs) .none) (.ptr H.length 0) (.ptr (H.length + 1) 0) (.ptr (H.length + 2) 0) (.sl (elS data (.mk 5 tn tks) ks) (.own (H.length + 3))) (.ms (H.length + 4) 0 (ks.length + 1) (ks.length + 1)) (.int .i64 ((ks.length + 1 : Nat) : Int)) (.int .i64 0)
   (hpB H tn tks vk vn vks ks.length ++ [.cells (zz (ks.length + 1))]) (Out H.length K)) :
  zhd (.sl (data.map Dat.cs) .none) (.ptr H.length 0) (.ptr (H.length + 1) 0) (.ptr (H.length + 2) 0) .snil (.sl (IT.css ks) .none) (.int .i64 ks.length) (.int .i64 0)
   (H ++ [.cells [.int .i64 5, .int .i64 tn, .sl (VT.css tks) .none], .cells [.int .i64 vk, .int .i64 vn, .sl (VT.css vks) .none], .cells [.bool false, .snil, .snil]]) (Out H.length K) := by
 unfold zhd
 refine ALoop.own 9 zdH 4 rfl ?_
 have hid : (H ++ [AB.cells [.int .i64 5, .int .i64 tn, .sl (VT.css tks) .none], .cells [.int .i64 vk, .int .i64 vn, .sl (VT.css vks) .none], .cells [.bool false, .snil, .snil]]).length = H.length + 3 := by simp
 rw [hid, List.append_assoc]
 obtain ⟨f1, f2, f3⟩ := zc6 hk
 show zhd (.sl (data.map Dat.cs) .none) (.ptr H.length 0) (.ptr (H.length + 1) 0) (.ptr (H.length + 2) 0) (.sl [] (.own (H.length + 3))) (.sl (IT.css ks) .none) (.int .i64 ks.length) (.int .i64 0) (hpB H tn tks vk vn vks 0) (Out H.length K)
 refine zEZ (Inv := fun q t9 t28 H' => ∃ i : Nat, i ≤ ks.length ∧ ks.length - i = q ∧ t28 = .int .i64 i ∧ t9 = .sl (elS data (.mk 5 tn tks) (ks.take i)) (.own (H.length + 3)) ∧ H' = hpB H tn tks vk vn vks i) ks.length ?_ ?_
 ·intro _; exact ⟨0, by omega, rfl, rfl, by simp [elS], rfl⟩
 ·rintro q t9 t28 H' ⟨i, hi, rfl, rfl, rfl, rfl⟩ hsc' hlen hsF Kb hKb
  have hel : (elS data (.mk 5 tn tks) (ks.take i)).length = i := by simp [elS]; omega
  by_cases hlt : i < ks.length
  ·cases he : ks[i] with
   | mk c eks =>
   obtain ⟨ps, hps1, hps2, hps3, hps6⟩ := znV h8 hrd hlt he
   obtain ⟨l, hf⟩ : ∃ l, zaR data (.mk 5 tn tks) c = some l := by
    cases hf : zaR data (.mk 5 tn tks) c with
    | none => simp [zbl, hf] at hps1
    | some l => exact ⟨l, rfl⟩
   obtain ⟨bs, hbs, hlb, hl8, hpay, h200, _, hrec, _, _, hc0, _⟩ := znN hk hf
   have hnew : elE data (.mk 5 tn tks) ks[i] = [.int .i64 c, .sl (IT.css eks) .none, .sl (zaE (pos false bs bs.length)) .none, .sl (VT.css (pick l bs)) .none] := by
    rw [he]; simp only [elE, VT.num, hbs, hpay, Option.getD_some]
   have hsnoc : elS data (.mk 5 tn tks) (ks.take i) ++ [elE data (.mk 5 tn tks) ks[i]] = elS data (.mk 5 tn tks) (ks.take (i + 1)) := by
    rw [List.take_succ_eq_append_getElem hlt]; simp only [elS, List.map_append, List.map_cons, List.map_nil]
   simp [zoL, hlt, he, IT.cs, hpB, Nat.add_assoc, zax, zaP, zct, AV.known]
   have hTc : (VT.mk 5 tn tks).cs = [.int .i64 5, .int .i64 tn, .sl (VT.css tks) .none] := rfl
   rw [← hTc]
   refine zfT data f1 f2 f3 (.mk 5 tn tks) hT c _ _ ?_
   rw [hf]
   simp [zbN, Nat.add_assoc, hTc]
   refine hrec _ _ ?_
   simp [zdd, Nat.add_assoc]
   unfold zoR
   refine ALoop.ownC' (H.length + 5) 2 za8 1 (cs := [.int .i64 c, .sl (IT.css eks) .none, .snil, .snil]) (by simp) rfl rfl ?_
   refine ALoop.ownC' (H.length + 5) 3 zaV 3 (cs := [.int .i64 c, .sl (IT.css eks) .none, .sl [] (.own (H.length + 6)), .snil]) (H2 := hpC H tn tks vk vn vks i c eks [] []) (by simp) rfl (by simp [hpC, hpB, zaE, VT.css, List.set_append_right]) ?_
   refine zE1 (Inv := fun q t52 H' => ∃ j : Nat, j ≤ bs.length ∧ bs.length - j = q ∧ t52 = .int .i64 j ∧ H' = hpC H tn tks vk vn vks i c eks (pos false bs j) (pick (l.take j) (bs.take j))) bs.length ?_ ?_
   ·intro _; exact ⟨0, by omega, rfl, rfl, by simp [pos, pick]⟩
   ·rintro q t52 H' ⟨j, hj, rfl, rfl, rfl⟩ hsc2 hlen2 hsF2 Kb8 hKb8
    by_cases hjl : j < bs.length
    ·have hp1 := zfx false bs j hjl
     have hp2 := znP (l := l) (bs := bs) hlb (i := j) (by omega)
     have hn1 := zdu false bs j
     have hn2 := ziL (l.take j) (bs.take j)
     rw [List.length_take] at hn2
     have hnext : zjn (.sl (data.map Dat.cs) .none) (.ptr H.length 0) (.ptr (H.length + 1) 0) (.ptr (H.length + 2) 0) (.sl (elS data (.mk 5 tn tks) (ks.take i)) (.own (H.length + 3))) (.ptr (H.length + 5) 0) (.sl (VT.css l) .none) (.sl (IT.css ks) .none) (.int .i64 ks.length) (.int .i64 i) (.sl (zbq bs) .none) (.int .i64 bs.length) (.int .i64 j)
       (hpC H tn tks vk vn vks i c eks (pos false bs (j + 1)) (pick (l.take (j + 1)) (bs.take (j + 1)))) (Out H.length K) Kb Kb8 := by
      simp [zjn, zv9]
      rw [zar (by omega) (by omega)]
      refine hKb8 _ _ ⟨bs.length - (j + 1), by omega, Back.here (by simp [hpC, hpB]) (zA2 hs) ?_ ⟨_, rfl, j + 1, by omega, rfl, by simp, rfl⟩⟩
      simp [zjm, AV.sc, AV.scV, AV.scA, AV.scB, ux, hpC, hpB]
     obtain ⟨a, b, d, hlj⟩ : ∃ a b d, l[j]'(by omega) = VT.mk a b d := by
      cases l[j]'(by omega) with | mk a b d => exact ⟨a, b, d, rfl⟩
     have hcsn : ∀ m : List VT, VT.css m ++ [[.int .i64 a, .int .i64 b, .sl (VT.css d) .none]] = VT.css (m ++ [.mk a b d]) := fun m => by rw [zsG]; rfl
     cases hbi : bs[j] with
     | true =>
      rw [hbi] at hp1 hp2
      simp at hp1 hp2
      rw [hp1, hp2] at hnext
      simp [zjh, zdd, hjl, zeu, hbi]
      exact hnext
     | false =>
      rw [hbi] at hp1 hp2
      simp at hp1 hp2
      rw [hp1, hp2] at hnext
      simp [zjh, zdd, hjl, zeu, hbi, hpC, hpB, zaz, za9, zaB, AV.pd, zaw, zaX, zaO, zcc, show j < l.length by omega, hlj, VT.cs, hcsn, List.set_append_right]
      refine ⟨by omega, by omega, ?_⟩
      simpa [hpC, hpB, zgR, zaE, hlj] using hnext
    ·obtain rfl : j = bs.length := by omega
     rw [← hlb, List.take_length, hlb, List.take_length]
     simp [zjh, hpC, hpB, zaz, za9, zaB, AV.pd, AV.known, zaw, zaX, zaO, hel]
     refine ⟨by omega, ?_⟩
     rw [zar (by omega) (by omega)]
     rw [hnew] at hsnoc
     rw [hsnoc]
     exact hKb _ _ ⟨ks.length - (i + 1), by omega, Back.at (J := [.cells [.int .i64 c, .sl (IT.css eks) .none], .cells [.int .i64 c, .sl (IT.css eks) .none, .sl (zaE (pos false bs bs.length)) (.own (H.length + 6)), .sl (VT.css (pick l bs)) (.own (H.length + 7))], .perm za8 1 (pos false bs bs.length).length, .perm zaV 3 (pick l bs).length]) (H2 := hpB H tn tks vk vn vks (i + 1)) (by simp [hpB]) (by simp [hpB]) (zmF hs) (by simp [zjk, AV.sc, AV.scV, AV.scA, AV.scB, ux, hpB]) ⟨_, _, rfl, i + 1, by omega, rfl, by simp, rfl, rfl⟩⟩
  ·obtain rfl : i = ks.length := by omega
   rw [List.take_length] at *
   have w1 : IntKind.i64.wrap ((ks.length : Int) + 1) = ((ks.length + 1 : Nat) : Int) := wi _ (by omega)
   simp [zoL, hel, hpB, zbp, w1, Nat.add_assoc]
   refine ⟨⟨by omega, by omega, by omega⟩, ?_⟩
   have hmx : max ((ks.length : Int) + 1) 0 = (ks.length : Int) + 1 := by omega
   rw [hmx]
   simpa [hpB, zz, zrC] using h
end Go.Proofs.YtjkkonpjecoieaaGreat
namespace Go.Proofs.YtjkkonpjecoieaaGreat
open Go Go.Abs
set_option maxRecDepth 100000
def zkS : Nat → List Bool
 | 3 => rl false [0,1,3,2,1,1,9,2,16]
 | _ => []
noncomputable def zqy : Code := Tryz.f33.body.getD .skip
noncomputable def zK4 : List ResultVar := Tryz.f33.results.toList
def zkT (t0 t4 t5 t7 t17 t18 : AV) : List AV := t0 :: ux 3 (t4 :: t5 :: ux 1 (t7 :: ux 9 (t17 :: t18 :: ux 16 [])))
def zK2 : List Bool := zkS 3
noncomputable def zK0 : Code := zas [1, 1, 0, 1, 0, 0] zqy
def zKZ (K : Kt) : AExit → List AV → zaa → Prop := zat tP zkS [1, 1, 0, 1, 0] zqy (zaA tP zK4 K)
def zkU (t0 t4 t5 t7 t17 t18 : AV) (H : zaa) (K : Kt) : Prop := ALoop tP zK0 (zKZ K) (zkT t0 t4 t5 t7 t17 t18) H
def zqx (t0 t4 t5 t7 t17 t18 : AV) (H : zaa) (K : Kt) (Kb3 : Lt) : Prop :=
 zac .lss false t18 t17 fun t19 =>
 zag t19
 (zae H (fun K' => zal false 1 t7 H (K' · H)) fun t21 =>
 zae H (fun K' => K' t0 H) fun t22 =>
 zae H (fun K' => zaf 1 t4 (K' · H)) fun t23 =>
 zae H (fun K' => zal false 1 t23 H (K' · H)) fun t24 =>
 zae H (fun K' => K' t18 H) fun t25 =>
 zaG H (fun H K' => ACalls tP zdf [t22, t24, t25] H K') fun t26 =>
 zae H (fun K' => zaz 1 [.snil] 1 [(0, t26)] (K' · H)) fun t27 =>
 zaw zc4 1 24 t21 t27 H fun t28 H =>
 zak 1 t7 t28 H fun H =>
 zac .add false t18 (.int .i64 1) fun t29 =>
 Kb3 (zkT t0 t4 t5 t7 t17 t29) H)
 (zau [.snil] H fun t9 H =>
 zau [.nilfn] H fun t10 H =>
 zb2 zdg [t9, t7, t10] fun t30 =>
 zak 1 t10 t30 H fun H =>
 zad false 1 t10 H fun t31 =>
 zad true 3 t5 H fun t32 =>
 aCallV tP t31 [t32] H fun t33 H =>
 zad false 1 t9 H fun t34 =>
 K t34 H)
def zyr (t0 t1 t2 : AV) (H : zaa) (K : Kt) : Prop :=
 zao t1 H fun t4 H =>
 zao t2 H fun t5 H =>
 zau [.snil] H fun t7 H =>
 zaf 1 t4 fun t12 =>
 zad false 1 t12 H fun t13 =>
 zaj 3 t0 t13 fun t14 =>
 zaf 2 t14 fun t15 =>
 zad false 1 t15 H fun t16 =>
 zah 1 t16 fun t17 =>
 zkU t0 t4 t5 t7 t17 (.int .i64 0) H K
theorem zK1 {t0 t4 t5 t7 t17 t18 : AV} {H : zaa} {K : Kt} (Inv : Nat → AV → zaa → Prop) (n : Nat) (h0 : HSc H → Inv n t18 H)
  (round : Rd1 (fun t18 => zkT t0 t4 t5 t7 t17 t18) (fun t18 => fun H Kb3 => zqx t0 t4 t5 t7 t17 t18 H K Kb3) H Inv) : zkU t0 t4 t5 t7 t17 t18 H K :=
 lp1 (M := zkS) zK2 t18 (by kernel_rfl) Inv n h0 round
theorem zK3 {t0 t1 t2 : AV} {H : zaa} {K : Kt} (h : HSc H → zyr t0 t1 t2 H K) : ACalls tP znx [t0, t1, t2] H K :=
 zam (M := zkS) Tryz.func33 (c := zqy) (by kernel_rfl) (fun hs => Eq.mpr (by kernel_rfl) (h hs))
def zLa (_ : Nat) : List Bool := []
noncomputable def zLb : Code := Tryz.f36.body.getD .skip
def zyt (t0 t1 t2 t3 : AV) (H : zaa) (K : Kt) : Prop :=
 zao t1 H fun t5 H =>
 zao t2 H fun t6 H =>
 zao t3 H fun t7 H =>
 zau [(.bool false), .snil, .snil] H fun t8 H =>
 zad true 3 t5 H fun t11 =>
 zad true 2 t6 H fun t12 =>
 ACalls tP zin [t0, t11, t12] H fun t13 H =>
 aUn .not t13 fun t14 =>
 zag t14
 (zax [(.bool false), .snil, .snil] [(0, 1), (1, 1), (2, 1)] [] fun t15 =>
 zak 3 t8 t15 H fun H =>
 zad true 3 t8 H fun r0 =>
 zaD [r0, (.int .i64 1)] (K · H))
 (zad true 3 t7 H fun t17 =>
 zad true 3 t5 H fun t18 =>
 ACalls tP znw [t0, t17, t18] H fun t19 H =>
 aUn .not t19 fun t20 =>
 zag t20
 (zax [(.bool false), .snil, .snil] [(0, 1), (1, 1), (2, 1)] [] fun t21 =>
 zak 3 t8 t21 H fun H =>
 zad true 3 t8 H fun r0 =>
 zaD [r0, (.int .i64 11)] (K · H))
 (zad true 3 t5 H fun t23 =>
 zad true 2 t6 H fun t24 =>
 zad true 3 t7 H fun t25 =>
 ACalls tP zft [t0, t23, t24, t25] H fun t26 H =>
 zak 3 t8 t26 H fun H =>
 zad true 3 t8 H fun r0 =>
 zaD [r0, (.int .i64 0)] (K · H)))
theorem zLc {t0 t1 t2 t3 : AV} {H : zaa} {K : Kt} (h : HSc H → zyt t0 t1 t2 t3 H K) : ACalls tP zii [t0, t1, t2, t3] H K :=
 zam (M := zLa) Tryz.func36 (c := zLb) (by kernel_rfl) (fun hs => Eq.mpr (by kernel_rfl) (h hs))
def zlD : Nat → List Bool
 | 200001 => rl false [0,7]
 | 3 => rl false [3,2,12,3,13]
 | 200006 => rl false [0,11]
 | _ => []
noncomputable def zrn : Code := Tryz.f79.body.getD .skip
noncomputable def zNM : List ResultVar := Tryz.f79.results.toList
def zlE (t3 t4 t17 t18 t19 : AV) : List AV := ux 3 (t3 :: t4 :: ux 12 (t17 :: t18 :: t19 :: ux 13 []))
def zNK : List Bool := zlD 3
noncomputable def zNI : Code := zas [1, 1, 1, 0, 0] zrn
def zNH (K : Kt) : AExit → List AV → zaa → Prop := zat tP zlD [1, 1, 1, 0] zrn (zaA tP zNM K)
def zzn (t3 t4 t17 t18 t19 : AV) (H : zaa) (K : Kt) : Prop := ALoop tP zNI (zNH K) (zlE t3 t4 t17 t18 t19) H
def zzm (t3 t4 t17 t18 t19 : AV) (H : zaa) (K : Kt) (Kb3 : Lt) : Prop :=
 zac .add false t19 (.int .i64 1) fun t32 =>
 Kb3 (zlE t3 t4 t17 t18 t32) H
def zbW (t3 t4 t17 t18 t19 : AV) (H : zaa) (K : Kt) (Kb3 : Lt) : Prop :=
 zzm t3 t4 t17 t18 t19 H K Kb3
def zrm (t3 t4 t17 t18 t19 : AV) (H : zaa) (K : Kt) (Kb3 : Lt) : Prop :=
 zac .lss false t19 t18 fun t20 =>
 zag t20
 (zaj 1 t17 t19 fun t22 =>
 zad false 1 t22 H fun t23 =>
 zag t23
 ((zad false 1 t3 H fun t25 =>
 (zaf 2 t4 fun t26 =>
 (zad false 1 t26 H fun t27 =>
 zaj 3 t27 t19 fun t29 =>
 zad true 3 t29 H fun t30 =>
 aCallV tP t25 [t30] H fun t31 H =>
 zbW t3 t4 t17 t18 t19 H K Kb3) ∧ (zad false 1 t26 H fun t27 =>
 zaj 3 t27 t19 fun t29 =>
 zad true 3 t29 H fun t30 =>
 aCallV tP t25 [t30] H fun t31 H =>
 zbW t3 t4 t17 t18 t19 H K Kb3)) ∧ (zaf 2 t4 fun t26 =>
 zad false 1 t26 H fun t27 =>
 zaj 3 t27 t19 fun t29 =>
 zad true 3 t29 H fun t30 =>
 aCallV tP t25 [t30] H fun t31 H =>
 zbW t3 t4 t17 t18 t19 H K Kb3)) ∧ (zaf 2 t4 fun t26 =>
 (zad false 1 t3 H fun t25 =>
 (zad false 1 t26 H fun t27 =>
 zaj 3 t27 t19 fun t29 =>
 zad true 3 t29 H fun t30 =>
 aCallV tP t25 [t30] H fun t31 H =>
 zbW t3 t4 t17 t18 t19 H K Kb3) ∧ (zad false 1 t26 H fun t27 =>
 zaj 3 t27 t19 fun t29 =>
 zad true 3 t29 H fun t30 =>
 aCallV tP t25 [t30] H fun t31 H =>
 zbW t3 t4 t17 t18 t19 H K Kb3)) ∧ (zad false 1 t26 H fun t27 =>
 (zad false 1 t3 H fun t25 =>
 zaj 3 t27 t19 fun t29 =>
 zad true 3 t29 H fun t30 =>
 aCallV tP t25 [t30] H fun t31 H =>
 zbW t3 t4 t17 t18 t19 H K Kb3) ∧ ((zad false 1 t3 H fun t25 =>
 zaj 3 t27 t19 fun t29 =>
 zad true 3 t29 H fun t30 =>
 aCallV tP t25 [t30] H fun t31 H =>
 zbW t3 t4 t17 t18 t19 H K Kb3) ∧ (zaj 3 t27 t19 fun t29 =>
 (zad false 1 t3 H fun t25 =>
 zad true 3 t29 H fun t30 =>
 aCallV tP t25 [t30] H fun t31 H =>
 zbW t3 t4 t17 t18 t19 H K Kb3) ∧ (zad true 3 t29 H fun t30 =>
 zad false 1 t3 H fun t25 =>
 aCallV tP t25 [t30] H fun t31 H =>
 zbW t3 t4 t17 t18 t19 H K Kb3)))) ∧ ((zad false 1 t3 H fun t25 =>
 zad false 1 t26 H fun t27 =>
 zaj 3 t27 t19 fun t29 =>
 zad true 3 t29 H fun t30 =>
 aCallV tP t25 [t30] H fun t31 H =>
 zbW t3 t4 t17 t18 t19 H K Kb3) ∧ (zad false 1 t26 H fun t27 =>
 (zad false 1 t3 H fun t25 =>
 zaj 3 t27 t19 fun t29 =>
 zad true 3 t29 H fun t30 =>
 aCallV tP t25 [t30] H fun t31 H =>
 zbW t3 t4 t17 t18 t19 H K Kb3) ∧ (zaj 3 t27 t19 fun t29 =>
 (zad false 1 t3 H fun t25 =>
 zad true 3 t29 H fun t30 =>
 aCallV tP t25 [t30] H fun t31 H =>
 zbW t3 t4 t17 t18 t19 H K Kb3) ∧ (zad true 3 t29 H fun t30 =>
 zad false 1 t3 H fun t25 =>
 aCallV tP t25 [t30] H fun t31 H =>
 zbW t3 t4 t17 t18 t19 H K Kb3))))) ∧ ((zad false 1 t3 H fun t25 =>
 zaf 2 t4 fun t26 =>
 zad false 1 t26 H fun t27 =>
 zaj 3 t27 t19 fun t29 =>
 zad true 3 t29 H fun t30 =>
 aCallV tP t25 [t30] H fun t31 H =>
 zbW t3 t4 t17 t18 t19 H K Kb3) ∧ (zaf 2 t4 fun t26 =>
 (zad false 1 t3 H fun t25 =>
 zad false 1 t26 H fun t27 =>
 zaj 3 t27 t19 fun t29 =>
 zad true 3 t29 H fun t30 =>
 aCallV tP t25 [t30] H fun t31 H =>
 zbW t3 t4 t17 t18 t19 H K Kb3) ∧ (zad false 1 t26 H fun t27 =>
 (zad false 1 t3 H fun t25 =>
 zaj 3 t27 t19 fun t29 =>
 zad true 3 t29 H fun t30 =>
 aCallV tP t25 [t30] H fun t31 H =>
 zbW t3 t4 t17 t18 t19 H K Kb3) ∧ (zaj 3 t27 t19 fun t29 =>
 (zad false 1 t3 H fun t25 =>
 zad true 3 t29 H fun t30 =>
 aCallV tP t25 [t30] H fun t31 H =>
 zbW t3 t4 t17 t18 t19 H K Kb3) ∧ (zad true 3 t29 H fun t30 =>
 zad false 1 t3 H fun t25 =>
 aCallV tP t25 [t30] H fun t31 H =>
 zbW t3 t4 t17 t18 t19 H K Kb3))))))
 (zbW t3 t4 t17 t18 t19 H K Kb3))
 (zaD [] (K · H))
def zfW (t2 t3 t4 : AV) (H : zaa) (K : Kt) : Prop :=
 zad false 1 t2 H fun t13 =>
 zaf 1 t4 fun t14 =>
 zad false 1 t14 H fun t15 =>
 zaj 1 t13 t15 fun t16 =>
 zad false 1 t16 H fun t17 =>
 zah 1 t17 fun t18 =>
 zzn t3 t4 t17 t18 (.int .i64 0) H K
def zzl (t0 t1 t2 t3 : AV) (H : zaa) (K : Kt) : Prop :=
 zao t0 H fun t4 H =>
 zae H (fun K' => zal false 1 t1 H (K' · H)) fun t7 =>
 zae H (fun K' => zal true 3 t4 H (K' · H)) fun t8 =>
 zae H (fun K' => zah 1 t7 (K' · H)) fun t9 =>
 zae H (fun K' => zaz 3 [(.int .i64 0), (.int .i64 0), .snil] 1 [(0, (.agg [(.int .i64 0), (.int .i64 0), .snil]))] (K' · H)) fun t10 =>
 zaw zcC 3 40 t7 t10 H fun t11 H =>
 (zaj 3 t11 t9 fun t12 =>
 (zak 3 t12 t8 H fun H =>
 zak 1 t1 t11 H fun H =>
 zfW t2 t3 t4 H K) ∧ (zak 1 t1 t11 H fun H =>
 zak 3 t12 t8 H fun H =>
 zfW t2 t3 t4 H K)) ∧ (zak 1 t1 t11 H fun H =>
 zaj 3 t11 t9 fun t12 =>
 zak 3 t12 t8 H fun H =>
 zfW t2 t3 t4 H K)
theorem zNJ {t3 t4 t17 t18 t19 : AV} {H : zaa} {K : Kt} (Inv : Nat → AV → zaa → Prop) (n : Nat) (h0 : HSc H → Inv n t19 H)
  (round : Rd1 (fun t19 => zlE t3 t4 t17 t18 t19) (fun t19 => fun H Kb3 => zrm t3 t4 t17 t18 t19 H K Kb3) H Inv) : zzn t3 t4 t17 t18 t19 H K :=
 lp1 (M := zlD) zNK t19 (by kernel_rfl) Inv n h0 round
theorem zNL {t0 t1 t2 t3 : AV} {H : zaa} {K : Kt} (h : HSc H → zzl t0 t1 t2 t3 H K) : ACalls tP zdg [t0, t1, t2, t3] H K :=
 zam (M := zlD) Tryz.func79 (c := zrn) (by kernel_rfl) (fun hs => Eq.mpr (by kernel_rfl) (h hs))
def zlF : Nat → List Bool
 | 5 => rl false [0,1,5,4,8,3,40]
 | _ => []
noncomputable def zrp : Code := Tryz.f81.body.getD .skip
noncomputable def zNS : List ResultVar := Tryz.f81.results.toList
def zlG (t0 t6 t7 t8 t9 t18 t19 t20 : AV) : List AV := t0 :: ux 5 (t6 :: t7 :: t8 :: t9 :: ux 8 (t18 :: t19 :: t20 :: ux 40 []))
def zNR : List Bool := zlF 5
noncomputable def zNP : Code := zas [1, 1, 0, 1, 0, 1, 0, 1, 0, 0] zrp
def zNN (K : Kt) : AExit → List AV → zaa → Prop := zat tP zlF [1, 1, 0, 1, 0, 1, 0, 1, 0] zrp (zaA tP zNS K)
def zzo (t0 t6 t7 t8 t9 t18 t19 t20 : AV) (H : zaa) (K : Kt) : Prop := ALoop tP zNP (zNN K) (zlG t0 t6 t7 t8 t9 t18 t19 t20) H
def zlH (t8 t9 : AV) (H : zaa) (K : Kt) : Prop :=
 zad true 3 t9 H fun t60 =>
 zak 3 t8 t60 H fun H =>
 zad true 3 t8 H fun r0 =>
 K r0 H
def zfX (t8 t9 : AV) (H : zaa) (K : Kt) : Prop :=
 zlH t8 t9 H K
def zro (t0 t6 t7 t8 t9 t18 t19 t20 : AV) (H : zaa) (K : Kt) (Kb5 : Lt) : Prop :=
 zac .lss false t20 t19 fun t21 =>
 zag t21
 (zaj 3 t18 t20 fun t23 =>
 zad true 3 t23 H fun t24 =>
 zau [(.int .i64 0), (.int .i64 0), .snil] H fun t11 H =>
 zak 3 t11 t24 H fun H =>
 zae H (fun K' => zal true 3 t9 H (K' · H)) fun t25 =>
 zae H (fun K' => K' t0 H) fun t26 =>
 zae H (fun K' => zal true 3 t11 H (K' · H)) fun t27 =>
 zae H (fun K' => zaf 1 t6 (K' · H)) fun t28 =>
 zae H (fun K' => zal false 1 t28 H (K' · H)) fun t29 =>
 zae H (fun K' => K' t20 H) fun t30 =>
 zae H (fun K' => zaj 2 t29 t30 (K' · H)) fun t31 =>
 zae H (fun K' => zal true 2 t31 H (K' · H)) fun t32 =>
 zae H (fun K' => zaf 2 t7 (K' · H)) fun t33 =>
 zae H (fun K' => zal false 1 t33 H (K' · H)) fun t34 =>
 zae H (fun K' => K' t20 H) fun t35 =>
 zae H (fun K' => zaj 3 t34 t35 (K' · H)) fun t36 =>
 zae H (fun K' => zal true 3 t36 H (K' · H)) fun t37 =>
 zaG H (fun H K' => ACalls tP zft [t26, t27, t32, t37] H K') fun t38 =>
 zaG H (fun H K' => ACalls tP zeK [t25, t38] H K') fun t39 =>
 zak 3 t9 t39 H fun H =>
 zac .add false t20 (.int .i64 1) fun t40 =>
 Kb5 (zlG t0 t6 t7 t8 t9 t18 t19 t40) H)
 (zfX t8 t9 H K)
def zhq (t0 t1 t2 t3 : AV) (H : zaa) (K : Kt) : Prop :=
 zao t1 H fun t5 H =>
 zao t2 H fun t6 H =>
 zao t3 H fun t7 H =>
 zau [(.bool false), .snil, .snil] H fun t8 H =>
 ACalls tP zde [(.int .i64 1)] H fun t12 H =>
 zau [(.bool false), .snil, .snil] H fun t9 H =>
 zak 3 t9 t12 H fun H =>
 zaf 0 t5 fun t13 =>
 zad false 1 t13 H fun t14 =>
 zac .eql false t14 (.int .i64 6) fun t16 =>
 zag t16
 (zaf 2 t5 fun t17 =>
 zad false 1 t17 H fun t18 =>
 zah 1 t18 fun t19 =>
 zzo t0 t6 t7 t8 t9 t18 t19 (.int .i64 0) H K)
 (zac .eql false t14 (.int .i64 7) fun t42 =>
 zag t42
 (zaf 2 t7 fun t44 =>
 zad false 1 t44 H fun t45 =>
 zah 1 t45 fun t46 =>
 zaf 0 t6 fun t47 =>
 zad false 1 t47 H fun t48 =>
 ACalls tP zmY [t46, t48] H fun t49 H =>
 zay t49 0 fun t50 =>
 zay t49 1 fun t51 =>
 zak 3 t9 t50 H fun H =>
 zfX t8 t9 H K)
 (zac .eql false t14 (.int .i64 5) fun t53 =>
 zag t53
 (zad true 3 t5 H fun t55 =>
 zaf 1 t6 fun t56 =>
 zad false 1 t56 H fun t57 =>
 zad true 3 t7 H fun t58 =>
 ACalls tP zmZ [t0, t55, t57, t58] H fun t59 H =>
 zak 3 t8 t59 H fun H =>
 zad true 3 t8 H fun r0 =>
 K r0 H)
 (zfX t8 t9 H K)))
theorem zNQ {t0 t6 t7 t8 t9 t18 t19 t20 : AV} {H : zaa} {K : Kt} (Inv : Nat → AV → zaa → Prop) (n : Nat) (h0 : HSc H → Inv n t20 H)
  (round : Rd1 (fun t20 => zlG t0 t6 t7 t8 t9 t18 t19 t20) (fun t20 => fun H Kb5 => zro t0 t6 t7 t8 t9 t18 t19 t20 H K Kb5) H Inv) : zzo t0 t6 t7 t8 t9 t18 t19 t20 H K :=
 lp1 (M := zlF) zNR t20 (by kernel_rfl) Inv n h0 round
theorem zlI {t0 t1 t2 t3 : AV} {H : zaa} {K : Kt} (h : HSc H → zhq t0 t1 t2 t3 H K) : ACalls tP zft [t0, t1, t2, t3] H K :=
 zam (M := zlF) Tryz.func81 (c := zrp) (by kernel_rfl) (fun hs => Eq.mpr (by kernel_rfl) (h hs))
end Go.Proofs.YtjkkonpjecoieaaGreat
namespace Go.Proofs.YtjkkonpjecoieaaGreat
open Go Go.Abs
set_option maxRecDepth 8000
theorem zss : zc1 tP zdg = true := by kernel_rfl
theorem zDC {data : List Dat} {n : Int} {al : List VT} {rs : List (List Bool)} (hrs : rs = za4 data n.toNat) : ∀ (m : Nat) (v : VT), v.nodes ≤ m → v.nodes ≤ 10000 → zav data v (.mk 5 n al) = true → ∀ (H : zaa) (io iv ir is : Nat) (l : List VT), Pw H io iv ir is rs l → l.length + (zbi rs v).length ≤ 1000000 →
  ∀ K : Kt, K (.tup []) (pw H io iv (l ++ zbi rs v)) → ACalls tP zdg [.agg v.cs, .ptr io 0, .ptr ir 0, .ptr is 0] H K := by
 intro m
 induction m with
 | zero => intro v h; have := v.nodes_pos; omega
 | succ m ih =>
  intro v hm hb hh H io iv ir is l hP hlb K hK
  obtain ⟨vk, c, ks⟩ := v
  obtain ⟨rfl, n0, c0, c8, hn, hc, hkl, _, hrc, hrl, hkid⟩ := zeA hh
  rw [← hrs] at hrc hrl
  have hll := VT.len_le ks
  have hnn : (VT.mk 5 c ks).nodes = VT.nodesL ks + 1 := by simp [VT.nodes]
  refine ACalls.out (zNL fun hs => ?_)
  have hne := hP.ne
  have l1 := zbY hP.h1
  have l2 := zbY hP.h2
  have hpre : zbi rs (.mk 5 c ks) = .mk 5 c ks :: zbG rs ks (rs.getD c.toNat []) := by rw [zbi]
  generalize hbs : rs.getD c.toNat [] = bs at *
  have hbl : bs.length = ks.length := by rw [hrc, zbu, List.length_map]; exact hkl.symm
  have hcr : c.toNat < rs.length := by rw [hrl]; exact hc
  have hrow : rs[c.toNat] = bs := by rw [← hbs]; simp [List.getD_eq_getElem?_getD, hcr]
  have hrec : ∀ (i : Nat) (hi : i < ks.length) (hi2 : i < bs.length), bs[i] = true → zav data ks[i] (.mk 5 n al) = true := fun i hi hi2 hb => by
   refine hkid i hi (by omega) ?_
   have : bs[i] = zbD n.toNat (data[n.toNat]).vars (((data[n.toNat]).cons[c.toNat]).args[i]'(by omega)) := by simp [hrc, zbu]
   rw [← this]; exact hb
  rw [hpre] at hK hlb
  simp only [List.length_cons] at hlb
  have hcl := zmq l
  -- what stands behind the first region
  have hj : ∀ X, X = pw H io iv (l ++ [.mk 5 c ks]) ++ [.cells (VT.mk 5 c ks).cs] → zfW (.ptr ir 0) (.ptr is 0) (.ptr H.length 0) X (Out H.length K) := by
   rintro X rfl
   obtain ⟨c, rfl⟩ : ∃ x : Nat, c = x := ⟨c.toNat, by omega⟩
   simp only [Int.toNat_natCast] at hcr hrow
   have hcr2 : c < (zb0 rs).length := by simpa [zb0] using hcr
   have hr1' : (zb0 rs)[c]'hcr2 = [.sl (bs.map fun b => [.bool b]) .none] := by simp [zb0, hrow]
   have hPN : Pw (pw H io iv (l ++ [.mk 5 c ks])) io iv ir is rs (l ++ [.mk 5 c ks]) := hP.next
   obtain ⟨tok, h3⟩ := hPN.h3
   have h3' : (pw H io iv (l ++ [.mk 5 c ks]) ++ [AB.cells [.int .i64 5, .int .i64 c, .sl (VT.css ks) .none]])[ir]? = some (.cells [.sl (zb0 rs) tok]) := zbs h3
   have h5' : ∀ acc, (pw H io iv acc ++ [AB.cells [.int .i64 5, .int .i64 c, .sl (VT.css ks) .none]])[H.length]? = some (.cells [.int .i64 5, .int .i64 c, .sl (VT.css ks) .none]) := fun acc => by simp [List.getElem?_append]
   simp [zfW, VT.cs, h3', h5', hcr2, hr1']
   refine zNJ (Inv := fun q t17 H' => ∃ (i : Nat) (acc : List VT), i ≤ bs.length ∧ q = bs.length - i ∧ t17 = .int .i64 i ∧ acc ++ zbG rs (ks.drop i) (bs.drop i) = l ++ .mk 5 c ks :: zbG rs ks bs ∧
    H' = pw H io iv acc ++ [.cells [.int .i64 5, .int .i64 c, .sl (VT.css ks) .none]]) bs.length ?_ ?_
   ·intro _; exact ⟨0, l ++ [.mk 5 c ks], by omega, by omega, rfl, by simp, rfl⟩
   ·rintro q t17 H' ⟨i, acc, hi, rfl, rfl, ho, rfl⟩ hsc' hlen hsF Kb hKb
    have hlo := congrArg List.length ho
    simp only [List.length_append, List.length_cons] at hlo
    have hpk := znR rs ks bs
    by_cases hlt : i < bs.length
    ·have hlt2 : i < ks.length := by omega
     obtain ⟨x, y, z, hvx, hx, hy, hz⟩ := zaK ks[i]
     have hkn := VT.kid_lt (k := 5) (n := (c : Int)) hlt2
     rw [zBV hlt2 hlt] at ho hlo
     have hPA : Pw (pw H io iv acc) io iv ir is rs acc := hP.next
     have h4 := hPA.h4
     have hback : ∀ acc' J, acc' ++ zbG rs (ks.drop (i + 1)) (bs.drop (i + 1)) = l ++ .mk 5 c ks :: zbG rs ks bs →
       zbW (.ptr is 0) (.ptr H.length 0) (.sl (bs.map fun b => [.bool b]) .none) (.int .i64 bs.length) (.int .i64 i) (pw H io iv acc' ++ ([.cells [.int .i64 5, .int .i64 c, .sl (VT.css ks) .none]] ++ J)) (Out H.length K) Kb := by
      intro acc' J ha
      simp [zbW, zzm]
      rw [zar (by omega) (by omega)]
      refine hKb _ _ ⟨bs.length - (i + 1), by omega, Back.at (J := J) (H2 := pw H io iv acc' ++ [.cells [.int .i64 5, .int .i64 c, .sl (VT.css ks) .none]]) (by simp) (by simp) ((hP.hsc hs).append (by simp [AB.sc, AV.scA, AV.scB])) ?_ ⟨_, rfl, i + 1, acc', by omega, rfl, by simp, ha, rfl⟩⟩
      have l4 := zbY h4
      simp at l4
      simp [zlE, AV.sc, AV.scV, AV.scA, AV.scB]
      try omega
     have l4 := zbY h4
     simp at l4
     have h4' : (pw H io iv acc ++ [AB.cells [.int .i64 5, .int .i64 c, .sl (VT.css ks) .none]])[is]? = some (.cells [.fn zdg [.ptr io 0, .ptr ir 0, .ptr is 0]]) := zbs h4
     simp [zrm, hlt, hlt2]
     cases hbi : bs[i] with
     | true =>
      rw [hbi, if_pos rfl] at ho hlo
      simp [h4', h5', hlt2, hvx]
      simp only [aCallV, zss]
      rw [← hvx]
      refine ih ks[i] (by omega) (by omega) (hrec i hlt2 hlt hbi) _ io iv ir is acc hPA.app (by simp only [List.length_append] at hlo; omega) _ ?_
      rw [hPA.pw_app, zBZ hne]
      exact hback (acc ++ zbi rs ks[i]) [] (by simpa using ho)
     | false =>
      rw [hbi] at ho
      simp at ho
      try simp
      exact hback acc [] ho
    ·obtain rfl : i = bs.length := by omega
     rw [hbl, List.drop_length] at ho
     simp only [zbG, List.append_nil] at ho
     simp [zrm]
     have := zDq (n := H.length) (J := [.cells [.int .i64 5, .int .i64 c, .sl (VT.css ks) .none]]) (K := K) rfl (by simp) (hP.hsc (l' := acc) hs) (by rw [ho]; exact hK)
     first
      | exact this
      | (simp only [zz2]; exact this)
  have g1 : (H ++ [AB.cells (VT.mk 5 c ks).cs])[io]? = some (.cells [.ov iv l.length]) := zbs hP.h1
  have g2 : (H ++ [AB.cells (VT.mk 5 c ks).cs])[iv]? = some (.vec zcC 3 l.length (VT.css l).flatten) := zbs hP.h2
  simp [zzl, g1]
  simp [zaz, za9, zaB, AV.pd, zaw, zaX, g2]
  refine ⟨⟨by omega, by omega⟩, ?_⟩
  have hup := zDw l (.mk 5 c ks) (AV.int IntKind.i64 0) (AV.int IntKind.i64 0) (AV.sl [] Tok.none)
  have hcl2 := zmq l
  have hfin : ((H ++ [AB.cells (VT.mk 5 c ks).cs]).set iv (.vec zcC 3 (l.length + 1) (VT.css (l ++ [.mk 5 c ks])).flatten)).set io (.cells [.ov iv (l.length + 1)]) = pw H io iv (l ++ [.mk 5 c ks]) ++ [.cells (VT.mk 5 c ks).cs] := by
   rw [← hP.pw_app]
   simp [pw]
  generalize hA : List.set (H ++ [AB.cells (VT.mk 5 c ks).cs]) iv (AB.vec zcC 3 (l.length + 1) ((VT.css l).flatten ++ [AV.int IntKind.i64 0, AV.int IntKind.i64 0, AV.sl [] Tok.none])) = A
  have fA1 : A[io]? = some (.cells [.ov iv l.length]) := by rw [← hA, List.getElem?_set_ne (fun e => hne e.symm)]; exact g1
  have fA2 : A[iv]? = some (.vec zcC 3 (l.length + 1) ((VT.css l).flatten ++ [AV.int IntKind.i64 0, AV.int IntKind.i64 0, AV.sl [] Tok.none])) := by rw [← hA]; exact List.getElem?_set_self (zbY g2)
  have hA1 : ∀ X Y, (A.set iv X).set io Y = ((H ++ [AB.cells (VT.mk 5 c ks).cs]).set iv X).set io Y := fun X Y => by rw [← hA, List.set_set]
  have hA2 : ∀ X Y, (A.set io Y).set iv X = ((H ++ [AB.cells (VT.mk 5 c ks).cs]).set iv X).set io Y := fun X Y => by rw [List.set_comm _ _ hne]; exact hA1 X Y
  have fB1 : ∀ X, (A.set iv X)[io]? = some (.cells [.ov iv l.length]) := fun X => by rw [List.getElem?_set_ne (fun e => hne e.symm)]; exact fA1
  have fB2 : ∀ Y, (A.set io Y)[iv]? = some (.vec zcC 3 (l.length + 1) ((VT.css l).flatten ++ [AV.int IntKind.i64 0, AV.int IntKind.i64 0, AV.sl [] Tok.none])) := fun Y => by rw [List.getElem?_set_ne hne]; exact fA2
  have st : ∀ X, X = pw H io iv (l ++ [.mk 5 c ks]) ++ [.cells (VT.mk 5 c ks).cs] → zfW (.ptr ir 0) (.ptr is 0) (.ptr H.length 0) X (Out H.length K) := hj
  rw [fA1, fA2]
  refine ⟨⟨by omega, ?_, ?_⟩, ?_⟩
  ·rw [zme, hup]
   refine ⟨⟨rfl, by simp, (by rw [List.length_append, hcl2]; simp), by simp⟩, ?_⟩
   rw [fB1]
   simp
   exact st _ (by rw [hA1, hfin])
  ·simp
   rw [fB2, zme, hup]
   refine ⟨⟨rfl, by simp, (by rw [List.length_append, hcl2]; simp), by simp⟩, ?_⟩
   exact st _ (by rw [hA2, hfin])
  ·simp
   refine ⟨by omega, ?_⟩
   rw [fB2, zme, hup]
   refine ⟨⟨rfl, by simp, (by rw [List.length_append, hcl2]; simp), by simp⟩, ?_⟩
   exact st _ (by rw [hA2, hfin])
theorem zK5 (data : List Dat) (hk : za5 data) (v : VT) (n : Int) (al : List VT) (hv : v.nodes ≤ 5000) (hhv : zav data v (.mk 5 n al) = true) (H : zaa) (K : Kt)
  (hK : K (.sl (VT.css (zbi (za4 data n.toNat) v)) .none) H) : ACalls tP znx [.sl (data.map Dat.cs) .none, .agg (VT.mk 5 n al).cs, .agg v.cs] H K := by
 refine ACalls.out (zK3 fun hs => ?_)
 have hhv0 := hhv
 obtain ⟨vk, c, ks⟩ := v
 obtain ⟨_, n0, _, _, hn, _, _, _, _, hrl, _⟩ := zeA hhv
 obtain ⟨f1, f2, f3⟩ := zc6 hk
 obtain ⟨n, rfl⟩ : ∃ x : Nat, n = x := ⟨n.toNat, by omega⟩
 simp only [Int.toNat_natCast] at hn hrl hK
 have hTc : (VT.mk 5 (n : Int) al).cs = [.int .i64 5, .int .i64 n, .sl (VT.css al) .none] := rfl
 have hVc : (VT.mk vk c ks).cs = [.int .i64 vk, .int .i64 c, .sl (VT.css ks) .none] := rfl
 have e1 : (data.map Dat.cs)[n]? = some (data[n]).cs := by simp [hn]
 have hdm := List.getElem_mem hn
 have hcl := f3 _ hdm
 simp [zyr, hTc, hVc, e1, hn, Dat.cs, Nat.add_assoc]
 generalize hrs : za4 data n = rs at *
 have hrow : ∀ (i : Nat) (hi : i < (data[n]).cons.length), rs[i]? = some (zbu n data[n] (data[n]).cons[i]) := fun i hi => by rw [← hrs]; simp [za4, hn, hi]
 unfold zkU
 refine ALoop.ownC (H.length + 2) 0 zc4 1 (cs := [.snil]) (by simp) rfl ?_
 have hset : (H ++ [AB.cells [.int .i64 5, .int .i64 n, .sl (VT.css al) .none], .cells [.int .i64 vk, .int .i64 c, .sl (VT.css ks) .none], .cells [.snil]]).set (H.length + 2) (.cells ([AV.snil].set 0 (.sl [] (.own (H ++ [AB.cells [.int .i64 5, .int .i64 n, .sl (VT.css al) .none], .cells [.int .i64 vk, .int .i64 c, .sl (VT.css ks) .none], .cells [.snil]]).length)))) ++ [.perm zc4 1 0] =
   H ++ [.cells [.int .i64 5, .int .i64 n, .sl (VT.css al) .none], .cells [.int .i64 vk, .int .i64 c, .sl (VT.css ks) .none], .cells [.sl [] (.own (H.length + 3))], .perm zc4 1 0] := by simp [List.set_append_right]
 rw [hset]
 show zkU (.sl (data.map Dat.cs) .none) (.ptr H.length 0) (.ptr (H.length + 1) 0) (.ptr (H.length + 2) 0) (.int .i64 (data[n]).cons.length) (.int .i64 0) _ (Out H.length K)
 have hsc : ∀ i, HSc (H ++ [.cells [.int .i64 5, .int .i64 n, .sl (VT.css al) .none], .cells [.int .i64 vk, .int .i64 c, .sl (VT.css ks) .none], .cells [.sl (zb0 (rs.take i)) (.own (H.length + 3))], .perm zc4 1 i]) := fun i => hs.append (by simp [AB.sc, AV.scA, AV.scB])
 refine zK1 (Inv := fun q t28 H' => ∃ i : Nat, i ≤ (data[n]).cons.length ∧ q = (data[n]).cons.length - i ∧ t28 = .int .i64 i ∧
  H' = H ++ [.cells [.int .i64 5, .int .i64 n, .sl (VT.css al) .none], .cells [.int .i64 vk, .int .i64 c, .sl (VT.css ks) .none], .cells [.sl (zb0 (rs.take i)) (.own (H.length + 3))], .perm zc4 1 i]) (data[n]).cons.length ?_ ?_
 ·intro _; exact ⟨0, by omega, by omega, rfl, by simp [zb0]⟩
 ·rintro q t28 H' ⟨i, hi, rfl, rfl, rfl⟩ hsc' hlen hsF Kb hKb
  by_cases hlt : i < (data[n]).cons.length
  ·have hcm := List.getElem_mem hlt
   obtain ⟨g1, g2⟩ := f2 _ hdm _ hcm
   have hr := hrow i hlt
   have hil : i < rs.length := (List.getElem?_eq_some_iff.1 hr).1
   simp [zqx, hlt]
   refine zaF (.sl ((zbu n data[n] (data[n]).cons[i]).map fun b => [.bool b]) .none) (fun J => zlC data n i hn hlt f1 hcl (by omega) (fun x hx => by have := g2 x hx; omega) _ _ ⟨by simp [zbu, Function.comp_def], rfl⟩) ?_
   have hl1 : (zb0 (rs.take i)).length = i := by simp [zb0]; omega
   simp [zaz, za9, zaB, AV.pd, zaw, zaX, zaO, hl1, AV.known, List.set_append_right]
   refine ⟨⟨by omega, by omega⟩, ?_⟩
   rw [zar (by omega) (by omega)]
   have hst : zb0 (rs.take i) ++ [[.sl ((zbu n data[n] (data[n]).cons[i]).map fun b => [.bool b]) .none]] = zb0 (rs.take (i + 1)) := by
    rw [List.take_add_one, hr]
    simp [zb0]
   rw [hst]
   refine hKb _ _ ⟨(data[n]).cons.length - (i + 1), by omega, Back.at (J := []) (H2 := H ++ [.cells [.int .i64 5, .int .i64 n, .sl (VT.css al) .none], .cells [.int .i64 vk, .int .i64 c, .sl (VT.css ks) .none], .cells [.sl (zb0 (rs.take (i + 1))) (.own (H.length + 3))], .perm zc4 1 (i + 1)]) (by simp) (by simp) (hsc _) ?_ ⟨_, rfl, i + 1, by omega, rfl, by simp, rfl⟩⟩
   simp [zkT, AV.sc, AV.scV, AV.scA, AV.scB]
  ·obtain rfl : i = (data[n]).cons.length := by omega
   have htk : rs.take (data[n]).cons.length = rs := List.take_of_length_le (by omega)
   rw [htk] at *
   simp [zqx, AV.known, List.set_append_right, Nat.add_assoc]
   refine ⟨⟨rfl, rfl, rfl⟩, ?_⟩
   simp only [aCallV, zss]
   refine ACalls.ovC (id := H.length + 4) (j := 0) (cs := [.snil]) zcC 3 (by simp) rfl ?_
   have hset2 : (H ++ [AB.cells [.int .i64 5, .int .i64 n, .sl (VT.css al) .none], .cells [.int .i64 vk, .int .i64 c, .sl (VT.css ks) .none], .cells [.sl (zb0 rs) (.own (H.length + 3))], .perm zc4 1 (data[n]).cons.length, .cells [.snil], .cells [.fn zdg [.ptr (H.length + 4) 0, .ptr (H.length + 2) 0, .ptr (H.length + 5) 0]]]).set (H.length + 4) (.cells ([AV.snil].set 0 (.ov (H ++ [AB.cells [.int .i64 5, .int .i64 n, .sl (VT.css al) .none], .cells [.int .i64 vk, .int .i64 c, .sl (VT.css ks) .none], .cells [.sl (zb0 rs) (.own (H.length + 3))], .perm zc4 1 (data[n]).cons.length, .cells [.snil], .cells [.fn zdg [.ptr (H.length + 4) 0, .ptr (H.length + 2) 0, .ptr (H.length + 5) 0]]]).length 0))) ++ [.vec zcC 3 0 []] =
     H ++ [AB.cells [.int .i64 5, .int .i64 n, .sl (VT.css al) .none], .cells [.int .i64 vk, .int .i64 c, .sl (VT.css ks) .none], .cells [.sl (zb0 rs) (.own (H.length + 3))], .perm zc4 1 (data[n]).cons.length, .cells [.ov (H.length + 6) 0], .cells [.fn zdg [.ptr (H.length + 4) 0, .ptr (H.length + 2) 0, .ptr (H.length + 5) 0]], .vec zcC 3 0 []] := by simp [List.set_append_right]
   rw [hset2]
   have hP : Pw (H ++ [AB.cells [.int .i64 5, .int .i64 n, .sl (VT.css al) .none], .cells [.int .i64 vk, .int .i64 c, .sl (VT.css ks) .none], .cells [.sl (zb0 rs) (.own (H.length + 3))], .perm zc4 1 (data[n]).cons.length, .cells [.ov (H.length + 6) 0], .cells [.fn zdg [.ptr (H.length + 4) 0, .ptr (H.length + 2) 0, .ptr (H.length + 5) 0]], .vec zcC 3 0 []]) (H.length + 4) (H.length + 6) (H.length + 2) (H.length + 5) rs [] :=
    ⟨by omega, ⟨by omega, by omega⟩, ⟨by omega, by omega⟩, by simp, by simp [VT.css], ⟨.own (H.length + 3), by simp⟩, by simp⟩
   have hpl := ziN rs (.mk vk c ks)
   refine zDC (n := n) (al := al) (by simpa using hrs.symm) _ (.mk vk c ks) (Nat.le_refl _) (by omega) hhv0 _ _ _ _ _ [] hP (by simp; omega) _ ?_
   have hN := hP.next (l' := [] ++ zbi rs (.mk vk c ks))
   have hN1 := hN.h1
   have hN2 := hN.h2
   rw [List.nil_append] at hN1 hN2 ⊢
   rw [hN1]
   simp only [zzX, zbc, List.getElem?_cons_zero]
   generalize zbi rs (.mk vk c ks) = l at *
   refine ⟨.sl (VT.css l) .none, H, [AB.cells [.int .i64 5, .int .i64 n, .sl (VT.css al) .none], .cells [.int .i64 vk, .int .i64 c, .sl (VT.css ks) .none], .cells [.sl (zb0 rs) (.own (H.length + 3))], .perm zc4 1 (data[n]).cons.length, .cells [.ov (H.length + 6) l.length], .cells [.fn zdg [.ptr (H.length + 4) 0, .ptr (H.length + 2) 0, .ptr (H.length + 5) 0]], .vec zcC 3 l.length (VT.css l).flatten], ?_, Nat.le_refl _, hs, .one (.vfz (H.length + 6) zcC 3 l.length _ (VT.css l) (by omega) hN2 (zt8 l) (by simp) (fun c hc => ?_)), hK⟩
   ·simp [pw, List.set_append_right]
   ·rw [VT.css_map] at hc
    obtain ⟨v, _, rfl⟩ := List.mem_map.1 hc
    simp
def zfZ (data : List Dat) (m : Nat) : Prop := ∀ i : IT, i.nodes ≤ m → ∀ t v : VT, AtOk data i t v → v.nodes ≤ 900 → ∀ (H : zaa) (K : Kt), K (.agg (zan ((atV data i t v : Nat) : Int))) H →
 ACalls tP zft [.sl (data.map Dat.cs) .none, .agg t.cs, .agg i.cs, .agg v.cs] H K
def hpD (H : zaa) (tn : Int) (tks : List VT) (vk vn : Int) (vks : List VT) (ne : Nat) (c : List AV) : zaa := hpB H tn tks vk vn vks ne ++ [.cells c]
theorem ztf {H : zaa} (hs : HSc H) {tn : Int} {tks : List VT} {vk vn : Int} {vks : List VT} {ne : Nat} {c : List AV} (hc : ∀ n, c.all (AV.scA n) = true) : HSc (hpD H tn tks vk vn vks ne c) :=
 (zmF hs).append (by simp only [AB.sc, List.all_cons, List.all_nil, hc]; simp)
theorem zAP {data : List Dat} {t : VT} {ks : List IT} {i : Nat} (h : i < (elS data t ks).length) : (elS data t ks)[i] = elE data t (ks[i]'(by simpa [elS] using h)) := by simp [elS]
theorem zAg {data : List Dat} (hk : za5 data) (hD : zbe data = true) (h8 : ∀ D ∈ data, D.cons.length ≤ 8) {m : Nat} (hat : zfZ data m) (d : Nat) (ks : List IT) (tks : List VT) (vk vn : Int) (vks : List VT) (hin : (IT.mk 0 ks).nodes ≤ m + 1)
  (hA : AtOk data (.mk 0 ks) (.mk 5 d tks) (.mk vk vn vks)) (hv9 : (VT.mk vk vn vks).nodes ≤ 900) (hl6 : ks.length ≤ 6) (hrd : 0 ≤ rdE data ks (.mk 5 d tks) 0) (H : zaa) (K : Kt) (hs : HSc H)
  (hK : K (.agg (zan ((zaC (wtL data ks (.mk 5 d tks)) (zbi (za4 data d) (.mk vk vn vks)) : Nat) : Int))) H) :
  zhc (.sl (data.map Dat.cs) .none) (.ptr H.length 0) (.ptr (H.length + 1) 0) (.ptr (H.length + 2) 0) (.sl (elS data (.mk 5 d tks) ks) (.own (H.length + 3))) (.ms (H.length + 4) 0 (ks.length + 1) (ks.length + 1)) (.int .i64 ((ks.length + 1 : Nat) : Int)) (.int .i64 0)
   (hpB H d tks vk vn vks ks.length ++ [.cells (zz (ks.length + 1))]) (Out H.length K) := by
 have hvv := hA.hv
 obtain ⟨hv5, _⟩ := zeA hvv
 have hnv := zBW (data := data) (n := d) (al := tks) _ (.mk vk vn vks) (Nat.le_refl _) hvv
 have hnn := znS (za4 data d) 1000 (.mk vk vn vks) hA.vn
 have hnn9 := znS (za4 data d) 900 (.mk vk vn vks) hv9
 have hnl := ziN (za4 data d) (.mk vk vn vks)
 have hvn := hA.vn
 generalize hN : zbi (za4 data d) (.mk vk vn vks) = N at *
 generalize hW : wtL data ks (.mk 5 d tks) = W at *
 have hWl : W.length = ks.length := by rw [← hW, zeR]; simp
 have hel : (elS data (.mk 5 d tks) ks).length = ks.length := by simp [elS]
 have hfold : ∀ c : List AV, H ++ [.cells [.int .i64 5, .int .i64 d, .sl (VT.css tks) .none], .cells [.int .i64 vk, .int .i64 vn, .sl (VT.css vks) .none], .cells [.bool false, .snil, .snil], .perm zdH 4 ks.length, .cells c] = hpD H d tks vk vn vks ks.length c := fun c => by simp [hpD, hpB]
 show zhc _ _ _ _ _ _ _ _ (hpD H d tks vk vn vks ks.length (zz (ks.length + 1))) _
 refine zEW (Inv := fun q t86 H' => ∃ j : Nat, j ≤ ks.length + 1 ∧ ks.length + 1 - j = q ∧ t86 = .int .i64 j ∧ H' = hpD H d tks vk vn vks ks.length (rz (List.replicate j 0) ++ zz (ks.length + 1 - j))) (ks.length + 1) ?_ ?_
 ·intro _; exact ⟨0, by omega, by omega, rfl, by simp [rz]⟩
 ·rintro q t86 H' ⟨j, hj, rfl, rfl, rfl⟩ hsc' hlen hsF Kb hKb
  by_cases hlt : j < ks.length + 1
  ·have hfl := zCk (List.replicate j 0) (ks.length - j) 0
   have el : (List.replicate j 0).length = j := by simp
   rw [el, show ks.length - j + 1 = ks.length + 1 - j by omega, ← List.replicate_succ'] at hfl
   have hfl2 := (List.append_assoc ..).symm.trans hfl
   have hlt' : (j : Int) < (ks.length : Int) + 1 := by omega
   simp only [zoJ]
   simp [hlt, hlt', wi j (by omega), Nat.add_assoc]
   refine zdC 0 (by omega) _ _ ?_
   simp [hpD, hpB, Nat.add_assoc]
   refine ⟨by omega, ?_⟩
   simp at hfl2
   rw [hfl2, hfold]
   exact hKb _ _ ⟨ks.length + 1 - (j + 1), by omega, Back.here (by simp [hpD, hpB]) (ztf hs fun n => by rw [List.all_append, zuy, zPg]; rfl) (by simp [zji, ux, AV.sc, AV.scA, AV.scB, AV.scV, hpD, hpB]) ⟨_, rfl, j + 1, by omega, by omega, rfl, by rw [show ks.length + 1 - (j + 1) = ks.length - j by omega]⟩⟩
  ·obtain rfl : j = ks.length + 1 := by omega
   have hz := zuz (List.replicate (ks.length + 1) 0) 0 1 (by simp)
   have hset0 : (List.replicate (ks.length + 1) 0).set 0 1 = 1 :: List.replicate ks.length 0 := by rw [List.replicate_succ]; rfl
   rw [hset0] at hz
   simp at hz
   simp [zoJ, hpD, hpB, Nat.add_assoc]
   refine zdC 1 (by omega) _ _ ?_
   rw [show zz 0 = [] from rfl, List.append_nil]
   simp [Nat.add_assoc]
   refine ⟨by omega, ?_⟩
   have hVc : (VT.mk 5 (d : Int) tks).cs = [.int .i64 5, .int .i64 d, .sl (VT.css tks) .none] := rfl
   have hVv : (VT.mk vk vn vks).cs = [.int .i64 vk, .int .i64 vn, .sl (VT.css vks) .none] := rfl
   rw [hz, ← hVc, ← hVv]
   refine zK5 data hk (.mk vk vn vks) d tks (by omega) hvv _ _ ?_
   simp only [Int.toNat_natCast]
   rw [hN]
   simp
   rw [hVc, hVv, hfold]
   have hcsc : ∀ M : List Nat, HSc (hpD H d tks vk vn vks ks.length (rz M)) := fun M => ztf hs fun n => zuy M n
   refine zEX (Inv := fun q t102 H' => ∃ (p : Nat) (M : List Nat), p ≤ N.length ∧ N.length - p = q ∧ t102 = .int .i64 p ∧ M.length = ks.length + 1 ∧ (∀ (j : Nat) (h : j < M.length), M[j] = zaC (W.take j) (N.take p)) ∧ H' = hpD H d tks vk vn vks ks.length (rz M)) N.length ?_ ?_
   ·intro _
    refine ⟨0, _, by omega, rfl, rfl, by simp, fun j h => ?_, rfl⟩
    have h' : j < ks.length + 1 := by simpa using h
    rw [List.take_zero, zuI]
    cases j with
    | zero => simp
    | succ j =>
     have : W.take (j + 1) ≠ [] := by
      intro h0
      have := congrArg List.length h0
      simp at this
      rw [this] at hWl
      simp at hWl
      omega
     simp [this]
   ·rintro q t102 H' ⟨p, M, hp, rfl, rfl, hMl, hM, rfl⟩ hsc'' hlen' hsF' Kb24 hKb24
    by_cases hpl : p < N.length
    ·cases hnode : N[p] with
     | mk nk cn nks =>
     simp [zoK, hpl, hnode, VT.cs, hpD, hpB, Nat.add_assoc, hel]
     have hnhas := hnv N[p] (List.getElem_mem hpl)
     have hnno := hnn9 N[p] (List.getElem_mem hpl)
     rw [hnode] at hnhas hnno
     obtain ⟨rfl, _, hcn0, _⟩ := zeA hnhas
     have hBsc : ∀ M, HSc (hpD H d tks vk vn vks ks.length (rz M) ++ [AB.cells [.int .i64 5, .int .i64 cn, .sl (VT.css nks) .none]]) := fun M => (hcsc M).append (by simp [AB.sc, AV.scA, AV.scB])
     refine zEY (Inv := fun q t21 H' => ∃ (k : Nat) (M' : List Nat), k ≤ ks.length ∧ k = q ∧ t21 = .int .i64 k ∧ M'.length = ks.length + 1 ∧ (∀ (j : Nat) (h : j < M'.length), M'[j] = if j ≤ k then zaC (W.take j) (N.take p) else zaC (W.take j) (N.take (p + 1))) ∧
      H' = hpD H d tks vk vn vks ks.length (rz M') ++ [AB.cells [.int .i64 5, .int .i64 cn, .sl (VT.css nks) .none]]) ks.length ?_ ?_
     ·intro _
      exact ⟨ks.length, M, by omega, rfl, rfl, hMl, fun j h => by rw [if_pos (by omega)]; exact hM j h, by simp [hpD, hpB]⟩
     ·rintro q t21 H' ⟨k, M', hk2, rfl, rfl, hMl', hM', rfl⟩ hsc3 hlen3 hsF3 Kb27 hKb27
      by_cases hk0 : k = 0
      ·subst hk0
       simp [zjg, wi p (by omega)]
       refine hKb24 _ _ ⟨N.length - (p + 1), by omega, Back.at (J := [AB.cells [.int .i64 5, .int .i64 cn, .sl (VT.css nks) .none]]) (H2 := hpD H d tks vk vn vks ks.length (rz M')) rfl (by simp [hpD, hpB]) (hcsc M') (by simp [zjj, ux, AV.sc, AV.scA, AV.scB, AV.scV, hpD, hpB]) ⟨_, rfl, p + 1, M', by omega, rfl, rfl, hMl', fun j h => ?_, rfl⟩⟩
       rw [hM' j h]
       split
       ·rename_i h0
        obtain rfl : j = 0 := by omega
        simp [zaC]
       ·rfl
      ·obtain ⟨j, rfl⟩ : ∃ j, k = j + 1 := ⟨k - 1, by omega⟩
       have hjk : j < ks.length := by omega
       have hjW : j < W.length := by omega
       cases hel2 : ks[j] with
       | mk c eks =>
       have hWj : W[j] = wtE data (.mk c eks) (.mk 5 d tks) := by
        have : W = ks.map fun e => wtE data e (.mk 5 d tks) := by rw [← hW, zeR]
        simp [this, hel2]
       have hsn := ziS W[j] N[p] (W.take j) (N.take p)
       rw [← List.take_succ_eq_append_getElem hjW, ← List.take_succ_eq_append_getElem hpl] at hsn
       have hwd : IntKind.i64.wrap (((j + 1 : Nat) : Int) - 1) = (j : Int) := by rw [wd _ (by omega) (by omega)]; simp
       have hwd2 : IntKind.i64.wrap ((j : Int) + 1 - 1) = (j : Int) := by simpa using hwd
       have hnextM : ∀ x : Nat, x = zaC (W.take (j + 1)) (N.take (p + 1)) → ∀ (i : Nat) (h : i < (M'.set (j + 1) x).length), (M'.set (j + 1) x)[i] = if i ≤ j then zaC (W.take i) (N.take p) else zaC (W.take i) (N.take (p + 1)) := by
        intro x hx i h
        by_cases hij : i = j + 1
        ·subst hij
         rw [List.getElem_set_self, if_neg (by omega)]; exact hx
        ·rw [List.getElem_set_ne (fun e => hij e.symm), hM' i (by simpa using h)]
         by_cases h2 : i ≤ j
         ·rw [if_pos (by omega), if_pos h2]
         ·rw [if_neg (by omega), if_neg h2]
       have hwj : IntKind.i64.wrap (j : Int) = (j : Int) := zar (by omega) (by omega)
       have hX : ∀ M, hpD H d tks vk vn vks ks.length (rz M) ++ [AB.cells [.int .i64 5, .int .i64 cn, .sl (VT.css nks) .none]] = H ++ [.cells [.int .i64 5, .int .i64 d, .sl (VT.css tks) .none], .cells [.int .i64 vk, .int .i64 vn, .sl (VT.css vks) .none], .cells [.bool false, .snil, .snil], .perm zdH 4 ks.length, .cells (rz M), .cells [.int .i64 5, .int .i64 cn, .sl (VT.css nks) .none]] := fun M => by simp [hpD, hpB]
       rw [hX] at hsc3 hlen3 ⊢
       have hbackk : ∀ (M2 : List Nat) (J : zaa), M2.length = ks.length + 1 → (∀ (i : Nat) (h : i < M2.length), M2[i] = if i ≤ j then zaC (W.take i) (N.take p) else zaC (W.take i) (N.take (p + 1))) →
         Kb27 (zha (.sl (data.map Dat.cs) .none) (.ptr (H.length + 2) 0) (.sl (elS data (.mk 5 d tks) ks) (.own (H.length + 3))) (.ms (H.length + 4) 0 (ks.length + 1) (ks.length + 1)) (.ptr (H.length + 5) 0) (.int .i64 j) (.sl (VT.css N) .none) (.int .i64 N.length) (.int .i64 p))
          (H ++ ([.cells [.int .i64 5, .int .i64 d, .sl (VT.css tks) .none], .cells [.int .i64 vk, .int .i64 vn, .sl (VT.css vks) .none], .cells [.bool false, .snil, .snil], .perm zdH 4 ks.length, .cells (rz M2), .cells [.int .i64 5, .int .i64 cn, .sl (VT.css nks) .none]] ++ J)) := by
        intro M2 J h1 h2
        refine hKb27 _ _ ⟨j, by omega, Back.at (J := J) (H2 := hpD H d tks vk vn vks ks.length (rz M2) ++ [AB.cells [.int .i64 5, .int .i64 cn, .sl (VT.css nks) .none]]) (by simp [hpD, hpB]) (by simp [hpD, hpB]) (hBsc M2) (by simp [zha, ux, AV.sc, AV.scA, AV.scB, AV.scV, hpD, hpB]) ⟨_, rfl, j, M2, by omega, rfl, rfl, h1, h2, rfl⟩⟩
       obtain ⟨ps, hps1, hps2, hps3, hps6⟩ := znV h8 hrd hjk hel2
       have hT : (VT.mk 5 (d : Int) tks).nodes ≤ 1000 := hA.tn
       obtain ⟨l, hf⟩ : ∃ l, zaR data (.mk 5 d tks) c = some l := by
        cases hf : zaR data (.mk 5 d tks) c with
        | none => simp [zbl, hf] at hps1
        | some l => exact ⟨l, rfl⟩
       obtain ⟨bs, hbs, hlb, hl8, hpay, h200, _, _, _, _, hc0, _⟩ := znN hk hf
       rw [hps1] at hpay
       obtain rfl : ps = pick l bs := Option.some.inj hpay
       have hE : elE data (.mk 5 d tks) (.mk c eks) = [.int .i64 c, .sl (IT.css eks) .none, .sl (zaE (pos false bs bs.length)) .none, .sl (VT.css (pick l bs)) .none] := by
        simp only [elE, VT.num, hbs, hps1, Option.getD_some]
       have hEg : (elS data (.mk 5 d tks) ks)[j]'(by omega) = [.int .i64 c, .sl (IT.css eks) .none, .sl (zaE (pos false bs bs.length)) .none, .sl (VT.css (pick l bs)) .none] := by rw [zAP, hel2, hE]
       have hMj : M'[j]'(by omega) = zaC (W.take j) (N.take p) := by rw [hM' j (by omega), if_pos (by omega)]
       have hMj1 : M'[j + 1]'(by omega) = zaC (W.take (j + 1)) (N.take p) := by rw [hM' (j + 1) (by omega), if_pos (by omega)]
       have hg1 := zn2 M' j (by omega)
       have hg2 := zn2 M' (j + 1) (by omega)
       rw [hMj] at hg1
       rw [hMj1] at hg2
       have hbnd : ∀ i ≤ ks.length, zaC (W.take i) (N.take p) ≤ 1000 ^ 6 := by
        intro i hi
        have e1 : W.take i = wtL data (ks.take i) (.mk 5 d tks) := by rw [← hW, zeR, zeR, List.map_take]
        rw [e1]
        have h0 : 0 ≤ rdE data (ks.take i) (.mk 5 d tks) 0 := by
         have e2 : [ks.take i, ks.drop i].flatten = ks := by simp
         rw [← e2] at hrd
         exact (zgX h8 _ _ 0 (by omega) (by omega) hrd).1 _ (by simp)
        have h6 := zuo (h8 := h8) (ks.take i) (.mk 5 (d : Int) tks)
        refine Nat.le_trans (zn9 (N := 1000) (by omega) _ _ (N.take p) 0 (by omega) (by simp; omega) (fun x hx => hnn x (List.mem_of_mem_take hx)) h0) (Nat.pow_le_pow_right (by omega) (by omega))
       have hb1 := hbnd j (by omega)
       have hb2 := hbnd (j + 1) (by omega)
       have hj3 : ∀ J : zaa, zaC (W.take (j + 1)) (N.take (p + 1)) = zaC (W.take (j + 1)) (N.take p) → zhb (.sl (data.map Dat.cs) .none) (.ptr (H.length + 2) 0) (.sl (elS data (.mk 5 d tks) ks) (.own (H.length + 3))) (.ms (H.length + 4) 0 (ks.length + 1) (ks.length + 1)) (.ptr (H.length + 5) 0) (.int .i64 ((j + 1 : Nat) : Int)) (.sl (VT.css N) .none) (.int .i64 N.length) (.int .i64 p)
         (H ++ ([.cells [.int .i64 5, .int .i64 d, .sl (VT.css tks) .none], .cells [.int .i64 vk, .int .i64 vn, .sl (VT.css vks) .none], .cells [.bool false, .snil, .snil], .perm zdH 4 ks.length, .cells (rz M'), .cells [.int .i64 5, .int .i64 cn, .sl (VT.css nks) .none]] ++ J)) (Out H.length K) Kb24 Kb27 := by
        intro J hsn'
        simp only [zhb, zoQ]
        simp [hwd2]
        have := hbackk M' J hMl' fun i h => by
         rw [hM' i h]
         by_cases hij : i = j + 1
         ·subst hij; rw [if_pos (by omega), if_neg (by omega), hsn']
         ·by_cases h2 : i ≤ j
          ·rw [if_pos (by omega), if_pos h2]
          ·rw [if_neg (by omega), if_neg h2]
        simpa [hwj] using this
       by_cases hcc : c = cn
       ·subst hcc
        simp [zjg, hjk, hEg, hel, hwd2, hwj, Nat.add_assoc]
        rw [hg1]
        have hps6' : (1000 : Nat) ^ 12 < 1000000000 ^ 30 := by decide
        have hp612 : (1000 : Nat) ^ 6 ≤ 1000 ^ 12 := by decide
        obtain ⟨s, hsd⟩ : ∃ s, s = zaC (W.take j) (N.take p) := ⟨_, rfl⟩
        rw [← hsd] at hg1 hb1 hsn ⊢
        refine ⟨by omega, by omega, ?_⟩
        refine zH1 s (by omega) _ _ ?_
        by_cases hs0 : s = 0
        ·have hsn2 : zaC (W.take (j + 1)) (N.take (p + 1)) = zaC (W.take (j + 1)) (N.take p) := by rw [hsn, hs0]; simp
         have := hj3 [.cells [.int .i64 c, .sl (IT.css eks) .none, .sl (zaE (pos false bs bs.length)) .none, .sl (VT.css (pick l bs)) .none]] hsn2
         simp [hs0]
         simpa using this
        ·simp [hs0, Nat.add_assoc]
         obtain ⟨hnl, hnh⟩ := ztN hnhas hf hlb
         have hpn := zdt (l := nks) (bs := bs) (by omega) tz nks.length (Nat.le_refl _)
         rw [List.take_length, hnl, hlb, List.take_length] at hpn
         have hpl2 : (pick l bs).length = (pos false bs bs.length).length := by
          have h0 := zdt (l := l) (bs := bs) hlb tz l.length (Nat.le_refl _)
          rw [List.take_length, hlb, List.take_length] at h0
          rw [h0]; simp
         have hPlt : ∀ j ∈ pos false bs bs.length, j < nks.length := fun j hj => by have := zdv hj; omega
         have hP8 := zdu false bs bs.length
         have hpk8 := ziL l bs
         generalize pos false bs bs.length = P at *
         have hpn3 : (pick nks bs).length = P.length := by rw [hpn]; simp
         obtain ⟨A, hAdef⟩ : ∃ A, A = atL data eks (pick l bs) (pick nks bs) := ⟨_, rfl⟩
         have hwA : W[j] N[p] = A := by
          rw [hWj, wtE, hnode, hAdef]
          simp only [VT.num, if_true, VT.kids, hps1, Option.getD_some, hbs]
         rw [hwA] at hsn
         have hAb : A ≤ 1000 ^ 6 := by
          rw [hAdef]
          refine Nat.le_trans (zhE (N := 1000) (by omega) eks (pick l bs) (pick nks bs) 0 (by omega) (fun x hx => ?_) hps3) (Nat.pow_le_pow_right (by omega) (by omega))
          have hx' : x ∈ nks := zeM hx
          have := zd8 (k := 5) (n := c) x hx'
          omega
         have hmulb : s * A ≤ 1000 ^ 12 := by
          rw [show 12 = 6 + 6 from rfl, Nat.pow_add]; exact Nat.mul_le_mul hb1 hAb
         have hinv := (zgW (data := data) eks (pick l bs) 0 (by omega) hps2.symm hps3).1
         have hjn := IT.kid_lt (n := 0) hjk
         rw [hel2] at hjn
         have hie := hA.inn
         refine ⟨by omega, by omega, ?_⟩
         rw [hg1]
         simp [Nat.add_assoc, zcn, zcc]
         refine ⟨by omega, ?_⟩
         have hqsc : ∀ z : Int, HSc (H ++ [.cells [.int .i64 5, .int .i64 d, .sl (VT.css tks) .none], .cells [.int .i64 vk, .int .i64 vn, .sl (VT.css vks) .none], .cells [.bool false, .snil, .snil], .perm zdH 4 ks.length, .cells (rz M'), .cells [.int .i64 5, .int .i64 c, .sl (VT.css nks) .none], .cells [.int .i64 c, .sl (IT.css eks) .none, .sl (zaE P) .none, .sl (VT.css (pick l bs)) .none], .cells (zan z)]) := fun z => by
          have := (hBsc M').append (J := [.cells [.int .i64 c, .sl (IT.css eks) .none, .sl (zaE P) .none, .sl (VT.css (pick l bs)) .none], .cells (zan z)]) (by simp [AB.sc, AV.scA, AV.scB, zan])
          rw [hX] at this
          simpa using this
         refine zE0 (Inv := fun q t139 H' => ∃ (i z : Nat) (a : Int), i ≤ P.length ∧ P.length - i = q ∧ t139 = .int .i64 i ∧ 0 ≤ a ∧ a ≤ 6 ∧ z ≤ 1000 ^ 6 * 1000 ^ a.toNat ∧ 0 ≤ rdA data (eks.drop i) ((pick l bs).drop i) a ∧
          z * atL data (eks.drop i) ((pick l bs).drop i) ((pick nks bs).drop i) = s * A ∧
          H' = H ++ [.cells [.int .i64 5, .int .i64 d, .sl (VT.css tks) .none], .cells [.int .i64 vk, .int .i64 vn, .sl (VT.css vks) .none], .cells [.bool false, .snil, .snil], .perm zdH 4 ks.length, .cells (rz M'), .cells [.int .i64 5, .int .i64 c, .sl (VT.css nks) .none], .cells [.int .i64 c, .sl (IT.css eks) .none, .sl (zaE P) .none, .sl (VT.css (pick l bs)) .none], .cells (zan (z : Int))]) P.length ?_ ?_
         ·intro _; exact ⟨0, s, 0, by omega, rfl, rfl, by omega, by omega, by simpa using hb1, by simpa using hps3, by simp [hAdef], rfl⟩
         ·rintro q t139 H' ⟨i, z, a, hi, rfl, rfl, ha0, ha6, hz, hr, hprod, rfl⟩ hsc4 hlen4 hsF4 Kb33 hKb33
          by_cases hlt : i < P.length
          ·have h1 : i < eks.length := by omega
           have h2 : i < (pick l bs).length := by omega
           have h3 : i < (pick nks bs).length := by omega
           have hPi := hPlt _ (List.getElem_mem hlt)
           have hvi : (pick nks bs)[i] = nks[P[i]] := by
            simp only [hpn, List.getElem_map, List.getD_eq_getElem?_getD]
            rw [List.getElem?_eq_getElem hPi, Option.getD_some]
           obtain ⟨x, y, w, hvx, hx, hy, hw⟩ := zaK (pick l bs)[i]
           obtain ⟨x2, y2, w2, hvx2, hx2, hy2, hw2⟩ := zaK nks[P[i]]
           obtain ⟨x3, y3, hvx3, hx3, hy3⟩ := zc5 eks[i]
           have hnat := ziE (l := P) (i := i) (by simpa [zcc] using hlt)
           have g1 := IT.kid_lt (n := c) h1
           have g2 : (pick l bs)[i] ∈ l := zeM (List.getElem_mem h2)
           have g3 : (pick nks bs)[i] ∈ nks := zeM (List.getElem_mem h3)
           have g4 := zd8 (k := 5) (n := c) _ g3
           have g5 := h200 _ g2
           have hOk : AtOk data eks[i] (pick l bs)[i] (pick nks bs)[i] := ⟨by omega, zgj hD (zvn hA.tv) hf _ g2, hinv i h1 h2, hnh i h3 h2, by omega, by omega⟩
           rw [List.drop_eq_getElem_cons h1, List.drop_eq_getElem_cons h2] at hr
           rw [List.drop_eq_getElem_cons h1, List.drop_eq_getElem_cons h2, List.drop_eq_getElem_cons h3] at hprod
           simp only [rdA] at hr
           simp only [atL] at hprod
           by_cases hc : rdV data eks[i] (pick l bs)[i] < 0 ∨ a + rdV data eks[i] (pick l bs)[i] > 6
           ·rw [if_pos hc] at hr; omega
           ·rw [if_neg hc] at hr
            have hle := zf6 (N := 1000) (by omega) eks[i] (pick l bs)[i] (pick nks bs)[i] hOk.vn hOk.rd
            have hpm : z * atV data eks[i] (pick l bs)[i] (pick nks bs)[i] ≤ 1000 ^ 6 * 1000 ^ (a + rdV data eks[i] (pick l bs)[i]).toNat := by
             rw [show (a + rdV data eks[i] (pick l bs)[i]).toNat = a.toNat + (rdV data eks[i] (pick l bs)[i]).toNat by omega, Nat.pow_add, ← Nat.mul_assoc]
             exact Nat.mul_le_mul hz hle
            have hz12 : z ≤ 1000 ^ 12 := Nat.le_trans hz (by rw [← Nat.pow_add]; exact Nat.pow_le_pow_right (by omega) (by omega))
            simp [zoM, hlt, zcc, hnat, h1, h2, hPi, hvx, hvx2, hvx3, wi i (by omega), Nat.add_assoc, zcn]
            rw [← hvx, ← hvx2, ← hvx3]
            rw [hvi] at hOk hpm hprod
            refine zaF (.agg (zan ((atV data eks[i] (pick l bs)[i] nks[P[i]] : Nat) : Int))) (fun J => hat eks[i] (by omega) (pick l bs)[i] nks[P[i]] hOk (by rw [← hvi]; omega) _ _ ⟨rfl, rfl⟩) ?_
            refine zaF (.agg (zan ((z * atV data eks[i] (pick l bs)[i] nks[P[i]] : Nat) : Int))) (fun J => zrc _ _ (zfE hz12 (by omega)) (zfE (hOk.le h8) (by omega)) _ _ ⟨by rw [Int.natCast_mul], rfl⟩) ?_
            obtain ⟨z', hz'⟩ : ∃ z', z' = z * atV data eks[i] (pick l bs)[i] nks[P[i]] := ⟨_, rfl⟩
            rw [← hz'] at hpm ⊢
            simp [Nat.add_assoc, zcn]
            exact hKb33 _ _ ⟨P.length - (i + 1), by omega, Back.here (by simp) (hqsc _) (by simp [zjl, ux, AV.sc, AV.scA, AV.scB, AV.scV]) ⟨_, rfl, i + 1, z', a + rdV data eks[i] (pick l bs)[i], by omega, rfl, rfl, by omega, by omega, hpm, hr, by rw [hz', ← hprod, Nat.mul_assoc], rfl⟩⟩
          ·obtain rfl : i = P.length := by omega
           rw [List.drop_of_length_le (by omega)] at hprod
           simp only [atL, Nat.mul_one] at hprod
           rw [← hprod] at hmulb
           simp [zoM, zcc, Nat.add_assoc, zcn]
           refine ⟨⟨by omega, hjk⟩, by omega, ?_⟩
           rw [hg2]
           refine zaF (.agg (zan ((zaC (W.take (j + 1)) (N.take (p + 1)) : Nat) : Int))) (fun J => zy8 _ _ (by omega) (by omega) _ _ ⟨by rw [hsn, ← hprod], rfl⟩) ?_
           have hset := (List.append_assoc ..).symm.trans (zuz M' (j + 1) (zaC (W.take (j + 1)) (N.take (p + 1))) (by omega))
           simp [zhb, zoQ, hwj, hwd2, Nat.add_assoc, zcn]
           refine ⟨⟨by omega, hjk⟩, by omega, ?_⟩
           rw [hset]
           exact hbackk (M'.set (j + 1) _) [.cells [.int .i64 c, .sl (IT.css eks) .none, .sl (zaE P) .none, .sl (VT.css (pick l bs)) .none], .cells (zan (z : Int))] (by simp [hMl']) (hnextM _ rfl)
       ·have hb : (c != cn) = true := by simpa using hcc
        have hw0 : W[j] N[p] = 0 := by
         rw [hWj, wtE, hnode]
         exact if_neg (fun h => hcc (Eq.symm h))
        have hsn2 : zaC (W.take (j + 1)) (N.take (p + 1)) = zaC (W.take (j + 1)) (N.take p) := by rw [hsn, hw0]; simp
        have := hj3 [.cells [.int .i64 c, .sl (IT.css eks) .none, .sl (zaE (pos false bs bs.length)) .none, .sl (VT.css (pick l bs)) .none]] hsn2
        simp [zjg, hjk, hEg, hel, hwd2, hwj, Nat.add_assoc, hb]
        simpa using this
    ·obtain rfl : p = N.length := by omega
     have hML := hM ks.length (by omega)
     rw [List.take_length, List.take_of_length_le (by omega)] at hML
     have hg := zn2 M ks.length (by omega)
     rw [hML] at hg
     simp [zoK, hpD, hpB, Nat.add_assoc, hel]
     rw [hg]
     refine ⟨by omega, by omega, ⟨by omega, by rw [zcn]; trivial⟩, by omega, ?_⟩
     rw [List.take_of_length_le (by simp)]
     exact zcE hs hK
end Go.Proofs.YtjkkonpjecoieaaGreat
