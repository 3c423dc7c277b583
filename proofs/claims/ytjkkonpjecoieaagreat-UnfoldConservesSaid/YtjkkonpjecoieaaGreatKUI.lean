import Derived.Test.YtjkkonpjecoieaaGreatCT
import Derived.Test.YtjkkonpjecoieaaGreatKAW
import Derived.Test.YtjkkonpjecoieaaGreatAbsSo
import Derived.Test.YtjkkonpjecoieaaGreatKUA
import Derived.Test.YtjkkonpjecoieaaGreatKN6
set_option linter.unusedSimpArgs false
set_option linter.unusedVariables false
namespace Go.Proofs.YtjkkonpjecoieaaGreat
open Go Go.Abs
set_option maxRecDepth 8000
structure AtOk (data : List Dat) (i : IT) (t v : VT) : Prop where
 tn : t.nodes ≤ 1000
 tv : zaO data 0 t = true
 rd : 0 ≤ rdV data i t
 hv : zau data v t = true
 vn : v.nodes ≤ 1000
 inn : i.nodes ≤ 900
theorem AtOk.le {data : List Dat} {i : IT} {t v : VT} (h8 : ∀ D ∈ data, D.cons.length ≤ 8) (h : AtOk data i t v) : atV data i t v ≤ 1000 ^ 6 := by
 have h1 := zlU (N := 1000) (by omega) i t v h.vn h.rd
 have h2 := zAU (h8 := h8) i t
 exact Nat.le_trans h1 (Nat.pow_le_pow_right (by omega) (by omega))
def zfF (data : List Dat) (m : Nat) : Prop := ∀ i : IT, i.nodes ≤ m → ∀ t v : VT, AtOk data i t v → ∀ (H : zaa) (K : Kt), K (.agg (zan ((atV data i t v : Nat) : Int))) H →
 ACalls tP zfe [.sl (data.map Dat.cs) .none, .agg t.cs, .agg i.cs, .agg v.cs] H K
theorem zc9 {n k : Nat} (h : n ≤ 1000 ^ k) (hk : k ≤ 60) : Sm (n : Int) := znD (Nat.lt_of_le_of_lt h (Nat.lt_of_le_of_lt (Nat.pow_le_pow_right (by omega) hk) (by decide)))
theorem zyF {data : List Dat} (h8 : ∀ D ∈ data, D.cons.length ≤ 8) {m : Nat} (hat : zfF data m) (ks : List IT) (ts vs : List VT) (hl1 : ks.length = ts.length) (hl2 : vs.length = ts.length) (hl : ts.length ≤ 1000)
  (hok : ∀ (i : Nat) (h1 : i < ks.length) (h2 : i < ts.length) (h3 : i < vs.length), (ks[i]).nodes ≤ m ∧ AtOk data ks[i] ts[i] vs[i]) (hrd : 0 ≤ rdA data ks ts 0) (H : zaa) (K : Kt) (hK : K (.agg (zan ((atL data ks ts vs : Nat) : Int))) H) :
  ACalls tP zgu [.sl (data.map Dat.cs) .none, .sl (VT.css ts) .none, .sl (IT.css ks) .none, .sl (VT.css vs) .none] H K := by
 refine ACalls.out (zNl fun hs => ?_)
 simp [zyD, Nat.add_assoc]
 refine zdp 1 (by omega) _ _ ?_
 simp [Nat.add_assoc]
 have hsc : ∀ z : Int, HSc (H ++ [.cells [.bool false, .snil, .snil], .cells (zan z)]) := fun z => hs.append (by simp [AB.sc, zan, AV.scA, AV.scB])
 refine zNj (Inv := fun q t14 H' => ∃ (i p : Nat) (a : Int), i ≤ ts.length ∧ ts.length - i = q ∧ t14 = .int .i64 i ∧ 0 ≤ a ∧ a ≤ 6 ∧ p ≤ 1000 ^ a.toNat ∧ 0 ≤ rdA data (ks.drop i) (ts.drop i) a ∧
  p * atL data (ks.drop i) (ts.drop i) (vs.drop i) = atL data ks ts vs ∧ H' = H ++ [.cells [.bool false, .snil, .snil], .cells (zan (p : Int))]) ts.length ?_ ?_
 ·intro _; exact ⟨0, 1, 0, by omega, rfl, rfl, by omega, by omega, by simp, by simpa using hrd, by simp, rfl⟩
 ·rintro q t14 H' ⟨i, p, a, hi, rfl, rfl, ha0, ha6, hp, hr, hprod, rfl⟩ hsc' hlen hsF Kb hKb
  by_cases hlt : i < ts.length
  ·have hk : i < ks.length := by omega
   have hvv : i < vs.length := by omega
   obtain ⟨hin, hA⟩ := hok i hk hlt hvv
   obtain ⟨x, y, z, hvx, hx, hy, hz⟩ := zaM ts[i]
   obtain ⟨x2, y2, z2, hvx2, hx2, hy2, hz2⟩ := zaM vs[i]
   obtain ⟨x3, y3, hvx3, hx3, hy3⟩ := zc3 ks[i]
   rw [List.drop_eq_getElem_cons hk, List.drop_eq_getElem_cons hlt] at hr
   rw [List.drop_eq_getElem_cons hk, List.drop_eq_getElem_cons hlt, List.drop_eq_getElem_cons hvv] at hprod
   simp only [rdA] at hr
   simp only [atL] at hprod
   by_cases hc : rdV data ks[i] ts[i] < 0 ∨ a + rdV data ks[i] ts[i] > 6
   ·rw [if_pos hc] at hr; omega
   ·rw [if_neg hc] at hr
    have hle := zlU (N := 1000) (by omega) ks[i] ts[i] vs[i] hA.vn hA.rd
    have hpm : p * atV data ks[i] ts[i] vs[i] ≤ 1000 ^ (a + rdV data ks[i] ts[i]).toNat := by
     rw [show (a + rdV data ks[i] ts[i]).toNat = a.toNat + (rdV data ks[i] ts[i]).toNat by omega, Nat.pow_add]
     exact Nat.mul_le_mul hp hle
    simp [zq4, hlt, hk, hvv, hvx, hvx2, hvx3, Nat.add_assoc, wi i (by omega)]
    rw [← hvx, ← hvx2, ← hvx3]
    refine zaF (.agg (zan ((atV data ks[i] ts[i] vs[i] : Nat) : Int))) (fun J => hat ks[i] hin ts[i] vs[i] hA _ _ ⟨rfl, rfl⟩) ?_
    refine zaF (.agg (zan ((p * atV data ks[i] ts[i] vs[i] : Nat) : Int))) (fun J => zjP _ _ (zc9 hp (by omega)) (zc9 (hA.le h8) (by omega)) _ _ ⟨by rw [Int.natCast_mul], rfl⟩) ?_
    obtain ⟨p', hp'⟩ : ∃ p', p' = p * atV data ks[i] ts[i] vs[i] := ⟨_, rfl⟩
    rw [← hp'] at hpm ⊢
    simp [Nat.add_assoc]
    exact hKb _ _ ⟨ts.length - (i + 1), by omega, Back.here (by simp) (hsc _) (by simp [zlB, ux, AV.sc, AV.scA, AV.scB, AV.scV]) ⟨_, rfl, i + 1, p', a + rdV data ks[i] ts[i], by omega, rfl, rfl, by omega, by omega, hpm, hr, by rw [hp', ← hprod, Nat.mul_assoc], rfl⟩⟩
  ·obtain rfl : i = ts.length := by omega
   rw [List.drop_of_length_le (by omega)] at hprod
   simp only [atL, Nat.mul_one] at hprod
   subst hprod
   simp [zq4, Nat.add_assoc]
   exact zcl hs hK
theorem zze {data : List Dat} (hk : za8 data) (h8 : ∀ D ∈ data, D.cons.length ≤ 8) {m : Nat} (hat : zfF data m)
  (hdata : ∀ (i : IT), i.nodes ≤ m + 1 → ∀ (n tn : Int) (ks : List IT) (tks : List VT) (v : VT), i = .mk n ks → AtOk data i (.mk 5 tn tks) v → ∀ (H : zaa) (K : Kt), K (.agg (zan ((atV data i (.mk 5 tn tks) v : Nat) : Int))) H →
   ACalls tP zfe [.sl (data.map Dat.cs) .none, .agg (VT.mk 5 tn tks).cs, .agg i.cs, .agg v.cs] H K) : zfF data (m + 1) := by
 intro i hi t v hA H K hK
 obtain ⟨k, tn, tks⟩ := t
 obtain ⟨n, ks⟩ := i
 by_cases h5 : k = 5
 ·subst h5
  exact hdata _ hi n tn ks tks v rfl hA H K hK
 ·refine ACalls.out (zxM fun hs => ?_)
  obtain ⟨vk, vn, vks⟩ := v
  have hrd := hA.rd
  have hvv := hA.hv
  rw [rdV] at hrd
  by_cases h6 : k = 6
  ·subst h6
   simp only [VT.kind, VT.kids, if_true] at hrd
   by_cases hn : n = 0
   ·by_cases hl : tks.length = ks.length
    ·subst hn
     have hrd : 0 ≤ rdA data ks tks 0 := by
      have h0 := hrd
      simp [hl] at h0
      exact h0
     simp [zau] at hvv
     have hvl := zhs hvv.2
     have hinv := (ziq (data := data) ks tks 0 (by omega) hl.symm hrd).1
     have e : atV data (.mk 0 ks) (.mk 6 tn tks) (.mk vk vn vks) = atL data ks tks vks := by simp [atV, VT.kind, VT.kids]
     rw [e] at hK
     have htn := hA.tn
     have hvn := hA.vn
     have hin := hA.inn
     have htl := VT.len_le tks
     have e1 : (VT.mk 6 tn tks).nodes = VT.nodesL tks + 1 := by simp [VT.nodes]
     simp [zgW, VT.cs, IT.cs, Nat.add_assoc]
     refine zyF h8 hat ks tks vks hl.symm (by omega) (by omega) (fun i h1 h2 h3 => ?_) hrd _ _ ?_
     ·have g1 := IT.kid_lt (n := 0) h1
      have g2 := VT.kid_lt (k := 6) (n := tn) h2
      have g3 := VT.kid_lt (k := vk) (n := vn) h3
      exact ⟨by omega, ⟨by omega, znP hA.tv _ (List.getElem_mem h2), hinv i h1 h2, zf4 hvv.2 i h3 h2, by omega, by omega⟩⟩
     ·simp [Nat.add_assoc]
      exact zcl hs hK
    ·simp [hn, hl] at hrd
   ·simp [hn] at hrd
  ·by_cases h7 : k = 7
   ·subst h7
    simp [VT.kind] at hrd
    by_cases hc : 0 ≤ n ∧ n ≤ 6 ∧ ks = []
    ·obtain ⟨c1, c2, rfl⟩ := hc
     obtain ⟨j, rfl⟩ : ∃ j : Nat, n = j := ⟨n.toNat, by omega⟩
     have e : atV data (.mk j []) (.mk 7 tn tks) (.mk vk vn vks) = chs vks.length j := by simp [atV, VT.kind, VT.kids]
     rw [e] at hK
     have hvn := hA.vn
     have hvl := VT.len_le vks
     have e1 : (VT.mk vk vn vks).nodes = VT.nodesL vks + 1 := by simp [VT.nodes]
     simp [zgW, VT.cs, IT.cs, Nat.add_assoc]
     refine zaF (.agg (zan ((vks.length : Nat) : Int))) (fun J => zdp _ (by omega) _ _ ⟨rfl, rfl⟩) ?_
     refine zaF (.agg (zan ((chs vks.length j : Nat) : Int))) (fun J => zNq _ _ (by omega) (by omega) _ _ ⟨rfl, rfl⟩) ?_
     simp [Nat.add_assoc]
     exact zcl hs hK
    ·rw [if_neg hc] at hrd; omega
   ·have e : atV data (.mk n ks) (.mk k tn tks) (.mk vk vn vks) = 1 := by simp [atV, VT.kind, h5, h6, h7]
    rw [e] at hK
    have b6 : (k == 6) = false := by simpa using h6
    have b7 : (k == 7) = false := by simpa using h7
    have b5 : (k == 5) = false := by simpa using h5
    simp [zgW, VT.cs, IT.cs, Nat.add_assoc, b6, b7, b5]
    refine zdp 1 (by omega) _ _ ?_
    simp [Nat.add_assoc]
    exact zcl hs hK
def zrC : List AV := [.bool false, .snil, .snil]
def rz (l : List Nat) : List AV := (l.map fun (z : Nat) => zan (z : Int)).flatten
def zz (m : Nat) : List AV := (List.replicate m zrC).flatten
@[simp] theorem zQU (l : List Nat) : (rz l).length = l.length * 3 := by
 induction l with
 | nil => rfl
 | cons x l ih => simp only [rz, List.map_cons, List.flatten_cons, List.length_append, zAS, List.length_cons] at ih ⊢; omega
@[simp] theorem zRf (m : Nat) : (zz m).length = m * 3 := by
 induction m with
 | zero => rfl
 | succ m ih => simp only [zz, List.replicate_succ, List.flatten_cons, List.length_append] at ih ⊢; rw [ih]; simp [zrC]; omega
theorem zra (m : Nat) : zz (m + 1) = zrC ++ zz m := by simp [zz, List.replicate_succ]
theorem zfm (a b : List Nat) : rz (a ++ b) = rz a ++ rz b := by simp [rz]
theorem znu (x : Nat) : rz [x] = zan (x : Int) := by simp [rz]
theorem ztK (l : List Nat) (n : Nat) : (rz l).all (AV.scA n) = true := by
 induction l with
 | nil => rfl
 | cons x l ih => rw [show rz (x :: l) = zan (x : Int) ++ rz l from rfl, List.all_append, ih]; rfl
theorem zNI (m n : Nat) : (zz m).all (AV.scA n) = true := by
 induction m with
 | zero => rfl
 | succ m ih => rw [zra, List.all_append, ih]; rfl
theorem zBc (l : List Nat) (m x : Nat) : (rz l ++ zz (m + 1)).take (l.length * 3) ++ zan (x : Int) ++ (rz l ++ zz (m + 1)).drop (l.length * 3 + 3) = rz (l ++ [x]) ++ zz m := by
 rw [List.take_left' (by simp), zra, ← List.append_assoc (rz l), List.drop_left' (by simp [zrC]), zfm, znu]
theorem zBd (l : List Nat) (k x : Nat) (h : k < l.length) : (rz l).take (k * 3) ++ zan (x : Int) ++ (rz l).drop (k * 3 + 3) = rz (l.set k x) := by
 have e : rz l = rz (l.take k) ++ (zan ((l[k] : Nat) : Int) ++ rz (l.drop (k + 1))) := by
  rw [← znu, ← zfm, ← zfm]
  congr 1
  rw [List.singleton_append, ← List.drop_eq_getElem_cons h, List.take_append_drop]
 have hl : (rz (l.take k)).length = k * 3 := by simp [Nat.min_eq_left (Nat.le_of_lt h)]
 have e1 : (rz l).take (k * 3) = rz (l.take k) := by rw [e, List.take_left' hl]
 have e2 : (rz l).drop (k * 3 + 3) = rz (l.drop (k + 1)) := by
  rw [e, ← List.append_assoc, List.drop_left' (by simp [hl])]
 rw [e1, e2, List.set_eq_take_append_cons_drop, if_pos h, zfm, show rz (x :: l.drop (k + 1)) = zan (x : Int) ++ rz (l.drop (k + 1)) from rfl, List.append_assoc]
theorem znt (l : List Nat) (k : Nat) (h : k < l.length) : ((rz l).drop (k * 3)).take 3 = zan ((l[k] : Nat) : Int) := by
 have e : rz l = rz (l.take k) ++ (zan ((l[k] : Nat) : Int) ++ rz (l.drop (k + 1))) := by
  rw [← znu, ← zfm, ← zfm]
  congr 1
  rw [List.singleton_append, ← List.drop_eq_getElem_cons h, List.take_append_drop]
 have hl : (rz (l.take k)).length = k * 3 := by simp [Nat.min_eq_left (Nat.le_of_lt h)]
 rw [e, List.drop_left' hl, List.take_left' (by simp)]
theorem ztc {data : List Dat} {k n : Int} {ks : List VT} {c : Int} {l : List VT} (hk : za8 data) (hf : zaR data (.mk k n ks) c = some l) :
  ∃ bs, (zbd data n.toNat).getD c.toNat [] = bs ∧ l.length = bs.length ∧ l.length ≤ 8 ∧ zbn data (.mk k n ks) c = some (pick l bs) ∧ (∀ x ∈ l, x.nodes ≤ 200) ∧ k = 5 ∧
   (∀ H K, K (.sl (zbj bs) .none) H → ACalls tP zdz [.sl (data.map Dat.cs) .none, .int .i64 n, .int .i64 c] H K) ∧
   (∀ H K, K (.sl (zbj bs) .none) H → ACalls tP zd5 [.sl (data.map Dat.cs) .none, .int .i64 n, .int .i64 c] H K) ∧
   (∀ j, bs.getD j false = true → l.getD j tz = .mk 5 n ks) ∧ 0 ≤ c ∧ ∃ (hn : n.toNat < data.length) (hc : c.toNat < (data[n.toNat]).cons.length), l.length = ((data[n.toNat]).cons[c.toNat]).args.length := by
 obtain ⟨k5, n0, c0, hn, hc, hv, rfl, h200⟩ := ze3 hf
 obtain ⟨f1, f2, f3⟩ := zc4 hk
 have hd := List.getElem_mem hn
 have hcm := List.getElem_mem hc
 obtain ⟨g1, g2⟩ := f2 _ hd _ hcm
 have g3 := f3 _ hd
 have h8 := ((hk.2 _ hd).2.2 _ hcm).2.1
 refine ⟨zbE n.toNat data[n.toNat] (data[n.toNat]).cons[c.toNat], by simp [zbd, hn, hc, List.getD_eq_getElem?_getD], by simp [zbE], by simpa using h8, ?_, h200, k5, fun H K hK => ?_, fun H K hK => ?_, fun j hj => ?_, c0, hn, hc, by simp⟩
 ·simp [zbn, hf, zbd, hn, hc, List.getD_eq_getElem?_getD, VT.num]
 ·have := zqC data n.toNat c.toNat hn hc f1 g3 (by omega) (fun x hx => by have := g2 x hx; omega) H K (by simpa [zbj, zbE, Function.comp_def] using hK)
  rwa [Int.toNat_of_nonneg n0, Int.toNat_of_nonneg c0] at this
 ·have := zn9 data n.toNat c.toNat hn hc f1 g3 (by omega) (fun x hx => by have := g2 x hx; omega) H K hK
  rwa [Int.toNat_of_nonneg n0, Int.toNat_of_nonneg c0] at this
 ·have hjl : j < ((data[n.toNat]).cons[c.toNat]).args.length := by
   refine Nat.lt_of_not_le fun hle => ?_
   rw [List.getD_eq_getElem?_getD, List.getElem?_eq_none (by simpa [zbE] using hle)] at hj
   simp at hj
  simp only [List.getD_eq_getElem?_getD, zbE, List.getElem?_map, List.getElem?_eq_getElem hjl, Option.map_some, Option.getD_some] at hj ⊢
  rw [ztQ hj hv, Int.toNat_of_nonneg n0]
theorem zuw {data : List Dat} {t : VT} (ht : zaO data 0 t = true) : zaQ data 0 t = true := by
 rw [zaO, Bool.and_eq_true] at ht; exact ht.2
theorem ztY : ∀ l : List IT, l = (l.map fun x => [x]).flatten
 | [] => rfl
 | x :: l => by rw [List.map_cons, List.flatten_cons, ← ztY l]; rfl
theorem ztz {data : List Dat} (h8 : ∀ D ∈ data, D.cons.length ≤ 8) {t : VT} {ks : List IT} (h : 0 ≤ rdE data ks t 0) {j : Nat} (hj : j < ks.length) {c : Int} {eks : List IT} (he : ks[j] = .mk c eks) :
  ∃ ps, zbn data t c = some ps ∧ ps.length = eks.length ∧ 0 ≤ rdA data eks ps 0 ∧ rdA data eks ps 0 ≤ 6 := by
 rw [ztY ks] at h
 have h1 := (zgA h8 t (ks.map fun x => [x]) 0 (by omega) (by omega) h).1 [ks[j]] (List.mem_map.2 ⟨ks[j], List.getElem_mem hj, rfl⟩)
 rw [he, zd6] at h1
 split at h1
 ·omega
 ·split at h1
  ·omega
  ·rename_i ps hp
   split at h1
   ·rename_i hl
    split at h1
    ·omega
    ·rename_i hc
     exact ⟨ps, hp, hl, by omega, by omega⟩
   ·omega
theorem zsX {data : List Dat} {n c : Int} {tks nks l : List VT} {bs : List Bool} (hh : zau data (.mk 5 c nks) (.mk 5 n tks) = true) (hf : zaR data (.mk 5 n tks) c = some l) (hlb : l.length = bs.length) :
  nks.length = l.length ∧ ∀ i (h1 : i < (pick nks bs).length) (h2 : i < (pick l bs).length), zau data (pick nks bs)[i] (pick l bs)[i] = true := by
 have hl : zbv data nks l = true := by
  simp [zau] at hh
  rw [hf, zf3] at hh
  exact hh.2
 have hlen := zhs hl
 refine ⟨hlen, fun i h1 h2 => ?_⟩
 have e1 := zdj (l := nks) (bs := bs) (by omega) tz nks.length (Nat.le_refl _)
 have e2 := zdj (l := l) (bs := bs) hlb tz l.length (Nat.le_refl _)
 rw [List.take_length, hlen, hlb, List.take_length] at e1
 rw [List.take_length, hlb, List.take_length] at e2
 have hp : i < (pos false bs bs.length).length := by rw [e1] at h1; simpa using h1
 have hq := zdk (List.getElem_mem hp)
 have g1 : (pick nks bs)[i] = nks[(pos false bs bs.length)[i]]'(by omega) := by
  simp only [e1, List.getElem_map, List.getD_eq_getElem?_getD]
  rw [List.getElem?_eq_getElem (by omega), Option.getD_some]
 have g2 : (pick l bs)[i] = l[(pos false bs bs.length)[i]]'(by omega) := by
  simp only [e2, List.getElem_map, List.getD_eq_getElem?_getD]
  rw [List.getElem?_eq_getElem (by omega), Option.getD_some]
 rw [g1, g2]
 exact zf4 hl _ (by omega) (by omega)
def hpA (H : zaa) (tn : Int) (tks : List VT) (ks : List IT) (vk vn : Int) (vks : List VT) (c : List AV) : zaa :=
 H ++ [.cells [.int .i64 5, .int .i64 tn, .sl (VT.css tks) .none], .cells [.int .i64 0, .sl (IT.css ks) .none], .cells [.int .i64 vk, .int .i64 vn, .sl (VT.css vks) .none], .cells [.bool false, .snil, .snil], .cells c]
theorem zsv {H : zaa} (hs : HSc H) {tn : Int} {tks : List VT} {ks : List IT} {vk vn : Int} {vks : List VT} {c : List AV} (hc : ∀ n, c.all (AV.scA n) = true) : HSc (hpA H tn tks ks vk vn vks c) :=
 hs.append (by simp only [AB.sc, List.all_cons, List.all_nil, hc]; simp [AV.scA, AV.scB])
theorem zzd {data : List Dat} (hk : za8 data) (hD : zbf data = true) (h8 : ∀ D ∈ data, D.cons.length ≤ 8) {m : Nat} (hat : zfF data m) (n tn : Int) (ks : List IT) (tks : List VT) (v : VT) (hin : (IT.mk n ks).nodes ≤ m + 1)
  (hA : AtOk data (.mk n ks) (.mk 5 tn tks) v) (H : zaa) (K : Kt) (hK : K (.agg (zan ((atV data (.mk n ks) (.mk 5 tn tks) v : Nat) : Int))) H) :
  ACalls tP zfe [.sl (data.map Dat.cs) .none, .agg (VT.mk 5 tn tks).cs, .agg (IT.mk n ks).cs, .agg v.cs] H K := by
 refine ACalls.out (zxM fun hs => ?_)
 obtain ⟨vk, vn, vks⟩ := v
 have hrd := hA.rd
 have hvv := hA.hv
 rw [rdV] at hrd
 simp [VT.kind] at hrd
 obtain ⟨hv5, htn0, _⟩ := zf5 hvv
 obtain ⟨d, rfl⟩ : ∃ d : Nat, tn = d := ⟨tn.toNat, by omega⟩
 by_cases hn : n = 0 ∧ ks.length ≤ 6
 ·rw [if_pos hn] at hrd
  obtain ⟨rfl, hl6⟩ := hn
  have e : atV data (.mk 0 ks) (.mk 5 d tks) (.mk vk vn vks) = zaB (wtL data ks (.mk 5 d tks)) (zbl (zbd data d) (.mk vk vn vks)) := by simp [atV, VT.kind, VT.num]
  rw [e] at hK
  have hnv := zAO (data := data) (n := d) (al := tks) _ (.mk vk vn vks) (Nat.le_refl _) hvv
  have hnn := ztn (zbd data d) 1000 (.mk vk vn vks) hA.vn
  have hnl := zin (zbd data d) (.mk vk vn vks)
  have hvn := hA.vn
  generalize hN : zbl (zbd data d) (.mk vk vn vks) = N at *
  generalize hW : wtL data ks (.mk 5 d tks) = W at *
  have hWl : W.length = ks.length := by rw [← hW, zeF]; simp
  have w1 : IntKind.i64.wrap ((ks.length : Int) + 1) = ((ks.length + 1 : Nat) : Int) := wi _ (by omega)
  simp [zgW, VT.cs, IT.cs, Nat.add_assoc, w1, zbe]
  refine ⟨⟨by omega, by omega, by omega⟩, ?_⟩
  refine zdp 1 (by omega) _ _ ?_
  have hcss : ∀ c, (hpA H d tks ks vk vn vks c).length = H.length + 5 := fun c => by simp [hpA]
  have hz0 : (List.replicate (ks.length + 1) [AV.bool false, AV.snil, AV.snil]).flatten = zz (ks.length + 1) := rfl
  simp [Nat.add_assoc, hz0, zra, zrC, znl]
  refine ⟨by omega, ?_⟩
  show zqa (.sl (data.map Dat.cs) .none) (.ptr H.length 0) (.ptr (H.length + 1) 0) (.ptr (H.length + 2) 0) (.ptr (H.length + 3) 0) (.ms (H.length + 4) 0 (ks.length + 1) (ks.length + 1)) (.int .i64 1) (hpA H d tks ks vk vn vks (rz [1] ++ zz ks.length)) (Out H.length K)
  refine zKm (Inv := fun q t10 H' => ∃ j : Nat, 1 ≤ j ∧ j ≤ ks.length + 1 ∧ ks.length + 1 - j = q ∧ t10 = .int .i64 j ∧ H' = hpA H d tks ks vk vn vks (rz (1 :: List.replicate (j - 1) 0) ++ zz (ks.length + 1 - j))) ks.length ?_ ?_
  ·intro _; exact ⟨1, by omega, by omega, by omega, rfl, by simp⟩
  ·rintro q t10 H' ⟨j, hj0, hj, rfl, rfl, rfl⟩ hsc' hlen hsF Kb hKb
   by_cases hlt : j < ks.length + 1
   ·have hfl := zBc (1 :: List.replicate (j - 1) 0) (ks.length - j) 0
    have el : (1 :: List.replicate (j - 1) 0).length = j := by simp; omega
    rw [el, show ks.length - j + 1 = ks.length + 1 - j by omega] at hfl
    have er : (1 :: List.replicate (j - 1) 0) ++ [0] = 1 :: List.replicate (j + 1 - 1) 0 := by
     rw [List.cons_append, ← List.replicate_succ', show j - 1 + 1 = j + 1 - 1 by omega]
    rw [er] at hfl
    have hfl2 := (List.append_assoc ..).symm.trans hfl
    simp only [zp4]
    have hlt' : (j : Int) < (ks.length : Int) + 1 := by omega
    simp [hlt, hlt', wi j (by omega), Nat.add_assoc]
    refine zdp 0 (by omega) _ _ ?_
    simp [hpA, Nat.add_assoc]
    refine ⟨by omega, ?_⟩
    have hfl3 : List.take (j * 3) (rz (1 :: List.replicate (j - 1) 0) ++ zz (ks.length + 1 - j)) ++ (zan 0 ++ List.drop (j * 3 + 3) (rz (1 :: List.replicate (j - 1) 0) ++ zz (ks.length + 1 - j))) = rz (1 :: List.replicate (j + 1 - 1) 0) ++ zz (ks.length - j) := hfl2
    rw [hfl3]
    exact hKb _ _ ⟨ks.length + 1 - (j + 1), by omega, Back.here (by simp [hpA]) (zsv hs fun n => by rw [List.all_append, ztK, zNI]; rfl) (by simp [zkC, ux, AV.sc, AV.scA, AV.scB, AV.scV]) ⟨_, rfl, j + 1, by omega, by omega, rfl, rfl, by rw [show ks.length + 1 - (j + 1) = ks.length - j by omega]; rfl⟩⟩
   ·obtain rfl : j = ks.length + 1 := by omega
    simp [zp4, hpA, Nat.add_assoc]
    refine zNu hk (n := d) (al := tks) (.mk vk vn vks) (by omega) hvv _ _ ?_
    rw [hN, show zz 0 = [] from rfl, List.append_nil]
    simp
    show zqb _ _ _ _ _ _ _ _ (hpA H d tks ks vk vn vks (rz (1 :: List.replicate ks.length 0))) _
    have hcsc : ∀ M : List Nat, HSc (hpA H d tks ks vk vn vks (rz M)) := fun M => zsv hs fun n => ztK M n
    refine zKn (Inv := fun q t69 H' => ∃ (p : Nat) (M : List Nat), p ≤ N.length ∧ N.length - p = q ∧ t69 = .int .i64 p ∧ M.length = ks.length + 1 ∧ (∀ (j : Nat) (h : j < M.length), M[j] = zaB (W.take j) (N.take p)) ∧ H' = hpA H d tks ks vk vn vks (rz M)) N.length ?_ ?_
    ·intro _
     refine ⟨0, _, by omega, rfl, rfl, by simp, fun j h => ?_, rfl⟩
     have h' : j < ks.length + 1 := by simpa using h
     rw [List.take_zero, ztT]
     cases j with
     | zero => simp
     | succ j =>
      have : W.take (j + 1) ≠ [] := by
       intro h0
       have := congrArg List.length h0
       simp at this
       rw [this] at hWl
       simp at hWl
       omega
      simp [this]
    ·rintro q t69 H' ⟨p, M, hp, rfl, rfl, hMl, hM, rfl⟩ hsc'' hlen' hsF' Kb14 hKb14
     by_cases hpl : p < N.length
     ·cases hnode : N[p] with
      | mk nk cn nks =>
      simp [zp5, hpl, hnode, VT.cs, hpA, Nat.add_assoc]
      have hnhas := hnv N[p] (List.getElem_mem hpl)
      have hnno := hnn N[p] (List.getElem_mem hpl)
      rw [hnode] at hnhas hnno
      obtain ⟨rfl, _, hcn0, _⟩ := zf5 hnhas
      have hB : ∀ M J, (hpA H d tks ks vk vn vks (rz M) ++ [AB.cells [.int .i64 5, .int .i64 cn, .sl (VT.css nks) .none]] ++ J) = H ++ ([.cells [.int .i64 5, .int .i64 d, .sl (VT.css tks) .none], .cells [.int .i64 0, .sl (IT.css ks) .none], .cells [.int .i64 vk, .int .i64 vn, .sl (VT.css vks) .none], .cells [.bool false, .snil, .snil], .cells (rz M), .cells [.int .i64 5, .int .i64 cn, .sl (VT.css nks) .none]] ++ J) := fun M J => by simp [hpA]
      have hBsc : ∀ M, HSc (hpA H d tks ks vk vn vks (rz M) ++ [AB.cells [.int .i64 5, .int .i64 cn, .sl (VT.css nks) .none]]) := fun M => (hcsc M).append (by simp [AB.sc, AV.scA, AV.scB])
      refine zKo (Inv := fun q t13 H' => ∃ (k : Nat) (M' : List Nat), k ≤ ks.length ∧ k = q ∧ t13 = .int .i64 k ∧ M'.length = ks.length + 1 ∧ (∀ (j : Nat) (h : j < M'.length), M'[j] = if j ≤ k then zaB (W.take j) (N.take p) else zaB (W.take j) (N.take (p + 1))) ∧
       H' = hpA H d tks ks vk vn vks (rz M') ++ [AB.cells [.int .i64 5, .int .i64 cn, .sl (VT.css nks) .none]]) ks.length ?_ ?_
      ·intro _
       exact ⟨ks.length, M, by omega, rfl, rfl, hMl, fun j h => by rw [if_pos (by omega)]; exact hM j h, by simp [hpA]⟩
      ·rintro q t13 H' ⟨k, M', hk2, rfl, rfl, hMl', hM', rfl⟩ hsc3 hlen3 hsF3 Kb17 hKb17
       by_cases hk0 : k = 0
       ·subst hk0
        simp [zkB, wi p (by omega)]
        refine hKb14 _ _ ⟨N.length - (p + 1), by omega, Back.at (J := [AB.cells [.int .i64 5, .int .i64 cn, .sl (VT.css nks) .none]]) (H2 := hpA H d tks ks vk vn vks (rz M')) rfl (by simp [hpA]) (hcsc M') (by simp [zkD, ux, AV.sc, AV.scA, AV.scB, AV.scV, hpA]) ⟨_, rfl, p + 1, M', by omega, rfl, rfl, hMl', fun j h => ?_, rfl⟩⟩
        rw [hM' j h]
        split
        ·rename_i h0
         obtain rfl : j = 0 := by omega
         simp [zaB]
        ·rfl
       ·obtain ⟨j, rfl⟩ : ∃ j, k = j + 1 := ⟨k - 1, by omega⟩
        have hjk : j < ks.length := by omega
        have hjW : j < W.length := by omega
        cases hel : ks[j] with
        | mk c eks =>
        have hWj : W[j] = wtE data (.mk c eks) (.mk 5 d tks) := by
         have : W = ks.map fun e => wtE data e (.mk 5 d tks) := by rw [← hW, zeF]
         simp [this, hel]
        have hsn := ziu W[j] N[p] (W.take j) (N.take p)
        rw [← List.take_succ_eq_append_getElem hjW, ← List.take_succ_eq_append_getElem hpl] at hsn
        have hwd : IntKind.i64.wrap (((j + 1 : Nat) : Int) - 1) = (j : Int) := by rw [wd _ (by omega) (by omega)]; simp
        have hwd2 : IntKind.i64.wrap ((j : Int) + 1 - 1) = (j : Int) := by simpa using hwd
        have hnextM : ∀ x : Nat, x = zaB (W.take (j + 1)) (N.take (p + 1)) → ∀ (i : Nat) (h : i < (M'.set (j + 1) x).length), (M'.set (j + 1) x)[i] = if i ≤ j then zaB (W.take i) (N.take p) else zaB (W.take i) (N.take (p + 1)) := by
         intro x hx i h
         by_cases hij : i = j + 1
         ·subst hij
          rw [List.getElem_set_self, if_neg (by omega)]; exact hx
         ·rw [List.getElem_set_ne (fun e => hij e.symm), hM' i (by simpa using h)]
          by_cases h2 : i ≤ j
          ·rw [if_pos (by omega), if_pos h2]
          ·rw [if_neg (by omega), if_neg h2]
        have hwj : IntKind.i64.wrap (j : Int) = (j : Int) := zas (by omega) (by omega)
        have hX : ∀ M, hpA H d tks ks vk vn vks (rz M) ++ [AB.cells [.int .i64 5, .int .i64 cn, .sl (VT.css nks) .none]] = H ++ [.cells [.int .i64 5, .int .i64 d, .sl (VT.css tks) .none], .cells [.int .i64 0, .sl (IT.css ks) .none], .cells [.int .i64 vk, .int .i64 vn, .sl (VT.css vks) .none], .cells [.bool false, .snil, .snil], .cells (rz M), .cells [.int .i64 5, .int .i64 cn, .sl (VT.css nks) .none]] := fun M => by simp [hpA]
        rw [hX] at hsc3 hlen3 ⊢
        have hbackk : ∀ (M2 : List Nat) (J : zaa), M2.length = ks.length + 1 → (∀ (i : Nat) (h : i < M2.length), M2[i] = if i ≤ j then zaB (W.take i) (N.take p) else zaB (W.take i) (N.take (p + 1))) →
          Kb17 (zgY (.sl (data.map Dat.cs) .none) (.ptr H.length 0) (.ptr (H.length + 1) 0) (.ptr (H.length + 3) 0) (.ms (H.length + 4) 0 (ks.length + 1) (ks.length + 1)) (.ptr (H.length + 5) 0) (.int .i64 j) (.sl (VT.css N) .none) (.int .i64 N.length) (.int .i64 p))
           (H ++ ([.cells [.int .i64 5, .int .i64 d, .sl (VT.css tks) .none], .cells [.int .i64 0, .sl (IT.css ks) .none], .cells [.int .i64 vk, .int .i64 vn, .sl (VT.css vks) .none], .cells [.bool false, .snil, .snil], .cells (rz M2), .cells [.int .i64 5, .int .i64 cn, .sl (VT.css nks) .none]] ++ J)) := by
         intro M2 J h1 h2
         refine hKb17 _ _ ⟨j, by omega, Back.at (J := J) (H2 := hpA H d tks ks vk vn vks (rz M2) ++ [AB.cells [.int .i64 5, .int .i64 cn, .sl (VT.css nks) .none]]) (by simp [hpA]) (by simp [hpA]) (hBsc M2) (by simp [zgY, ux, AV.sc, AV.scA, AV.scB, AV.scV, hpA]) ⟨_, rfl, j, M2, by omega, rfl, rfl, h1, h2, rfl⟩⟩
        by_cases hcc : c = cn
        ·subst hcc
         obtain ⟨ps, hps1, hps2, hps3, hps6⟩ := ztz h8 hrd hjk hel
         have hT : (VT.mk 5 (d : Int) tks).nodes ≤ 1000 := hA.tn
         obtain ⟨l, hf⟩ : ∃ l, zaR data (.mk 5 d tks) c = some l := by
          cases hf : zaR data (.mk 5 d tks) c with
          | none => simp [zbn, hf] at hps1
          | some l => exact ⟨l, rfl⟩
         obtain ⟨bs, hbs, hlb, hl8, hpay, h200, _, _, hrec, _, hc0, _⟩ := ztc hk hf
         rw [hps1] at hpay
         obtain rfl : ps = pick l bs := Option.some.inj hpay
         obtain ⟨hnl, hnh⟩ := zsX hnhas hf hlb
         simp [zkB, hjk, hel, hwd2, hwj, IT.cs, Nat.add_assoc]
         refine zyJ data hk (.mk 5 d tks) hT c _ _ ?_
         rw [hps1]
         simp [zbL, Nat.add_assoc]
         refine zNE data hk 5 d tks hT c hf hlb hl8 hrec _ _ ?_
         simp [Nat.add_assoc, zcf]
         unfold zkG
         refine ALoop.own 19 zbP 3 rfl ?_
         have hpn := zdj (l := nks) (bs := bs) (by omega) tz nks.length (Nat.le_refl _)
         rw [List.take_length, hnl, hlb, List.take_length] at hpn
         have hpl2 : (pick l bs).length = (pos false bs bs.length).length := by
          have h0 := zdj (l := l) (bs := bs) hlb tz l.length (Nat.le_refl _)
          rw [List.take_length, hlb, List.take_length] at h0
          rw [h0]; simp
         have hPlt : ∀ j ∈ pos false bs bs.length, j < nks.length := fun j hj => by have := zdk hj; omega
         have hP8 := zdB false bs bs.length
         generalize pos false bs bs.length = P at *
         have hpn3 : (pick nks bs).length = P.length := by rw [hpn]; simp
         have hE : ∀ n, HSc (H ++ [.cells [.int .i64 5, .int .i64 d, .sl (VT.css tks) .none], .cells [.int .i64 0, .sl (IT.css ks) .none], .cells [.int .i64 vk, .int .i64 vn, .sl (VT.css vks) .none], .cells [.bool false, .snil, .snil], .cells (rz M'), .cells [.int .i64 5, .int .i64 c, .sl (VT.css nks) .none], .cells [.int .i64 c, .sl (IT.css eks) .none], .perm zbP 3 n]) := fun n => by
          have := (hBsc M').append (J := [.cells [.int .i64 c, .sl (IT.css eks) .none], .perm zbP 3 n]) (by simp [AB.sc, AV.scA, AV.scB])
          rw [hX] at this
          simpa using this
         have hid : (H ++ [AB.cells [.int .i64 5, .int .i64 d, .sl (VT.css tks) .none], .cells [.int .i64 0, .sl (IT.css ks) .none], .cells [.int .i64 vk, .int .i64 vn, .sl (VT.css vks) .none], .cells [.bool false, .snil, .snil], .cells (rz M'), .cells [.int .i64 5, .int .i64 c, .sl (VT.css nks) .none], .cells [.int .i64 c, .sl (IT.css eks) .none]]).length = H.length + 7 := by simp
         rw [hid, List.append_assoc]
         show zkG _ _ _ _ _ _ _ _ _ (.sl [] (.own (H.length + 7))) _ _ _ _ _ _ (H ++ [.cells [.int .i64 5, .int .i64 d, .sl (VT.css tks) .none], .cells [.int .i64 0, .sl (IT.css ks) .none], .cells [.int .i64 vk, .int .i64 vn, .sl (VT.css vks) .none], .cells [.bool false, .snil, .snil], .cells (rz M'), .cells [.int .i64 5, .int .i64 c, .sl (VT.css nks) .none], .cells [.int .i64 c, .sl (IT.css eks) .none], .perm zbP 3 0]) (Out H.length K) Kb14 Kb17
         refine zKp (Inv := fun q t19 t109 H' => ∃ i : Nat, i ≤ P.length ∧ P.length - i = q ∧ t109 = .int .i64 i ∧ t19 = .sl (VT.css ((P.take i).map fun j => nks.getD j tz)) (.own (H.length + 7)) ∧
          H' = H ++ [.cells [.int .i64 5, .int .i64 d, .sl (VT.css tks) .none], .cells [.int .i64 0, .sl (IT.css ks) .none], .cells [.int .i64 vk, .int .i64 vn, .sl (VT.css vks) .none], .cells [.bool false, .snil, .snil], .cells (rz M'), .cells [.int .i64 5, .int .i64 c, .sl (VT.css nks) .none], .cells [.int .i64 c, .sl (IT.css eks) .none], .perm zbP 3 i]) P.length ?_ ?_
         ·intro _; exact ⟨0, by omega, rfl, rfl, rfl, rfl⟩
         ·rintro q t19 t109 H' ⟨i, hi, rfl, rfl, rfl, rfl⟩ hsc4 hlen4 hsF4 Kb25 hKb25
          by_cases hlt : i < P.length
          ·have hPi := hPlt _ (List.getElem_mem hlt)
           obtain ⟨x, y, z, hvx, hx, hy, hz⟩ := zaM nks[P[i]]
           have hnat := zig (l := P) (i := i) (by simpa [zcf] using hlt)
           simp [zp6, hlt, zcf, hnat, hPi, hvx, wi i (by omega), Nat.add_assoc]
           rw [← hvx, zdv]
           have hst : (P.take (i + 1)).map (fun j => nks.getD j tz) = (P.take i).map (fun j => nks.getD j tz) ++ [nks[P[i]]] := by
            rw [List.take_succ_eq_append_getElem hlt, List.map_append]
            simp [List.getD_eq_getElem?_getD, hPi]
           have hst2 : VT.css ((P.take i).map fun j => nks.getD j tz) ++ [(nks[P[i]]).cs] = VT.css ((P.take (i + 1)).map fun j => nks.getD j tz) := by rw [hst, zrY]
           have hst3 : VT.css (List.take i (List.map (fun j => nks[j]?.getD tz) P)) ++ [(nks[P[i]]).cs] = VT.css ((P.take (i + 1)).map fun j => nks.getD j tz) := by
            rw [← hst2]; simp [List.getD_eq_getElem?_getD]
           simp [zax, zaW, zaN, Nat.min_eq_left (Nat.le_of_lt hlt), List.set_append]
           refine ⟨⟨by omega, by omega⟩, ?_⟩
           rw [hst3]
           exact hKb25 _ _ ⟨P.length - (i + 1), by omega, Back.here (by simp) (hE _) (by simp [zkE, ux, AV.sc, AV.scA, AV.scB, AV.scV]) ⟨_, _, rfl, i + 1, by omega, rfl, rfl, rfl, rfl⟩⟩
          ·obtain rfl : i = P.length := by omega
           rw [List.take_length] at *
           rw [← hpn] at *
           have hMj : M'[j]'(by omega) = zaB (W.take j) (N.take p) := by rw [hM' j (by omega), if_pos (by omega)]
           have hMj1 : M'[j + 1]'(by omega) = zaB (W.take (j + 1)) (N.take p) := by rw [hM' (j + 1) (by omega), if_pos (by omega)]
           have hg1 := znt M' j (by omega)
           have hg2 := znt M' (j + 1) (by omega)
           rw [hMj] at hg1
           rw [hMj1] at hg2
           obtain ⟨A, hAdef⟩ : ∃ A, A = atL data eks (pick l bs) (pick nks bs) := ⟨_, rfl⟩
           have hwA : W[j] N[p] = A := by
            rw [hWj, wtE, hnode, hAdef]
            simp only [VT.num, if_true, VT.kids, hps1, Option.getD_some, hbs]
           rw [hwA] at hsn
           have hbnd : ∀ i ≤ ks.length, zaB (W.take i) (N.take p) ≤ 1000 ^ 6 := by
            intro i hi
            have e1 : W.take i = wtL data (ks.take i) (.mk 5 d tks) := by rw [← hW, zeF, zeF, List.map_take]
            rw [e1]
            have h0 : 0 ≤ rdE data (ks.take i) (.mk 5 d tks) 0 := by
             have e2 : [ks.take i, ks.drop i].flatten = ks := by simp
             rw [← e2] at hrd
             exact (zgA h8 _ _ 0 (by omega) (by omega) hrd).1 _ (by simp)
            have h6 := ztA (h8 := h8) (ks.take i) (.mk 5 (d : Int) tks)
            refine Nat.le_trans (znA (N := 1000) (by omega) _ _ (N.take p) 0 (by omega) (by simp; omega) (fun x hx => hnn x (List.mem_of_mem_take hx)) h0) (Nat.pow_le_pow_right (by omega) (by omega))
           have hAb : A ≤ 1000 ^ 6 := by
            rw [hAdef]
            refine Nat.le_trans (zhg (N := 1000) (by omega) eks (pick l bs) (pick nks bs) 0 (by omega) (fun x hx => ?_) hps3) (Nat.pow_le_pow_right (by omega) (by omega))
            have hx' : x ∈ nks := zeB hx
            have := zeu (k := 5) (n := c) x hx'
            omega
           have hb1 := hbnd j (by omega)
           have hb2 := hbnd (j + 1) (by omega)
           have hmulb : zaB (W.take j) (N.take p) * A ≤ 1000 ^ 12 := by
            rw [show 12 = 6 + 6 from rfl, Nat.pow_add]; exact Nat.mul_le_mul hb1 hAb
           have hall : ∀ (H : zaa) (K : Kt), K (.agg (zan (A : Int))) H → ACalls tP zgu [.sl (data.map Dat.cs) .none, .sl (VT.css (pick l bs)) .none, .sl (IT.css eks) .none, .sl (VT.css (pick nks bs)) .none] H K := by
            intro H K hK
            have hpl3 : (pick l bs).length = (pick nks bs).length := by rw [hpl2, hpn3]
            have hinv := (ziq (data := data) eks (pick l bs) 0 (by omega) hps2.symm hps3).1
            have hjn := IT.kid_lt (n := 0) hjk
            rw [hel] at hjn
            have hie := hA.inn
            refine zyF h8 hat eks (pick l bs) (pick nks bs) hps2.symm hpl3.symm (by rw [hpl2]; omega) (fun i h1 h2 h3 => ?_) hps3 _ _ (by rw [← hAdef]; exact hK)
            have g1 := IT.kid_lt (n := c) h1
            have g2 : (pick l bs)[i] ∈ l := zeB (List.getElem_mem h2)
            have g3 : (pick nks bs)[i] ∈ nks := zeB (List.getElem_mem h3)
            have g4 := zeu (k := 5) (n := c) _ g3
            have g5 := h200 _ g2
            exact ⟨by omega, ⟨by omega, zfZ hD (zuw hA.tv) hf _ g2, hinv i h1 h2, hnh i h3 h2, by omega, by omega⟩⟩
           simp [zp6, hwj, hwd2, Nat.add_assoc]
           refine ⟨⟨by omega, hjk⟩, by omega, by omega, by omega, ?_⟩
           rw [hg1, hg2]
           refine zaF (.agg (zan (A : Int))) (fun J => ACalls.wk (args' := [.sl (data.map Dat.cs) .none, .sl (VT.css (pick l bs)) .none, .sl (IT.css eks) .none, .sl (VT.css (pick nks bs)) .none]) (hall _ _ ⟨rfl, rfl⟩) ⟨.rfl', .rfl', .rfl', .atom (.sl _ _), trivial⟩) ?_
           refine zaF (.agg (zan ((zaB (W.take j) (N.take p) * A : Nat) : Int))) (fun J => zjP _ _ (zc9 hb1 (by omega)) (zc9 hAb (by omega)) _ _ ⟨by rw [Int.natCast_mul], rfl⟩) ?_
           refine zaF (.agg (zan ((zaB (W.take (j + 1)) (N.take (p + 1)) : Nat) : Int))) (fun J => zpj _ _ (zc9 hb2 (by omega)) (zc9 hmulb (by omega)) _ _ ⟨by rw [hsn, Int.natCast_add], rfl⟩) ?_
           have hset := (List.append_assoc ..).symm.trans (zBd M' (j + 1) (zaB (W.take (j + 1)) (N.take (p + 1))) (by omega))
           simp [zkF, zp9, hwj, hwd2, Nat.add_assoc, znl]
           refine ⟨⟨by omega, hjk⟩, by omega, ?_⟩
           rw [hset]
           exact hbackk (M'.set (j + 1) _) [.cells [.int .i64 c, .sl (IT.css eks) .none], .perm zbP 3 P.length] (by simp [hMl']) (hnextM _ rfl)
        ·have hb : (c != cn) = true := by simpa using hcc
         simp [zkB, hjk, hel, hwd2, hwj, IT.cs, Nat.add_assoc, hb, zkF, zp9]
         have hw0 : W[j] N[p] = 0 := by
          rw [hWj, wtE, hnode]
          exact if_neg (fun h => hcc (Eq.symm h))
         have hsn : zaB (W.take (j + 1)) (N.take (p + 1)) = zaB (W.take (j + 1)) (N.take p) := by rw [hsn, hw0]; simp
         refine hbackk M' [.cells [.int .i64 c, .sl (IT.css eks) .none]] hMl' fun i h => ?_
         rw [hM' i h]
         by_cases hij : i = j + 1
         ·subst hij; rw [if_pos (by omega), if_neg (by omega), hsn]
         ·by_cases h2 : i ≤ j
          ·rw [if_pos (by omega), if_pos h2]
          ·rw [if_neg (by omega), if_neg h2]
     ·obtain rfl : p = N.length := by omega
      have hML := hM ks.length (by omega)
      rw [List.take_length, List.take_of_length_le (by omega)] at hML
      have hg := znt M ks.length (by omega)
      rw [hML] at hg
      simp [zp5, hpA, Nat.add_assoc]
      rw [hg]
      refine ⟨by omega, by omega, ⟨by omega, by rw [znl]; trivial⟩, by omega, ?_⟩
      exact zcl hs hK
 ·rw [if_neg hn] at hrd; omega
theorem zlV {data : List Dat} (hk : za8 data) (hD : zbf data = true) (h8 : ∀ D ∈ data, D.cons.length ≤ 8) : ∀ m, zfF data m
 | 0 => fun i hi => by have := IT.nodes_pos i; omega
 | m + 1 => zze hk h8 (zlV hk hD h8 m) fun i hi n tn ks tks v he hA H K hK => by
  subst he
  exact zzd hk hD h8 (zlV hk hD h8 m) n tn ks tks v hi hA H K hK
def atR (data : List Dat) (t : VT) (i : IT) (v : VT) : AV :=
 if za2 data t i < 0 then .tup [.agg [.bool false, .sl [] .none, .sl [] .none], .int .i64 1] else if zcV data v t = false then .tup [.agg [.bool false, .sl [] .none, .sl [] .none], .int .i64 11] else .tup [.agg (zan ((atV data i t v : Nat) : Int)), .int .i64 0]
theorem zwi {data : List Dat} (hk : za8 data) (t : VT) (ht : t.nodes ≤ 1000) (i : IT) (hi : i.nodes ≤ 900) (v : VT) (hv : v.nodes ≤ 1000) (H : zaa) (K : Kt) (hK : K (atR data t i v) H) :
  ACalls tP zhI [.sl (data.map Dat.cs) .none, .agg t.cs, .agg i.cs, .agg v.cs] H K := by
 refine ACalls.out (zGe fun hs => ?_)
 obtain ⟨x, y, z, hvx, hx, hy, hz⟩ := zaM t
 obtain ⟨x2, y2, z2, hvx2, hx2, hy2, hz2⟩ := zaM v
 obtain ⟨x3, y3, hvx3, hx3, hy3⟩ := zc3 i
 simp [zvQ, hvx, hvx2, hvx3, Nat.add_assoc]
 rw [← hvx, ← hvx3]
 refine zvq data hk t ht i hi _ _ ?_
 by_cases hd : za2 data t i < 0
 ·have hd' : decide (0 ≤ za2 data t i) = false := by simpa using hd
  unfold atR at hK
  rw [if_pos hd] at hK
  simp [hd', zaC, za6, zhu, Nat.add_assoc]
  refine ⟨⟨rfl, rfl⟩, ?_⟩
  exact Out.tup (bs := [.agg [.bool false, .sl [] .none, .sl [] .none], .int .i64 1]) hs hK ⟨⟨.agg ⟨.refl _, .snil, .snil, trivial⟩, rfl, rfl⟩, zaZ rfl rfl, trivial⟩
 ·have hd' : decide (0 ≤ za2 data t i) = true := by simpa using hd
  unfold atR at hK
  rw [if_neg hd] at hK
  simp [hd', hvx, hvx2, hvx3, Nat.add_assoc]
  rw [← hvx, ← hvx2]
  refine zvf data hk v t (by omega) (by omega) _ _ ?_
  cases hh : zcV data v t with
  | false =>
   rw [if_pos hh] at hK
   simp [zaC, za6, zhu, Nat.add_assoc]
   refine ⟨⟨rfl, rfl⟩, ?_⟩
   exact Out.tup (bs := [.agg [.bool false, .sl [] .none, .sl [] .none], .int .i64 11]) hs hK ⟨⟨.agg ⟨.refl _, .snil, .snil, trivial⟩, rfl, rfl⟩, zaZ rfl rfl, trivial⟩
  | true =>
   rw [if_neg (by simp [hh])] at hK
   obtain ⟨hD, htv, hvv⟩ := zsu hh
   have hfine : zbi data t = true := by
    unfold za2 at hd
    by_cases h : zbi data t = true
    ·exact h
    ·rw [if_neg h] at hd; omega
   have h8 := zhp hfine
   have hrd : 0 ≤ rdV data i t := by unfold za2 at hd; rw [if_pos hfine] at hd; omega
   simp [hvx, hvx2, hvx3, Nat.add_assoc]
   rw [← hvx, ← hvx2, ← hvx3]
   refine zlV hk hD h8 i.nodes i (Nat.le_refl _) t v ⟨ht, htv, hrd, hvv, hv, hi⟩ _ _ ?_
   simp [Nat.add_assoc]
   refine ⟨⟨rfl, rfl⟩, ?_⟩
   exact Out.tup (bs := [.agg (zan ((atV data i t v : Nat) : Int)), .int .i64 0]) hs hK ⟨zaZ rfl rfl, zaZ rfl rfl, trivial⟩
theorem zD7 : ∀ (m : Nat) (v : VT), v.nodes ≤ m → v.nodes ≤ 100000 → ∀ (H : zaa) (K : Kt), K (.int .i64 v.nodes) H → ACalls tP zhB [.agg v.cs] H K := by
 intro m
 induction m with
 | zero => intro v h; have := v.nodes_pos; omega
 | succ m ih =>
  intro v hm hb H K hK
  obtain ⟨k, n, ks⟩ := v
  have hnn : (VT.mk k n ks).nodes = VT.nodesL ks + 1 := by simp [VT.nodes]
  have hll := VT.len_le ks
  refine ACalls.out (zD5 fun hs => ?_)
  simp [zu4, VT.cs, Nat.add_assoc]
  refine zD3 (Inv := fun q t3 t9 H' => ∃ i : Nat, i ≤ ks.length ∧ ks.length - i = q ∧ t9 = .int .i64 i ∧ t3 = .int .i64 ((VT.nodesL (ks.take i) + 1 : Nat) : Int) ∧ H' = H ++ [.cells [.int .i64 k, .int .i64 n, .sl (VT.css ks) .none]]) ks.length ?_ ?_
  ·intro _; exact ⟨0, by omega, rfl, rfl, by simp [VT.nodesL], rfl⟩
  ·rintro q t3 t9 H' ⟨i, hi, rfl, rfl, rfl, rfl⟩ hsc' hlen hsF Kb hKb
   have htk := VT.nodesL_take_le ks i
   by_cases hlt : i < ks.length
   ·obtain ⟨x, y, z, hvx, hx, hy, hz⟩ := zaM ks[i]
    have hkn := VT.kid_lt (k := k) (n := n) hlt
    have hts := VT.nodesL_take hlt
    have hts2 := VT.nodesL_take_le ks (i + 1)
    simp [zom, hlt, hvx, hx, hy, hz, wi i (by omega), Nat.add_assoc]
    rw [← hvx]
    refine ih ks[i] (by omega) (by omega) _ _ ?_
    have hw : IntKind.i64.wrap ((VT.nodesL (ks.take i) : Int) + (1 + (ks[i]).nodes)) = ((VT.nodesL (ks.take (i + 1)) + 1 : Nat) : Int) := by rw [zas (by omega) (by omega)]; omega
    have hw2 : IntKind.i64.wrap ((VT.nodesL (ks.take i) : Int) + 1 + (ks[i]).nodes) = ((VT.nodesL (ks.take (i + 1)) + 1 : Nat) : Int) := by rw [zas (by omega) (by omega)]; omega
    simp [hw, hw2]
    exact hKb _ _ ⟨ks.length - (i + 1), by omega, Back.at (J := [.cells (ks[i]).cs]) (H2 := H ++ [.cells [.int .i64 k, .int .i64 n, .sl (VT.css ks) .none]]) (by simp) (by simp) (hs.append (by simp [AB.sc, AV.scA, AV.scB])) (by simp [zi7, ux, AV.sc, AV.scA, AV.scB, AV.scV]) ⟨_, _, rfl, i + 1, by omega, rfl, rfl, rfl, rfl⟩⟩
   ·obtain rfl : i = ks.length := by omega
    simp [zom]
    refine Out.int (J := _) rfl (Nat.le_refl _) hs ?_
    rw [hnn] at hK
    simpa using hK
theorem zCq (n : Nat) : All2 WkA (List.replicate n [AV.int .i64 0, .snil]).flatten (zaV (List.replicate n (.mk 0 []))) := by
 induction n with
 | zero => exact trivial
 | succ n ih =>
  rw [List.replicate_succ, List.replicate_succ, List.flatten_cons, zdD]
  exact ⟨.refl _, .snil, ih⟩
theorem zfM {H J : zaa} {K : Kt} {e : Int} (hs : HSc H) (hK : K (.tup [.sl [] .none, .int .i64 e]) H) : zeV H.length K (.tup [.snil, .int .i64 e]) (H ++ J) :=
 ⟨.tup [.sl [] .none, .int .i64 e], H, J, rfl, Nat.le_refl _, hs, .tup ⟨.one (.wk (.atom .snil) rfl rfl), .one (.wk (.atom (.refl _)) rfl rfl), trivial⟩, hK⟩
theorem RowsH.weaken {X : zaa} {lo lo' id : Nat} {rows : List (List IT)} (h : RowsH X lo id rows) (hl : lo' ≤ lo) : RowsH X lo' id rows := by
 obtain ⟨h1, cs, h2, h3⟩ := h
 exact ⟨by omega, cs, h2, h3.mono fun c r hc => hc.keep hl fun b _ hb _ => ⟨hb, rfl⟩⟩
theorem RowsH.agree {X Y : zaa} {lo id : Nat} {rows : List (List IT)} (h : RowsH X lo id rows) (ha : ∀ k, lo ≤ k → k < X.length → Y[k]? = X[k]?) : RowsH Y lo id rows := by
 obtain ⟨h1, cs, h2, h3⟩ := h
 exact ⟨h1, cs, by rw [ha _ h1 (List.getElem?_eq_some_iff.1 h2).1]; exact h2, h3.mono fun c r hc => hc.keep (Nat.le_refl _) fun b hb hb2 hb3 => ⟨hb2, ha b hb hb3⟩⟩
theorem zzc {H3 : zaa} {lo1 id1 lo2 id2 : Nat} {rows1 rows2 : List (List IT)} {K : Kt} (h1 : RowsH H3 lo1 id1 rows1) (h2 : RowsH H3 lo2 id2 rows2) (hlt : id1 < lo2) (hlo : lo1 ≤ lo2) (hb : rows1.length + rows2.length ≤ 1000000000) (hs : HSc H3)
  (hK : ∀ H4, HSc H4 → RowsH H4 lo1 id1 (rows1 ++ rows2) → (∀ X, X <+: H3 → X.length ≤ id1 → X <+: H4) → K (.ov id1 (rows1 ++ rows2).length) H4) : zax zbJ 1 24 (.ov id1 rows1.length) (.ov id2 rows2.length) H3 K := by
 obtain ⟨g1, cs1, hc1, hx1⟩ := h1
 obtain ⟨g2, cs2, hc2, hx2⟩ := h2
 have hl1 := (List.getElem?_eq_some_iff.1 hc1).1
 have k1 := zfQ hx1
 have k2 := zfQ hx2
 refine zrk hc1 hc2 k2.2 (by rw [hx2.length]; simp) (by omega) (by omega) ?_
 rw [← List.length_append]
 have hkp : ∀ b, b ≠ id1 → (H3.set id1 (.vec zbJ 1 (rows1 ++ rows2).length (cs1 ++ cs2)))[b]? = H3[b]? := fun b hb => List.getElem?_set_ne (fun h => hb h.symm)
 refine hK _ (hs.set ?_) ⟨g1, cs1 ++ cs2, List.getElem?_set_self hl1, (hx1.mono fun c r hc => hc.keep (Nat.le_refl _) fun b _ hb _ => ⟨hb, hkp b hb⟩).append (hx2.mono fun c r hc => hc.keep hlo fun b hb1 hb2 hb3 => ?_)⟩ (fun X hX hl => zio hX hl)
 ·simp only [AB.sc, List.all_append, k1.1, k2.1, Bool.and_self]
 ·have : b ≠ id1 := by omega
  exact ⟨this, hkp b this⟩
theorem zsi : ∀ (ps : List Nat) (xs row : List IT) (p : Nat) (x : IT), xs.length = ps.length → fill row (ps ++ [p]) (xs ++ [x]) = (fill row ps xs).set p x
 | [], [], row, p, x, _ => by simp [fill]
 | [], _ :: _, _, _, _, h => by simp at h
 | _ :: _, [], _, _, _, h => by simp at h
 | q :: ps, y :: xs, row, p, x, h => by
  simp only [List.cons_append, fill]
  exact zsi ps xs _ p x (by simpa using h)
theorem zsj {P : List Nat} {xs row : List IT} {i : Nat} (hi : i < P.length) (hx : i < xs.length) : fill row (P.take (i + 1)) (xs.take (i + 1)) = (fill row (P.take i) (xs.take i)).set P[i] xs[i] := by
 rw [List.take_succ_eq_append_getElem hi, List.take_succ_eq_append_getElem hx]
 exact zsi _ _ _ _ _ (by simp; omega)
theorem zvP (data : List Dat) (hk : za8 data) (t : VT) (ht : t.nodes ≤ 1000) (c : Int) (v : IT) (hv : v.nodes ≤ 900) (H : zaa) (K : Kt)
  (hbad : ∀ e, zcC data t c v = some e → K (.tup [.sl [] .none, .int .i64 e]) H)
  (hgood : zcC data t c v = none → ∃ l bs, zaR data t c = some l ∧ l.length = bs.length ∧ l.length ≤ 8 ∧ (∀ x ∈ l, x.nodes ≤ 200) ∧ zbn data t c = some (pick l bs) ∧
   (∀ H K, K (.sl (zbj bs) .none) H → ACalls tP zdz [.sl (data.map Dat.cs) .none, .int .i64 t.num, .int .i64 c] H K) ∧
   ∀ rs, rs.Perm (zb8 l bs c (zsA v)) → rs.Pairwise rle → K (.tup [zeC rs, .int .i64 0]) H) :
  ACalls tP zgf [.sl (data.map Dat.cs) .none, .agg t.cs, .int .i64 c, .agg v.cs] H K := by
 refine ACalls.out2 (zFj fun hs => ?_)
 obtain ⟨f1, f2, f3⟩ := zc4 hk
 obtain ⟨k, n, ks⟩ := t
 obtain ⟨m, vs⟩ := v
 simp [zvr, VT.cs, IT.cs, Nat.add_assoc]
 refine zJy data hk (.mk k n ks) ht (.mk m vs) hv _ _ ?_
 by_cases hd : za2 data (.mk k n ks) (.mk m vs) < 0
 ·have hd' : decide (0 ≤ za2 data (.mk k n ks) (.mk m vs)) = false := by simpa using hd
  simp [hd']
  exact ⟨⟨rfl, rfl⟩, zfM hs (hbad 1 (by simp [zcC, hd]))⟩
 have hd' : decide (0 ≤ za2 data (.mk k n ks) (.mk m vs)) = true := by simpa using hd
 simp [hd']
 by_cases h5 : k = 5
 ·subst h5
  have hfine : zbi data (.mk 5 n ks) = true := by
   unfold za2 at hd
   by_cases h : zbi data (.mk 5 n ks) = true
   ·exact h
   ·rw [if_neg h] at hd; omega
  have hrd : 0 ≤ rdV data (.mk m vs) (.mk 5 n ks) := by
   unfold za2 at hd
   rw [if_pos hfine] at hd
   omega
  obtain ⟨rfl, hl6, hrE⟩ : m = 0 ∧ vs.length ≤ 6 ∧ 0 ≤ rdE data vs (.mk 5 n ks) 0 := by
   simp [rdV, VT.kind] at hrd
   by_cases h : m = 0 ∧ vs.length ≤ 6
   ·rw [if_pos h] at hrd
    exact ⟨h.1, h.2, hrd⟩
   ·rw [if_neg h] at hrd; omega
  obtain ⟨hn0, hnl⟩ := zCg (by unfold zbi at hfine; rw [Bool.and_eq_true] at hfine; exact hfine.2)
  have hbad8 : (c < 0 ∨ (data[n.toNat].cons.length : Int) ≤ c) → K (.tup [.sl [] .none, .int .i64 8]) H := fun h => hbad 8 (by
   simp only [zcC, if_neg hd, VT.kind, VT.num, ne_eq, not_true_eq_false, if_false, List.getD_eq_getElem?_getD, List.getElem?_eq_getElem hnl, Option.getD_some]
   rw [if_pos h])
  by_cases hc0 : c < 0
  ·simp [hc0]
   exact ⟨⟨rfl, rfl⟩, zfM hs (hbad8 (.inl hc0))⟩
  have hnl2 : n < (data.length : Int) := by omega
  by_cases hc8 : (data[n.toNat].cons.length : Int) ≤ c
  ·simp [hc0, hn0, hnl2, List.getElem?_eq_getElem hnl, Dat.cs, hc8]
   exact ⟨⟨rfl, rfl⟩, zfM hs (hbad8 (.inr hc8))⟩
  simp [hc0, hn0, hnl2, List.getElem?_eq_getElem hnl, Dat.cs, hc8]
  refine zkm data f1 f2 f3 (.mk 5 n ks) ht c _ _ ?_
  cases hf : zaR data (.mk 5 n ks) c with
  | none =>
   simp [zbL]
   exact ⟨⟨rfl, rfl⟩, zfM hs (hbad 0 (by
    simp only [zcC, if_neg hd, VT.kind, VT.num, ne_eq, not_true_eq_false, if_false, List.getD_eq_getElem?_getD, List.getElem?_eq_getElem hnl, Option.getD_some]
    rw [if_neg (by omega), if_pos hf]))⟩
  | some l =>
   have hE : zcC data (.mk 5 n ks) c (.mk 0 vs) = none := by
    simp only [zcC, if_neg hd, VT.kind, VT.num, ne_eq, not_true_eq_false, if_false, List.getD_eq_getElem?_getD, List.getElem?_eq_getElem hnl, Option.getD_some]
    rw [if_neg (by omega), if_neg (by simp [hf])]
   obtain ⟨l', bs, hf', hlb, hl8, h200, hpay, hrec, hK⟩ := hgood hE
   rw [hf] at hf'
   cases hf'
   simp [zbL]
   refine zJS data hk 5 n ks ht c hf hlb hl8 hfine hrec _ _ ?_
   have hP8 := zdB false bs bs.length
   have hPl : ∀ j ∈ pos false bs bs.length, j < l.length := fun j hj => by have := zdk hj; omega
   have hPn : (pos false bs bs.length).Nodup := List.Pairwise.filter _ List.nodup_range
   have hRl : ∀ j ∈ pos true bs bs.length, j < l.length := fun j hj => by have := zdk hj; omega
   have hR8 := zdB true bs bs.length
   have hK : ∀ rs, rs.Perm (zba (zaH l (pos false bs bs.length)) (pos true bs bs.length) vs ++ zcn (zaH l (pos false bs bs.length)) (pos false bs bs.length) (pos true bs bs.length) c vs) → rs.Pairwise rle → K (.tup [zeC rs, .int .i64 0]) H := hK
   have hwide := ztG l bs c vs
   have hnds := zA1 (bs := bs) (c := c) (kids := vs) h200 (by simp only [IT.nodes] at hv; omega)
   have hlen := ztF (l := l) (c := c) hl6 (by omega : bs.length ≤ 8)
   unfold zb8 at hwide hnds hlen
   have hpk : (pick l bs).length = (pos false bs bs.length).length := by
    have := zdj hlb (.mk 0 0 []) l.length (Nat.le_refl _)
    rw [List.take_length, hlb, List.take_length] at this
    rw [this, List.length_map]
   generalize pos false bs bs.length = P at *
   generalize pos true bs bs.length = R at *
   have hfv : ∀ x ∈ l, zbi data x = true := fun x hx => by
    unfold zbi at hfine ⊢
    rw [Bool.and_eq_true] at hfine ⊢
    refine ⟨hfine.1, zfZ hfine.1 (by have := hfine.2; rw [zaO, Bool.and_eq_true] at this; exact this.2) hf x hx⟩
   simp [zcf]
   simp only [zbe, Int.toNat_natCast]
   refine ⟨by omega, ?_⟩
   unfold zjn
   refine ALoop.reCell (id := H.length + 2) (zaV (List.replicate l.length (.mk 0 []))) (by simp) (zCq _) ?_
   have hset : (H ++ [AB.cells [.int .i64 5, .int .i64 n, .sl (VT.css ks) .none], .cells [.int .i64 0, .sl (IT.css vs) .none]] ++ [AB.cells (List.replicate l.length [AV.int .i64 0, .snil]).flatten]).set (H.length + 2) (.cells (zaV (List.replicate l.length (.mk 0 [])))) =
     H ++ [AB.cells [.int .i64 5, .int .i64 n, .sl (VT.css ks) .none], .cells [.int .i64 0, .sl (IT.css vs) .none], .cells (zaV (List.replicate l.length (.mk 0 [])))] := by simp [List.set_append_right]
   rw [hset]
   have hl2 : (H ++ [AB.cells [AV.int IntKind.i64 5, AV.int IntKind.i64 n, AV.sl (VT.css ks) Tok.none], AB.cells [AV.int IntKind.i64 0, AV.sl (IT.css vs) Tok.none]]).length = H.length + 2 := by simp
   rw [hl2]
   show zjn (.sl (data.map Dat.cs) .none) (.int .i64 c) (.ptr (H.length + 1) 0) (.sl (VT.css l) .none) (.sl (zaG P) .none) (.sl (zaG R) .none) (.ms (H.length + 2) 0 l.length l.length) (.sl (zaG P) .none) (.int .i64 P.length) (.int .i64 0) _ (zeV H.length K)
   have hZ : ∀ r : List IT, HSc (H ++ [AB.cells [.int .i64 5, .int .i64 n, .sl (VT.css ks) .none], .cells [.int .i64 0, .sl (IT.css vs) .none], .cells (zaV r)]) := fun r => hs.append (by simp [AB.sc, AV.scA, AV.scB, ztE])
   refine zFc (Inv := fun q t67 H' => ∃ i : Nat, i ≤ P.length ∧ q = P.length - i ∧ t67 = .int .i64 i ∧ H' = H ++ [AB.cells [.int .i64 5, .int .i64 n, .sl (VT.css ks) .none], .cells [.int .i64 0, .sl (IT.css vs) .none], .cells (zaV (fill (List.replicate l.length (.mk 0 [])) (P.take i) ((P.map fun j => za7 (l.getD j (.mk 0 0 []))).take i)))]) P.length ?_ ?_
   ·intro _; exact ⟨0, by omega, by omega, rfl, by simp⟩
   ·rintro q t67 H' ⟨i, hi, rfl, rfl, rfl⟩ hsc hlen' hsF Kb hKb
    by_cases hlt : i < P.length
    ·have hPi := hPl _ (List.getElem_mem hlt)
     have hft := zsj (row := List.replicate l.length (.mk 0 [])) hlt (xs := P.map fun j => za7 (l.getD j (.mk 0 0 []))) (by simpa using hlt)
     simp only [List.getElem_map, List.getD_eq_getElem?_getD, List.getElem?_eq_getElem hPi, Option.getD_some] at hft
     simp [zoC, zcf, zig, hlt, hPi]
     have hmem := List.getElem_mem hPi
     refine zIC data hk (l[P[i]]) (by have := h200 _ hmem; omega) _ _ (fun _ => ?_) (hfv _ hmem)
     obtain ⟨x, y, hzz, hx, hy⟩ := zc3 (za7 l[P[i]])
     have hrs := zgB (fill (List.replicate l.length (.mk 0 [])) (P.take i) ((P.map fun j => za7 (l[j]?.getD (.mk 0 0 []))).take i)) P[i] (za7 l[P[i]]) (by simpa using hPi)
     rw [← hft] at hrs
     simp [hzz, hx, hy]
     refine ⟨by rw [zdn]; simp; omega, ?_⟩
     rw [zas (by omega) (by omega)]
     refine hKb _ _ ⟨P.length - (i + 1), by omega, Back.at (J := []) (H2 := H ++ [AB.cells [.int .i64 5, .int .i64 n, .sl (VT.css ks) .none], .cells [.int .i64 0, .sl (IT.css vs) .none], .cells (zaV (fill (List.replicate l.length (.mk 0 [])) (P.take (i + 1)) ((P.map fun j => za7 (l[j]?.getD (.mk 0 0 []))).take (i + 1))))]) ?_ (by simp) (hZ _) ?_ ⟨_, rfl, i + 1, by omega, rfl, by simp, by simp [List.getD_eq_getElem?_getD]⟩⟩
     ·rw [← hrs, hzz]; simp [List.set_append_right]
     ·simp [zjk, AV.sc, AV.scV, AV.scA, AV.scB]
    ·obtain rfl : i = P.length := by omega
     rw [List.take_length, List.take_of_length_le (by simp)] at *
     have hbase : fill (List.replicate l.length (.mk 0 [])) P (P.map fun j => za7 (l.getD j (.mk 0 0 []))) = zaH l P := rfl
     rw [hbase]
     have hbl : (zaH l P).length = l.length := by simp [zaH]
     generalize zaH l P = base at *
     have hHB : HSc (H ++ [AB.cells [.int .i64 5, .int .i64 n, .sl (VT.css ks) .none], .cells [.int .i64 0, .sl (IT.css vs) .none], .cells (zaV base)]) := hZ base
     simp [zoC, zcf]
     refine zpZ R _ _ base vs _ ⟨zdn _, znq _, .inl ⟨H.length + 2, by rw [hbl], by simp⟩⟩ (fun p hp => by rw [hbl]; exact hRl p hp) (by omega) (by omega) (by omega) (zim (by omega) (by omega)) ?_
     intro id H1 hp1 hsc1 hR1
     have hp0 : H <+: H1 := List.IsPrefix.trans ⟨_, rfl⟩ hp1
     have hg1 : H1[H.length + 1]? = some (.cells [.int .i64 0, .sl (IT.css vs) .none]) := by rw [zgz hp1 (by simp)]; simp
     have hg2 : H1[H.length + 2]? = some (.cells (zaV base)) := by rw [zgz hp1 (by simp)]; simp
     have hfin1 : zcn base P R c vs = [] → zgQ (.ov id (zba base R vs).length) H1 (zeV H.length K) := fun h0 => by
      rw [h0, List.append_nil] at hwide hnds hlen hK
      exact zui hp0 hs (hR1.weaken (by simp)) hwide (by omega) hnds (by omega) K hK
     simp [hg1]
     cases vs with
     | nil =>
      simp
      exact hfin1 rfl
     | cons x rest =>
      obtain ⟨c', ps⟩ := x
      have hg1' : H1[H.length + 1]? = some (.cells [.int .i64 0, .sl ([.int .i64 c', .sl (IT.css ps) .none] :: IT.css rest) .none]) := by rw [hg1]; simp [IT.css, IT.cs]
      simp [hg1']
      by_cases hcc : c' = c
      ·subst hcc
       have hpsl : ps.length = P.length := by
        rw [← hpk]
        simp only [rdE] at hrE
        by_cases h1 : c' < 0 ∨ 8 ≤ c'
        ·rw [if_pos h1] at hrE; omega
        ·rw [if_neg h1, hpay] at hrE
         by_cases h2 : (pick l bs).length = ps.length
         ·exact h2.symm
         ·simp only [if_neg h2] at hrE; omega
       have hHid : H.length + 3 ≤ id := by have := hR1.1; simpa using this
       have hH1l := (List.getElem?_eq_some_iff.1 hg2).1
       have hcut : ∀ r : List IT, r.length = l.length → HSc (H1.set (H.length + 2) (.cells (zaV r))) := fun r hr => hsc1.set (by simp [AB.sc, ztE])
       simp
       refine zFd (Inv := fun q t104 H' => ∃ i : Nat, i ≤ P.length ∧ q = P.length - i ∧ t104 = .int .i64 i ∧ H' = H1.set (H.length + 2) (.cells (zaV (fill base (P.take i) (ps.take i))))) P.length ?_ ?_
       ·intro _; exact ⟨0, by omega, by omega, rfl, by simp [ztU hg2]⟩
       ·rintro q t104 H' ⟨i, hi, rfl, rfl, rfl⟩ hsc hlen' hsF Kb hKb
        have hga : (H1.set (H.length + 2) (.cells (zaV (fill base (P.take i) (ps.take i)))))[H.length + 1]? = some (.cells [.int .i64 0, .sl ([.int .i64 c', .sl (IT.css ps) .none] :: IT.css rest) .none]) := by
         rw [List.getElem?_set_ne (by omega)]; exact hg1'
        have hgb : (H1.set (H.length + 2) (.cells (zaV (fill base (P.take i) (ps.take i)))))[H.length + 2]? = some (.cells (zaV (fill base (P.take i) (ps.take i)))) := List.getElem?_set_self hH1l
        by_cases hlt : i < P.length
        ·have hlp : i < ps.length := by omega
         obtain ⟨x, y, hzz, hx, hy⟩ := zc3 ps[i]
         have hrs := zgB (fill base (P.take i) (ps.take i)) P[i] ps[i] (by rw [ze4, hbl]; exact hPl _ (List.getElem_mem hlt))
         rw [← zsj hlt hlp] at hrs
         have hPi := hPl _ (List.getElem_mem hlt)
         simp [zoD, zcf, zig, hlt, hlp, hga, hgb, hPi, hzz, hx, hy]
         refine ⟨by rw [zdn, ze4, hbl]; omega, ?_⟩
         have hcell : List.take (P[i] * 2) (zaV (fill base (List.take i P) (List.take i ps))) ++ x :: y :: List.drop (P[i] * 2 + 2) (zaV (fill base (List.take i P) (List.take i ps))) = zaV (fill base (P.take (i + 1)) (ps.take (i + 1))) := by rw [← hrs, hzz]; simp
         rw [hcell, zas (by omega) (by omega)]
         refine hKb _ _ ⟨P.length - (i + 1), by omega, Back.at (J := []) (H2 := H1.set (H.length + 2) (.cells (zaV (fill base (P.take (i + 1)) (ps.take (i + 1)))))) (by simp) (by simp) (hcut _ (by rw [ze4, hbl])) ?_ ⟨_, rfl, i + 1, by omega, rfl, by simp, rfl⟩⟩
         have hidl := (List.getElem?_eq_some_iff.1 hR1.2.choose_spec.1).1
         simp [zjl, AV.sc, AV.scV, AV.scA, AV.scB, hidl]
         omega
        ·obtain rfl : i = P.length := by omega
         rw [List.take_length, ← hpsl, List.take_length] at *
         simp [zoD, zcf, hg1']
         refine ⟨fun a ha => zlY ha, ?_⟩
         rw [List.take_of_length_le (show (IT.css rest).length ≤ rest.length by simp)]
         have hrow1 : (fill base P ps).length = l.length := by rw [ze4, hbl]
         refine zpZ R _ _ (fill base P ps) rest _ ⟨zdn _, znq _, .inl ⟨H.length + 2, by rw [hrow1], hgb⟩⟩ (fun p hp => by rw [hrow1]; exact hRl p hp) (by omega) (by simp at hl6; omega) (by omega) (zim (by simp at hl6; omega) (by omega)) ?_
         intro id2 H2 hp2 hsc2 hR2
         have hlen1 : (H1.set (H.length + 2) (.cells (zaV (fill base P ps)))).length = H1.length := by simp
         have hag : ∀ k, H.length + 3 ≤ k → k < H1.length → H2[k]? = H1[k]? := fun k hk1 hk2 => by
          rw [zgz hp2 (by rw [hlen1]; exact hk2), List.getElem?_set_ne (by omega)]
         have hpH2 : H <+: H2 := List.IsPrefix.trans (zio hp0 (by omega)) hp2
         have hR1' : RowsH H2 H.length id (zba base R (.mk c' ps :: rest)) := (RowsH.agree hR1 (fun k hk1 hk2 => hag k (by simpa using hk1) hk2)).weaken (by simp)
         have hidl := (List.getElem?_eq_some_iff.1 hR1.2.choose_spec.1).1
         have hsec : zcn base P R c' (.mk c' ps :: rest) = zba (fill base P ps) R rest := by simp [zcn]
         rw [hsec] at hwide hnds hlen hK
         rw [List.length_append] at hlen
         refine zzc hR1' hR2 (by rw [hlen1]; exact hidl) (by rw [hlen1]; omega) (by omega) hsc2 fun H4 hs4 hR4 hpre4 => ?_
         exact zui (hpre4 H hpH2 (by omega)) hs hR4 hwide (by omega) hnds (by rw [List.length_append]; omega) K hK
      ·have hcb : (c' == c) = false := by simpa using hcc
       simp [hcb]
       exact hfin1 (by simp [zcn, hcc])
 ·have hb : (k != 5) = true := by simpa using h5
  simp [hb]
  exact ⟨⟨rfl, rfl⟩, zfM hs (hbad 6 (by simp [zcC, hd, VT.kind, h5]))⟩
def dOne : List Dat := [⟨[68], 0, [⟨[67], []⟩]⟩]
theorem zr4 : za8 dOne := by
 refine ⟨by simp [dOne], fun d hd => ?_⟩
 simp [dOne] at hd
 subst hd
 refine ⟨by simp, by simp, fun c hc => ?_⟩
 simp at hc
 subst hc
 exact ⟨by simp, by simp, by simp⟩
theorem zr3 : zaR dOne (.mk 5 0 []) 0 = some [] := by kernel_rfl
theorem zzH : zcC dOne (.mk 5 0 []) 0 (.mk 0 [.mk 0 []]) = none := by kernel_rfl
theorem zzf (H : zaa) (K : Kt) (hK : K (.bool true) H) : ACalls tP zmU [] H K := by
 refine ACalls.out (zIi fun hs => ?_)
 simp [zwN, zaC, za6, zaz, zbq, zaD, AV.pd, AV.known, Nat.add_assoc]
 obtain ⟨bs, hlb, hl8, hpay, h200, _, hsc, _⟩ := zni zr4 zr3
 have hbs : bs = [] := by cases bs <;> simp_all
 subst hbs
 have hgo : ∀ (H : zaa) (K : Kt), K (.tup [.sl [[.sl [] .none]] .none, .int .i64 0]) H → ACalls tP zgf [.sl (dOne.map Dat.cs) .none, .agg (VT.mk 5 0 []).cs, .int .i64 0, .agg (IT.mk 0 [.mk 0 []]).cs] H K := fun H K hK => by
  refine zvP dOne zr4 (.mk 5 0 []) (by decide) 0 (.mk 0 [.mk 0 []]) (by decide) H K (fun e he => by rw [zzH] at he; cases he) (fun _ => ⟨[], [], zr3, rfl, by simp, by simp, hpay, hsc, fun rs hp _ => ?_⟩)
  have hr : zb8 [] [] 0 (zsA (.mk 0 [.mk 0 []])) = [[]] := by kernel_rfl
  rw [hr] at hp
  obtain rfl := List.perm_singleton.1 hp
  exact hK
 refine ACalls.wk (hgo H _ ?_) ⟨.atom (.sl _ _), .agg ⟨.refl _, .refl _, .snil, trivial⟩, .atom (.refl _), .agg ⟨.refl _, .sl _ _, trivial⟩, trivial⟩
 simp
 exact Out.bool (J := []) (by simp) (Nat.le_refl _) hs hK
theorem zBt (data : List Dat) (hlen : data.length ≤ 9223372036854775807) (t : VT) (H : zaa) (K : Kt) (hK : ∀ b, (b = true → za8 data ∧ t.nodes ≤ 250) → K (.bool b) H) : ACalls tP zm9 [.sl (data.map Dat.cs) .none, .agg t.cs] H K := by
 refine ACalls.out (zNH fun hs => ?_)
 have hO : ∀ b, (b = true → za8 data ∧ t.nodes ≤ 250) → ∀ J, Out H.length K (.bool b) (H ++ J) := fun b h J => Out.bool rfl (Nat.le_refl _) hs (hK b h)
 obtain ⟨x, y, z, hvx, hx, hy, hz⟩ := zaM t
 simp [zq9, hvx, Nat.add_assoc]
 refine zIu data _ _ hlen fun b1 hb1 => ?_
 cases b1 with
 | false =>
  simp
  exact hO _ (fun h => by cases h) _
 | true =>
  simp [Nat.add_assoc]
  rw [← hvx]
  refine zIy t _ _ fun b2 hb2 => ?_
  try simp
  exact hO _ (fun h => ⟨hb1 rfl, hb2 h⟩) _
end Go.Proofs.YtjkkonpjecoieaaGreat
