import Derived.Test.YtacebbdfgbfgiaaGreatKNum
import Derived.Test.YtacebbdfgbfgiaaGreatProg
import Derived.KernelRfl
import Derived.Test.YtacebbdfgbfgiaaGreatAbsT
set_option linter.unusedSimpArgs false
set_option linter.unusedVariables false
namespace Go.Proofs.YtacebbdfgbfgiaaGreat
open Go Go.Abs
set_option maxRecDepth 100000
def zi5 : Nat → List Bool
 | 9 => rl false [3,1,8,2,30,3,18]
 | _ => []
noncomputable def zm1 : Code := Tryz.f7.body.getD .skip
noncomputable def zCD : List ResultVar := Tryz.f7.results.toList
def zf7 (t3 t12 t13 t44 t45 t46 : AV) : List AV := ux 3 (t3 :: ux 8 (t12 :: t13 :: ux 30 (t44 :: t45 :: t46 :: ux 18 [])))
def zCB : List Bool := zi5 9
noncomputable def zCz : Code := zap [1, 1, 1, 1, 1, 1, 0, 1, 0, 0] zm1
def zCy (K : Kt) : AExit → List AV → zaa → Prop := zaq tP zi5 [1, 1, 1, 1, 1, 1, 0, 1, 0] zm1 (zax tP zCD K)
def zsB (t3 t12 t13 t44 t45 t46 : AV) (H : zaa) (K : Kt) : Prop := ALoop tP zCz (zCy K) (zf7 t3 t12 t13 t44 t45 t46) H
def zi6 (t3 t12 t13 t44 t45 t46 : AV) (H : zaa) (K : Kt) (Kb9 : Lt) : Prop :=
 zac .lss false t46 t45 fun t47 =>
 zag t47
 (zai 1 t44 t46 fun t48 =>
 zad false 1 t48 H fun t49 =>
 zab t13 false H (fun K' => K' t49 H) fun t52 H =>
 zab t13 false H (fun K' => K' t3 H) fun t53 H =>
 zab t13 false H (fun K' => ACalls tP zeC [t52, t53] H K') fun t54 H =>
 zaj t13 (.bool true) t54 fun t55 =>
 zac .add false t46 (.int .i64 1) fun t56 =>
 Kb9 (zf7 t3 t12 t55 t44 t45 t56) H)
 (zac .eql false t12 (.int .i64 0) fun t58 =>
 zab t58 true H (fun K' => K' t13 H) fun t60 H =>
 zaj t58 t60 (.bool false) fun t61 =>
 zab t61 true H (fun K' => ACalls tP zfu [] H K') fun t63 H =>
 zaj t61 t63 (.bool false) fun t64 =>
 K t64 H)
def zq5 (t0 t1 t2 t3 : AV) (H : zaa) (K : Kt) : Prop :=
 zas t1 H fun t5 H =>
 zad true 3 t5 H fun t17 =>
 ACalls tP zgT [t0, t17] H fun t18 H =>
 aUn .not t18 fun t19 =>
 zab t19 false H (fun K' => K' t3 H) fun t21 H =>
 zab t19 false H (fun K' => ACalls tP zgE [t21, (.int .i64 8)] H K') fun t22 H =>
 zab t19 false H (fun K' => aUn .not t22 (K' · H)) fun t23 H =>
 zaj t19 (.bool true) t23 fun t24 =>
 zag t24
 (K (.bool true) H)
 (zad true 3 t5 H fun t27 =>
 ACalls tP zfA [t0, t27, t2, t3] H fun t30 H =>
 zar t30 0 fun t31 =>
 zar t30 1 fun t32 =>
 zav [(.int .i64 0), .snil] H fun t9 H =>
 zak 2 t9 t31 H fun H =>
 zac .neq false t32 (.int .i64 0) fun t34 =>
 zag t34
 (ACalls tP zfu [] H fun t35 H =>
 K t35 H)
 (zad true 3 t5 H fun t38 =>
 zad true 2 t9 H fun t40 =>
 ACalls tP zfJ [t0, t38, t2, t40] H fun t41 H =>
 zar t41 0 fun t42 =>
 zar t41 1 fun t43 =>
 zah 1 t42 fun t45 =>
 zsB t3 t43 (.bool false) t42 t45 (.int .i64 0) H K))
theorem zCA {t3 t12 t13 t44 t45 t46 : AV} {H : zaa} {K : Kt} (Inv : Nat → AV → AV → zaa → Prop) (n : Nat) (h0 : HSc H → Inv n t13 t46 H)
  (round : Rd2 (fun t13 => fun t46 => zf7 t3 t12 t13 t44 t45 t46) (fun t13 => fun t46 => fun H Kb9 => zi6 t3 t12 t13 t44 t45 t46 H K Kb9) H Inv) : zsB t3 t12 t13 t44 t45 t46 H K :=
 lp2 (M := zi5) zCB t13 t46 (by kernel_rfl) Inv n h0 round
theorem zCC {t0 t1 t2 t3 : AV} {H : zaa} {K : Kt} (h : HSc H → zq5 t0 t1 t2 t3 H K) : ACalls tP zkI [t0, t1, t2, t3] H K :=
 zao (M := zi5) Tryz.func7 (c := zm1) (by kernel_rfl) (fun hs => Eq.mpr (by kernel_rfl) (h hs))
end Go.Proofs.YtacebbdfgbfgiaaGreat
namespace Go.Proofs.YtacebbdfgbfgiaaGreat
open Go Go.Abs
set_option maxRecDepth 8000
theorem zp4 (ks ks' : List IT) (hb : ks.length ≤ 1000000)
  (hc : ∀ (i : Nat) (h : i < ks.length) (h' : i < ks'.length) (H : zaa) (K : AV → zaa → Prop), K (.bool (IT.same ks[i] ks'[i])) H → ACalls tP zdz [.agg ks[i].cs, .agg ks'[i].cs] H K)
  (H : zaa) (K : AV → zaa → Prop) (hK : K (.bool (IT.sameL ks ks')) H) : ACalls tP zeC [.sl (IT.css ks) .none, .sl (IT.css ks') .none] H K := by
 refine ACalls.out (zrx fun hs => ?_)
 have fin := zd4 (K := K) (H := H) (r := .bool (IT.sameL ks ks')) hs rfl rfl hK
 by_cases he : ks.length = ks'.length
 ·simp [zh2, he]
  refine zrw (Inv := fun q t13 H' => ∃ i : Nat, i ≤ ks.length ∧ q = ks.length - i ∧ t13 = .int .i64 i ∧ IT.sameL (ks.drop i) (ks'.drop i) = IT.sameL ks ks' ∧ H' = H) ks.length ?_ ?_
  ·intro _; exact ⟨0, by omega, by omega, rfl, by simp, rfl⟩
  ·rintro q t8 H' ⟨i, hi, rfl, rfl, ho, rfl⟩ hsc hlen hsF Kb hKb
   by_cases hlt : i < ks.length
   ·have hlt' : i < ks'.length := by omega
    rw [IT.sameL_drop hlt hlt'] at ho
    simp [zfZ, hlt, hlt']
    refine zbF _ (fun J => hc i hlt hlt' _ _ ⟨rfl, rfl⟩) ?_
    cases hz : IT.same ks[i] ks'[i] with
    | true =>
     rw [hz, Bool.true_and] at ho
     simp
     rw [zan (by omega) (by omega)]
     refine hKb _ _ ⟨ks.length - (i + 1), by omega, Back.here (Nat.le_refl _) hs ?_ ⟨_, rfl, i + 1, by omega, rfl, by simp, ho, rfl⟩⟩
     simp [zf0, AV.sc, AV.scV, AV.scA, AV.scB]
    | false =>
     rw [hz, Bool.false_and] at ho
     simp
     rw [← ho] at fin
     exact fin
   ·have hlt' : ¬ i < ks'.length := by omega
    simp [zfZ, hlt, hlt']
    obtain rfl : i = ks.length := by omega
    rw [List.drop_length, he, List.drop_length] at ho
    rw [← ho] at fin
    exact fin
 ·have hb : ((ks.length : Int) != ks'.length) = true := by simp; omega
  simp [zh2, hb]
  have e : IT.sameL ks ks' = false := by
   cases h : IT.sameL ks ks' with
   | false => rfl
   | true => exact absurd (IT.sameL_len _ _ h) he
  rw [e] at fin
  exact fin
theorem zv1 : ∀ (m : Nat) (v w : IT), v.nodes ≤ m → v.nodes ≤ 1000000 → ∀ (H : zaa) (K : AV → zaa → Prop), K (.bool (IT.same v w)) H → ACalls tP zdz [.agg v.cs, .agg w.cs] H K := by
 intro m
 induction m with
 | zero => intro v w h; have := v.nodes_pos; omega
 | succ m ih =>
  intro v w hv hb H K hK
  obtain ⟨n, ks⟩ := v
  obtain ⟨n', ks'⟩ := w
  have hnl : IT.nodesL ks + 1 ≤ 1000000 := by simpa [IT.nodes] using hb
  have hll := IT.len_le ks
  refine ACalls.out (zrH fun hs => ?_)
  have fin : ∀ J, Out H.length K (.bool (IT.same (.mk n ks) (.mk n' ks'))) (H ++ J) := fun J => Out.same rfl hs rfl rfl hK
  cases h2 : (n == n') with
  | false =>
   simp [IT.cs, zie, h2]
   simp only [IT.same, h2, Bool.false_and] at fin
   exact fin _
  | true =>
   simp [IT.cs, zie, h2]
   simp only [IT.same, h2, Bool.true_and] at fin
   refine zp4 ks ks' (by omega) (fun i h h' H K hK => ?_) _ _ ?_
   ·have := IT.kid_lt (n := n) h
    exact ih _ _ (by omega) (by omega) H K hK
   ·exact fin _
theorem zvY (x : List IT) : IT.sameL x x = true := by
 have := IT.cmpL_anti x x
 exact (IT.cmpL_zero x x).1 (by omega)
theorem zt1 (a b : List IT) (hl : a.length ≤ 1000000) (hn : ∀ x ∈ a, x.nodes ≤ 1000000) (H : zaa) (K : Kt) (hK : K (.bool (IT.sameL a b)) H) : ACalls tP zeC [.sl (IT.css a) .none, .sl (IT.css b) .none] H K :=
 zp4 a b hl (fun i h h' H K hK => zv1 _ _ _ (Nat.le_refl _) (hn _ (List.getElem_mem h)) H K hK) H K hK
theorem zpM {v : Bool} {bs : List Bool} {j : Nat} (h : j < bs.length) (hb : bs.getD j false = v) : j ∈ pos v bs bs.length := by
 simp [List.getD_eq_getElem?_getD, h] at hb
 simp [pos, h, hb]
theorem zuT {l : List VT} {bs : List Bool} {c : Int} {row : List IT} (hlb : l.length = bs.length) (hrow : row.length = l.length) (h0 : ∀ j, j < bs.length → bs.getD j false = true → ∃ ks, row.getD j d0 = .mk 0 ks) :
  row ∈ zcv l bs c (zaC (zbu c (pos false bs bs.length) (pos true bs bs.length) row)) := by
 have hPn : (pos false bs bs.length).Nodup := List.Pairwise.filter _ List.nodup_range
 have hRn : (pos true bs bs.length).Nodup := List.Pairwise.filter _ List.nodup_range
 have hPl : ∀ j ∈ pos false bs bs.length, j < l.length := fun j hj => by have := zcH hj; omega
 have hRl : ∀ j ∈ pos true bs bs.length, j < l.length := fun j hj => by have := zcH hj; omega
 have hRb : ∀ j ∈ pos true bs bs.length, bs.getD j false = true := fun j hj => by
  simp [pos] at hj; rw [List.getD_eq_getElem?_getD]; exact hj.2
 have hcase : ∀ j, j < l.length → (j ∈ pos true bs bs.length ∧ bs.getD j false = true) ∨ (j ∈ pos false bs bs.length ∧ j ∉ pos true bs bs.length) := fun j hj => by
  cases hb : bs.getD j false with
  | true => exact .inl ⟨zpM (by omega) hb, rfl⟩
  | false => exact .inr ⟨zpM (by omega) hb, fun h => by rw [hRb j h] at hb; cases hb⟩
 unfold zcv
 rw [List.mem_append]
 right
 have e : zaC (zbu c (pos false bs bs.length) (pos true bs bs.length) row) = .mk c ((pos false bs bs.length).map fun j => row.getD j d0) :: ((pos true bs bs.length).map fun j => zaC (row.getD j d0)).flatten := rfl
 rw [e]
 simp only [zcI, if_true]
 generalize pos false bs bs.length = P at *
 generalize pos true bs bs.length = R at *
 rw [zgr, List.mem_map]
 refine ⟨R.map fun j => zaC (row.getD j d0), ?_, ?_⟩
 ·have := zp6 (R.map fun j => zaC (row.getD j d0))
  simpa using this
 ·refine List.ext_getElem? fun j => ?_
  by_cases hj : j < l.length
  ·have hbl : (zbJ l P).length = l.length := by simp [zbJ]
   have hrj : row[j]? = some (row.getD j d0) := by simp [List.getD_eq_getElem?_getD, hrow, hj]
   rcases hcase j hj with ⟨hR, hb⟩ | ⟨hP, hR⟩
   ·obtain ⟨k, hk, rfl⟩ := List.getElem_of_mem hR
    have := zkc R (fill (zbJ l P) P (P.map fun j => row.getD j d0)) ((R.map fun j => zaC (row.getD j d0)).map (IT.mk 0)) hRn (by simp) (fun p hp => by rw [zdu, hbl]; exact hRl p hp) k hk (by simpa using hk)
    rw [this, hrj]
    simp only [List.getElem_map]
    obtain ⟨kk, hkk⟩ := h0 R[k] (by omega) hb
    rw [hkk]; rfl
   ·rw [zke R _ _ _ hR]
    obtain ⟨k, hk, rfl⟩ := List.getElem_of_mem hP
    have := zkc P (zbJ l P) (P.map fun j => row.getD j d0) hPn (by simp) (fun p hp => by rw [hbl]; exact hPl p hp) k hk (by simpa using hk)
    rw [this, hrj]
    simp
  ·rw [List.getElem?_eq_none (by rw [zdu, zdu]; simp [zbJ]; omega), List.getElem?_eq_none (by omega)]
theorem zuR {data : List Dat} {t : VT} {c : Int} {row : List IT} {l : List VT} (hf : zaJ data t c = some l) (h : zbi data t c row = 0) :
  zaX data t = true ∧ t.kind = 5 ∧ ¬ (c < 0 ∨ ((data.getD t.num.toNat ⟨[], 0, []⟩).cons.length : Int) ≤ c) ∧ row.length = zcP data t c ∧ (∀ j, j < row.length → 0 ≤ zaI data l row j) ∧ 1 + ((List.range row.length).map (zaI data l row)).sum ≤ 6 := by
 unfold zbi at h
 rw [hf] at h
 split at h
 ·cases h
 ·rename_i h1
  split at h
  ·cases h
  ·rename_i h2
   split at h
   ·cases h
   ·rename_i h3
    split at h
    ·cases h
    ·rename_i h4
     simp only at h
     split at h
     ·cases h
     ·rename_i h5
      split at h
      ·cases h
      ·rename_i h6
       refine ⟨by simpa using h1, by simpa using h2, h3, by simpa using h4, fun j hj => ?_, by omega⟩
       refine Int.not_lt.1 fun hn => h5 ⟨j, hj, hn⟩
theorem zuS {data : List Dat} (hk : zaZ data) {t : VT} {c : Int} {row : List IT} {l : List VT} {bs : List Bool} (hf : zaJ data t c = some l) (hlb : l.length = bs.length) (hpay : zbg data t c = some (pick l bs)) (hrt : ∀ j, bs.getD j false = true → l.getD j tz = .mk 5 t.num t.kids) (h : zbi data t c row = 0) :
  zcB data t c (zbu c (pos false bs bs.length) (pos true bs bs.length) row) = none ∧ row.length = l.length ∧ (∀ j, j < bs.length → bs.getD j false = true → ∃ ks, row.getD j d0 = .mk 0 ks) ∧ (zaC (zbu c (pos false bs bs.length) (pos true bs bs.length) row)).length ≤ 6 := by
 obtain ⟨hfine, h5, hc8, harg, hval, h6⟩ := zuR hf h
 obtain ⟨k, n, ks⟩ := t
 simp only [VT.kind] at h5
 subst h5
 obtain ⟨_, _, _, _, _, _, _, _, _, hc0, hn, hc, hla⟩ := zhc hk hf
 have hN : zcP data (.mk 5 n ks) c = (data[n.toNat].cons[c.toNat]).args.length := by
  simp [zcP, VT.num, List.getD_eq_getElem?_getD, hn, hc]
 have hrl : row.length = l.length := by rw [harg, hN, hla]
 have h8 := zfm hfine
 have hrv : ∀ j, j < bs.length → zaI data l row j = rdV data (row.getD j d0) (l.getD j tz) := fun j hj => by
  have := hval j (by omega)
  unfold zaI zaP at this ⊢
  by_cases h : zaX data (l.getD j tz) = true
  ·rw [if_pos h]
  ·rw [if_neg h] at this; omega
 have hfd := zoU h8 hlb hpay hrt row (fun j hj => by rw [← hrv j hj]; exact hval j (by omega))
 have hsm : ((List.range bs.length).map fun j => rdV data (row.getD j d0) (l.getD j tz)).sum = ((List.range row.length).map (zaI data l row)).sum := by
  rw [show row.length = bs.length by omega]
  congr 1
  exact List.map_congr_left fun j hj => (hrv j (by simpa using hj)).symm
 rw [hsm, if_neg (by omega)] at hfd
 have hsn : 0 ≤ ((List.range row.length).map (zaI data l row)).sum := zeN _ _ (fun j hj => hval j (by simpa using hj))
 have hdo : zaP data (.mk 5 n ks) (zbu c (pos false bs bs.length) (pos true bs bs.length) row) = rdV data (zbu c (pos false bs bs.length) (pos true bs bs.length) row) (.mk 5 n ks) := by unfold zaP; rw [if_pos hfine]
 refine ⟨?_, hrl, fun j hj hb => ?_, ?_⟩
 ·unfold zcB
  rw [if_neg (by rw [hdo, hfd]; omega), if_neg (by simp [VT.kind]), if_neg hc8, if_neg (by rw [hf]; simp)]
 ·have := hval j (by omega)
  rw [hrv j hj, hrt j hb] at this
  generalize row.getD j d0 = x at *
  obtain ⟨m, kk⟩ := x
  simp only [VT.num, VT.kids] at this
  rw [zhg] at this
  by_cases hm : m = 0 ∧ kk.length ≤ 6
  ·exact ⟨kk, by rw [hm.1]⟩
  ·rw [if_neg hm] at this; omega
 ·rw [zbu, zhg] at hfd
  by_cases hm : (0 : Int) = 0 ∧ ((IT.mk c ((pos false bs bs.length).map fun j => row.getD j d0)) :: ((pos true bs bs.length).map fun j => zaC (row.getD j d0)).flatten).length ≤ 6
  ·exact hm.2
  ·rw [if_neg hm] at hfd; omega
theorem zt2 (data : List Dat) (hlen : data.length ≤ 9223372036854775807) (t : VT) (c : Int) (row : List IT) (hrow : row.length ≤ 9223372036854775807) (H : zaa) (K : Kt) (hK : K (.bool true) H) :
  ACalls tP zkI [.sl (data.map Dat.cs) .none, .agg t.cs, .int .i64 c, .sl (IT.css row) .none] H K := by
 refine ACalls.out (zCC fun hs => ?_)
 have hO : ∀ J, Out H.length K (.bool true) (H ++ J) := fun J => Out.bool rfl (Nat.le_refl _) hs hK
 obtain ⟨x, y, z, hvx, hx, hy, hz⟩ := zbd t
 simp [zq5, hvx, Nat.add_assoc]
 rw [← hvx]
 refine zqf data hlen t _ _ fun b1 hb1 => ?_
 cases b1 with
 | false =>
  simp
  exact hO _
 | true =>
  obtain ⟨hk, ht⟩ := hb1 rfl
  simp [Nat.add_assoc]
  refine zrA row hrow _ _ fun b2 hb2 => ?_
  cases b2 with
  | false =>
   simp
   exact hO _
  | true =>
   obtain ⟨hrl, hrn⟩ := hb2 rfl
   obtain ⟨v, hvn, h1, _, hE⟩ := zoT data hk t (by omega) c row hrl hrn
   obtain ⟨p, q, hvv, hp, hq⟩ := zb2 v
   simp [hvx, Nat.add_assoc]
   rw [← hvx]
   refine h1 _ _ ?_
   rw [hvv]
   by_cases he : zbi data t c row = 0
   ·rw [he]
    simp [hp, hq, hvx]
    rw [← hvx, ← hvv]
    obtain ⟨l, bs, hf, hlb, hl8, hvo, hpay, h200, hrt, hsc⟩ := hE he
    obtain ⟨hcons, hrlen, h0, hk6⟩ := zuS hk hf hlb hpay hrt he
    rw [← hvo] at hcons hk6
    have hmem : row ∈ zcv l bs c (zaC v) := by rw [hvo]; exact zuT hlb hrlen h0
    refine ztn data hk t (by omega) c v hvn _ _ (fun e h => by rw [hcons] at h; cases h) (fun _ => ⟨l, bs, hf, hlb, hl8, h200, hpay, hsc, fun rs hp hso => ?_⟩)
    have hmr := hp.mem_iff.2 hmem
    have hwide := zpZ l bs c (zaC v)
    have hnd : ∀ r ∈ rs, ∀ x ∈ r, x.nodes ≤ 1000 := fun r hr => zpY (bs := bs) (c := c) h200 (by obtain ⟨m, kk⟩ := v; simp only [zaC, IT.nodes] at *; omega) r (hp.subset hr)
    have hrw : ∀ r ∈ rs, r.length ≤ 8 := fun r hr => by rw [hwide r (hp.subset hr)]; omega
    have hrsl : rs.length ≤ 200000000 := by rw [hp.length_eq]; exact zpX hk6 (by omega)
    simp [zd6]
    refine zCA (Inv := fun q t13 t46 H' => ∃ i : Nat, i ≤ rs.length ∧ q = rs.length - i ∧ t13 = .bool ((rs.take i).any fun r => IT.sameL r row) ∧ t46 = .int .i64 i ∧ H' = H ++ [.cells t.cs, .cells v.cs]) rs.length ?_ ?_
    ·intro _; exact ⟨0, by omega, by omega, by simp, rfl, by simp⟩
    ·rintro q t13 t46 H' ⟨i, hi, rfl, rfl, rfl, rfl⟩ hsc' hlen' hsF Kb hKb
     by_cases hlt : i < rs.length
     ·have hst : (rs.take (i + 1)).any (fun r => IT.sameL r row) = ((rs.take i).any (fun r => IT.sameL r row) || IT.sameL rs[i] row) := by
       rw [List.take_succ_eq_append_getElem hlt, List.any_append]; simp
      have hnext : Kb (zf7 (.sl (IT.css row) .none) (.int .i64 0) (.bool ((rs.take (i + 1)).any fun r => IT.sameL r row)) (.sl (rs.map fun r => [.sl (IT.css r) .none]) .none) (.int .i64 rs.length) (.int .i64 ((i : Int) + 1))) (H ++ [.cells t.cs, .cells v.cs]) := by
       refine hKb _ _ ⟨rs.length - (i + 1), by omega, Back.at (J := []) (H2 := H ++ [.cells t.cs, .cells v.cs]) (by simp) (by simp) hsc' ?_ ⟨_, _, rfl, i + 1, by omega, rfl, rfl, by simp, rfl⟩⟩
       simp [zf7, AV.sc, AV.scV, AV.scA, AV.scB]
      rw [hst] at hnext
      cases hb : (rs.take i).any fun r => IT.sameL r row with
      | true =>
       rw [hb, Bool.true_or] at hnext
       simp [zi6, hlt]
       rw [zan (by omega) (by omega)]
       exact hnext
      | false =>
       rw [hb, Bool.false_or] at hnext
       simp [zi6, hlt]
       refine zt1 rs[i] row (by have := hrw _ (List.getElem_mem hlt); omega) (fun x hx => by have := hnd _ (List.getElem_mem hlt) x hx; omega) _ _ ?_
       try simp
       rw [zan (by omega) (by omega)]
       exact hnext
     ·obtain rfl : i = rs.length := by omega
      rw [List.take_length]
      have hany : (rs.any fun r => IT.sameL r row) = true := List.any_eq_true.2 ⟨row, hmr, zvY row⟩
      rw [hany]
      simp [zi6]
      refine zj0 _ _ ?_
      try simp
      exact hO _
   ·have heb : (zbi data t c row != 0) = true := by simpa using he
    simp [hp, hq, heb]
    refine zj0 _ _ ?_
    try simp
    exact hO _
end Go.Proofs.YtacebbdfgbfgiaaGreat
