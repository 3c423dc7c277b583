import Derived.Test.YtjkkonpjecoieaaGreatKZL
import Derived.Test.YtjkkonpjecoieaaGreatAbsW
import Derived.Deep.Slices
import Derived.DataReads
set_option linter.unusedSimpArgs false
set_option linter.unusedVariables false
namespace Go.Proofs.YtjkkonpjecoieaaGreat
open Go Go.Abs
set_option maxRecDepth 8000
theorem zDr {data : List Dat} {ks : List IT} {tks vs : List VT} (hl1 : ks.length = tks.length) (hl2 : vs.length = tks.length) (hvn : ∀ v ∈ vs, v.nodes ≤ 1000) (hrd : 0 ≤ rdA data ks tks 0) (g : Nat → IT → Nat)
  (hg : ∀ (j : Nat) (h1 : j < ks.length) (h2 : j < tks.length) (h3 : j < vs.length), g j ks[j] = atV data ks[j] tks[j] vs[j]) :
  ∀ j, j ≤ tks.length → ∃ a : Int, 0 ≤ a ∧ a ≤ 6 ∧ zaM g 0 (ks.take j) ≤ 1000 ^ a.toNat ∧ 0 ≤ rdA data (ks.drop j) (tks.drop j) a ∧ zaM g 0 (ks.take j) * atL data (ks.drop j) (tks.drop j) (vs.drop j) = atL data ks tks vs := by
 intro j
 induction j with
 | zero => intro _; exact ⟨0, by omega, by omega, by simp [zaM], by simpa using hrd, by simp [zaM]⟩
 | succ j ih =>
  intro hj
  obtain ⟨a, ha0, ha6, hp, hr, hprod⟩ := ih (by omega)
  have h1 : j < ks.length := by omega
  have h2 : j < tks.length := by omega
  have h3 : j < vs.length := by omega
  rw [List.drop_eq_getElem_cons h1, List.drop_eq_getElem_cons h2] at hr
  rw [List.drop_eq_getElem_cons h1, List.drop_eq_getElem_cons h2, List.drop_eq_getElem_cons h3] at hprod
  simp only [rdA] at hr
  simp only [atL] at hprod
  by_cases hc : rdV data ks[j] tks[j] < 0 ∨ a + rdV data ks[j] tks[j] > 6
  ·rw [if_pos hc] at hr; omega
  ·rw [if_neg hc] at hr
   have hle := zf6 (N := 1000) (by omega) ks[j] tks[j] vs[j] (hvn _ (List.getElem_mem h3)) (Int.not_lt.1 fun h => hc (.inl h))
   have hpt := znT g ks j h1
   rw [hg j h1 h2 h3] at hpt
   refine ⟨a + rdV data ks[j] tks[j], by omega, by omega, ?_, hr, ?_⟩
   ·rw [hpt, show (a + rdV data ks[j] tks[j]).toNat = a.toNat + (rdV data ks[j] tks[j]).toNat by omega, Nat.pow_add]
    exact Nat.mul_le_mul hp hle
   ·rw [hpt, Nat.mul_assoc]; exact hprod
def zcM (data : List Dat) (t v : VT) (i : IT) : Bool := decide (0 ≤ za0 data t i) && (zbX data v t && (decide (t.kind = 6) || decide (t.kind = 5)))
theorem zKD {data : List Dat} (hk : za5 data) (t : VT) (ht : t.nodes ≤ 250) (v : VT) (hv : v.nodes ≤ 80) (i : IT) (hi : i.nodes ≤ 200) (H : zaa) (K : Kt) (hK : K (.bool (zcM data t v i)) H) :
  ACalls tP zih [.sl (data.map Dat.cs) .none, .agg t.cs, .agg v.cs, .agg i.cs] H K := by
 refine ACalls.out (zKB fun hs => ?_)
 obtain ⟨k, n, ks⟩ := t
 obtain ⟨vk, c, vs⟩ := v
 obtain ⟨m, iks⟩ := i
 obtain ⟨f1, f2, f3⟩ := zc6 hk
 have hTc : (VT.mk k n ks).cs = [.int .i64 k, .int .i64 n, .sl (VT.css ks) .none] := rfl
 have hVc : (VT.mk vk c vs).cs = [.int .i64 vk, .int .i64 c, .sl (VT.css vs) .none] := rfl
 have hIc : (IT.mk m iks).cs = [.int .i64 m, .sl (IT.css iks) .none] := rfl
 simp [zyc, hTc, hVc, hIc, Nat.add_assoc]
 rw [← hTc, ← hVc, ← hIc]
 refine zyu hk (.mk k n ks) (by omega) (.mk m iks) (by omega) (.mk vk c vs) (by omega) _ _ ?_
 unfold atR
 by_cases hd : za0 data (.mk k n ks) (.mk m iks) < 0
 ·have hw : zcM data (.mk k n ks) (.mk vk c vs) (.mk m iks) = false := by unfold zcM; simp; omega
  rw [hw] at hK
  rw [if_pos hd]
  simp [Nat.add_assoc, AV.known]
  exact Out.bool rfl (Nat.le_refl _) hs hK
 ·rw [if_neg hd]
  cases hh : zbX data (.mk vk c vs) (.mk k n ks) with
  | false =>
   have hw : zcM data (.mk k n ks) (.mk vk c vs) (.mk m iks) = false := by unfold zcM; simp [hh]
   rw [hw] at hK
   rw [if_pos rfl]
   simp [Nat.add_assoc, AV.known]
   exact Out.bool rfl (Nat.le_refl _) hs hK
  | true =>
   rw [if_neg (by simp)]
   obtain ⟨hD, htv, hvv⟩ := zte hh
   have hfine : zaY data (.mk k n ks) = true := by
    unfold za0 at hd
    by_cases h : zaY data (.mk k n ks) = true
    ·exact h
    ·rw [if_neg h] at hd; omega
   have h8 := zhO hfine
   have hrd : 0 ≤ rdV data (.mk m iks) (.mk k n ks) := by unfold za0 at hd; rw [if_pos hfine] at hd; omega
   have hWle : atV data (.mk m iks) (.mk k n ks) (.mk vk c vs) ≤ 1000 ^ 6 := AtOk.le h8 ⟨by omega, htv, hrd, hvv, by omega, by omega⟩
   obtain ⟨W, hW⟩ : ∃ W, W = atV data (.mk m iks) (.mk k n ks) (.mk vk c vs) := ⟨_, rfl⟩
   rw [← hW] at hWle ⊢
   simp [Nat.add_assoc, zcn, hTc, hVc, hIc]
   have hs1 : HSc (H ++ [.cells [.int .i64 k, .int .i64 n, .sl (VT.css ks) .none], .cells [.int .i64 vk, .int .i64 c, .sl (VT.css vs) .none], .cells [.int .i64 m, .sl (IT.css iks) .none], .cells (zan (W : Int))]) := hs.append (by simp [AB.sc, zan, AV.scA, AV.scB])
   have hkl := VT.len_le ks
   have hkn : (VT.mk k n ks).nodes = VT.nodesL ks + 1 := by simp [VT.nodes]
   by_cases h6 : k = 6
   ·subst h6
    have hw : zcM data (.mk 6 n ks) (.mk vk c vs) (.mk m iks) = true := by unfold zcM; simp [hh, VT.kind]; omega
    rw [hw] at hK
    rw [rdV] at hrd
    simp only [VT.kind, VT.kids, if_true] at hrd
    by_cases hn : m = 0
    ·by_cases hl : ks.length = iks.length
     ·subst hn
      have hrd : 0 ≤ rdA data iks ks 0 := by
       have h0 := hrd
       simp [hl] at h0
       exact h0
      simp [zav] at hvv
      have hvl := zgo hvv.2
      have hinv := (zgW (data := data) iks ks 0 (by omega) hl.symm hrd).1
      have e : atV data (.mk 0 iks) (.mk 6 n ks) (.mk vk c vs) = atL data iks ks vs := by simp [atV, VT.kind, VT.kids]
      have hvk : ∀ v ∈ vs, v.nodes ≤ 80 := fun v hvm => by have := zd8 (k := vk) (n := c) v hvm; omega
      obtain ⟨g, hg⟩ : ∃ g : Nat → IT → Nat, g = fun k x => atV data x (ks.getD k tz) (vs.getD k tz) := ⟨_, rfl⟩
      have hgj : ∀ (j : Nat) (h1 : j < iks.length) (h2 : j < ks.length) (h3 : j < vs.length), g j iks[j] = atV data iks[j] ks[j] vs[j] := fun j h1 h2 h3 => by
       rw [hg]; simp [List.getD_eq_getElem?_getD, h2, h3]
      have htp := zDr hl.symm hvl (fun v hv => by have := hvk v hv; omega) hrd g hgj
      have hsum : za2 ([iks].map (zaM g 0)) = W := by
       obtain ⟨a, _, _, _, _, h⟩ := htp ks.length (Nat.le_refl _)
       rw [List.take_of_length_le (by omega), List.drop_of_length_le (by omega)] at h
       simp only [atL, Nat.mul_one] at h
       rw [hW, e, ← h]
       simp [za2]
      simp [zaz, za9, zaB, AV.pd, zkP]
      refine zsx hk _ _ vk c vs ks [iks] g W hWle hsum (by simp [hl]) hvl (by omega) (by simp) (fun r hr j hj => ?_) (fun r hr j h1 h2 h3 => ?_) .full (.inr rfl) H K hs hs1 hK
      ·obtain rfl : r = iks := by simpa using hr
       obtain ⟨a, h0, h6, h, _, _⟩ := htp j hj
       exact Nat.le_trans h (Nat.pow_le_pow_right (by omega) (by omega))
      ·obtain rfl : r = iks := by simpa using hr
       have e2 := hinv j h1 h2
       have e4 := zfk hvv.2 j h3 h2
       have e6 := zi0 htv _ (List.getElem_mem h2)
       have e7 : zaY data ks[j] = true := by unfold zaY; rw [hD, e6]; rfl
       have e5 : zbX data vs[j] ks[j] = true := by unfold zbX; rw [e7, e4]; rfl
       have e3 : 0 ≤ za0 data ks[j] r[j] := by unfold za0; rw [if_pos e7]; exact e2
       have g1 := IT.kid_lt (n := 0) h1
       have g2 := VT.kid_lt (k := 6) (n := n) h2
       have g3 := hvk _ (List.getElem_mem h3)
       rw [hgj j h1 h2 h3]
       refine ⟨?_, AtOk.le h8 ⟨by omega, e6, e2, e4, by omega, by omega⟩, by omega, by omega, by omega⟩
       unfold atR; rw [if_neg (by omega), if_neg (by simp [e5])]
     ·simp [hn, hl] at hrd
    ·simp [hn] at hrd
   ·by_cases h5 : k = 5
    ·subst h5
     have hw : zcM data (.mk 5 n ks) (.mk vk c vs) (.mk m iks) = true := by unfold zcM; simp [hh, VT.kind]; omega
     rw [hw] at hK
     obtain ⟨rfl, hn0, hc0, hc8, hn, hc, hkl2, _, hrc, hrl, hkid⟩ := zeA hvv
     obtain ⟨l, hf⟩ : ∃ l, zaR data (.mk 5 n ks) c = some l := by
      cases hf : zaR data (.mk 5 n ks) c with
      | none => simp [zav, hf, zhP] at hvv
      | some l => exact ⟨l, rfl⟩
     have hE : zcN data (.mk 5 n ks) c (.mk m iks) = none := by
      unfold zcN
      rw [if_neg hd, if_neg (by simp [VT.kind]), if_neg, if_neg (by simp [hf])]
      simp only [VT.num, List.getD_eq_getElem?_getD, List.getElem?_eq_getElem hn, Option.getD_some]
      omega
     simp [Nat.add_assoc]
     rw [← hTc, ← hVc, ← hIc]
     refine zwV data hk (.mk 5 n ks) (by omega) c (.mk m iks) (by omega) _ _ (fun e he => by rw [hE] at he; cases he) (fun _ => ?_)
     obtain ⟨bs, hbs, hlb, hl8, hpay, h200, _, hsc, hrec, hrt, _, _⟩ := znN hk hf
     obtain ⟨_, kids, hkids, hrE, hdeg, hk6⟩ := zAG hE
     simp only [IT.mk.injEq] at hkids
     obtain ⟨rfl, rfl⟩ := hkids
     refine ⟨l, bs, hf, hlb, hl8, h200, hpay, hsc, fun rs hp hso => ?_⟩
     replace hp : rs.Perm (zch l bs c iks) := hp
     obtain ⟨hvl, _⟩ := ztN hvv hf hlb
     have hvls : zbx data vs l = true := by
      have h0 := hvv
      simp [zav] at h0
      rw [hf, zgn] at h0
      exact h0.2
     have hkp : ∀ ps rest, iks = .mk c ps :: rest → ps.length = (pick l bs).length := by
      intro ps rest he
      subst he
      obtain ⟨ps', h1, h2, _⟩ := znV h8 hrE (j := 0) (by simp) (c := c) (eks := ps) (by simp)
      rw [hpay] at h1
      cases h1
      omega
     have hsum := zCb hlb hvl hbs hpay hrt hkp
     rw [← zDh (hp.map _)] at hsum
     obtain ⟨g, hg⟩ : ∃ g : Nat → IT → Nat, g = fun k x => atV data x (l.getD k tz) (vs.getD k tz) := ⟨_, rfl⟩
     rw [← hg, ← hW] at hsum
     have hrdr := fun r hr => zB8 h8 hlb hpay hrt hrE r (hp.subset hr)
     have hwide : ∀ r ∈ rs, r.length = l.length := fun r hr => zuu l bs c iks r (hp.subset hr)
     have hnod : ∀ r ∈ rs, ∀ x ∈ r, x.nodes ≤ 200 := fun r hr => zCa (bs := bs) (c := c) h200 (Nat.le_refl _) (by show IT.nodesL iks + 1 ≤ 200; simp only [IT.nodes] at hi; omega) r (hp.subset hr)
     have hrsl : rs.length ≤ 200000000 := by rw [hp.length_eq]; exact zut hk6 (by omega)
     have hfv : ∀ x ∈ l, zaY data x = true := fun x hx => by
      unfold zaY at hfine ⊢
      rw [Bool.and_eq_true] at hfine ⊢
      exact ⟨hfine.1, zgj hfine.1 (zvn htv) hf x hx⟩
     have hgat : ∀ r ∈ rs, ∀ (j : Nat) (h1 : j < r.length) (h2 : j < l.length) (h3 : j < vs.length), atR data l[j] r[j] vs[j] = .tup [.agg (zan ((g j r[j] : Nat) : Int)), .int .i64 0] ∧ g j r[j] ≤ 1000 ^ 6 ∧ l[j].nodes ≤ 1000 ∧ r[j].nodes ≤ 900 ∧ vs[j].nodes ≤ 900 := by
      intro r hr j h1 h2 h3
      have e1 : g j r[j] = atV data r[j] l[j] vs[j] := by
       rw [hg]; simp [List.getD_eq_getElem?_getD, h2, h3]
      have e2 := (hrdr r hr).1 j (by omega)
      simp [List.getD_eq_getElem?_getD, h1, h2] at e2
      have e3 : 0 ≤ za0 data l[j] r[j] := by unfold za0; rw [if_pos (hfv _ (List.getElem_mem h2))]; exact e2
      have e4 := zfk hvls j h3 h2
      have e5 : zbX data vs[j] l[j] = true := by unfold zbX; rw [hfv _ (List.getElem_mem h2), e4]; rfl
      have e6 := hfv _ (List.getElem_mem h2)
      unfold zaY at e6
      rw [Bool.and_eq_true] at e6
      have e7 := VT.kid_lt (k := 5) (n := c) h3
      have e8 := h200 _ (List.getElem_mem h2)
      have e9 := hnod r hr _ (List.getElem_mem h1)
      refine ⟨?_, ?_, by omega, by omega, by omega⟩
      ·unfold atR; rw [if_neg (by omega), if_neg (by simp [e5]), e1]
      ·rw [e1]; exact AtOk.le h8 ⟨by omega, e6.2, e2, e4, by omega, by omega⟩
     have hle8 : ∀ r ∈ rs, ∀ j, j ≤ l.length → zaM g 0 (r.take j) ≤ 1000 ^ (6 * j) := by
      intro r hmr j
      have hw := hwide r hmr
      induction j with
      | zero => intro _; simp [zaM]
      | succ j ih =>
       intro hj
       rw [znT g r j (by omega), show 6 * (j + 1) = 6 * j + 6 by omega, Nat.pow_add]
       exact Nat.mul_le_mul (ih (by omega)) (hgat r hmr j (by omega) (by omega) (by omega)).2.1
     simp [zeN, Nat.add_assoc, hTc, hVc, hIc]
     rw [← hTc]
     refine zfT data f1 f2 f3 (.mk 5 n ks) (by omega) c _ _ ?_
     rw [hf]
     simp [zbN, zkP, Nat.add_assoc, hTc]
     exact zsx hk _ _ 5 c vs l rs g W hWle hsum hwide hvl (by omega) hrsl (fun r hr j hj => Nat.le_trans (hle8 r hr j hj) (Nat.pow_le_pow_right (by omega) (by omega))) hgat .none (.inl rfl) H K hs hs1 hK
    ·have hw : zcM data (.mk k n ks) (.mk vk c vs) (.mk m iks) = false := by unfold zcM; simp [VT.kind, h5, h6]
     rw [hw] at hK
     have b6 : (k == 6) = false := by simpa using h6
     have b5 : (k == 5) = false := by simpa using h5
     simp [b5, b6]
     exact Out.bool rfl (Nat.le_refl _) hs hK
theorem zzP (data : List Dat) (hlen : data.length ≤ 9223372036854775807) (t v : VT) (iv : IT) (H : zaa) (K : Kt) (hK : K (.bool true) H) :
  ACalls tP znz [.sl (data.map Dat.cs) .none, .agg t.cs, .agg v.cs, .agg iv.cs] H K := by
 refine ACalls.out (zMB fun hs => ?_)
 have hO : ∀ J, Out H.length K (.bool true) (H ++ J) := fun J => Out.bool rfl (Nat.le_refl _) hs hK
 obtain ⟨x2, y2, hvx2, hx2, hy2⟩ := zc5 iv
 obtain ⟨x3, y3, z3, hvx3, hx3, hy3, hz3⟩ := zaK v
 obtain ⟨k, n, ks⟩ := t
 have hTc : (VT.mk k n ks).cs = [.int .i64 k, .int .i64 n, .sl (VT.css ks) .none] := rfl
 simp [zq4, hTc, hvx2, hvx3, hx2, hy2, hx3, hy3, hz3, Nat.add_assoc]
 rw [← hTc]
 refine zCC data hlen (.mk k n ks) _ _ fun b1 hb1 => ?_
 cases b1 with
 | false => simp; exact hO _
 | true =>
  obtain ⟨hk, ht⟩ := hb1 rfl
  simp [Nat.add_assoc]
  rw [← hvx2]
  refine zDU iv _ _ fun b2 hb2 => ?_
  cases b2 with
  | false => simp; exact hO _
  | true =>
   have hiv := hb2 rfl
   simp [Nat.add_assoc]
   rw [← hvx3]
   refine zEu v _ _ fun b3 hb3 => ?_
   cases b3 with
   | false => simp; exact hO _
   | true =>
    have hv := hb3 rfl
    simp [hTc, hvx2, hvx3, Nat.add_assoc]
    rw [← hvx3]
    refine zFF v.nodes v (Nat.le_refl _) (by omega) _ _ ?_
    by_cases h80 : 80 < v.nodes
    ·have hb80 : decide ((80 : Int) < (v.nodes : Int)) = true := by simp; omega
     simp [hb80]; exact hO _
    ·have hb80 : decide ((80 : Int) < (v.nodes : Int)) = false := by simp; omega
     simp [hb80, hTc, hvx2, hvx3, Nat.add_assoc]
     rw [← hTc, ← hvx2]
     refine zFX data hk (.mk k n ks) (by omega) iv (by omega) _ _ ?_
     have hend2 : ∀ w : Bool, w = zcM data (.mk k n ks) v iv → ACalls tP zih [.sl (data.map Dat.cs) .none, .agg (VT.mk k n ks).cs, .agg v.cs, .agg iv.cs] (H ++ [.cells (VT.mk k n ks).cs, .cells v.cs, .cells iv.cs])
       (fun t53 H2 => zac .eql true t53 (.bool w) fun t55 => zab t55 true H2 (fun K' => ACalls tP zie [] H2 K') fun t57 H' => zai t55 t57 (.bool false) fun t58 => Out H.length K t58 H') := by
      intro w hw
      refine zKD hk (.mk k n ks) ht v (by omega) iv (by omega) _ _ ?_
      subst hw
      simp
      refine zAi _ _ ?_
      try simp
      exact hO _
     unfold zcM at hend2
     cases hd : decide (0 ≤ za0 data (.mk k n ks) iv) with
     | false =>
      rw [hd] at hend2
      have := hend2 false (by simp)
      simp [hvx3, hTc] at this ⊢
      exact this
     | true =>
      rw [hd] at hend2
      simp [hTc, Nat.add_assoc]
      rw [← hTc, ← hvx3]
      refine zFJ data hk v (.mk k n ks) (by omega) (by omega) _ _ ?_
      cases hh : zbX data v (.mk k n ks) with
      | false =>
       rw [hh] at hend2
       have := hend2 false (by simp)
       simp [hvx3, hTc] at this ⊢
       exact this
      | true =>
       rw [hh] at hend2
       by_cases h6 : k = 6
       ·subst h6
        have := hend2 true (by simp [VT.kind])
        simp [hvx3, hTc] at this ⊢
        exact this
       ·have b6 : (k == 6) = false := by simpa using h6
        by_cases h5 : k = 5
        ·subst h5
         have := hend2 true (by simp [VT.kind])
         simp [hvx3, hTc, b6] at this ⊢
         exact this
        ·have b5 : (k == 5) = false := by simpa using h5
         have := hend2 false (by simp [VT.kind, h5, h6])
         simp [hvx3, hTc, b6, b5] at this ⊢
         exact this
end Go.Proofs.YtjkkonpjecoieaaGreat
namespace Go.Abs
open Go Go.RowKit

def zbv (P : Program) : Nat → TypeId → List AV → Prop
 | 0, _, _ => False
 | n + 1, t, asx => match P.underlying t with
  | some .bool => ∃ b, asx = [.bool b]
  | some (.int k) => ∃ m, asx = [.int k m] ∧ (Lit.int k m).wf = true
  | some .string => ∃ s, asx = [.str s] ∧ s.length ≤ maxLen
  | some (.slice e) => ∃ es, asx = [.sl es .none] ∧ es.length ≤ maxLen ∧ ∀ c ∈ es, zbv P n e c
  | some (.struct fs) => asx.length = P.cellsOf t ∧ ∀ f ∈ fs.toList, zbv P n f.type ((asx.drop f.offset).take (P.cellsOf f.type))
  | _ => False

def zej (P : Program) : List Field → Nat → Nat → Bool
 | [], at_, n => at_ == n
 | f :: fs, at_, n => f.offset == at_ && zej P fs (at_ + P.cellsOf f.type) n
def zgU (P : Program) (S : List TypeId) : Bool :=
 S.all fun t => match P.underlying t with
  | some .bool | some (.int _) | some .string => P.cellsOf t == 1
  | some (.slice e) => S.contains e && decide (0 < P.cellsOf e) && P.cellsOf t == 1
  | some (.struct fs) => fs.toList.all (fun f => S.contains f.type) && zej P fs.toList 0 (P.cellsOf t)
  | _ => false

section
variable {Hh : Type} {enc : TypeId × Value → Hh} {P : Program} {w : World} {base : Nat} {spare : Nat → Bool} {held : Bool}

theorem zu9 {R : Value → AV → Prop} {cs : List Value} : ∀ (fs : List Field) (at_ n : Nat) (T : Field → List AV → Prop), zej P fs at_ n = true → cs.length = n →
  (∀ f ∈ fs, ∃ asx, All2 R ((cs.drop f.offset).take (P.cellsOf f.type)) asx ∧ T f asx) → at_ ≤ n →
  ∃ asx, All2 R (cs.drop at_) asx ∧ ∀ f ∈ fs, T f ((asx.drop (f.offset - at_)).take (P.cellsOf f.type)) ∧ at_ ≤ f.offset
 | [], at_, n, T, ht, hl, hf, hle => by
  simp [zej] at ht
  subst ht
  refine ⟨[], ?_, by simp⟩
  rw [List.drop_eq_nil_of_le (by omega)]
  trivial
 | f :: fs, at_, n, T, ht, hl, hf, hle => by
  simp only [zej, Bool.and_eq_true, beq_iff_eq] at ht
  obtain ⟨h1, h2⟩ := ht
  have hbound : ∀ (fs : List Field) (k n : Nat), zej P fs k n = true → k ≤ n := by
   intro fs
   induction fs with
   | nil => intro k n h; simp [zej] at h; omega
   | cons g gs ih => intro k n h; simp only [zej, Bool.and_eq_true] at h; have := ih _ _ h.2; omega
  have hb := hbound fs _ _ h2
  obtain ⟨as0, ha0, hT0⟩ := hf f (by simp)
  obtain ⟨as1, ha1, hT1⟩ := zu9 fs (at_ + P.cellsOf f.type) n T h2 hl (fun g hg => hf g (by simp [hg])) hb
  have hl0 : as0.length = P.cellsOf f.type := by
   have := ha0.length
   rw [List.length_take, List.length_drop] at this
   omega
  refine ⟨as0 ++ as1, ?_, ?_⟩
  ·have : cs.drop at_ = (cs.drop f.offset).take (P.cellsOf f.type) ++ cs.drop (at_ + P.cellsOf f.type) := by
    rw [h1, ← List.drop_drop, List.take_append_drop]
   rw [this]
   exact ha0.append ha1
  ·intro g hg
   rcases List.mem_cons.1 hg with rfl | hg
   ·rw [h1, Nat.sub_self, List.drop_zero, ← hl0, List.take_left]
    exact ⟨hT0, Nat.le_refl _⟩
   ·obtain ⟨k1, k2⟩ := hT1 g hg
    refine ⟨?_, by omega⟩
    have : (as0 ++ as1).drop (g.offset - at_) = as1.drop (g.offset - (at_ + P.cellsOf f.type)) := by
     rw [List.drop_append, List.drop_eq_nil_of_le (by omega), List.nil_append]
     congr 1
     omega
    rw [this]
    exact k1

theorem zhG {a : Addr} {n : Nat} {cs : List Value} (h : w.cells? base a n = some cs) : cs.length = n ∧ ∀ j v, cs[j]? = some v → w.cell? (a.add j) = some v := by
 unfold World.cells? at h
 split at h
 ·have h1 := mapM_some_length h
  refine ⟨by simpa using h1, fun j v hj => ?_⟩
  have hjn : j < n := by
   have := (List.getElem?_eq_some_iff.1 hj).1
   simp at h1
   omega
  have := mapM_some_get h j j (by simp [hjn])
  rw [this]
  exact hj
 ·cases h

theorem zBg {b o : Nat} {v : Value} (h : w.cell? ⟨b, o, none⟩ = some v) : o < zb3 w b := by
 unfold World.cell? at h
 unfold zb3
 split at h
 ·rename_i c t fr hb
  simp only [hb]
  simp at h
  exact (Array.getElem?_eq_some_iff.1 h).1
 ·cases h

theorem zvf {S : List TypeId} (hS : zgU P S = true) : ∀ (n : Nat) (t : TypeId) (cs : List Value) (x : DataW Hh × List MemPlace), t ∈ S → DataW.trod enc P w base spare held n t cs = some x →
  ∃ asx, All2 (DRel w (zb3 w)) cs asx ∧ zbv P n t asx := by
 intro n
 induction n with
 | zero => intro t cs x _ h; simp [DataW.trod] at h
 | succ n ih =>
  intro t cs x ht h
  have hp := List.all_eq_true.1 hS t ht
  unfold zbv
  cases hu : P.underlying t with
  | none => simp [hu] at hp
  | some d =>
   rw [hu] at hp
   cases d <;> simp only [] at hp <;> try (cases hp; done)
   case bool =>
    obtain ⟨b, rfl, _⟩ := DataW.trod_bool hu h
    exact ⟨[.bool b], ⟨.bool b, trivial⟩, b, rfl⟩
   case int k =>
    obtain ⟨m, rfl, _, hw⟩ := DataW.trod_int hu h
    exact ⟨[.int k m], ⟨.int k m, trivial⟩, m, rfl, hw⟩
   case string =>
    obtain ⟨s, rfl, _, hw⟩ := DataW.trod_string hu h
    have hs : (⟨s.data.toList.toArray⟩ : ByteArray) = s := by simp
    refine ⟨[.str s.data.toList], ⟨?_, trivial⟩, s.data.toList, rfl, by rw [Array.length_toList]; exact hw⟩
    have := DRel.str (w := w) (L := zb3 w) s.data.toList
    rwa [hs] at this
   case slice e =>
    simp only [Bool.and_eq_true, decide_eq_true_eq] at hp
    obtain ⟨⟨he, hpos⟩, _⟩ := hp
    have he : e ∈ S := by simpa using he
    rcases DataW.trod_slice hu h with ⟨rfl, _⟩ | ⟨a, len, cap, elems, rest, n', hn, rfl, _, hb, hl, hm, hlen, hel, _⟩
    ·exact ⟨[.sl [] .none], ⟨.slE _ _, trivial⟩, [], rfl, by simp, by simp⟩
    ·obtain rfl : n = n' := by omega
     have hat : ∀ i, i < len → ∃ cs asx, w.cells? base (a.add (i * P.cellsOf e)) (P.cellsOf e) = some cs ∧ All2 (DRel w (zb3 w)) cs asx ∧ zbv P n e asx := by
      intro i hi
      have h1 := hel i hi
      rw [List.getElem?_eq_getElem (by omega)] at h1
      cases hc : w.cells? base (a.add (i * P.cellsOf e)) (P.cellsOf e) with
      | none => rw [hc] at h1; cases h1
      | some cs =>
       rw [hc] at h1
       obtain ⟨asx, h2, h3⟩ := ih e cs _ he h1
       exact ⟨cs, asx, rfl, h2, h3⟩
     by_cases h0 : len = 0
     ·subst h0
      exact ⟨[.sl [] .none], ⟨.slE _ _, trivial⟩, [], rfl, by simp, by simp⟩
     ·-- the address is a zaB one
      have hspot : a.spot = none := by
       obtain ⟨cs, asx, h1, h2, _⟩ := hat 0 (by omega)
       obtain ⟨h3, h4⟩ := zhG h1
       have h5 := h4 0 cs[0] (by simp)
       have := World.cell?_spot h5
       simpa [Addr.add] using this
      obtain ⟨b, off, sp⟩ := a
      simp only at hspot
      subst hspot
      obtain ⟨f, hf⟩ : ∃ f : Nat → List Value × List AV, ∀ i, i < len → w.cells? base ((⟨b, off, none⟩ : Addr).add (i * P.cellsOf e)) (P.cellsOf e) = some (f i).1 ∧ All2 (DRel w (zb3 w)) (f i).1 (f i).2 ∧ zbv P n e (f i).2 :=
       Deep.choose_lt (p := fun i (y : List Value × List AV) => w.cells? base ((⟨b, off, none⟩ : Addr).add (i * P.cellsOf e)) (P.cellsOf e) = some y.1 ∧ All2 (DRel w (zb3 w)) y.1 y.2 ∧ zbv P n e y.2)
        (fun i hi => by obtain ⟨cs, asx, h1, h2, h3⟩ := hat i hi; exact ⟨(cs, asx), h1, h2, h3⟩)
      have hcell : ∀ i, i < len → ∀ j v, (f i).1[j]? = some v → w.cell? ⟨b, off + i * P.cellsOf e + j, none⟩ = some v := by
       intro i hi j v hj
       have := (zhG (hf i hi).1).2 j v hj
       rw [add_lit, add_lit] at this
       exact this
      have hlen2 : ∀ i, i < len → (f i).2.length = P.cellsOf e := fun i hi => by
       rw [← (hf i hi).2.1.length]; exact (zhG (hf i hi).1).1
      refine ⟨[.sl ((List.range len).map fun i => (f i).2) .none], ⟨?_, trivial⟩, _, rfl, by simp; omega, ?_⟩
      ·have := DRel.sl (w := w) (L := zb3 w) b off cap (P.cellsOf e) ((List.range len).map fun i => (f i).2) (fun i j => (f i).1.getD j undef) (by simp; exact h0) (by simpa using hl) ?_ ?_ ?_ ?_
       ·simpa using this
       ·-- the last cell is there
        have hi : len - 1 < len := by omega
        have hj : P.cellsOf e - 1 < (f (len - 1)).1.length := by rw [(zhG (hf _ hi).1).1]; omega
        have := zBg (hcell (len - 1) hi (P.cellsOf e - 1) _ (List.getElem?_eq_getElem hj))
        have hmul : (len - 1) * P.cellsOf e + P.cellsOf e = len * P.cellsOf e := by
         rw [← Nat.succ_mul]; congr 1; omega
        simp
        omega
       ·intro i hi
        simp at hi
        simpa using hlen2 i hi
       ·intro i j hi hj
        simp at hi hj
        have hjl : j < (f i).1.length := by rw [(hf i hi).2.1.length]; exact hj
        simp only [List.getD_eq_getElem?_getD, List.getElem?_eq_getElem hjl, Option.getD_some]
        exact hcell i hi j _ (List.getElem?_eq_getElem hjl)
       ·intro i j hi hj
        simp at hi hj
        have hjl : j < (f i).1.length := by rw [(hf i hi).2.1.length]; exact hj
        obtain ⟨c, h1, h2⟩ := (hf i hi).2.1.get' (List.getElem?_eq_getElem hjl)
        simp only [List.getD_eq_getElem?_getD, List.getElem?_eq_getElem hjl, Option.getD_some, List.getElem_map, List.getElem_range]
        have : (f i).2[j] = c := by rw [List.getElem?_eq_getElem hj] at h1; exact Option.some.inj h1
        rw [this]
        exact h2
      ·intro c hc
       obtain ⟨i, hi, rfl⟩ := List.mem_map.1 hc
       exact (hf i (by simpa using hi)).2.2
   case struct fs =>
    simp only [Bool.and_eq_true] at hp
    obtain ⟨hfs, htile⟩ := hp
    obtain ⟨xs, n', hn, _, hcl, hxl, hat⟩ := DataW.trod_struct hu h
    obtain rfl : n = n' := by omega
    obtain ⟨asx, h1, h2⟩ := zu9 (P := P) (R := DRel w (zb3 w)) (cs := cs) fs.toList 0 (P.cellsOf t) (fun f asx => zbv P n f.type asx) htile hcl (fun f hf => by
     obtain ⟨i, hi⟩ := List.mem_iff_getElem?.1 hf
     have hi' : fs[i]? = some f := by simpa using hi
     have h3 := hat i f hi'
     have hlt : i < xs.length := by rw [hxl]; exact (Array.getElem?_eq_some_iff.1 hi').1
     rw [List.getElem?_eq_getElem hlt] at h3
     exact ih f.type _ _ (by simpa using List.all_eq_true.1 hfs f hf) h3) (Nat.zero_le _)
    rw [List.drop_zero] at h1
    refine ⟨asx, h1, by rw [← h1.length]; exact hcl, fun f hf => ?_⟩
    simpa using (h2 f hf).1
end

theorem znL {Hh : Type} {enc : TypeId × Value → Hh} {P : Program} {w : World} {base : Nat} {spare : Nat → Bool} {held : Bool} {S : List TypeId} (hS : zgU P S = true) {t : TypeId} (ht : t ∈ S) {cs : Array Value} {d : DataW Hh} {p : List MemPlace}
  (h : DataW.Trod enc P w base spare held t (.agg cs) d p) : ∃ n asx, zbv P n t asx ∧ TRel w (G0 w) (.agg cs) (.agg asx) := by
 obtain ⟨n, hn⟩ := h
 obtain ⟨asx, h1, h2⟩ := zvf hS n t _ _ ht hn
 exact ⟨n, asx, h2, cs, rfl, h1.mono fun _ _ hd => ARel.of_b (DRel.toB (G := G0 w) hd)⟩
theorem zBP {Hh : Type} {enc : TypeId × Value → Hh} {P : Program} {w : World} {base : Nat} {spare : Nat → Bool} {held : Bool} {S : List TypeId} (hS : zgU P S = true) {t : TypeId} (ht : t ∈ S) {v : Value} {d : DataW Hh} {p : List MemPlace} (hv : v.cells = #[v])
  (h : DataW.Trod enc P w base spare held t v d p) : ∃ n a, zbv P n t [a] ∧ TRel w (G0 w) v a := by
 obtain ⟨n, hn⟩ := h
 obtain ⟨asx, h1, h2⟩ := zvf hS n t _ _ ht hn
 rw [hv] at h1
 match asx, h1, h2 with
 | [a], h1, h2 => exact ⟨n, a, h2, TRel.of_v (VRel.of_a (ARel.of_b (DRel.toB (G := G0 w) h1.1)))⟩
section
variable {P : Program} {n : Nat} {t : TypeId} {l : List AV}
theorem zfH {k : IntKind} (hu : P.underlying t = some (.int k)) (h : zbv P n t l) : ∃ m, l = [.int k m] ∧ (Lit.int k m).wf = true := by
 cases n with
 | zero => exact h.elim
 | succ n => unfold zbv at h; rw [hu] at h; exact h
theorem zvq (hu : P.underlying t = some .string) (h : zbv P n t l) : ∃ s, l = [.str s] ∧ s.length ≤ maxLen := by
 cases n with
 | zero => exact h.elim
 | succ n => unfold zbv at h; rw [hu] at h; exact h
theorem zfI {e : TypeId} (hu : P.underlying t = some (.slice e)) (h : zbv P n t l) : ∃ es n', n' < n ∧ l = [.sl es .none] ∧ es.length ≤ maxLen ∧ ∀ c ∈ es, zbv P n' e c := by
 cases n with
 | zero => exact h.elim
 | succ n => unfold zbv at h; rw [hu] at h; obtain ⟨es, h1, h2, h3⟩ := h; exact ⟨es, n, by omega, h1, h2, h3⟩
theorem zg5 {fs : Array Field} (hu : P.underlying t = some (.struct fs)) (h : zbv P n t l) : ∃ n', n' < n ∧ l.length = P.cellsOf t ∧ ∀ f ∈ fs.toList, zbv P n' f.type ((l.drop f.offset).take (P.cellsOf f.type)) := by
 cases n with
 | zero => exact h.elim
 | succ n => unfold zbv at h; rw [hu] at h; exact ⟨n, by omega, h⟩
theorem zeC {α : Type} {cs : α → List AV} : ∀ {es : List (List AV)}, (∀ c ∈ es, ∃ x, c = cs x) → ∃ xs : List α, es = xs.map cs
 | [], _ => ⟨[], rfl⟩
 | e :: es, h => by
  obtain ⟨x, hx⟩ := h e (by simp)
  obtain ⟨xs, hxs⟩ := zeC (es := es) (fun c hc => h c (by simp [hc]))
  exact ⟨x :: xs, by simp [hx, hxs]⟩
end
end Go.Abs
