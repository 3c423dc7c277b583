import Derived.Test.YtddlhljflggenaaGreatDoorKY2
import Derived.Test.YtddlhljflggenaaGreatDoorIT
import Derived.Test.YtddlhljflggenaaGreatDoorKNum
import Derived.Test.YtddlhljflggenaaGreatDoorProg
import Derived.KernelRfl
set_option linter.unusedSimpArgs false
set_option linter.unusedVariables false
namespace Go.Proofs.YtddlhljflggenaaGreatDoor
open Go Go.Abs
set_option maxRecDepth 8000
def zdu (data : List Dat) (d : Nat) (vars : Int) (t : VT) : Bool := zbB d vars t || zaT (data.take d) vars t
structure RCon (data : List Dat) (d : Nat) (vars : Int) (c : Con) : Prop where
 up : zcn c.name = true
 len : c.args.length ≤ 6
 args : ∀ x ∈ c.args, zdu data d vars x = true
structure RDat (data : List Dat) (d : Nat) (D : Dat) : Prop where
 v0 : 0 ≤ D.vars
 v6 : D.vars ≤ 6
 c1 : 1 ≤ D.cons.length
 c8 : D.cons.length ≤ 8
 up : zcn D.name = true
 cons : ∀ c ∈ D.cons, RCon data d D.vars c
structure RData (data : List Dat) : Prop where
 len : data.length ≤ 12
 dats : ∀ d (h : d < data.length), RDat data d data[d]
 names : (za6 data).Nodup
 cons : (zaF data).Nodup
theorem zm8 {α : Type} {l : List α} {i : Nat} (h : i < l.length) : l.take (i + 1) = l.take i ++ [l[i]] := by rw [List.take_append_getElem h]
theorem zrH : ∀ l : List Dat, (∀ D ∈ l, D.cons.length ≤ 10) → (zaF l).length ≤ l.length * 10
 | [], _ => by simp [zaF]
 | D :: l, h => by
  have h1 := zrH l (fun D hD => h D (by simp [hD]))
  have h2 := h D (by simp)
  rw [zaF] at h1 ⊢
  rw [List.flatMap_cons, List.length_append, List.length_map, List.length_cons]; omega
theorem zzq {data : List Dat} {d : Nat} (h : d < data.length) : za6 (data.take (d + 1)) = za6 (data.take d) ++ [(data[d]).name] := by
 rw [za6, zm8 h, List.map_append]; rfl
theorem zza {data : List Dat} {d : Nat} (h : d < data.length) : zaF (data.take (d + 1)) = zaF (data.take d) ++ (data[d]).cons.map Con.name := by
 rw [zaF, zm8 h, List.flatMap_append]; simp [zaF]
theorem ztV (l : List (List UInt8)) (s : List UInt8) : strs (l ++ [s]) = strs l ++ [[.str s]] := by simp [strs]
theorem zrA {s : List UInt8} {k : AV → Prop} : zay 1 [.str []] 1 [(0, .str s)] k = k (.sl [[.str s]] .full) := propext Iff.rfl
theorem ztn (l : List (List UInt8)) (hl : l.length ≤ 1000000) {tok : Tok} (H : zaa) (K : AV → zaa → Prop) (hK : K (.bool (zbJ l)) H) : ACalls tP zgp [.sl (strs l) tok] H K :=
 ACalls.wk (zKw l hl H K hK) ⟨.atom (.sl _ _), trivial⟩
theorem zzd {D : Dat} {i : Nat} (h : i < D.cons.length) : (D.cons.map Con.cs)[i]?.getD [] = [.str (D.cons[i]).name, .sl (VT.css (D.cons[i]).args) .none] := by simp [h, Con.cs]
theorem zHW (data : List Dat) (hkd : zaP data) (H : zaa) (K : AV → zaa → Prop) (hK : ∀ b, (b = true ↔ RData data) → K (.bool b) H) : ACalls tP zmp [.sl (data.map Dat.cs) .none] H K := by
 refine ACalls.out (zHU fun hs => ?_)
 obtain ⟨kl, kd⟩ := hkd
 have hF : ¬ RData data → ∀ J, Out H.length K (.bool false) (H ++ J) := fun h J => Out.bool rfl (Nat.le_refl _) hs (hK _ (by simp [h]))
 have hT : ∀ b : Bool, (b = true ↔ RData data) → ∀ J, Out H.length K (.bool b) (H ++ J) := fun b h J => Out.bool rfl (Nat.le_refl _) hs (hK _ h)
 by_cases h12 : data.length > 12
 ·have h12' : (12 : Int) < data.length := by omega
  simp [zph, h12']
  have := hF (fun h => by have := h.len; omega) []
  simpa using this
 have h12' : ¬ (12 : Int) < data.length := by omega
 simp [zph, h12']
 unfold zka
 refine ALoop.own 3 zbx 1 rfl ?_
 refine ALoop.own 4 zbx 1 rfl ?_
 rw [List.append_assoc]
 have hcn : ∀ d, (zaF (data.take d)).length ≤ 140 := fun d => by
  have := zrH (data.take d) (fun D hD => (kd D (List.mem_of_mem_take hD)).2.1)
  rw [List.length_take] at this
  have : min d data.length * 10 ≤ 14 * 10 := Nat.mul_le_mul_right _ (by omega)
  omega
 have hl1 : (H ++ [AB.perm zbx 1 0]).length = H.length + 1 := by simp
 rw [hl1]
 show zka (.sl (data.map Dat.cs) .none) (.sl [] (.own H.length)) (.sl [] (.own (H.length + 1))) (.int .i64 0) (H ++ [.perm zbx 1 0, .perm zbx 1 0]) (Out H.length K)
 have hsP : ∀ m n, HSc (H ++ [.perm zbx 1 m, .perm zbx 1 n]) := fun m n => hs.append rfl
 refine zHS (Inv := fun q t3 t4 t5 H' => ∃ d : Nat, d ≤ data.length ∧ q = data.length - d ∧ t5 = .int .i64 d ∧ t3 = .sl (strs (za6 (data.take d))) (.own H.length) ∧ t4 = .sl (strs (zaF (data.take d))) (.own (H.length + 1)) ∧ (∀ j (h : j < data.length), j < d → RDat data j data[j]) ∧ H' = H ++ [.perm zbx 1 d, .perm zbx 1 (zaF (data.take d)).length]) data.length ?_ ?_
 ·intro _; exact ⟨0, by omega, by omega, rfl, by simp [za6, strs], by simp [zaF, strs], by omega, by simp [zaF]⟩
 ·rintro q t3 t4 t5 H' ⟨d, hd, rfl, rfl, rfl, rfl, hok, rfl⟩ hsc hlen hsF Kb hKb
  by_cases hlt : d < data.length
  ·have hbad : ¬ RDat data d data[d] → ∀ J, Out H.length K (.bool false) (H ++ J) := fun h => hF fun hh => h (hh.dats d hlt)
   have hcd := hcn d
   have hds := zzq hlt
   have hcs := zza hlt
   obtain ⟨kn, kc, kcc⟩ := kd _ (List.getElem_mem hlt)
   have hdl : (za6 (data.take d)).length = d := by simp [za6]; omega
   generalize hD : data[d] = D at *
   have hge : (data.map Dat.cs)[d]?.getD [] = [.str D.name, .int .i64 D.vars, .sl (D.cons.map Con.cs) .none] := by simp [hlt, hD, Dat.cs]
   by_cases hv0 : D.vars < 0
   ·simp [zez, hlt, hD, Dat.cs, hv0]
    exact hbad (fun h => by have := h.v0; omega) _
   by_cases hv6 : 6 < D.vars
   ·simp [zez, hlt, hD, Dat.cs, hv0, hv6]
    exact hbad (fun h => by have := h.v6; omega) _
   by_cases hc1 : D.cons.length < 1
   ·have hc1' : (D.cons.length : Int) < 1 := by omega
    simp [zez, hlt, hD, Dat.cs, hv0, hv6, hc1']
    exact hbad (fun h => by have := h.c1; omega) _
   have hc1' : ¬ (D.cons.length : Int) < 1 := by omega
   by_cases hc8 : 8 < D.cons.length
   ·have hc8' : (8 : Int) < D.cons.length := by omega
    simp [zez, hlt, hD, Dat.cs, hv0, hv6, hc1', hc8']
    exact hbad (fun h => by have := h.c8; omega) _
   have hc8' : ¬ (8 : Int) < D.cons.length := by omega
   simp [zez, hlt, hD, Dat.cs, hv0, hv6, hc1', hc8']
   refine zxG _ _ _ ?_
   cases hup : zcn D.name with
   | false => simp; exact hbad (fun h => by have := h.up; rw [hup] at this; cases this) _
   | true =>
   simp [zrA]
   simp [zat, zaI, zaE, hdl]
   refine ⟨by omega, ?_⟩
   rw [← ztV, ← hds]
   refine zHQ (Inv := fun q t4 t7 H' => ∃ k : Nat, k ≤ D.cons.length ∧ q = D.cons.length - k ∧ t7 = .int .i64 k ∧ t4 = .sl (strs (zaF (data.take d) ++ (D.cons.map Con.name).take k)) (.own (H.length + 1)) ∧ (∀ c ∈ D.cons.take k, RCon data d D.vars c) ∧ H' = H ++ [.perm zbx 1 (d + 1), .perm zbx 1 ((zaF (data.take d)).length + k), .cells [.str D.name, .int .i64 D.vars, .sl (D.cons.map Con.cs) .none]]) D.cons.length ?_ ?_
   ·intro _; exact ⟨0, by omega, by omega, rfl, by simp, by simp, by simp⟩
   ·rintro q t4 t7 H' ⟨k, hk, rfl, rfl, rfl, hck, rfl⟩ hsc1 hlen1 hsF1 Kb1 hKb1
    have hlk : (zaF (data.take d) ++ (D.cons.map Con.name).take k).length = (zaF (data.take d)).length + k := by simp; omega
    by_cases hkl : k < D.cons.length
    ·have hkI : (k : Int) < D.cons.length := by omega
     have hca := zzd hkl
     have hcbad : ¬ RCon data d D.vars D.cons[k] → ∀ J, Out H.length K (.bool false) (H ++ J) := fun h => hbad fun hh => h (hh.cons _ (List.getElem_mem hkl))
     have hns : zaF (data.take d) ++ (D.cons.map Con.name).take (k + 1) = (zaF (data.take d) ++ (D.cons.map Con.name).take k) ++ [(D.cons[k]).name] := by rw [zm8 (by simpa using hkl)]; simp
     obtain ⟨_, ka, kan⟩ := kcc _ (List.getElem_mem hkl)
     generalize hC : D.cons[k] = C at *
     simp [zpi, hkl, hC, Con.cs]
     refine zxG _ _ _ ?_
     cases hupc : zcn C.name with
     | false => simp; exact hcbad (fun h => by have := h.up; rw [hupc] at this; cases this) _
     | true =>
     by_cases ha6 : 6 < C.args.length
     ·have ha6' : (6 : Int) < C.args.length := by omega
      simp [hkl, hC, Con.cs, ha6']
      exact hcbad (fun h => by have := h.len; omega) _
     have ha6' : ¬ (6 : Int) < C.args.length := by omega
     simp [hkl, hC, Con.cs, ha6', zrA]
     generalize hA : zaF (data.take d) ++ (D.cons.map Con.name).take k = A at *
     have hAl : A.length = (zaF (data.take d)).length + k := hlk
     simp [zat, zaI, zaE, hAl, hkl, hC, Con.cs]
     refine ⟨by omega, ?_⟩
     rw [← ztV, ← hns]
     refine zHR (Inv := fun q t95 H' => ∃ i : Nat, i ≤ C.args.length ∧ q = C.args.length - i ∧ t95 = .int .i64 i ∧ (∀ x ∈ C.args.take i, zdu data d D.vars x = true) ∧ H' = H ++ [.perm zbx 1 (d + 1), .perm zbx 1 ((zaF (data.take d)).length + k + 1), .cells [.str D.name, .int .i64 D.vars, .sl (D.cons.map Con.cs) .none]]) C.args.length ?_ ?_
     ·intro _; exact ⟨0, by omega, by omega, rfl, by simp, rfl⟩
     ·rintro q t95 H' ⟨i, hi, rfl, rfl, hok3, rfl⟩ hsc2 hlen2 hsF2 Kb2 hKb2
      by_cases hil : i < C.args.length
      ·have hxn := kan _ (List.getElem_mem hil)
       have habad : zdu data d D.vars C.args[i] = false → ∀ J, Out H.length K (.bool false) (H ++ J) := fun h => hcbad fun hh => by
        have := hh.args _ (List.getElem_mem hil)
        rw [h] at this; cases this
       obtain ⟨x, y, z, hvx, hx, hy, hz⟩ := vt3 C.args[i]
       have good : zdu data d D.vars C.args[i] = true → zj9 (.sl (data.map Dat.cs) .none) (.sl (strs (za6 (data.take (d + 1)))) (.own H.length)) (.sl (strs (zaF (data.take d) ++ (D.cons.map Con.name).take (k + 1))) (.own (H.length + 1))) (.int .i64 d) (.ptr (H.length + 2) 0) (.int .i64 k) (.sl (VT.css C.args) .none) (.int .i64 C.args.length) (.int .i64 i) (H ++ [.perm zbx 1 (d + 1), .perm zbx 1 ((zaF (data.take d)).length + k + 1), .cells [.str D.name, .int .i64 D.vars, .sl (D.cons.map Con.cs) .none], .cells [x, y, z]]) (Out H.length K) Kb Kb1 Kb2 := fun hg => by
        simp [zj9, zws]
        rw [zam (by omega) (by omega)]
        refine hKb2 _ _ ⟨C.args.length - (i + 1), by omega, Back.at (J := [_]) (H2 := H ++ [.perm zbx 1 (d + 1), .perm zbx 1 ((zaF (data.take d)).length + k + 1), .cells [.str D.name, .int .i64 D.vars, .sl (D.cons.map Con.cs) .none]]) (by simp; rfl) (by simp) hsc2 ?_ ⟨_, rfl, i + 1, by omega, rfl, by simp, zf9 hil hok3 hg, rfl⟩⟩
        simp [zj7, AV.sc, AV.scV, AV.scA, AV.scB]
       simp [zpj, hil, hvx, hx, hy, hz]
       rw [← hvx]
       refine zqH _ _ _ (by omega) _ _ ?_
       cases hself : zbB d D.vars C.args[i] with
       | true =>
        rw [hvx]
        simp
        exact good (by simp [zdu, hself])
       | false =>
        simp [hvx]
        refine ⟨⟨by omega, fun a _ => rfl⟩, ?_⟩
        rw [← List.map_take, ← hvx]
        refine zbH (.bool (zaT (data.take d) D.vars C.args[i])) (fun J => zwy (data.take d) (by simp; omega) _ _ (by omega) _ _ ⟨rfl, rfl⟩) ?_
        cases hty : zaT (data.take d) D.vars C.args[i] with
        | false => simp; exact habad (by simp [zdu, hself, hty]) _
        | true =>
         rw [hvx]
         simp
         exact good (by simp [zdu, hty])
      ·obtain rfl : i = C.args.length := by omega
       rw [List.take_length] at *
       simp [zpj]
       rw [zam (by omega) (by omega)]
       refine hKb1 _ _ ⟨D.cons.length - (k + 1), by omega, Back.here (by simp) hsc2 ?_ ⟨_, _, rfl, k + 1, by omega, rfl, by simp, rfl, ?_, by simp [Nat.add_assoc]⟩⟩
       ·simp [zj6, AV.sc, AV.scV, AV.scA, AV.scB]
       ·exact zf9 hkl hck (by rw [hC]; exact ⟨hupc, by omega, hok3⟩)
    ·obtain rfl : k = D.cons.length := by omega
     rw [List.take_length] at *
     simp [zpi]
     rw [zam (by omega) (by omega)]
     refine hKb _ _ ⟨data.length - (d + 1), by omega, Back.at (J := [_]) (H2 := H ++ [.perm zbx 1 (d + 1), .perm zbx 1 (zaF (data.take (d + 1))).length]) (by rw [hcs]; simp; rfl) (by simp) (hsP _ _) ?_ ⟨_, _, _, rfl, d + 1, by omega, rfl, by simp, rfl, by rw [hcs]; exact congrArg (fun l => AV.sl (strs (zaF (data.take d) ++ l)) (.own (H.length + 1))) (List.take_of_length_le (Nat.le_of_eq (List.length_map _))), fun j hj hji => ?_, rfl⟩⟩
     ·simp [zj8, AV.sc, AV.scV, AV.scA, AV.scB]
     ·by_cases hjd : j = d
      ·subst hjd; rw [hD]; exact ⟨by omega, by omega, by omega, by omega, hup, hck⟩
      ·exact hok j hj (by omega)
  ·obtain rfl : d = data.length := by omega
   rw [List.take_length] at *
   have hdn : (za6 data).length = data.length := by simp [za6]
   have hcn' := hcn data.length
   rw [List.take_length] at hcn'
   simp [zez]
   refine ztn _ (by omega) _ _ ?_
   cases hr : zbJ (za6 data) with
   | true =>
    simp
    refine hT _ ?_ _
    simp
    intro h
    have := zmR h.names
    rw [hr] at this; cases this
   | false =>
    simp
    refine ztn _ (by omega) _ _ ?_
    refine hT _ ?_ _
    simp only [zbJ, Bool.not_eq_false', decide_eq_true_eq, Bool.not_not] at hr ⊢
    exact ⟨fun h => ⟨by omega, fun j hj => hok j hj hj, hr, h⟩, fun h => h.cons⟩
mutual
theorem same_iff : ∀ v w : VT, v.same w = true ↔ v = w
 | .mk k n ks, .mk k' n' ks' => by
  have h := zty ks ks'
  simp only [VT.same, Bool.and_eq_true, beq_iff_eq, VT.mk.injEq, h, and_assoc]
theorem zty : ∀ v w : List VT, VT.sameL v w = true ↔ v = w
 | v :: vs, w :: ws => by
  have h1 := same_iff v w
  have h2 := zty vs ws
  simp only [VT.sameL, Bool.and_eq_true, List.cons.injEq, h1, h2]
 | [], [] => by simp [VT.sameL]
 | [], _ :: _ => by simp [VT.sameL]
 | _ :: _, [] => by simp [VT.sameL]
end
theorem ziA {α : Type} (l : List α) (d n : Nat) : (l.take d)[n]? = if n < d then l[n]? else none := by
 by_cases h : n < d
 ·rw [if_pos h, List.getElem?_take_of_lt h]
 ·rw [if_neg h, List.getElem?_eq_none (by rw [List.length_take]; omega)]
theorem zBw {data : List Dat} {d : Nat} {vars k n : Int} {len : Nat} (h : (k == 5 && n == (d : Int)) = false) : zaV (data.take (d + 1)) vars k n len = zaV (data.take d) vars k n len := by
 unfold zaV
 by_cases h5 : k = 5
 ·subst h5
  have hn : n ≠ d := by simpa using h
  simp only [ziA]
  by_cases h0 : 0 ≤ n
  ·have : (n.toNat < d + 1) = (n.toNat < d) := by
    apply propext; omega
   simp [this]
  ·simp [h0]
 ·have : (k == 5) = false := by simpa using h5
  simp [this]
mutual
theorem zuf (data : List Dat) (d : Nat) (vars : Int) : ∀ t : VT, zbO d t = false → zaN (data.take (d + 1)) vars t = zaN (data.take d) vars t
 | .mk k n ks => by
  intro h
  simp only [zbO, Bool.or_eq_false_iff] at h
  rw [zaN, zaN, zBw h.1, zuc data d vars ks h.2]
theorem zuc (data : List Dat) (d : Nat) (vars : Int) : ∀ l : List VT, zdR d l = false → zaS (data.take (d + 1)) vars l = zaS (data.take d) vars l
 | [] => fun _ => rfl
 | t :: ts => by
  intro h
  simp only [zdR, Bool.or_eq_false_iff] at h
  rw [zaS, zaS, zuf data d vars t h.1, zuc data d vars ts h.2]
end
mutual
theorem zsD (data : List Dat) (d : Nat) (vars : Int) : ∀ t : VT, zaN (data.take d) vars t = true → zbO d t = false
 | .mk k n ks => by
  intro h
  rw [zaN, Bool.and_eq_true] at h
  rw [zbO, zsC data d vars ks h.2, Bool.or_false]
  by_cases h5 : k = 5
  ·subst h5
   have h1 := h.1
   simp [zaV, ziA] at h1
   obtain ⟨h0, h2⟩ := h1
   by_cases hn : n = d
   ·subst hn
    simp at h2
   ·simpa using hn
  ·have : (k == 5) = false := by simpa using h5
   simp [this]
theorem zsC (data : List Dat) (d : Nat) (vars : Int) : ∀ l : List VT, zaS (data.take d) vars l = true → zdR d l = false
 | [] => fun _ => rfl
 | t :: ts => by
  intro h
  rw [zaS, Bool.and_eq_true] at h
  rw [zdR, zsD data d vars t h.1, zsC data d vars ts h.2]; rfl
end
theorem ztE (data : List Dat) (vars : Int) : ∀ (l : List VT) (i : Nat), zcu l i = true → ((i + l.length : Nat) : Int) ≤ vars → zaS data vars l = true ∧ VT.nodesL l = l.length
 | [], i, _, _ => ⟨rfl, rfl⟩
 | .mk k n ks :: l, i, h, hv => by
  rw [zcu, Bool.and_eq_true] at h
  obtain ⟨h1, h2⟩ := h
  simp only [zhH, Bool.and_eq_true, beq_iff_eq] at h1
  obtain ⟨⟨rfl, rfl⟩, h3⟩ := h1
  have hk : ks = [] := List.eq_nil_of_length_eq_zero h3
  subst hk
  obtain ⟨h4, h5⟩ := ztE data vars l (i + 1) h2 (by simp at hv ⊢; omega)
  simp at hv
  constructor
  ·simp [zaS, zaN, zaV, h4]
   omega
  ·simp [VT.nodesL, VT.nodes, h5]; omega
theorem zrq (data : List Dat) (d : Nat) (hd : d < data.length) (h0 : 0 ≤ (data[d]).vars) (h6 : (data[d]).vars ≤ 6) (t : VT) : zc1 data d (data[d]).vars t = zdu data d (data[d]).vars t := by
 unfold zc1 zdu
 cases hs : zbB d (data[d]).vars t with
 | true =>
  obtain ⟨k, n, ks⟩ := t
  simp only [zbB, Bool.and_eq_true, beq_iff_eq] at hs
  obtain ⟨⟨⟨rfl, rfl⟩, hl⟩, hs⟩ := hs
  obtain ⟨h1, h2⟩ := ztE (data.take (d + 1)) (data[d]).vars ks 0 hs (by simp; omega)
  have hty : zaT (data.take (d + 1)) (data[d]).vars (.mk 5 d ks) = true := by
   simp [zaT, zaN, h1, VT.nodes, h2, zaV, ziA, hd, hl]
   omega
  simp [hty]
 | false =>
  simp only [Bool.false_or]
  unfold zaT
  cases hm : zbO d t with
  | false => rw [zuf data d _ t hm]; simp
  | true =>
   have : zaN (data.take d) (data[d]).vars t = false := by
    cases h : zaN (data.take d) (data[d]).vars t with
    | false => rfl
    | true => rw [zsD data d _ t h] at hm; cases hm
   simp [this]
theorem zlC (data : List Dat) : ∀ (l : List Dat) (d : Nat), zcf data l d = true ↔ ∀ j (h : j < l.length), zb1 data (d + j) l[j] = true
 | [], d => by simp [zcf]
 | D :: l, d => by
  rw [zcf, Bool.and_eq_true, zlC data l (d + 1)]
  constructor
  ·rintro ⟨h1, h2⟩ j hj
   cases j with
   | zero => exact h1
   | succ j =>
    have := h2 j (by simpa using hj)
    rw [show d + (j + 1) = d + 1 + j by omega]
    simpa using this
  ·intro h
   refine ⟨h 0 (by simp), fun j hj => ?_⟩
   have := h (j + 1) (by simpa using hj)
   rw [show d + (j + 1) = d + 1 + j by omega] at this
   simpa using this
theorem zzm (data : List Dat) : zbd data = true ↔ RData data := by
 unfold zbd
 simp only [Bool.and_eq_true, decide_eq_true_eq, zlC, zbJ, Bool.not_not, Nat.zero_add]
 constructor
 ·rintro ⟨⟨⟨h1, h2⟩, h3⟩, h4⟩
  refine ⟨h1, fun d hd => ?_, h3, h4⟩
  have := h2 d hd
  simp only [zb1, Bool.and_eq_true, decide_eq_true_eq, List.all_eq_true] at this
  obtain ⟨⟨⟨⟨⟨q1, q2⟩, q3⟩, q4⟩, q5⟩, q6⟩ := this
  refine ⟨q2, q3, q4, q5, q1, fun c hc => ?_⟩
  have := q6 c hc
  simp only [zcE, Bool.and_eq_true, decide_eq_true_eq, List.all_eq_true] at this
  exact ⟨this.1, this.2.1, fun x hx => by rw [← zrq data d hd q2 q3 x]; exact this.2.2 x hx⟩
 ·rintro ⟨h1, h2, h3, h4⟩
  refine ⟨⟨⟨h1, fun d hd => ?_⟩, h3⟩, h4⟩
  obtain ⟨q2, q3, q4, q5, q1, q6⟩ := h2 d hd
  simp only [zb1, Bool.and_eq_true, decide_eq_true_eq, List.all_eq_true]
  refine ⟨⟨⟨⟨⟨q1, q2⟩, q3⟩, q4⟩, q5⟩, fun c hc => ?_⟩
  obtain ⟨r1, r2, r3⟩ := q6 c hc
  simp only [zcE, Bool.and_eq_true, decide_eq_true_eq, List.all_eq_true]
  exact ⟨r1, r2, fun x hx => by rw [zrq data d hd q2 q3 x]; exact r3 x hx⟩
mutual
def zlR (data : List Dat) : VT → VT → Bool
 | .mk vk vn vks, .mk k n al =>
  if k = 1 then vk == 3 && decide (-1099511627776 ≤ vn) && decide (vn ≤ 1099511627776) && vks.length == 0
  else if k = 2 then vk == 2 && (vn == 0 || vn == 1) && vks.length == 0
  else if k = 3 then vk == 1 && vn == 0 && vks.length == 0
  else if k = 6 then vk == 4 && vn == 0 && zen data vks al
  else if k = 5 then vk == 5 && decide (0 ≤ vn) && decide (vn < 8) && zeR data vks (za7 data (.mk k n al) vn)
  else if k = 7 then vk == 6 && vn == 0 && decide (vks.length ≤ 4096) && zsd data vks (al.getD 0 (.mk 0 0 []))
  else if k = 8 then vk == 7 && vn == 0 && zen data vks al
  else vk == 8 && decide (0 ≤ vn) && decide (vn < 64) && vks.length == 0
def zeR (data : List Dat) : List VT → Option (List VT) → Bool
 | _, none => false
 | [], some ts => ts.isEmpty
 | v :: vs, some ts => match ts with
  | [] => false
  | t :: ts => zlR data v t && zen data vs ts
def zen (data : List Dat) : List VT → List VT → Bool
 | [], ts => ts.isEmpty
 | v :: vs, ts => match ts with
  | [] => false
  | t :: ts => zlR data v t && zen data vs ts
def zsd (data : List Dat) : List VT → VT → Bool
 | [], _ => true
 | v :: vs, t => zlR data v t && zsd data vs t
end
theorem zOR (data : List Dat) (vs ts : List VT) : zeR data vs (some ts) = zen data vs ts := by
 cases vs with
 | nil => cases ts <;> rw [zeR, zen]
 | cons v vs => cases ts <;> simp only [zeR, zen]
theorem zOQ (data : List Dat) (vs : List VT) : zeR data vs none = false := by cases vs <;> rw [zeR]
theorem zBx {data : List Dat} {m : Nat} {vars k n : Int} {len : Nat} (h : zaV (data.take m) vars k n len = true) (h4 : k ≠ 4) : zaV data 0 k n len = true := by
 unfold zaV at h ⊢
 have h4' : (k == 4) = false := by simpa using h4
 rw [h4'] at h ⊢
 by_cases h5 : k = 5
 ·subst h5
  simp only [ziA] at h
  by_cases hm : n.toNat < m
  ·simpa [hm] using h
  ·simp [hm] at h
 ·have : (k == 5) = false := by simpa using h5
  simpa [this] using h
theorem ztX (ks : List VT) : ∀ l : List VT, (zaG ks l).length = l.length
 | [] => rfl
 | t :: ts => by simp [zaG, ztX ks ts]
mutual
theorem zug {data : List Dat} {m : Nat} {vars : Int} {ks : List VT} (hk : ∀ x ∈ ks, zaN data 0 x = true) (hl : (ks.length : Int) = vars) : ∀ a : VT, zaN (data.take m) vars a = true → zaN data 0 (subst ks a) = true
 | .mk k n al => by
  intro h
  rw [zaN, Bool.and_eq_true] at h
  unfold subst
  by_cases h4 : k = 4
  ·have h1 := h.1
   subst h4
   simp [zaV] at h1
   rw [if_pos ⟨rfl, by omega, by omega⟩]
   have hn : n.toNat < ks.length := by omega
   rw [List.getElem?_eq_getElem hn]
   exact hk _ (List.getElem_mem hn)
  ·rw [if_neg (fun h => h4 h.1), zaN, Bool.and_eq_true, ztX]
   exact ⟨zBx h.1 h4, zud hk hl al h.2⟩
theorem zud {data : List Dat} {m : Nat} {vars : Int} {ks : List VT} (hk : ∀ x ∈ ks, zaN data 0 x = true) (hl : (ks.length : Int) = vars) : ∀ l : List VT, zaS (data.take m) vars l = true → zaS data 0 (zaG ks l) = true
 | [] => by intro _; simp [zaG, zaS]
 | t :: ts => by
  intro h
  rw [zaS, Bool.and_eq_true] at h
  rw [zaG, zaS, Bool.and_eq_true]
  exact ⟨zug hk hl t h.1, zud hk hl ts h.2⟩
end
theorem zub {data : List Dat} {vars : Int} : ∀ {l : List VT}, zaS data vars l = true → ∀ x ∈ l, zaN data vars x = true
 | [], _ => by simp
 | t :: ts, h => by
  rw [zaS, Bool.and_eq_true] at h
  intro x hx
  rcases List.mem_cons.1 hx with rfl | hx
  ·exact h.1
  ·exact zub h.2 x hx
theorem zue {data : List Dat} {vars : Int} {k n : Int} {ks : List VT} (h : zaN data vars (.mk k n ks) = true) : ∀ x ∈ ks, zaN data vars x = true := by
 rw [zaN, Bool.and_eq_true] at h
 exact zub h.2
theorem zCu {data : List Dat} {vars : Int} {k n : Int} {ks : List VT} (h : zaT data vars (.mk k n ks) = true) : ∀ x ∈ ks, zaT data vars x = true := by
 rw [zaT, Bool.and_eq_true, decide_eq_true_eq] at h
 intro x hx
 rw [zaT, Bool.and_eq_true, decide_eq_true_eq]
 exact ⟨Nat.le_trans (zhK x hx) h.1, zue h.2 x hx⟩
theorem zzc {data : List Dat} (hD : zbd data = true) {d c : Nat} (hd : d < data.length) (hc : c < data[d].cons.length) : ∀ x ∈ (data[d].cons[c]).args, zaN (data.take (d + 1)) data[d].vars x = true := by
 simp only [zbd, Bool.and_eq_true, zlC, Nat.zero_add] at hD
 have h1 := hD.1.1.2 d hd
 simp only [zb1, Bool.and_eq_true] at h1
 have h2 := List.all_eq_true.1 h1.2 _ (List.getElem_mem hc)
 simp only [zcE, Bool.and_eq_true] at h2
 intro x hx
 have h3 := List.all_eq_true.1 h2.2.2 x hx
 simp only [zc1, zaT, Bool.and_eq_true] at h3
 exact h3.1.2
theorem zem {data : List Dat} {k n : Int} {ks : List VT} {c : Int} {l : List VT} (h : za7 data (.mk k n ks) c = some l) :
  k = 5 ∧ 0 ≤ n ∧ 0 ≤ c ∧ ∃ (hn : n.toNat < data.length) (hc : c.toNat < (data[n.toNat]).cons.length), (ks.length : Int) = (data[n.toNat]).vars ∧ l = ((data[n.toNat]).cons[c.toNat]).args.map (subst ks) ∧ ∀ x ∈ l, x.nodes ≤ 200 := by
 rw [zcr] at h
 split at h
 ·rename_i h5
  split at h
  ·rename_i D hD
   obtain ⟨hn, rfl⟩ := List.getElem?_eq_some_iff.1 hD
   split at h
   ·rename_i hv
    split at h
    ·rename_i C hC
     obtain ⟨hc, rfl⟩ := List.getElem?_eq_some_iff.1 hC
     split at h
     ·rename_i ha
      simp only [Option.some.injEq] at h
      subst h
      exact ⟨h5.1, h5.2.1, h5.2.2, hn, hc, hv, rfl, fun x hx => of_decide_eq_true (List.all_eq_true.1 ha x hx)⟩
     ·cases h
    ·cases h
   ·cases h
  ·cases h
 ·cases h
theorem zzE {data : List Dat} (hD : zbd data = true) {t : VT} (ht : zaN data 0 t = true) {c : Int} {l : List VT} (h : za7 data t c = some l) : ∀ x ∈ l, zaT data 0 x = true := by
 obtain ⟨k, n, ks⟩ := t
 obtain ⟨rfl, h0, hc0, hn, hc, hv, rfl, hsz⟩ := zem h
 intro x hx
 rw [zaT, Bool.and_eq_true, decide_eq_true_eq]
 refine ⟨hsz x hx, ?_⟩
 obtain ⟨a, ha, rfl⟩ := List.mem_map.1 hx
 exact zug (zue ht) hv a (zzc hD hn hc a ha)
def zcG (d : Nat) (D : Dat) (C : Con) : List Bool := C.args.map (zbB d D.vars)
def zis (data : List Dat) (d : Nat) : List (List Bool) := match data[d]? with
 | some D => D.cons.map (zcG d D)
 | none => []
mutual
def zmO (rs : List (List Bool)) : VT → List VT
 | .mk k n ks => .mk k n ks :: ze6 rs ks (rs.getD n.toNat [])
def ze6 (rs : List (List Bool)) : List VT → List Bool → List VT
 | [], _ => []
 | v :: vs, bs => match bs with
  | [] => []
  | b :: bs => (if b = true then zmO rs v else []) ++ ze6 rs vs bs
end
mutual
theorem zAU (rs : List (List Bool)) : ∀ v : VT, (zmO rs v).length ≤ v.nodes
 | .mk k n ks => by
  have := zte rs ks (rs.getD n.toNat [])
  simp only [zmO, VT.nodes, List.length_cons]
  omega
theorem zte (rs : List (List Bool)) : ∀ (vs : List VT) (bs : List Bool), (ze6 rs vs bs).length ≤ VT.nodesL vs
 | [], _ => by simp [ze6, VT.nodesL]
 | v :: vs, [] => by simp [ze6]
 | v :: vs, b :: bs => by
  have h1 := zAU rs v
  have h2 := zte rs vs bs
  simp only [ze6, VT.nodesL, List.length_append]
  split
  ·omega
  ·simp; omega
end
end Go.Proofs.YtddlhljflggenaaGreatDoor
namespace Go.Proofs.YtddlhljflggenaaGreatDoor
open Go Go.Abs
def pick : List VT → List Bool → List VT
 | x :: l, b :: bs => if b then pick l bs else x :: pick l bs
 | _, _ => []
def zan (data : List Dat) (t : VT) (c : Int) : Option (List VT) := (za7 data t c).map fun l => pick l ((zis data t.num.toNat).getD c.toNat [])
mutual
def zbN (data : List Dat) : IT → VT → Int × Bool
 | .mk n ks, t =>
  if t.kind = 6 then (if n = 0 then (if t.kids.length = ks.length then zbn data ks t.kids 0 else (0, false)) else (0, false))
  else if t.kind = 7 then (n, decide (0 ≤ n) && decide (n ≤ 6) && decide (ks.length = 0))
  else if t.kind = 5 then (if n = 0 then zch data ks t 0 else (0, false))
  else (0, decide (n = 0) && decide (ks.length = 0))
def zbn (data : List Dat) : List IT → List VT → Int → Int × Bool
 | [], _, a => (a, decide (a ≤ 6))
 | v :: vs, ts, a => match ts with
  | t :: ts => if (zbN data v t).2 then zbn data vs ts (a + (zbN data v t).1) else (0, false)
  | [] => (0, false)
def zch (data : List Dat) : List IT → VT → Int → Int × Bool
 | [], _, a => (a, true)
 | .mk c ks :: es, t, a => match zan data t c with
  | none => (0, false)
  | some ps => if ps.length = ks.length then
    (if (zbn data ks ps 0).2 && decide (a + (1 + (zbn data ks ps 0).1) ≤ 6) then zch data es t (a + (1 + (zbn data ks ps 0).1)) else (0, false))
   else (0, false)
end
mutual
def rdV (data : List Dat) : IT → VT → Int
 | .mk n ks, t =>
  if t.kind = 6 then (if n = 0 then (if t.kids.length = ks.length then rdA data ks t.kids 0 else -1) else -1)
  else if t.kind = 7 then (if 0 ≤ n ∧ n ≤ 6 ∧ ks.length = 0 then n else -1)
  else if t.kind = 5 then (if n = 0 ∧ ks.length ≤ 6 then rdE data ks t 0 else -1)
  else (if n = 0 ∧ ks.length = 0 then 0 else -1)
def rdA (data : List Dat) : List IT → List VT → Int → Int
 | [], _, a => a
 | v :: vs, ts, a => match ts with
  | t :: ts => if rdV data v t < 0 ∨ a + rdV data v t > 6 then -1 else rdA data vs ts (a + rdV data v t)
  | [] => -1
def rdE (data : List Dat) : List IT → VT → Int → Int
 | [], _, a => a
 | .mk c ks :: es, t, a => if c < 0 ∨ 8 ≤ c then -1 else match zan data t c with
  | none => -1
  | some ps => if ps.length = ks.length then
    (if rdA data ks ps 0 < 0 ∨ a + 1 + rdA data ks ps 0 > 6 then -1 else rdE data es t (a + (1 + rdA data ks ps 0)))
   else -1
end
theorem zs2 {data : List Dat} (h8 : ∀ D ∈ data, D.cons.length ≤ 8) {t : VT} {c : Int} {ps : List VT} (h : zan data t c = some ps) : 0 ≤ c ∧ c < 8 := by
 unfold zan at h
 cases hf : za7 data t c with
 | none => rw [hf] at h; cases h
 | some l =>
  obtain ⟨_, k1, k2, hn, hc, _⟩ := zem hf
  have := h8 _ (List.getElem_mem hn)
  omega
def agr (m : Int × Bool) (r : Int) : Prop := (m.2 = true → m.1 = r ∧ 0 ≤ r ∧ r ≤ 6) ∧ (m.2 = false → r = -1)
theorem zdk : agr (0, false) (-1) := ⟨fun h => (by cases h), fun _ => rfl⟩
mutual
theorem zlk {data : List Dat} (h8 : ∀ D ∈ data, D.cons.length ≤ 8) : ∀ (v : IT) (t : VT), agr (zbN data v t) (rdV data v t)
 | .mk n ks, t => by
  have hA := (zlj h8 ks t.kids 0 (by omega)).1 (by omega)
  have hE := zra h8 ks t 0 (by omega) (by omega)
  unfold zbN rdV
  split
  ·split
   ·split
    ·exact hA
    ·exact zdk
   ·exact zdk
  ·split
   ·refine ⟨fun h => ?_, fun h => ?_⟩
    ·simp at h
     rw [if_pos ⟨h.1.1, h.1.2, by simpa using h.2⟩]
     exact ⟨rfl, h.1.1, h.1.2⟩
    ·rw [if_neg]
     rintro ⟨h1, h2, h3⟩
     simp [h1, h2, h3] at h
   ·split
    ·by_cases hn : n = 0
     ·simp only [hn, if_true, true_and]
      by_cases hl : ks.length ≤ 6
      ·rw [if_pos hl]; exact hE.1
      ·rw [if_neg hl]
       refine ⟨fun h => ?_, fun _ => rfl⟩
       have := hE.2 h
       omega
     ·simp only [hn, if_false, false_and]
      exact zdk
    ·refine ⟨fun h => ?_, fun h => ?_⟩
     ·simp at h
      simp [h]
     ·rw [if_neg]
      rintro ⟨h1, h2⟩
      simp [h1, h2] at h
theorem zlj {data : List Dat} (h8 : ∀ D ∈ data, D.cons.length ≤ 8) : ∀ (vs : List IT) (ts : List VT) (a : Int), 0 ≤ a → (a ≤ 6 → agr (zbn data vs ts a) (rdA data vs ts a)) ∧ (6 < a → (zbn data vs ts a).2 = false)
 | [], ts, a, ha => by
  simp only [zbn, rdA]
  exact ⟨fun h => ⟨fun _ => ⟨rfl, ha, h⟩, fun h2 => by simp at h2; omega⟩, fun h => by simp; omega⟩
 | v :: vs, ts, a, ha => by
  match ts with
  | [] => simp only [zbn, rdA]; exact ⟨fun _ => zdk, fun _ => by trivial⟩
  | t :: ts =>
   obtain ⟨g1, g2⟩ := zlk h8 v t
   simp only [zbn, rdA]
   cases hb : (zbN data v t).2 with
   | false =>
    rw [g2 hb]
    simp
    exact fun _ => zdk
   | true =>
    obtain ⟨e1, e2, e3⟩ := g1 hb
    rw [e1]
    have hn := zlj h8 vs ts (a + rdV data v t) (by omega)
    simp only [if_true]
    refine ⟨fun h => ?_, fun h => hn.2 (by omega)⟩
    by_cases h6 : a + rdV data v t > 6
    ·rw [if_pos (.inr h6)]
     exact ⟨fun h => (by rw [hn.2 (by omega)] at h; cases h), fun _ => rfl⟩
    ·rw [if_neg (by omega)]
     exact hn.1 (by omega)
theorem zra {data : List Dat} (h8 : ∀ D ∈ data, D.cons.length ≤ 8) : ∀ (es : List IT) (t : VT) (a : Int), 0 ≤ a → a ≤ 6 → agr (zch data es t a) (rdE data es t a) ∧ ((zch data es t a).2 = true → a + es.length ≤ 6)
 | [], t, a, h0, h6 => by
  simp only [zch, rdE]
  exact ⟨⟨fun _ => ⟨rfl, h0, h6⟩, fun h => by cases h⟩, fun _ => by simpa using h6⟩
 | .mk c ks :: es, t, a, h0, h6 => by
  simp only [zch, rdE]
  cases hp : zan data t c with
  | none => simp only [ite_self]; exact ⟨zdk, fun h => by cases h⟩
  | some ps =>
   obtain ⟨c0, c8⟩ := zs2 h8 hp
   rw [if_neg (show ¬(c < 0 ∨ 8 ≤ c) by omega)]
   simp only
   by_cases hl : ps.length = ks.length
   ·simp only [hl, if_true]
    obtain ⟨g1, g2⟩ := (zlj h8 ks ps 0 (by omega)).1 (by omega)
    cases hb : (zbn data ks ps 0).2 with
    | false =>
     rw [g2 hb]
     simp
     exact zdk
    | true =>
     obtain ⟨e1, e2, e3⟩ := g1 hb
     rw [e1]
     by_cases hh : a + (1 + rdA data ks ps 0) ≤ 6
     ·have hn := zra h8 es t (a + (1 + rdA data ks ps 0)) (by omega) hh
      rw [if_neg (show ¬(rdA data ks ps 0 < 0 ∨ a + 1 + rdA data ks ps 0 > 6) by omega)]
      simp only [hh, decide_true, Bool.and_self, if_true]
      refine ⟨hn.1, fun h => ?_⟩
      have := hn.2 h
      simp only [List.length_cons]
      omega
     ·rw [if_pos (show rdA data ks ps 0 < 0 ∨ a + 1 + rdA data ks ps 0 > 6 by omega)]
      simp [hh]
      exact zdk
   ·simp only [hl, if_false]
    exact ⟨zdk, fun h => by cases h⟩
end
end Go.Proofs.YtddlhljflggenaaGreatDoor
namespace Go.Proofs.YtddlhljflggenaaGreatDoor
open Go Go.Abs
set_option maxRecDepth 100000
def zIs (_ : Nat) : List Bool := []
noncomputable def zIt : Code := Tryz.f6.body.getD .skip
def zq4 (t0 t1 : AV) (H : zaa) (K : Kt) : Prop :=
 zax t1 H fun t3 H =>
 ACalls tP zme [t0] H fun t6 H =>
 zab t6 true H (fun K' => zad true 3 t3 H (K' · H)) fun t8 H =>
 zab t6 true H (fun K' => ACalls tP zmf [t8] H K') fun t9 H =>
 zai t6 t9 (.bool false) fun t10 =>
 K t10 H
theorem zIu {t0 t1 : AV} {H : zaa} {K : Kt} (h : HSc H → zq4 t0 t1 H K) : ACalls tP zgk [t0, t1] H K :=
 zar (M := zIs) Tryz.func6 (c := zIt) (by kernel_rfl) (fun hs => Eq.mpr (by kernel_rfl) (h hs))
def zLW (_ : Nat) : List Bool := []
noncomputable def zLX : Code := Tryz.f11.body.getD .skip
def zq9 (t0 : AV) (H : zaa) (K : Kt) : Prop :=
 zax t0 H fun t1 H =>
 zaz [(.int .i64 0)] H fun t3 H =>
 zal 1 t3 (.int .i64 40) H fun H =>
 zad true 2 t1 H fun t4 =>
 ACalls tP zh1 [t4, t3] H fun t5 H =>
 K t5 H
theorem zLY {t0 : AV} {H : zaa} {K : Kt} (h : HSc H → zq9 t0 H K) : ACalls tP zmD [t0] H K :=
 zar (M := zLW) Tryz.func11 (c := zLX) (by kernel_rfl) (fun hs => Eq.mpr (by kernel_rfl) (h hs))
def zjC : Nat → List Bool
 | 5 => rl false [1,2,2,1,24]
 | _ => []
noncomputable def zox : Code := Tryz.f29.body.getD .skip
noncomputable def zGo : List ResultVar := Tryz.f29.results.toList
def zjD (t1 t2 t5 : AV) : List AV := ux 1 (t1 :: t2 :: ux 2 (t5 :: ux 24 []))
def zGm : List Bool := zjC 5
noncomputable def zGk : Code := zao [1, 1, 1, 0, 1, 0, 0] zox
def zGj (K : Kt) : AExit → List AV → zaa → Prop := zap tP zjC [1, 1, 1, 0, 1, 0] zox (zaA tP zGo K)
def zvK (t1 t2 t5 : AV) (H : zaa) (K : Kt) : Prop := ALoop tP zGk (zGj K) (zjD t1 t2 t5) H
def zow (t1 t2 t5 : AV) (H : zaa) (K : Kt) (Kb5 : Lt) : Prop :=
 zag 1 t2 fun t16 =>
 zad false 1 t16 H fun t17 =>
 zah 1 t17 fun t18 =>
 zac .lss false t5 t18 fun t19 =>
 zaf t19
 (zag 1 t2 fun t22 =>
 zad false 1 t22 H fun t23 =>
 zaj 2 t23 t5 fun t25 =>
 zad true 2 t25 H fun t26 =>
 ACalls tP zh1 [t26, t1] H fun t28 H =>
 aUn .not t28 fun t29 =>
 zaf t29
 (K (.bool false) H)
 (zac .add false t5 (.int .i64 1) fun t21 =>
 Kb5 (zjD t1 t2 t21) H))
 (K (.bool true) H)
def zvJ (t0 t1 : AV) (H : zaa) (K : Kt) : Prop :=
 zax t0 H fun t2 H =>
 zbb t1 fun t7 =>
 zad false 1 t7 H fun t8 =>
 zac .sub false t8 (.int .i64 1) fun t9 =>
 zbb t1 fun t10 =>
 zal 1 t10 t9 H fun H =>
 zbb t1 fun t12 =>
 zad false 1 t12 H fun t13 =>
 zac .lss false t13 (.int .i64 0) fun t14 =>
 zaf t14
 (K (.bool false) H)
 (zvK t1 t2 (.int .i64 0) H K)
theorem zGl {t1 t2 t5 : AV} {H : zaa} {K : Kt} (Inv : Nat → AV → zaa → Prop) (n : Nat) (h0 : HSc H → Inv n t5 H)
  (round : Rd1 (fun t5 => zjD t1 t2 t5) (fun t5 => fun H Kb5 => zow t1 t2 t5 H K Kb5) H Inv) : zvK t1 t2 t5 H K :=
 lp1 (M := zjC) zGm t5 (by kernel_rfl) Inv n h0 round
theorem zGn {t0 t1 : AV} {H : zaa} {K : Kt} (h : HSc H → zvJ t0 t1 H K) : ACalls tP zh1 [t0, t1] H K :=
 zar (M := zjC) Tryz.func29 (c := zox) (by kernel_rfl) (fun hs => Eq.mpr (by kernel_rfl) (h hs))
def zGc (_ : Nat) : List Bool := []
noncomputable def zGd : Code := Tryz.f27.body.getD .skip
def zvH (t0 t1 t2 : AV) (H : zaa) (K : Kt) : Prop :=
 zax t1 H fun t4 H =>
 zax t2 H fun t5 H =>
 zad true 3 t4 H fun t8 =>
 zad true 2 t5 H fun t9 =>
 ACalls tP zdS [t0, t8, t9] H fun t10 H =>
 zac .geq false t10 (.int .i64 0) fun t11 =>
 K t11 H
theorem zGe {t0 t1 t2 : AV} {H : zaa} {K : Kt} (h : HSc H → zvH t0 t1 t2 H K) : ACalls tP zgh [t0, t1, t2] H K :=
 zar (M := zGc) Tryz.func27 (c := zGd) (by kernel_rfl) (fun hs => Eq.mpr (by kernel_rfl) (h hs))
def zDm (_ : Nat) : List Bool := []
noncomputable def zDn : Code := Tryz.f12.body.getD .skip
def zuy (t0 t1 t2 : AV) (H : zaa) (K : Kt) : Prop :=
 zax t1 H fun t4 H =>
 zax t2 H fun t5 H =>
 zad true 3 t4 H fun t10 =>
 ACalls tP zeZ [t0, t10] H fun t11 H =>
 aUn .not t11 fun t12 =>
 zaf t12
 (K (.int .i64 (-1)) H)
 (zad true 3 t4 H fun t15 =>
 zad true 2 t5 H fun t16 =>
 ACalls tP zh2 [t0, t15, t16] H fun t17 H =>
 zav t17 0 fun t18 =>
 zav t17 1 fun t19 =>
 aUn .not t19 fun t21 =>
 zaf t21
 (K (.int .i64 (-1)) H)
 (K t18 H))
theorem zDo {t0 t1 t2 : AV} {H : zaa} {K : Kt} (h : HSc H → zuy t0 t1 t2 H K) : ACalls tP zdS [t0, t1, t2] H K :=
 zar (M := zDm) Tryz.func12 (c := zDn) (by kernel_rfl) (fun hs => Eq.mpr (by kernel_rfl) (h hs))
def zFt (_ : Nat) : List Bool := []
noncomputable def zFu : Code := Tryz.f20.body.getD .skip
def zvi (t0 t1 : AV) (H : zaa) (K : Kt) : Prop :=
 zax t1 H fun t3 H =>
 zau [.snil, .snil, .snil, .snil] [(0, 1), (1, 1), (2, 1), (3, 1)] [(0, t0)] fun t6 =>
 ACalls tP zmn [t6] H fun t7 H =>
 zab t7 true H (fun K' => K' t0 H) fun t9 H =>
 zab t7 true H (fun K' => zad true 3 t3 H (K' · H)) fun t10 H =>
 zab t7 true H (fun K' => ACalls tP zgj [t9, t10, (.int .i64 0)] H K') fun t11 H =>
 zai t7 t11 (.bool false) fun t12 =>
 K t12 H
theorem zFv {t0 t1 : AV} {H : zaa} {K : Kt} (h : HSc H → zvi t0 t1 H K) : ACalls tP zeZ [t0, t1] H K :=
 zar (M := zFt) Tryz.func20 (c := zFu) (by kernel_rfl) (fun hs => Eq.mpr (by kernel_rfl) (h hs))
def zjE : Nat → List Bool
 | 13 => rl false [0,1,3,1,3,1,44,3,42]
 | _ => []
noncomputable def zoz : Code := Tryz.f30.body.getD .skip
noncomputable def zGv : List ResultVar := Tryz.f30.results.toList
def zjF (t0 t4 t8 t53 t54 t55 : AV) : List AV := t0 :: ux 3 (t4 :: ux 3 (t8 :: ux 44 (t53 :: t54 :: t55 :: ux 42 [])))
def zGt : List Bool := zjE 13
noncomputable def zGr : Code := zao [1, 0, 1, 0, 1, 1, 1, 1, 1, 0, 1, 1, 0, 1, 0, 0] zoz
def zGq (K : Kt) : AExit → List AV → zaa → Prop := zap tP zjE [1, 0, 1, 0, 1, 1, 1, 1, 1, 0, 1, 1, 0, 1, 0] zoz (zaA tP zGv K)
def zvL (t0 t4 t8 t53 t54 t55 : AV) (H : zaa) (K : Kt) : Prop := ALoop tP zGr (zGq K) (zjF t0 t4 t8 t53 t54 t55) H
def zoy (t0 t4 t8 t53 t54 t55 : AV) (H : zaa) (K : Kt) (Kb13 : Lt) : Prop :=
 zac .lss false t55 t54 fun t56 =>
 zaf t56
 (zaj 2 t53 t55 fun t57 =>
 zad true 2 t57 H fun t58 =>
 zaz [(.int .i64 0), .snil] H fun t10 H =>
 zal 2 t10 t58 H fun H =>
 zad true 3 t4 H fun t61 =>
 zag 0 t10 fun t62 =>
 zad false 1 t62 H fun t63 =>
 ACalls tP zh9 [t0, t61, t63] H fun t64 H =>
 zav t64 0 fun t65 =>
 zav t64 1 fun t66 =>
 aUn .not t66 fun t68 =>
 zaf t68
 (zaw [(.int .i64 0), (.bool false)] (K · H))
 (zag 1 t10 fun t72 =>
 zad false 1 t72 H fun t73 =>
 ACalls tP zh8 [t0, t65, t73] H fun t74 H =>
 zav t74 0 fun t75 =>
 zav t74 1 fun t76 =>
 zac .add false (.int .i64 1) t75 fun t79 =>
 zac .add false t8 t79 fun t80 =>
 aUn .not t76 fun t82 =>
 zab t82 false H (fun K' => K' t80 H) fun t84 H =>
 zab t82 false H (fun K' => zac .gtr false t84 (.int .i64 6) (K' · H)) fun t85 H =>
 zai t82 (.bool true) t85 fun t86 =>
 zaf t86
 (zaw [(.int .i64 0), (.bool false)] (K · H))
 (zac .add false t55 (.int .i64 1) fun t87 =>
 Kb13 (zjF t0 t4 t80 t53 t54 t87) H)))
 (zaw [t8, (.bool true)] (K · H))
def zcK (t0 t1 t2 : AV) (H : zaa) (K : Kt) : Prop :=
 zax t1 H fun t4 H =>
 zax t2 H fun t5 H =>
 zag 0 t4 fun t14 =>
 zad false 1 t14 H fun t15 =>
 zac .eql false t15 (.int .i64 6) fun t17 =>
 zaf t17
 (zag 0 t5 fun t18 =>
 zad false 1 t18 H fun t19 =>
 zac .neq false t19 (.int .i64 0) fun t20 =>
 zaf t20
 (zaw [(.int .i64 0), (.bool false)] (K · H))
 (zag 2 t4 fun t22 =>
 zad false 1 t22 H fun t23 =>
 zag 1 t5 fun t24 =>
 zad false 1 t24 H fun t25 =>
 ACalls tP zh8 [t0, t23, t25] H fun t26 H =>
 zav t26 0 fun t27 =>
 zav t26 1 fun t28 =>
 zaw [t27, t28] (K · H)))
 (zac .eql false t15 (.int .i64 7) fun t30 =>
 zaf t30
 (zae H (fun K' => zag 0 t5 (K' · H)) fun t31 =>
 zae H (fun K' => zas false 1 t31 H (K' · H)) fun t32 =>
 zae H (fun K' => zag 0 t5 (K' · H)) fun t33 =>
 zae H (fun K' => zas false 1 t33 H (K' · H)) fun t34 =>
 zae H (fun K' => zac .geq false t34 (.int .i64 0) (K' · H)) fun t35 =>
 zae H (fun K' => K' t35 H) fun t36 =>
 zab t36 true H (fun K' => zae H (fun K'' => zag 0 t5 (K'' · H)) (K' · H)) fun t37 H =>
 zab t36 true H (fun K' => zae H (fun K'' => zas false 1 t37 H (K'' · H)) (K' · H)) fun t38 H =>
 zab t36 true H (fun K' => zae H (fun K'' => zac .leq false t38 (.int .i64 6) (K'' · H)) (K' · H)) fun t39 H =>
 zae H (fun K' => zai t36 t39 (.bool false) (K' · H)) fun t40 =>
 zae H (fun K' => K' t40 H) fun t41 =>
 zab t41 true H (fun K' => zae H (fun K'' => zag 1 t5 (K'' · H)) (K' · H)) fun t42 H =>
 zab t41 true H (fun K' => zae H (fun K'' => zas false 1 t42 H (K'' · H)) (K' · H)) fun t43 H =>
 zab t41 true H (fun K' => zae H (fun K'' => zah 1 t43 (K'' · H)) (K' · H)) fun t44 H =>
 zab t41 true H (fun K' => zae H (fun K'' => zac .eql false t44 (.int .i64 0) (K'' · H)) (K' · H)) fun t45 H =>
 zae H (fun K' => zai t41 t45 (.bool false) (K' · H)) fun t46 =>
 zae H (fun K' => K' t32 H) fun t6 =>
 zae H (fun K' => K' t46 H) fun t7 =>
 zaw [t6, t7] (K · H))
 (zac .eql false t15 (.int .i64 5) fun t48 =>
 zaf t48
 (zag 0 t5 fun t49 =>
 zad false 1 t49 H fun t50 =>
 zac .neq false t50 (.int .i64 0) fun t51 =>
 zaf t51
 (zaw [(.int .i64 0), (.bool false)] (K · H))
 (zag 1 t5 fun t52 =>
 zad false 1 t52 H fun t53 =>
 zah 1 t53 fun t54 =>
 zvL t0 t4 (.int .i64 0) t53 t54 (.int .i64 0) H K))
 (zae H (fun K' => zag 0 t5 (K' · H)) fun t89 =>
 zae H (fun K' => zas false 1 t89 H (K' · H)) fun t90 =>
 zae H (fun K' => zac .eql false t90 (.int .i64 0) (K' · H)) fun t91 =>
 zae H (fun K' => K' t91 H) fun t92 =>
 zab t92 true H (fun K' => zae H (fun K'' => zag 1 t5 (K'' · H)) (K' · H)) fun t93 H =>
 zab t92 true H (fun K' => zae H (fun K'' => zas false 1 t93 H (K'' · H)) (K' · H)) fun t94 H =>
 zab t92 true H (fun K' => zae H (fun K'' => zah 1 t94 (K'' · H)) (K' · H)) fun t95 H =>
 zab t92 true H (fun K' => zae H (fun K'' => zac .eql false t95 (.int .i64 0) (K'' · H)) (K' · H)) fun t96 H =>
 zae H (fun K' => zai t92 t96 (.bool false) (K' · H)) fun t97 =>
 zae H (fun K' => K' (.int .i64 0) H) fun t6 =>
 zae H (fun K' => K' t97 H) fun t7 =>
 zaw [t6, t7] (K · H))))
theorem zGs {t0 t4 t8 t53 t54 t55 : AV} {H : zaa} {K : Kt} (Inv : Nat → AV → AV → zaa → Prop) (n : Nat) (h0 : HSc H → Inv n t8 t55 H)
  (round : Rd2 (fun t8 => fun t55 => zjF t0 t4 t8 t53 t54 t55) (fun t8 => fun t55 => fun H Kb13 => zoy t0 t4 t8 t53 t54 t55 H K Kb13) H Inv) : zvL t0 t4 t8 t53 t54 t55 H K :=
 lp2 (M := zjE) zGt t8 t55 (by kernel_rfl) Inv n h0 round
theorem zGu {t0 t1 t2 : AV} {H : zaa} {K : Kt} (h : HSc H → zcK t0 t1 t2 H K) : ACalls tP zh2 [t0, t1, t2] H K :=
 zar (M := zjE) Tryz.func30 (c := zoz) (by kernel_rfl) (fun hs => Eq.mpr (by kernel_rfl) (h hs))
def zFQ (_ : Nat) : List Bool := []
noncomputable def zFR : Code := Tryz.f24.body.getD .skip
def zvr (t0 t1 : AV) (H : zaa) (K : Kt) : Prop :=
 zax t1 H fun t3 H =>
 ACalls tP zmp [t0] H fun t6 H =>
 zab t6 true H (fun K' => K' t0 H) fun t8 H =>
 zab t6 true H (fun K' => zad true 3 t3 H (K' · H)) fun t9 H =>
 zab t6 true H (fun K' => ACalls tP zh7 [t8, t9, (.int .i64 0)] H K') fun t10 H =>
 zai t6 t10 (.bool false) fun t11 =>
 K t11 H
theorem zFS {t0 t1 : AV} {H : zaa} {K : Kt} (h : HSc H → zvr t0 t1 H K) : ACalls tP zmi [t0, t1] H K :=
 zar (M := zFQ) Tryz.func24 (c := zFR) (by kernel_rfl) (fun hs => Eq.mpr (by kernel_rfl) (h hs))
def zke : Nat → List Bool
 | 5 => rl false [0,1,1,1,5,1,9,3,23]
 | _ => []
noncomputable def zpA : Code := Tryz.f50.body.getD .skip
noncomputable def zIl : List ResultVar := Tryz.f50.results.toList
def zkf (t0 t2 t8 t18 t19 t20 : AV) : List AV := t0 :: ux 1 (t2 :: ux 5 (t8 :: ux 9 (t18 :: t19 :: t20 :: ux 23 [])))
def zIj : List Bool := zke 5
noncomputable def zIh : Code := zao [1, 1, 1, 0, 1, 0, 0] zpA
def zIg (K : Kt) : AExit → List AV → zaa → Prop := zap tP zke [1, 1, 1, 0, 1, 0] zpA (zaA tP zIl K)
def zwG (t0 t2 t8 t18 t19 t20 : AV) (H : zaa) (K : Kt) : Prop := ALoop tP zIh (zIg K) (zkf t0 t2 t8 t18 t19 t20) H
def zpz (t0 t2 t8 t18 t19 t20 : AV) (H : zaa) (K : Kt) (Kb5 : Lt) : Prop :=
 zac .lss false t20 t19 fun t21 =>
 zaf t21
 (zaj 3 t18 t20 fun t23 =>
 zad true 3 t23 H fun t24 =>
 zaz [(.int .i64 0), (.int .i64 0), .snil] H fun t10 H =>
 zal 3 t10 t24 H fun H =>
 zae H (fun K' => K' t0 H) fun t26 =>
 zae H (fun K' => zas true 3 t10 H (K' · H)) fun t27 =>
 zae H (fun K' => K' t2 H) fun t28 =>
 zae H (fun K' => K' t20 H) fun t29 =>
 zae H (fun K' => zaj 2 t28 t29 (K' · H)) fun t30 =>
 zae H (fun K' => zas true 2 t30 H (K' · H)) fun t31 =>
 zbj H (fun H K' => ACalls tP zh2 [t26, t27, t31] H K') fun t32 =>
 zae H (fun K' => K' t32 H) fun t25 =>
 zae H (fun K' => zav t25 0 (K' · H)) fun t33 =>
 zae H (fun K' => zav t25 1 (K' · H)) fun t34 =>
 zae H (fun K' => K' t33 H) fun t11 =>
 zae H (fun K' => K' t34 H) fun t12 =>
 aUn .not t12 fun t36 =>
 zaf t36
 (zaw [(.int .i64 0), (.bool false)] (K · H))
 (zac .add false t8 t11 fun t39 =>
 zac .add false t20 (.int .i64 1) fun t40 =>
 Kb5 (zkf t0 t2 t39 t18 t19 t40) H))
 (zac .leq false t8 (.int .i64 6) fun t43 =>
 zaw [t8, t43] (K · H))
def zpy (t0 t1 t2 : AV) (H : zaa) (K : Kt) : Prop :=
 zah 1 t1 fun t14 =>
 zah 1 t2 fun t16 =>
 zac .neq false t14 t16 fun t17 =>
 zaf t17
 (zaw [(.int .i64 0), (.bool false)] (K · H))
 (zah 1 t1 fun t19 =>
 zwG t0 t2 (.int .i64 0) t1 t19 (.int .i64 0) H K)
theorem zIi {t0 t2 t8 t18 t19 t20 : AV} {H : zaa} {K : Kt} (Inv : Nat → AV → AV → zaa → Prop) (n : Nat) (h0 : HSc H → Inv n t8 t20 H)
  (round : Rd2 (fun t8 => fun t20 => zkf t0 t2 t8 t18 t19 t20) (fun t8 => fun t20 => fun H Kb5 => zpz t0 t2 t8 t18 t19 t20 H K Kb5) H Inv) : zwG t0 t2 t8 t18 t19 t20 H K :=
 lp2 (M := zke) zIj t8 t20 (by kernel_rfl) Inv n h0 round
theorem zIk {t0 t1 t2 : AV} {H : zaa} {K : Kt} (h : HSc H → zpy t0 t1 t2 H K) : ACalls tP zh8 [t0, t1, t2] H K :=
 zar (M := zke) Tryz.func50 (c := zpA) (by kernel_rfl) (fun hs => Eq.mpr (by kernel_rfl) (h hs))
def zkg : Nat → List Bool
 | 6 => rl false [8,1,1,1,15,3,15]
 | _ => []
noncomputable def zpC : Code := Tryz.f51.body.getD .skip
noncomputable def zIr : List ResultVar := Tryz.f51.results.toList
def zkh (t8 t10 t26 t27 t28 : AV) : List AV := ux 8 (t8 :: ux 1 (t10 :: ux 15 (t26 :: t27 :: t28 :: ux 15 [])))
def zIp : List Bool := zkg 6
noncomputable def zIn : Code := zao [1, 1, 1, 1, 0, 1, 0, 0] zpC
def zIm (K : Kt) : AExit → List AV → zaa → Prop := zap tP zkg [1, 1, 1, 1, 0, 1, 0] zpC (zaA tP zIr K)
def zkj (t8 t10 t26 t27 t28 : AV) (H : zaa) (K : Kt) : Prop := ALoop tP zIn (zIm K) (zkh t8 t10 t26 t27 t28) H
def zwJ (t8 t10 t26 t27 t28 : AV) (H : zaa) (K : Kt) (Kb6 : Lt) : Prop :=
 zac .add false t28 (.int .i64 1) fun t42 =>
 Kb6 (zkh t8 t10 t26 t27 t42) H
def zki (t8 t10 t26 t27 t28 : AV) (H : zaa) (K : Kt) (Kb6 : Lt) : Prop :=
 zwJ t8 t10 t26 t27 t28 H K Kb6
def zpB (t8 t10 t26 t27 t28 : AV) (H : zaa) (K : Kt) (Kb6 : Lt) : Prop :=
 zac .lss false t28 t27 fun t29 =>
 zaf t29
 (zaj 1 t26 t28 fun t31 =>
 zad false 1 t31 H fun t32 =>
 aUn .not t32 fun t34 =>
 zaf t34
 (zaj 3 t8 t28 fun t38 =>
 zad true 3 t38 H fun t39 =>
 zay 3 [(.int .i64 0), (.int .i64 0), .snil] 1 [(0, t39)] fun t40 =>
 zat zaO 3 40 t10 t40 H fun t41 H =>
 zki t8 t41 t26 t27 t28 H K Kb6)
 (zki t8 t10 t26 t27 t28 H K Kb6))
 (zaw [t10, (.bool true)] (K · H))
def zwI (t0 t1 t2 : AV) (H : zaa) (K : Kt) : Prop :=
 zax t1 H fun t4 H =>
 zad true 3 t4 H fun t15 =>
 ACalls tP zmC [t0, t15, t2] H fun t17 H =>
 zav t17 0 fun t18 =>
 zav t17 1 fun t19 =>
 aUn .not t19 fun t21 =>
 zaf t21
 (zaw [.snil, (.bool false)] (K · H))
 (zag 1 t4 fun t23 =>
 zad false 1 t23 H fun t24 =>
 ACalls tP zgs [t0, t24, t2] H fun t26 H =>
 zah 1 t26 fun t27 =>
 zkj t18 .snil t26 t27 (.int .i64 0) H K)
theorem zIo {t8 t10 t26 t27 t28 : AV} {H : zaa} {K : Kt} (Inv : Nat → AV → AV → zaa → Prop) (n : Nat) (h0 : HSc H → Inv n t10 t28 H)
  (round : Rd2 (fun t10 => fun t28 => zkh t8 t10 t26 t27 t28) (fun t10 => fun t28 => fun H Kb6 => zpB t8 t10 t26 t27 t28 H K Kb6) H Inv) : zkj t8 t10 t26 t27 t28 H K :=
 lp2 (M := zkg) zIp t10 t28 (by kernel_rfl) Inv n h0 round
theorem zIq {t0 t1 t2 : AV} {H : zaa} {K : Kt} (h : HSc H → zwI t0 t1 t2 H K) : ACalls tP zh9 [t0, t1, t2] H K :=
 zar (M := zkg) Tryz.func51 (c := zpC) (by kernel_rfl) (fun hs => Eq.mpr (by kernel_rfl) (h hs))
def zjT : Nat → List Bool
 | 7 => rl false [8,1,4,1,19,3,12]
 | _ => []
noncomputable def zoJ : Code := Tryz.f36.body.getD .skip
noncomputable def zG8 : List ResultVar := Tryz.f36.results.toList
def zjU (t8 t13 t33 t34 t35 : AV) : List AV := ux 8 (t8 :: ux 4 (t13 :: ux 19 (t33 :: t34 :: t35 :: ux 12 [])))
def zG6 : List Bool := zjT 7
noncomputable def zG4 : Code := zao [1, 1, 1, 1, 1, 0, 1, 0, 0] zoJ
def zG3 (K : Kt) : AExit → List AV → zaa → Prop := zap tP zjT [1, 1, 1, 1, 1, 0, 1, 0] zoJ (zaA tP zG8 K)
def zjV (t8 t13 t33 t34 t35 : AV) (H : zaa) (K : Kt) : Prop := ALoop tP zG4 (zG3 K) (zjU t8 t13 t33 t34 t35) H
def zoI (t8 t13 t33 t34 t35 : AV) (H : zaa) (K : Kt) (Kb7 : Lt) : Prop :=
 zac .lss false t35 t34 fun t36 =>
 zaf t36
 (zaj 1 t33 t35 fun t37 =>
 zad false 1 t37 H fun t38 =>
 zaj 3 t8 t38 fun t42 =>
 zad true 3 t42 H fun t43 =>
 zay 3 [(.int .i64 0), (.int .i64 0), .snil] 1 [(0, t43)] fun t44 =>
 zat zaO 3 40 t13 t44 H fun t45 H =>
 zac .add false t35 (.int .i64 1) fun t46 =>
 Kb7 (zjU t8 t45 t33 t34 t46) H)
 (zaw [t13, (.bool true)] (K · H))
def zvU (t0 t1 t2 : AV) (H : zaa) (K : Kt) : Prop :=
 zax t1 H fun t4 H =>
 zad true 3 t4 H fun t18 =>
 ACalls tP zib [t0, t18, t2] H fun t20 H =>
 zav t20 0 fun t21 =>
 zav t20 1 fun t22 =>
 aUn .not t22 fun t24 =>
 zaf t24
 (zaw [.snil, (.bool false)] (K · H))
 (zad true 3 t4 H fun t27 =>
 ACalls tP zmq [t0, t27, t2] H fun t29 H =>
 zav t29 0 fun t30 =>
 zav t29 1 fun t31 =>
 zav t29 2 fun t32 =>
 zah 1 t30 fun t34 =>
 zjV t21 .snil t30 t34 (.int .i64 0) H K)
theorem zG5 {t8 t13 t33 t34 t35 : AV} {H : zaa} {K : Kt} (Inv : Nat → AV → AV → zaa → Prop) (n : Nat) (h0 : HSc H → Inv n t13 t35 H)
  (round : Rd2 (fun t13 => fun t35 => zjU t8 t13 t33 t34 t35) (fun t13 => fun t35 => fun H Kb7 => zoI t8 t13 t33 t34 t35 H K Kb7) H Inv) : zjV t8 t13 t33 t34 t35 H K :=
 lp2 (M := zjT) zG6 t13 t35 (by kernel_rfl) Inv n h0 round
theorem zG7 {t0 t1 t2 : AV} {H : zaa} {K : Kt} (h : HSc H → zvU t0 t1 t2 H K) : ACalls tP zh5 [t0, t1, t2] H K :=
 zar (M := zjT) Tryz.func36 (c := zoJ) (by kernel_rfl) (fun hs => Eq.mpr (by kernel_rfl) (h hs))
def zkn : Nat → List Bool
 | 6 => rl false [11,2,15,3,16]
 | _ => []
noncomputable def zpG : Code := Tryz.f55.body.getD .skip
noncomputable def zIL : List ResultVar := Tryz.f55.results.toList
def zkp (t11 t12 t28 t29 t30 : AV) : List AV := ux 11 (t11 :: t12 :: ux 15 (t28 :: t29 :: t30 :: ux 16 []))
def zIJ : List Bool := zkn 6
noncomputable def zIH : Code := zao [1, 1, 1, 0, 1, 0, 0] zpG
def zIG (K : Kt) : AExit → List AV → zaa → Prop := zap tP zkn [1, 1, 1, 0, 1, 0] zpG (zaA tP zIL K)
def zkr (t11 t12 t28 t29 t30 : AV) (H : zaa) (K : Kt) : Prop := ALoop tP zIH (zIG K) (zkp t11 t12 t28 t29 t30) H
def zwQ (t11 t12 t28 t29 t30 : AV) (H : zaa) (K : Kt) (Kb6 : Lt) : Prop :=
 zac .add false t30 (.int .i64 1) fun t44 =>
 Kb6 (zkp t11 t12 t28 t29 t44) H
def zkq (t11 t12 t28 t29 t30 : AV) (H : zaa) (K : Kt) (Kb6 : Lt) : Prop :=
 zwQ t11 t12 t28 t29 t30 H K Kb6
def zko (t11 t12 t28 t29 t30 : AV) (H : zaa) (K : Kt) (Kb6 : Lt) : Prop :=
 zac .lss false t30 t29 fun t31 =>
 zaf t31
 (zaj 1 t28 t30 fun t33 =>
 zad false 1 t33 H fun t34 =>
 zaf t34
 (zay 1 [(.int .i64 0)] 1 [(0, t30)] fun t38 =>
 zat zb3 1 8 t12 t38 H fun t39 H =>
 zkq t11 t39 t28 t29 t30 H K Kb6)
 (zay 1 [(.int .i64 0)] 1 [(0, t30)] fun t42 =>
 zat zb3 1 8 t11 t42 H fun t43 H =>
 zkq t43 t12 t28 t29 t30 H K Kb6))
 (zaw [t11, t12, (.bool true)] (K · H))
def zwP (t0 t1 t2 : AV) (H : zaa) (K : Kt) : Prop :=
 zax t1 H fun t4 H =>
 zad true 3 t4 H fun t17 =>
 ACalls tP zib [t0, t17, t2] H fun t19 H =>
 zav t19 0 fun t20 =>
 zav t19 1 fun t21 =>
 aUn .not t21 fun t23 =>
 zaf t23
 (zaw [.snil, .snil, (.bool false)] (K · H))
 (zag 1 t4 fun t25 =>
 zad false 1 t25 H fun t26 =>
 ACalls tP zgt [t0, t26, t2] H fun t28 H =>
 zah 1 t28 fun t29 =>
 zkr .snil .snil t28 t29 (.int .i64 0) H K)
theorem zII {t11 t12 t28 t29 t30 : AV} {H : zaa} {K : Kt} (Inv : Nat → AV → AV → AV → zaa → Prop) (n : Nat) (h0 : HSc H → Inv n t11 t12 t30 H)
  (round : Rd3 (fun t11 => fun t12 => fun t30 => zkp t11 t12 t28 t29 t30) (fun t11 => fun t12 => fun t30 => fun H Kb6 => zko t11 t12 t28 t29 t30 H K Kb6) H Inv) : zkr t11 t12 t28 t29 t30 H K :=
 lp3 (M := zkn) zIJ t11 t12 t30 (by kernel_rfl) Inv n h0 round
theorem zIK {t0 t1 t2 : AV} {H : zaa} {K : Kt} (h : HSc H → zwP t0 t1 t2 H K) : ACalls tP zmq [t0, t1, t2] H K :=
 zar (M := zkn) Tryz.func55 (c := zpG) (by kernel_rfl) (fun hs => Eq.mpr (by kernel_rfl) (h hs))
end Go.Proofs.YtddlhljflggenaaGreatDoor

namespace Go.Proofs.YtddlhljflggenaaGreatDoor
open Go Go.Abs
set_option maxRecDepth 100000
def zk2 : Nat → List Bool
 | 5 => rl false [0,2,5,1,32,3,16]
 | _ => []
noncomputable def zqE : Code := Tryz.f90.body.getD .skip
noncomputable def zLE : List ResultVar := Tryz.f90.results.toList
def zk3 (t0 t1 t7 t40 t41 t42 : AV) : List AV := t0 :: t1 :: ux 5 (t7 :: ux 32 (t40 :: t41 :: t42 :: ux 16 []))
def zLC : List Bool := zk2 5
noncomputable def zLA : Code := zao [1, 1, 1, 0, 1, 0, 0] zqE
def zLz (K : Kt) : AExit → List AV → zaa → Prop := zap tP zk2 [1, 1, 1, 0, 1, 0] zqE (zaA tP zLE K)
def zk4 (t0 t1 t7 t40 t41 t42 : AV) (H : zaa) (K : Kt) : Prop := ALoop tP zLA (zLz K) (zk3 t0 t1 t7 t40 t41 t42) H
def zqD (t0 t1 t7 t40 t41 t42 : AV) (H : zaa) (K : Kt) (Kb5 : Lt) : Prop :=
 zac .lss false t42 t41 fun t43 =>
 zaf t43
 (zaj 3 t40 t42 fun t44 =>
 zad true 3 t44 H fun t45 =>
 zaz [(.int .i64 0), (.int .i64 0), .snil] H fun t9 H =>
 zal 3 t9 t45 H fun H =>
 zae H (fun K' => K' t7 H) fun t46 =>
 zae H (fun K' => zas true 3 t9 H (K' · H)) fun t47 =>
 zae H (fun K' => K' t1 H) fun t48 =>
 zae H (fun K' => K' t0 H) fun t49 =>
 zae H (fun K' => K' t1 H) fun t50 =>
 zae H (fun K' => zaj 3 t49 t50 (K' · H)) fun t51 =>
 zae H (fun K' => zag 1 t51 (K' · H)) fun t52 =>
 zae H (fun K' => zas false 1 t52 H (K' · H)) fun t53 =>
 zbj H (fun H K' => ACalls tP zie [t47, t48, t53] H K') fun t54 =>
 zae H (fun K' => zay 1 [(.bool false)] 1 [(0, t54)] (K' · H)) fun t55 =>
 zat zeQ 1 1 t46 t55 H fun t56 H =>
 zae H (fun K' => K' t56 H) fun t7 =>
 zac .add false t42 (.int .i64 1) fun t57 =>
 Kb5 (zk3 t0 t1 t7 t40 t41 t57) H)
 (K t7 H)
def zx5 (t0 t1 t2 : AV) (H : zaa) (K : Kt) : Prop :=
 zac .lss false t1 (.int .i64 0) fun t11 =>
 zab t11 false H (fun K' => K' t1 H) fun t13 H =>
 zab t11 false H (fun K' => K' t0 H) fun t14 H =>
 zab t11 false H (fun K' => zah 1 t14 (K' · H)) fun t15 H =>
 zab t11 false H (fun K' => zac .geq false t13 t15 (K' · H)) fun t16 H =>
 zai t11 (.bool true) t16 fun t17 =>
 zab t17 false H (fun K' => K' t2 H) fun t19 H =>
 zab t17 false H (fun K' => zac .lss false t19 (.int .i64 0) (K' · H)) fun t20 H =>
 zai t17 (.bool true) t20 fun t21 =>
 zab t21 false H (fun K' => K' t2 H) fun t23 H =>
 zab t21 false H (fun K' => K' t0 H) fun t24 H =>
 zab t21 false H (fun K' => K' t1 H) fun t25 H =>
 zab t21 false H (fun K' => zaj 3 t24 t25 (K' · H)) fun t26 H =>
 zab t21 false H (fun K' => zag 2 t26 (K' · H)) fun t27 H =>
 zab t21 false H (fun K' => zad false 1 t27 H (K' · H)) fun t28 H =>
 zab t21 false H (fun K' => zah 1 t28 (K' · H)) fun t29 H =>
 zab t21 false H (fun K' => zac .geq false t23 t29 (K' · H)) fun t30 H =>
 zai t21 (.bool true) t30 fun t31 =>
 zaf t31
 (K .snil H)
 (zaj 3 t0 t1 fun t34 =>
 zag 2 t34 fun t35 =>
 zad false 1 t35 H fun t36 =>
 zaj 2 t36 t2 fun t38 =>
 zag 1 t38 fun t39 =>
 zad false 1 t39 H fun t40 =>
 zah 1 t40 fun t41 =>
 zk4 t0 t1 .snil t40 t41 (.int .i64 0) H K)
theorem zLB {t0 t1 t7 t40 t41 t42 : AV} {H : zaa} {K : Kt} (Inv : Nat → AV → AV → zaa → Prop) (n : Nat) (h0 : HSc H → Inv n t7 t42 H)
  (round : Rd2 (fun t7 => fun t42 => zk3 t0 t1 t7 t40 t41 t42) (fun t7 => fun t42 => fun H Kb5 => zqD t0 t1 t7 t40 t41 t42 H K Kb5) H Inv) : zk4 t0 t1 t7 t40 t41 t42 H K :=
 lp2 (M := zk2) zLC t7 t42 (by kernel_rfl) Inv n h0 round
theorem zLD {t0 t1 t2 : AV} {H : zaa} {K : Kt} (h : HSc H → zx5 t0 t1 t2 H K) : ACalls tP zgt [t0, t1, t2] H K :=
 zar (M := zk2) Tryz.func90 (c := zqE) (by kernel_rfl) (fun hs => Eq.mpr (by kernel_rfl) (h hs))
def zLJ (_ : Nat) : List Bool := []
noncomputable def zLK : Code := Tryz.f10.body.getD .skip
def zq8 (H : zaa) (K : Kt) : Prop :=
 zau [(.int .i64 0), (.int .i64 0), .snil] [(0, 1), (1, 1), (2, 1)] [(0, (.int .i64 1))] fun t2 =>
 zay 3 [(.int .i64 0), (.int .i64 0), .snil] 1 [(0, t2)] fun t3 =>
 zau [(.int .i64 0), (.int .i64 0), .snil] [(0, 1), (1, 1), (2, 1)] [(0, (.int .i64 7)), (2, t3)] fun t4 =>
 zaz [(.int .i64 0), (.int .i64 0), .snil] H fun t1 H =>
 zal 3 t1 t4 H fun H =>
 zad true 3 t1 H fun t5 =>
 zau [(.int .i64 0), .snil] [(0, 1), (1, 1)] [(0, (.int .i64 2))] fun t6 =>
 ACalls tP zdS [.snil, t5, t6] H fun t7 H =>
 zac .eql false t7 (.int .i64 2) fun t8 =>
 zab t8 true H (fun K' => zad true 3 t1 H (K' · H)) fun t10 H =>
 zab t8 true H (fun K' => zau [(.int .i64 0), .snil] [(0, 1), (1, 1)] [(0, (.int .i64 2))] (K' · H)) fun t11 H =>
 zab t8 true H (fun K' => ACalls tP zgh [.snil, t10, t11] H K') fun t12 H =>
 zai t8 t12 (.bool false) fun t13 =>
 zab t13 true H (fun K' => zad true 3 t1 H (K' · H)) fun t15 H =>
 zab t13 true H (fun K' => zau [(.int .i64 0), .snil] [(0, 1), (1, 1)] [(0, (.int .i64 2))] (K' · H)) fun t16 H =>
 zab t13 true H (fun K' => ACalls tP zmj [.snil, t15, t16] H K') fun t17 H =>
 zab t13 true H (fun K' => zac .eql false t17 (.str [50]) (K' · H)) fun t18 H =>
 zai t13 t18 (.bool false) fun t19 =>
 K t19 H
theorem zLL {H : zaa} {K : Kt} (h : HSc H → zq8 H K) : ACalls tP zeq [] H K :=
 zar (M := zLJ) Tryz.func10 (c := zLK) (by kernel_rfl) (fun hs => Eq.mpr (by kernel_rfl) (h hs))
def zGg (_ : Nat) : List Bool := []
noncomputable def zGh : Code := Tryz.f28.body.getD .skip
def zvI (t0 t1 t2 : AV) (H : zaa) (K : Kt) : Prop :=
 zax t1 H fun t4 H =>
 zax t2 H fun t5 H =>
 zad true 3 t4 H fun t9 =>
 zad true 2 t5 H fun t10 =>
 ACalls tP zgh [t0, t9, t10] H fun t11 H =>
 aUn .not t11 fun t12 =>
 zaf t12
 (K (.str []) H)
 (zlf 86 [.nilp, .snil] H fun t7 H =>
 zad true 3 t4 H fun t14 =>
 zad true 2 t5 H fun t15 =>
 ACalls tP zsG [t7, t0, t14, t15] H fun t16 H =>
 ACalls tP ze1 [t7] H fun t17 H =>
 K t17 H)
theorem zGi {t0 t1 t2 : AV} {H : zaa} {K : Kt} (h : HSc H → zvI t0 t1 t2 H K) : ACalls tP zmj [t0, t1, t2] H K :=
 zar (M := zGg) Tryz.func28 (c := zGh) (by kernel_rfl) (fun hs => Eq.mpr (by kernel_rfl) (h hs))
def zwF : Nat → List Bool
 | 10 => rl false [0,2,4,1,30,3,41]
 | _ => []
noncomputable def zpx : Code := Tryz.f48.body.getD .skip
noncomputable def zIf : List ResultVar := Tryz.f48.results.toList
def zg8 (H : zaa) (K : Kt) : Prop :=
 zaw [] (K · H)
def zIc (t0 t1 t6 t37 t38 t39 : AV) : List AV := t0 :: t1 :: ux 4 (t6 :: ux 30 (t37 :: t38 :: t39 :: ux 41 []))
noncomputable def zIb : Code := zao [1, 1, 0, 1, 1, 1, 1, 1, 0, 1, 0, 1, 0, 0] zpx
def zIa (K : Kt) : AExit → List AV → zaa → Prop := zap tP zwF [1, 1, 0, 1, 1, 1, 1, 1, 0, 1, 0, 1, 0] zpx (zaA tP zIf K)
def zId (t0 t1 t6 t37 t38 t39 : AV) (H : zaa) (K : Kt) : Prop := ALoop tP zIb (zIa K) (zIc t0 t1 t6 t37 t38 t39) H
def zwE (t0 t1 t2 t3 : AV) (H : zaa) (K : Kt) : Prop :=
 zax t2 H fun t6 H =>
 zax t3 H fun t7 H =>
 zag 0 t6 fun t12 =>
 zad false 1 t12 H fun t13 =>
 zac .eql false t13 (.int .i64 6) fun t17 =>
 zaf t17
 (zag 2 t6 fun t20 =>
 zad false 1 t20 H fun t21 =>
 zag 1 t7 fun t22 =>
 zad false 1 t22 H fun t23 =>
 ACalls tP zAh [t0, t1, t21, t23] H fun t24 H =>
 zg8 H K)
 (zac .eql false t13 (.int .i64 7) fun t26 =>
 zaf t26
 (zag 0 t7 fun t28 =>
 zad false 1 t28 H fun t29 =>
 ACalls tP zmB [t29] H fun t30 H =>
 ACalls tP zgr [t0, t30] H fun t31 H =>
 zg8 H K)
 (zac .eql false t13 (.int .i64 5) fun t33 =>
 zaf t33
 (ACalls tP zgr [t0, (.str [91])] H fun t35 H =>
 zag 1 t7 fun t36 =>
 zad false 1 t36 H fun t37 =>
 zah 1 t37 fun t38 =>
 zId t0 t1 t6 t37 t38 (.int .i64 0) H K)
 (ACalls tP zgr [t0, (.str [42])] H fun t15 H =>
 zg8 H K)))
theorem zIe {t0 t1 t2 t3 : AV} {H : zaa} {K : Kt} (h : HSc H → zwE t0 t1 t2 t3 H K) : ACalls tP zsG [t0, t1, t2, t3] H K :=
 zar (M := zwF) Tryz.func48 (c := zpx) (by kernel_rfl) (fun hs => Eq.mpr (by kernel_rfl) (h hs))
end Go.Proofs.YtddlhljflggenaaGreatDoor

namespace Go.Proofs.YtddlhljflggenaaGreatDoor
open Go Go.Abs
set_option maxRecDepth 8000
def zbA (l : List Bool) : List (List AV) := l.map fun b => [.bool b]
theorem zLF (data : List Dat) (d : Nat) (c : Nat) (hd : d < data.length) (hc : c < (data[d]).cons.length) (hl : data.length ≤ 1000000) (hcl : (data[d]).cons.length ≤ 1000000) (hal : ((data[d]).cons[c]).args.length ≤ 1000000)
  (hb : ∀ x ∈ ((data[d]).cons[c]).args, x.nodes ≤ 1000000) (H : zaa) (K : Kt)
  (hK : K (.sl (zbA (zcG d data[d] (data[d]).cons[c])) .none) H) :
  ACalls tP zgt [.sl (data.map Dat.cs) .none, .int .i64 d, .int .i64 c] H K := by
 refine ACalls.out (zLD fun hs => ?_)
 have e1 : (data.map Dat.cs)[d]? = some (data[d]).cs := by simp [hd]
 have e2 : ((data[d]).cons.map Con.cs)[c]? = some ((data[d]).cons[c]).cs := by simp [hc]
 generalize hD : data[d] = D at *
 generalize hA : D.cons[c] = C at *
 have h1 : ¬ (d : Int) < 0 := by omega
 have h2 : ¬ (data.length : Int) ≤ d := by omega
 have h3 : ¬ (c : Int) < 0 := by omega
 have h4 : ¬ (D.cons.length : Int) ≤ c := by omega
 simp [zx5, h1, h2, h3, h4, e1, e2, Dat.cs, Con.cs, hd, hD, hc, hA]
 unfold zk4
 refine ALoop.own 7 zeQ 1 rfl ?_
 show zk4 (.sl (data.map Dat.cs) .none) (.int .i64 d) (.sl [] (.own H.length)) (.sl (VT.css C.args) .none) (.int .i64 C.args.length) (.int .i64 0) (H ++ [.perm zeQ 1 0]) (Out H.length K)
 have hperm : ∀ n, HSc (H ++ [.perm zeQ 1 n]) := fun n => hs.append rfl
 refine zLB (Inv := fun q t7 t42 H' => ∃ i : Nat, i ≤ C.args.length ∧ q = C.args.length - i ∧ t42 = .int .i64 i ∧ t7 = .sl (zbA ((zcG d D C).take i)) (.own H.length) ∧ H' = H ++ [.perm zeQ 1 i]) C.args.length ?_ ?_
 ·intro _; exact ⟨0, by omega, by omega, rfl, rfl, rfl⟩
 ·rintro q t7 t42 H' ⟨i, hi, rfl, rfl, rfl, rfl⟩ hsc hlen hsF Kb hKb
  have hrl : (zcG d D C).length = C.args.length := by simp [zcG]
  by_cases hlt : i < C.args.length
  ·obtain ⟨x, y, z, hvx, hx, hy, hz⟩ := zaX C.args[i]
   have hnb := hb _ (List.getElem_mem hlt)
   simp [zqD, hlt, hvx, Nat.add_assoc, e1, hd, hD, Dat.cs]
   rw [← hvx]
   refine ⟨⟨hx, hy, hz⟩, ?_⟩
   refine zbH (.bool (zbB d D.vars C.args[i])) (fun J => zqH _ _ _ hnb _ _ ⟨rfl, rfl⟩) ?_
   simp [zay, za8, plain, AV.pd, zat, zaI, zaE, zbA]
   have hmin : min i (zcG d D C).length = i := by omega
   rw [hmin]
   refine ⟨rfl, ⟨by omega, by omega⟩, ?_⟩
   rw [zam (by omega) (by omega)]
   have hst : List.take i (List.map (fun b => [AV.bool b]) (zcG d D C)) ++ [[AV.bool (zbB (↑d) D.vars C.args[i])]] = zbA ((zcG d D C).take (i + 1)) := by
    rw [List.take_succ_eq_append_getElem (by omega)]
    simp [zbA, zcG]
   rw [hst]
   refine hKb _ _ ⟨C.args.length - (i + 1), by omega, Back.at (J := [.cells C.args[i].cs]) (H2 := H ++ [.perm zeQ 1 (i + 1)]) (by simp) (by simp) (hperm _) ?_ ⟨_, _, rfl, i + 1, by omega, rfl, by simp, rfl, rfl⟩⟩
   simp [zk3, AV.sc, AV.scV, AV.scA, AV.scB]
  ·obtain rfl : i = C.args.length := by omega
   rw [List.take_of_length_le (by omega)]
   simp [zqD]
   exact Out.at rfl (Nat.le_refl _) hs (.atom (.sl _ _)) rfl (by simp [zbA, AV.scV, AV.scA, AV.scB]) hK
end Go.Proofs.YtddlhljflggenaaGreatDoor
