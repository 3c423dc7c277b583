import Derived.Test.YtkdmpbhbmmhijaaKC8
set_option linter.unusedSimpArgs false
set_option linter.unusedVariables false
namespace Go.Proofs.Ytkdmpbhbmmhijaa
open Go Go.Abs
set_option maxRecDepth 8000
theorem AWp.reCell {P : Program} {c : Code} {Q : AExit → List AV → zaa → Prop} {F : List AV} {H : zaa} {id : Nat} {cs : List AV} (cs' : List AV) (hid : H[id]? = some (.cells cs)) (hw : All2 WkA cs cs') (h : AWp P c Q F (H.set id (.cells cs'))) : AWp P c Q F H := by
 intro B w G a hH hF hd
 refine h B w G a (hH.reCell hid fun vs hv => ?_) hF hd
 clear h hid hH hF
 induction cs generalizing cs' vs with
 | nil => cases cs' with
  | nil => exact hv
  | cons _ _ => exact hw.elim
 | cons x cs ih => cases cs' with
  | nil => exact hw.elim
  | cons x' cs' => cases vs with
   | nil => exact hv.elim
   | cons v vs => exact ⟨hw.1.arel hv.1, ih cs' hw.2 vs hv.2⟩
def zaF (c : Cor) (l : List Int) : List VT := l.map (ety c)
theorem zEr {c : Cor} {B : zaa} {N i2 i : Nat} {l : List Int} (hN : N = B.length) (h2 : B[i2]? = some (.cells (zaI c))) (hr : inE c l) (hlt : i < l.length) (hl : l.length ≤ 1000) {K : AV → zaa → Prop}
  (hK : K (.sl (VT.css (zaF c (l.take (i + 1)))) (.own N)) (B ++ [.perm zaD 3 (i + 1)])) :
  zaj 1 (.sl (ints l) .none) (.int .i64 i) fun a => zae false 1 a (B ++ [.perm zaD 3 i]) fun v => zaf 3 (.ptr i2 0) fun p => zae false 1 p (B ++ [.perm zaD 3 i]) fun s => zaj 8 s v fun q => zaf 5 q fun q => zae true 3 q (B ++ [.perm zaD 3 i]) fun t =>
   zaA 3 [.int .i64 0, .int .i64 0, .snil] 1 [(0, t)] fun y => zaJ zaD 3 40 (.sl (VT.css (zaF c (l.take i))) (.own N)) y (B ++ [.perm zaD 3 i]) K := by
 subst hN
 have hrr := hr _ (List.getElem_mem hlt)
 obtain ⟨e, he⟩ : ∃ e : Nat, l[i] = e := ⟨(l[i]).toNat, by omega⟩
 have hen : e < c.exprs.length := by omega
 have hts : VT.css (zaF c (l.take (i + 1))) = VT.css (zaF c (l.take i)) ++ [(c.exprs[e]).ty.cs] := by
  rw [zaF, zbR hlt, List.map_append, VT.css_map, VT.css_map, List.map_append, he]
  simp [zaF, zof hen]
 have hg : ∀ J, (B ++ J)[i2]? = some (.cells (zaI c)) := fun J => zaT h2
 have hll : (zaF c (l.take i)).length = i := by simp [zaF]; omega
 have hce : (c.exprs[e]).cs = zam c.exprs[e] := by rw [CEx.cs, zau]; rfl
 simp [hlt, he, hg, zaI, hen, hce, zam]
 rw [← zau, zbJ]
 simp [zaJ, zbH, zbh, hll]
 refine ⟨⟨by omega, by omega⟩, ?_⟩
 rw [← hts]
 exact hK
theorem zDR {es : List (List AV)} {t : Tok} {k : AV → Prop} : zaA 1 [.snil] 1 [(0, .sl es t)] k = k (.sl [[.sl es .none]] .full) := by
 cases t <;> exact propext Iff.rfl
theorem zDO {bs : List (List VT)} {i : Nat} (h : i < bs.length) : bsV (bs.take (i + 1)) = bsV (bs.take i) ++ [[.sl (VT.css bs[i]) .none]] := by
 rw [bsV, zbR h, List.map_append]; rfl
def zdv (c : Cor) (e : CEx) : Bool := zax c.data 0 e.ty && refR4 c e (e.num == 0) ((e.kids.length : Int) == 0) (zan c e.vars) (zaF c e.kids) (e.binds.map (zan c))
theorem zFl {c : Cor} {e : CEx} (hx : ExIn c e) (hty : zax c.data 0 e.ty = true) (hlam : e.op = 11 → ∃ n : Nat, e.num = n ∧ n < c.codes.length) : RIn c e (zan c e.vars) (zaF c e.kids) (e.binds.map (zan c)) where
 kcore := hx.kcore
 ety := hty
 en := hx.kex.2.2.2.1
 vsP := fun v hv => by
  obtain ⟨n, hn, rfl⟩ := List.mem_map.1 hv
  have := hx.vars n hn
  refine ⟨?_, zpL hx.kcore n⟩
  obtain ⟨k, rfl⟩ : ∃ k : Nat, n = k := ⟨n.toNat, by omega⟩
  rw [zfx (by omega)]
  exact hx.vtys _ (List.getElem_mem _)
 vl := by rw [zaO]; exact hx.kex.1
 ksP := fun v hv => by
  obtain ⟨n, hn, rfl⟩ := List.mem_map.1 hv
  exact ztf hx.kcore n
 kl := by simp [zaF]; exact hx.kex.2.2.1
 bl := by simp [zaF]; exact hx.bk
 bsP := fun b hb => by
  obtain ⟨l, hl, rfl⟩ := List.mem_map.1 hb
  refine ⟨by rw [zaO]; exact hx.kex.2.2.2.2 l hl, fun v hv => ?_⟩
  obtain ⟨n, hn, rfl⟩ := List.mem_map.1 hv
  exact zpL hx.kcore n
 codes := hx.codes
 lam := hlam
theorem zFU {c : Cor} {e : CEx} (hx : ExIn c e) (hlam : e.op = 11 → ∃ n : Nat, e.num = n ∧ n < c.codes.length) (H : zaa) (K : AV → zaa → Prop) (hK : K (.bool (zdv c e)) H) : ACalls tP zoR [.agg c.cs, .agg e.cs] H K := by
 refine ACalls.out (zL9 fun hs => ?_)
 have hx0 := hx
 obtain ⟨hc, ⟨kv, kb, kk, kt, kbl⟩, hvr, hkr, hbk, hbr, hcr, hvt⟩ := hx
 have hO : ∀ b, zdv c e = b → ∀ J, Out H.length K (.bool b) (H ++ J) := fun b h J => h ▸ Out.bool rfl (Nat.le_refl _) hs hK
 have hce : e.cs = zam e := by rw [CEx.cs, zau]; rfl
 have hcc : c.cs = zaI c := rfl
 simp [zrg, hce, hcc, zaI, zam]
 rw [← zau e.ty]
 refine zh2 c.data (by obtain ⟨⟨k1, _⟩, _⟩ := hc; omega) 0 e.ty (by omega) _ _ ?_
 cases hty : zax c.data 0 e.ty with
 | false =>
  simp
  exact hO _ (by simp [zdv, hty]) _
 | true =>
 have hr := zFl hx0 hty hlam
 have hO' : ∀ b, refR4 c e (e.num == 0) ((e.kids.length : Int) == 0) (zan c e.vars) (zaF c e.kids) (e.binds.map (zan c)) = b → ∀ J, Out H.length K (.bool b) (H ++ J) := fun b h J => hO b (by simp [zdv, hty, h]) J
 simp
 refine zLK fun hs1 => ?_
 unfold zri
 simp
 rw [zau e.ty]
 obtain ⟨B, hB⟩ : ∃ B, B = H ++ [.cells (zaI c), .cells (zam e)] := ⟨_, rfl⟩
 have hBl : B.length = H.length + 2 := by rw [hB]; simp
 have hB2 : B[H.length]? = some (.cells (zaI c)) := by rw [hB]; simp
 have hB3 : B[H.length + 1]? = some (.cells (zam e)) := by rw [hB]; simp
 show zjt (.ptr H.length 0) (.ptr (H.length + 1) 0) .snil .snil (.sl (ints e.vars) .none) (.int .i64 e.vars.length) (.int .i64 0) (H ++ [.cells (zaI c), .cells (zam e)]) (Out H.length K)
 rw [← hB]
 unfold zjt
 refine ALoop.own 5 zaD 3 rfl ?_
 show zjt (.ptr H.length 0) (.ptr (H.length + 1) 0) (.sl [] (.own B.length)) .snil (.sl (ints e.vars) .none) (.int .i64 e.vars.length) (.int .i64 0) (B ++ [.perm zaD 3 0]) (Out H.length K)
 refine zL4 (Inv := fun q t5 t49 H' => ∃ i : Nat, i ≤ e.vars.length ∧ q = e.vars.length - i ∧ t49 = .int .i64 i ∧ t5 = .sl (VT.css (zan c (e.vars.take i))) (.own B.length) ∧ H' = B ++ [.perm zaD 3 i]) e.vars.length ?_ ?_
 ·intro _; exact ⟨0, by omega, by omega, rfl, by simp [zan, VT.css], rfl⟩
 rintro q t5 t49 H' ⟨i, hi, rfl, rfl, rfl, rfl⟩ hsc hlen hsF Kb hKb
 by_cases hlt : i < e.vars.length
 ·simp only [zmx, zg8, decide_eq_true (show (i : Int) < e.vars.length by omega), zha]
  refine zjb rfl hB2 hvr hlt (by omega) ?_
  simp only [zjK]
  rw [zar (by omega) (by omega)]
  refine hKb _ _ ⟨e.vars.length - (i + 1), by omega, Back.here (by simp) (HSc.permN hsc _) ?_ ⟨_, _, rfl, i + 1, by omega, rfl, by simp, rfl, rfl⟩⟩
  simp [zgy, AV.sc, AV.scV, AV.scA, AV.scB]; omega
 obtain rfl : i = e.vars.length := by omega
 rw [List.take_length] at *
 have g3 : ∀ J, (B ++ J)[H.length + 1]? = some (.cells (zam e)) := fun J => zaT hB3
 have g2 : ∀ J, (B ++ J)[H.length]? = some (.cells (zaI c)) := fun J => zaT hB2
 simp [zmx, g3, zam]
 obtain ⟨B1, hB1⟩ : ∃ B1, B1 = B ++ [.perm zaD 3 e.vars.length] := ⟨_, rfl⟩
 have hB1l : B1.length = H.length + 3 := by rw [hB1]; simp; omega
 have hB12 : B1[H.length]? = some (.cells (zaI c)) := by rw [hB1]; exact g2 _
 have hB13 : B1[H.length + 1]? = some (.cells (zam e)) := by rw [hB1]; exact g3 _
 rw [← hB1]
 unfold zmD
 refine ALoop.own 6 zaD 3 rfl ?_
 show zmD (.ptr H.length 0) (.ptr (H.length + 1) 0) (.sl (VT.css (zan c e.vars)) (.own B.length)) (.sl [] (.own B1.length)) (.sl (ints e.kids) .none) (.int .i64 e.kids.length) (.int .i64 0) (B1 ++ [.perm zaD 3 0]) (Out H.length K)
 refine zL1 (Inv := fun q t6 t65 H' => ∃ i : Nat, i ≤ e.kids.length ∧ q = e.kids.length - i ∧ t65 = .int .i64 i ∧ t6 = .sl (VT.css (zaF c (e.kids.take i))) (.own B1.length) ∧ H' = B1 ++ [.perm zaD 3 i]) e.kids.length ?_ ?_
 ·intro _; exact ⟨0, by omega, by omega, rfl, by simp [zaF, VT.css], rfl⟩
 rintro q t6 t65 H' ⟨i, hi, rfl, rfl, rfl, rfl⟩ hsc1 hlen1 hsF1 Kb1 hKb1
 by_cases hlt : i < e.kids.length
 ·simp only [zmu, zg8, decide_eq_true (show (i : Int) < e.kids.length by omega), zha]
  refine zEr rfl hB12 hkr hlt (by omega) ?_
  simp only [zjK]
  rw [zar (by omega) (by omega)]
  refine hKb1 _ _ ⟨e.kids.length - (i + 1), by omega, Back.here (by simp) (HSc.permN hsc1 _) ?_ ⟨_, _, rfl, i + 1, by omega, rfl, by simp, rfl, rfl⟩⟩
  simp [zgv, AV.sc, AV.scV, AV.scA, AV.scB]; omega
 obtain rfl : i = e.kids.length := by omega
 rw [List.take_length] at *
 simp [zmu]
 refine zLM fun hs2 => ?_
 unfold zrj
 obtain ⟨B2, hB2'⟩ : ∃ B2, B2 = B1 ++ [.perm zaD 3 e.kids.length] := ⟨_, rfl⟩
 have hB2l : B2.length = H.length + 4 := by rw [hB2']; simp; omega
 have hB22 : B2[H.length]? = some (.cells (zaI c)) := by rw [hB2']; exact zaT hB12
 have hB23 : B2[H.length + 1]? = some (.cells (zam e)) := by rw [hB2']; exact zaT hB13
 rw [← hB2']
 simp [hB23, zam]
 unfold zmE
 refine ALoop.own 11 zdG 1 rfl ?_
 show zmE (.ptr H.length 0) (.ptr (H.length + 1) 0) (.sl (VT.css (zan c e.vars)) (.own B.length)) (.sl (VT.css (zaF c e.kids)) (.own B1.length)) (.sl [] (.own B2.length)) (.sl (rows e.binds) .none) (.int .i64 e.binds.length) (.int .i64 0) (B2 ++ [.perm zdG 1 0]) (Out H.length K)
 refine zL2 (Inv := fun q t11 t82 H' => ∃ i : Nat, i ≤ e.binds.length ∧ q = e.binds.length - i ∧ t82 = .int .i64 i ∧ t11 = .sl (bsV ((e.binds.map (zan c)).take i)) (.own B2.length) ∧ H' = B2 ++ [.perm zdG 1 i]) e.binds.length ?_ ?_
 ·intro _; exact ⟨0, by omega, by omega, rfl, by simp [bsV], rfl⟩
 rintro q t11 t82 H' ⟨i, hi, rfl, rfl, rfl, rfl⟩ hsc2 hlen2 hsF2 Kb2 hKb2
 by_cases hlt : i < e.binds.length
 ·have hbi := hbr _ (List.getElem_mem hlt)
  have hbl := kbl _ (List.getElem_mem hlt)
  have hsn := zDO (bs := e.binds.map (zan c)) (i := i) (by simpa using hlt)
  have hbt : (bsV ((e.binds.map (zan c)).take i)).length = i := by simp [bsV]; omega
  rw [List.getElem_map] at hsn
  generalize hl : e.binds[i] = l at *
  simp [zmv, hlt, hl]
  obtain ⟨B3, hB3'⟩ : ∃ B3, B3 = B2 ++ [.perm zdG 1 i] := ⟨_, rfl⟩
  have hB3l : B3.length = H.length + 5 := by rw [hB3']; simp; omega
  have hB32 : B3[H.length]? = some (.cells (zaI c)) := by rw [hB3']; exact zaT hB22
  rw [← hB3']
  rw [← hB3'] at hsc2
  unfold zmF
  refine ALoop.own 14 zaD 3 rfl ?_
  generalize hbv : bsV ((e.binds.map (zan c)).take i) = bv at *
  show zmF (.ptr H.length 0) (.ptr (H.length + 1) 0) (.sl (VT.css (zan c e.vars)) (.own B.length)) (.sl (VT.css (zaF c e.kids)) (.own B1.length)) (.sl bv (.own B2.length)) (.sl [] (.own B3.length)) (.sl (rows e.binds) .none) (.int .i64 e.binds.length) (.int .i64 i) (.sl (ints l) .none) (.int .i64 l.length) (.int .i64 0) (B3 ++ [.perm zaD 3 0]) (Out H.length K) Kb2
  refine zL3 (Inv := fun q t14 t88 H' => ∃ j : Nat, j ≤ l.length ∧ q = l.length - j ∧ t88 = .int .i64 j ∧ t14 = .sl (VT.css (zan c (l.take j))) (.own B3.length) ∧ H' = B3 ++ [.perm zaD 3 j]) l.length ?_ ?_
  ·intro _; exact ⟨0, by omega, by omega, rfl, by simp [zan, VT.css], rfl⟩
  rintro q t14 t88 H' ⟨j, hj, rfl, rfl, rfl, rfl⟩ hsc3 hlen3 hsF3 Kb3 hKb3
  by_cases hjl : j < l.length
  ·simp only [zmw, zg8, decide_eq_true (show (j : Int) < l.length by omega), zha]
   refine zjb rfl hB32 hbi hjl (by omega) ?_
   simp only [zjK]
   rw [zar (by omega) (by omega)]
   refine hKb3 _ _ ⟨l.length - (j + 1), by omega, Back.here (by simp) (HSc.permN hsc3 _) ?_ ⟨_, _, rfl, j + 1, by omega, rfl, by simp, rfl, rfl⟩⟩
   simp [zgx, AV.sc, AV.scV, AV.scA, AV.scB]; omega
  obtain rfl : j = l.length := by omega
  rw [List.take_length] at *
  simp [zmw, zDR]
  simp [zaJ, zbH, zbh, hbt, hB3']
  refine ⟨by omega, ?_⟩
  rw [zar (by omega) (by omega), ← hsn]
  refine hKb2 _ _ ⟨e.binds.length - (i + 1), by omega, Back.at (J := [_]) (H2 := B2 ++ [.perm zdG 1 (i + 1)]) (by simp; rfl) (by simp) (HSc.permN (hB3' ▸ hsc2) _) ?_ ⟨_, _, rfl, i + 1, by omega, rfl, by simp, rfl, rfl⟩⟩
  simp [zgw, AV.sc, AV.scV, AV.scA, AV.scB]; omega
 obtain rfl : i = e.binds.length := by omega
 rw [List.take_of_length_le (by simp)] at *
 simp [zmv, zaL, zbw, hB2l]
 have hHH : B2 ++ [.perm zdG 1 e.binds.length, .cells [.int .i64 1, .int .i64 0, .snil], .cells [.int .i64 2, .int .i64 0, .snil], .cells [.int .i64 3, .int .i64 0, .snil]] = H ++ [.cells (zaI c), .cells (zam e), .perm zaD 3 e.vars.length, .perm zaD 3 e.kids.length, .perm zdG 1 e.binds.length, .cells [.int .i64 1, .int .i64 0, .snil], .cells [.int .i64 2, .int .i64 0, .snil], .cells [.int .i64 3, .int .i64 0, .snil]] := by rw [hB2', hB1, hB]; simp
 rw [hHH]
 simp only [Nat.add_assoc, Nat.reduceAdd]
 unfold zmB
 refine AWp.reCell (id := H.length + 5) (cs := [.int .i64 1, .int .i64 0, .snil]) [.int .i64 1, .int .i64 0, .sl [] .none] (by simp) ⟨.refl _, .refl _, .snil, trivial⟩ ?_
 refine AWp.reCell (id := H.length + 6) (cs := [.int .i64 2, .int .i64 0, .snil]) [.int .i64 2, .int .i64 0, .sl [] .none] (by simp) ⟨.refl _, .refl _, .snil, trivial⟩ ?_
 refine AWp.reCell (id := H.length + 7) (cs := [.int .i64 3, .int .i64 0, .snil]) [.int .i64 3, .int .i64 0, .sl [] .none] (by simp) ⟨.refl _, .refl _, .snil, trivial⟩ ?_
 simp only [zpq, List.set_cons_succ, List.set_cons_zero]
 show zmB (.ptr H.length 0) (.ptr (H.length + 1) 0) (.sl (VT.css (zan c e.vars)) (.own B.length)) (.sl (VT.css (zaF c e.kids)) (.own B1.length)) (.sl (bsV (e.binds.map (zan c))) (.own (H.length + 4))) (.ptr (H.length + 5) 0) (.ptr (H.length + 6) 0) (.ptr (H.length + 7) 0) (zao H c e (.perm zaD 3 e.vars.length) (.perm zaD 3 e.kids.length) (.perm zdG 1 e.binds.length)) (Out H.length K)
 refine zLO fun hs3 => ?_
 unfold zrk
 have := zFO hr (e.num == 0) ((e.kids.length : Int) == 0) (.own B.length) (.own B1.length) (.own (H.length + 4)) hs (.perm zaD 3 e.vars.length) (.perm zaD 3 e.kids.length) (.perm zdG 1 e.binds.length) K hO'
 simp [zao, zam] at this ⊢
 exact this
def inR (n : Nat) (x : Int) : Bool := decide (0 ≤ x ∧ x < (n : Int))
theorem zuF {p : Int → Bool} : ∀ (l : List Int) (j : Nat) (h : j < l.length), (∀ x ∈ l.take j, p x = true) → p l[j] = false → l.takeWhile p = l.take j
 | [], j, h, _, _ => by simp at h
 | a :: l, 0, h, _, h2 => by simp at h2; simp [h2]
 | a :: l, j + 1, h, h1, h2 => by
  have := zuF l j (by simpa using h) (fun x hx => h1 x (by simp [hx])) (by simpa using h2)
  have ha := h1 a (by simp)
  simp [ha, this]
theorem zeu {H : zaa} {id n : Nat} {l S : List Int} (hid : H[id]? = some (usB (cnt n S))) (hl : S.length + l.length ≤ 1000000) {tok : Tok} (K : AV → zaa → Prop)
  (hT : (∀ x ∈ l, 0 ≤ x ∧ x < n) → K (.bool true) (H.set id (usB (cnt n (S ++ l))))) (hF : ¬ (∀ x ∈ l, 0 ≤ x ∧ x < (n : Int)) → K (.bool false) (H.set id (usB (cnt n (S ++ l.takeWhile (inR n)))))) :
  ACalls tP zfl [.ms id 0 n n, .sl (ints l) tok] H K := by
 refine ACalls.wk (args' := [.ms id 0 n n, .sl (ints l) .none]) ?_ ⟨.rfl', .atom (.sl _ _), trivial⟩
 refine zLo fun hs => ?_
 have hil := zbW hid
 simp [zrc]
 have scU : ∀ us : List Int, (usB us).sc H.length = true := fun us => by simp [usB, AB.sc, AV.scA, AV.scB]
 refine zLn (Inv := fun q t9 H' => ∃ j : Nat, j ≤ l.length ∧ q = l.length - j ∧ t9 = .int .i64 j ∧ (∀ x ∈ l.take j, 0 ≤ x ∧ x < (n : Int)) ∧ H' = H.set id (usB (cnt n (S ++ l.take j)))) l.length ?_ ?_
 ·intro _; exact ⟨0, by omega, by omega, rfl, by simp, by simp [zec hid]⟩
 ·rintro q t9 H' ⟨j, hj, rfl, rfl, hr, rfl⟩ hsc hlen hsF Kb hKb
  have hg : ∀ us, (H.set id (usB us))[id]? = some (.cells (us.map fun n => .int .i64 n)) := fun us => by rw [zc3 _ hid]; rfl
  by_cases hjl : j < l.length
  ·have tw : ¬ (0 ≤ l[j] ∧ l[j] < (n : Int)) → l.takeWhile (inR n) = l.take j := fun h => zuF l j hjl (fun x hx => decide_eq_true (hr x hx)) (decide_eq_false h)
   by_cases h0 : l[j] < 0
   ·simp [zh4, hjl, h0]
    rw [← tw (by omega)]
    exact hF (fun h => by have := h _ (List.getElem_mem hjl); omega)
   by_cases hge : (n : Int) ≤ l[j]
   ·simp [zh4, hjl, h0, hge]
    rw [← tw (by omega)]
    exact hF (fun h => by have := h _ (List.getElem_mem hjl); omega)
   obtain ⟨e, he⟩ : ∃ e : Nat, l[j] = e := ⟨(l[j]).toNat, by omega⟩
   have hen : e < n := by omega
   have hen' : ¬ n ≤ e := by omega
   have he0 : ¬ (e : Int) < 0 := by omega
   have hnx : S ++ l.take (j + 1) = (S ++ l.take j) ++ [(e : Int)] := by rw [zbR hjl, he, List.append_assoc]
   have hcl : (S ++ l.take j).length ≤ 1000000 := by rw [List.length_append, List.length_take]; omega
   clear tw
   generalize hS1 : S ++ l.take j = S1 at *
   have hce := List.count_le_length (a := (e : Int)) (l := S1)
   have hel : e < (cnt n S1).length := by simpa using hen
   have hu1 : ∀ k : AV → Prop, zaP false 1 e ((cnt n S1).map fun n => AV.int .i64 n) k = k (.int .i64 ((S1.count (e : Int) : Nat) : Int)) := fun k => by rw [zfa 1 (zfv hel), zd5]
   simp [zh4, hjl, he, he0, hen, hen', hg, hu1]
   rw [zar (by omega) (by omega), zar (by omega) (by omega), zpG hel, zn8 S1 hen]
   refine ⟨by omega, hKb _ _ ⟨l.length - (j + 1), by omega, Back.here (by simp) (hs.set (scU _)) ?_ ⟨_, rfl, j + 1, by omega, rfl, by simp, ?_, ?_⟩⟩⟩
   ·simp [zgr, AV.sc, AV.scV, AV.scA, AV.scB]; omega
   ·exact zb8 hjl hr (by rw [he]; omega)
   ·rw [hnx]; rfl
  ·obtain rfl : j = l.length := by omega
   rw [List.take_length] at *
   simp [zh4]
   exact hT hr
structure RCode (c : Cor) (i : Nat) (f : Cod) : Prop where
 order : f.name = [] → ∀ h : i + 1 < c.codes.length, (c.codes[i + 1]).name = []
 capt : f.name ≠ [] → f.capt = []
 pars : f.params.length ≤ 6
 res : zax c.data 0 f.res = true
 rp : inV c f.params
 rc : inV c f.capt
 body : ∃ b : Nat, f.body = b ∧ ∃ hb : b < c.exprs.length, (c.exprs[b]).ty.same f.res = true
structure RExpr (c : Cor) (i : Nat) (e : CEx) : Prop where
 kids : ∀ k ∈ e.kids, (i : Int) < k
 range : inE c e.kids
 bk : e.binds.length = e.kids.length
 binds : ∀ l ∈ e.binds, inV c l
 vars : inV c e.vars
 lam : e.op = 11 → 0 ≤ e.num ∧ e.num < c.codes.length
def nms (l : List Cod) : List (List UInt8) := (l.map Cod.name).filter fun s => !s.isEmpty
def zb3 (l : List CEx) : List Int := (l.filter fun e => e.op == 11).map CEx.num
def zcJ (c : Cor) (f : Cod) : List Bool := zaB (zaB (List.replicate c.vars.length false) f.params true) f.capt true
structure RefV (c : Cor) : Prop where
 data : RData c.data
 vars : ∀ v ∈ c.vars, zax c.data 0 v = true
 codes : ∀ i (h : i < c.codes.length), RCode c i c.codes[i]
 names : (nms c.codes).Nodup
 exprs : ∀ i (h : i < c.exprs.length), RExpr c i c.exprs[i]
 bound : ∀ v : Nat, v < c.vars.length → (zbS c).count (v : Int) = 1
 placed : ∀ v : Nat, v < c.exprs.length → (zbI c).count (v : Int) = 1
 made : ∀ i (h : i < c.codes.length), (zb3 c.exprs).count (i : Int) = if (c.codes[i]).name = [] then 1 else 0
 rules : ∀ i (h : i < c.exprs.length), zdv c c.exprs[i] = true
 scopes : ∀ i (h : i < c.codes.length), (zbz c c.exprs.length (c.codes[i]).body.toNat (zcJ c c.codes[i])).1 = true
def vH (H : zaa) (c : Cor) (S T M : List Int) (m : Nat) : zaa := H ++ [.cells (zaI c), usB (cnt c.vars.length S), usB (cnt c.exprs.length T), usB (cnt c.codes.length M), .perm zbD 1 m]
theorem zeh {H : zaa} (hs : HSc H) (c : Cor) (S T M : List Int) (m : Nat) : HSc (vH H c S T M m) := hs.append (by simp [AB.sc, zaI, usB, AV.scA, AV.scB])
@[simp] theorem zSR (H : zaa) (c : Cor) (S T M : List Int) (m : Nat) : (vH H c S T M m).length = H.length + 5 := by simp [vH]
theorem vH0 (H : zaa) (c : Cor) (S T M : List Int) (m : Nat) (J : zaa) : (vH H c S T M m ++ J)[H.length]? = some (.cells (zaI c)) := by simp [vH]
theorem vH1 (H : zaa) (c : Cor) (S T M : List Int) (m : Nat) (J : zaa) : (vH H c S T M m ++ J)[H.length + 1]? = some (usB (cnt c.vars.length S)) := by simp [vH]
theorem vH2 (H : zaa) (c : Cor) (S T M : List Int) (m : Nat) (J : zaa) : (vH H c S T M m ++ J)[H.length + 2]? = some (usB (cnt c.exprs.length T)) := by simp [vH]
theorem vH3 (H : zaa) (c : Cor) (S T M : List Int) (m : Nat) (J : zaa) : (vH H c S T M m ++ J)[H.length + 3]? = some (usB (cnt c.codes.length M)) := by simp [vH]
theorem zhC (H : zaa) (c : Cor) (S T M S' : List Int) (m : Nat) (J : zaa) : (vH H c S T M m ++ J).set (H.length + 1) (usB (cnt c.vars.length S')) = vH H c S' T M m ++ J := by simp [vH]
theorem zkU (H : zaa) (c : Cor) (S T M S' : List Int) (m : Nat) (J : zaa) : (vH H c S T M m ++ J).set (H.length + 2) (usB (cnt c.exprs.length S')) = vH H c S S' M m ++ J := by simp [vH]
theorem vH5 (H : zaa) (c : Cor) (S T M : List Int) (m k : Nat) (J : zaa) : (vH H c S T M m ++ J)[H.length + 5 + k]? = J[k]? := by
 have : H.length + 5 + k = (vH H c S T M m).length + k := by simp
 rw [this, zj0]
def ScP (c : Cor) : Prop := ∀ i (h : i < c.codes.length), (zbz c c.exprs.length (c.codes[i]).body.toNat (zcJ c c.codes[i])).1 = true
theorem zFt {c : Cor} (hc : zaR c) (hcodes : ∀ i (h : i < c.codes.length), RCode c i c.codes[i]) (hexprs : ∀ i (h : i < c.exprs.length), RExpr c i c.exprs[i]) {H : zaa} (hs : HSc H) {S T M : List Int} {m : Nat} (K : AV → zaa → Prop) (hb : ∀ b : Bool, (b = true ↔ ScP c) → ∀ J, Out H.length K (.bool b) (H ++ J)) :
  zqu (.ptr H.length 0) (.sl (c.codes.map Cod.cs) .none) (.int .i64 c.codes.length) (.int .i64 0) (vH H c S T M m) (Out H.length K) := by
 have hbJ : ∀ b : Bool, (b = true ↔ ScP c) → ∀ J, Out H.length K (.bool b) (vH H c S T M m ++ J) := fun b h J => by rw [vH, List.append_assoc]; exact hb b h _
 obtain ⟨k1, k2, k3, ⟨k4, k5⟩, k6, k7⟩ := hc
 have hp : InP c := ⟨⟨k1, k2, k3, ⟨k4, k5⟩, k6, k7⟩, fun i h => (hexprs i h).bk, fun i h k hk => ⟨(hexprs i h).kids k hk, ((hexprs i h).range k hk).2⟩, fun i h => (hexprs i h).binds, fun i h => ⟨(hcodes i h).rp, (hcodes i h).rc⟩, fun i h => by obtain ⟨b, h1, h2, _⟩ := (hcodes i h).body; exact ⟨b, h1, h2⟩⟩
 refine zJE (Inv := fun q t326 H' => ∃ i : Nat, i ≤ c.codes.length ∧ q = c.codes.length - i ∧ t326 = .int .i64 i ∧ (∀ j (h : j < c.codes.length), j < i → (zbz c c.exprs.length (c.codes[j]).body.toNat (zcJ c c.codes[j])).1 = true) ∧ H' = vH H c S T M m) c.codes.length ?_ ?_
 ·intro _; exact ⟨0, by omega, by omega, rfl, by omega, rfl⟩
 ·rintro q t326 H' ⟨i, hi, rfl, rfl, hok, rfl⟩ hsc hlen hsF Kb hKb
  by_cases hlt : i < c.codes.length
  ·have hcat : (c.codes[i]).cs = zbe c.codes[i] := zhd _
   obtain ⟨_, kp, kc, _⟩ := k6 _ (List.getElem_mem hlt)
   have hR := hcodes i hlt
   obtain ⟨b, hbb, hbl, _⟩ := hR.body
   have hrp := hR.rp
   have hrc := hR.rc
   have hbad : (zbz c c.exprs.length (c.codes[i]).body.toNat (zcJ c c.codes[i])).1 = false → ¬ ScP c := fun h hh => by rw [hh i hlt] at h; cases h
   have hgd : (zbz c c.exprs.length (c.codes[i]).body.toNat (zcJ c c.codes[i])).1 = true → ∀ j (h : j < c.codes.length), j < i + 1 → (zbz c c.exprs.length (c.codes[j]).body.toNat (zcJ c c.codes[j])).1 = true := fun h j hj hji => by
    by_cases e : j = i
    ·subst e; exact h
    ·exact hok j hj (by omega)
   generalize hf : c.codes[i] = f at *
   rw [hbb, Int.toNat_natCast] at hbad hgd
   have g0 := vH0 H c S T M m
   have g5 := vH5 H c S T M m
   have g50 : ∀ J, (vH H c S T M m ++ J)[H.length + 5]? = J[0]? := fun J => by have := g5 0 J; simpa using this
   simp [zlE, hlt, hf, hcat, zbe, g0, zaI]
   simp only [zbd, Int.toNat_natCast, zeq]
   refine ⟨⟨by omega, by omega, by omega, by omega⟩, ?_⟩
   simp [g0, g50, zaI]
   obtain ⟨B, hB⟩ : ∃ B, B = vH H c S T M m ++ [.cells [.str f.name, .sl (ints f.params) .none, .sl (ints f.capt) .none, .int .i64 f.res.kind, .int .i64 f.res.num, .sl (VT.css f.res.kids) .none, .int .i64 f.body]] := ⟨_, rfl⟩
   have hBl : B.length = H.length + 6 := by rw [hB]; simp
   have hset : ∀ st st', (B ++ [boB st]).set (H.length + 6) (boB st') = B ++ [boB st'] := fun st st' => by rw [← hBl]; simp
   have hget : ∀ st, (B ++ [boB st])[H.length + 6]? = some (boB st) := fun st => by rw [← hBl]; simp
   have hb0 : ∀ st, (B ++ [boB st])[H.length]? = some (.cells (zaI c)) := fun st => by rw [hB, List.append_assoc]; exact g0 _
   have hb5 : ∀ st, (B ++ [boB st])[H.length + 5]? = some (.cells [.str f.name, .sl (ints f.params) .none, .sl (ints f.capt) .none, .int .i64 f.res.kind, .int .i64 f.res.num, .sl (VT.css f.res.kids) .none, .int .i64 f.body]) := fun st => by rw [hB, List.append_assoc, g50]; rfl
   have hHB : ∀ st, vH H c S T M m ++ [.cells [.str f.name, .sl (ints f.params) .none, .sl (ints f.capt) .none, .int .i64 f.res.kind, .int .i64 f.res.num, .sl (VT.css f.res.kids) .none, .int .i64 f.body], .cells (zaV st)] = B ++ [boB st] := fun st => by rw [hB]; simp [boB]
   rw [hHB]
   refine zj7 (hget _) (by simp) (by omega) hrp _ ?_
   rw [hset]
   simp [hb5]
   refine zj7 (hget _) (by simp) (by omega) hrc _ ?_
   rw [hset]
   simp [hb0, hb5, zaI, hbb]
   refine zF4 hp (fun i h => (hexprs i h).vars) c.exprs.length b (by omega) hbl (zcJ c f) _ _ (hget _) (by simp [zcJ]) _ ?_
   rw [hset]
   cases hv : (zbz c c.exprs.length b (zcJ c f)).1 with
   | false =>
    simp
    rw [hB, List.append_assoc]
    exact hbJ _ (by simp; exact hbad hv) _
   | true =>
    simp
    rw [zar (by omega) (by omega), hB, List.append_assoc]
    refine hKb _ _ ⟨c.codes.length - (i + 1), by omega, Back.at (H2 := vH H c S T M m) rfl (by simp) (zeh hs _ _ _ _ _) ?_ ⟨_, rfl, i + 1, by omega, rfl, by simp, hgd hv, rfl⟩⟩
    simp [zf2, AV.sc, AV.scV, AV.scA, AV.scB]
  ·obtain rfl : i = c.codes.length := by omega
   simp [zlE]
   have := hbJ true (by simp; exact fun j hj => hok j hj hj) []
   simpa using this
structure RuP (c : Cor) : Prop where
 rules : ∀ i (h : i < c.exprs.length), zdv c c.exprs[i] = true
 sc : ScP c
theorem zFs {c : Cor} (hc : zaR c) (hvars : ∀ v ∈ c.vars, zax c.data 0 v = true) (hcodes : ∀ i (h : i < c.codes.length), RCode c i c.codes[i]) (hexprs : ∀ i (h : i < c.exprs.length), RExpr c i c.exprs[i]) {H : zaa} (hs : HSc H) {S T M : List Int} {m : Nat} (K : AV → zaa → Prop) (hb : ∀ b : Bool, (b = true ↔ RuP c) → ∀ J, Out H.length K (.bool b) (H ++ J)) :
  zqt (.ptr H.length 0) (.int .i64 c.exprs.length) (.int .i64 0) (vH H c S T M m) (Out H.length K) := by
 have hbJ : ∀ b : Bool, (b = true ↔ RuP c) → ∀ J, Out H.length K (.bool b) (vH H c S T M m ++ J) := fun b h J => by rw [vH, List.append_assoc]; exact hb b h _
 have hc' := hc
 obtain ⟨k1, k2, k3, ⟨k4, k5⟩, k6, k7⟩ := hc
 have hex : ∀ i (h : i < c.exprs.length), ExIn c c.exprs[i] := fun i h => ⟨hc', k7 _ (List.getElem_mem h), (hexprs i h).vars, (hexprs i h).range, (hexprs i h).bk, (hexprs i h).binds, fun f hf => by
  obtain ⟨j, hj, rfl⟩ := List.getElem_of_mem hf
  exact ⟨(hcodes j hj).rp, (hcodes j hj).rc⟩, hvars⟩
 refine zJD (Inv := fun q t311 H' => ∃ i : Nat, i ≤ c.exprs.length ∧ q = c.exprs.length - i ∧ t311 = .int .i64 i ∧ (∀ j (h : j < c.exprs.length), j < i → zdv c c.exprs[j] = true) ∧ H' = vH H c S T M m) c.exprs.length ?_ ?_
 ·intro _; exact ⟨0, by omega, by omega, rfl, by omega, rfl⟩
 ·rintro q t311 H' ⟨i, hi, rfl, rfl, hok, rfl⟩ hsc hlen hsF Kb hKb
  have g0 : ∀ h, (vH H c S T M m)[H.length]'h = .cells (zaI c) := fun h => by simp [vH]
  by_cases hlt : i < c.exprs.length
  ·have hat : (c.exprs[i]).cs = [.int .i64 (c.exprs[i]).op, .int .i64 (c.exprs[i]).num, .sl (ints (c.exprs[i]).vars) .none, .sl (rows (c.exprs[i]).binds) .none, .sl (ints (c.exprs[i]).kids) .none, .int .i64 (c.exprs[i]).ty.kind, .int .i64 (c.exprs[i]).ty.num, .sl (VT.css (c.exprs[i]).ty.kids) .none] := by rw [CEx.cs, zau]
   have hcc : c.cs = [.sl (c.data.map Dat.cs) .none, .sl (c.codes.map Cod.cs) .none, .sl (VT.css c.vars) .none, .sl (c.exprs.map CEx.cs) .none] := rfl
   simp [zlD, hlt, g0, zaI, hat, zam]
   rw [← hcc, ← hat]
   refine zdo (.bool (zdv c c.exprs[i])) _ (zFU (hex i hlt) (fun h => by obtain ⟨h1, h2⟩ := (hexprs i hlt).lam h; exact ⟨(c.exprs[i]).num.toNat, by omega, by omega⟩) _ _ ⟨rfl, rfl⟩) ?_
   cases hr : zdv c c.exprs[i] with
   | false =>
    simp
    have := hbJ false (by simp; intro h; have := h.rules i hlt; rw [hr] at this; cases this) []
    simpa using this
   | true =>
    simp
    rw [zar (by omega) (by omega)]
    refine hKb _ _ ⟨c.exprs.length - (i + 1), by omega, Back.here (by simp) (zeh hs _ _ _ _ _) ?_ ⟨_, rfl, i + 1, by omega, rfl, by simp, fun j hj hji => ?_, rfl⟩⟩
    ·simp [zf1, AV.sc, AV.scV, AV.scA, AV.scB]
    ·by_cases e : j = i
     ·subst e; exact hr
     ·exact hok j hj (by omega)
  ·obtain rfl : i = c.exprs.length := by omega
   simp [zlD, g0, zaI]
   refine zFt hc' hcodes hexprs hs K fun b h J => hb b ?_ J
   rw [h]
   exact ⟨fun h => ⟨fun j hj => hok j hj hj, h⟩, fun h => h.sc⟩
structure MaP (c : Cor) (M : List Int) : Prop where
 made : ∀ i (h : i < c.codes.length), M.count (i : Int) = if (c.codes[i]).name = [] then 1 else 0
 ru : RuP c
theorem zFr {c : Cor} (hc : zaR c) (hvars : ∀ v ∈ c.vars, zax c.data 0 v = true) (hcodes : ∀ i (h : i < c.codes.length), RCode c i c.codes[i]) (hexprs : ∀ i (h : i < c.exprs.length), RExpr c i c.exprs[i]) {H : zaa} (hs : HSc H) {S T M : List Int} {m : Nat} (K : AV → zaa → Prop) (hb : ∀ b : Bool, (b = true ↔ MaP c M) → ∀ J, Out H.length K (.bool b) (H ++ J)) :
  zqs (.ptr H.length 0) (.ms (H.length + 3) 0 c.codes.length c.codes.length) (.int .i64 c.codes.length) (.int .i64 0) (vH H c S T M m) (Out H.length K) := by
 have hF : ¬ MaP c M → Out H.length K (.bool false) (vH H c S T M m) := fun h => by have := hb false (by simp [h]) [.cells (zaI c), usB (cnt c.vars.length S), usB (cnt c.exprs.length T), usB (cnt c.codes.length M), .perm zbD 1 m]; exact this
 have hc' := hc
 obtain ⟨k1, k2, k3, ⟨k4, k5⟩, k6, k7⟩ := hc
 refine zJC (Inv := fun q t278 H' => ∃ i : Nat, i ≤ c.codes.length ∧ q = c.codes.length - i ∧ t278 = .int .i64 i ∧ (∀ j (h : j < c.codes.length), j < i → M.count (j : Int) = if (c.codes[j]).name = [] then 1 else 0) ∧ H' = vH H c S T M m) c.codes.length ?_ ?_
 ·intro _; exact ⟨0, by omega, by omega, rfl, by omega, rfl⟩
 ·rintro q t278 H' ⟨i, hi, rfl, rfl, hok, rfl⟩ hsc hlen hsF Kb hKb
  have g0 : ∀ h, (vH H c S T M m)[H.length]'h = .cells (zaI c) := fun h => by simp [vH]
  have g3 : ∀ h, (vH H c S T M m)[H.length + 3]'h = .cells ((cnt c.codes.length M).map fun n => .int .i64 n) := fun h => by simp [vH, usB]
  by_cases hlt : i < c.codes.length
  ·have hel : i < (cnt c.codes.length M).length := by simpa using hlt
   have hcat : (c.codes[i]).cs = zbe c.codes[i] := zhd _
   have hu1 : ∀ k : AV → Prop, zaP false 1 i ((cnt c.codes.length M).map fun n => AV.int .i64 n) k = k (.int .i64 ((M.count (i : Int) : Nat) : Int)) := fun k => by rw [zfa 1 (zfv hel), zd5]
   have good : (M.count (i : Int) = if (c.codes[i]).name = [] then 1 else 0) → Kb (zeP (.ptr H.length 0) (.ms (H.length + 3) 0 c.codes.length c.codes.length) (.int .i64 c.codes.length) (.int .i64 ((i : Int) + 1))) (vH H c S T M m) := fun h => by
    refine hKb _ _ ⟨c.codes.length - (i + 1), by omega, Back.here (by simp) (zeh hs _ _ _ _ _) ?_ ⟨_, rfl, i + 1, by omega, rfl, by simp, fun j hj hji => ?_, rfl⟩⟩
    ·simp [zeP, AV.sc, AV.scV, AV.scA, AV.scB]
    ·by_cases e : j = i
     ·subst e; exact h
     ·exact hok j hj (by omega)
   have bad : ¬ (M.count (i : Int) = if (c.codes[i]).name = [] then 1 else 0) → ¬ MaP c M := fun h hh => h (hh.made i hlt)
   cases hnm : (c.codes[i]).name.isEmpty with
   | true =>
    have hn : (c.codes[i]).name = [] := by simpa using hnm
    rw [if_pos hn] at good bad
    by_cases h1 : M.count (i : Int) = 1
    ·have h1' : ((M.count (i : Int) : Int) != 1) = false := by simp [h1]
     simp [zfS, hlt, g0, g3, hu1, zaI, hcat, zbe, hnm, h1']
     rw [zar (by omega) (by omega)]
     exact good h1
    ·have h1' : ((M.count (i : Int) : Int) != 1) = true := nbt (by omega)
     simp [zfS, hlt, g0, g3, hu1, zaI, hcat, zbe, hnm, h1']
     exact hF (bad h1)
   | false =>
    have hn : (c.codes[i]).name ≠ [] := by intro h; simp [h] at hnm
    rw [if_neg hn] at good bad
    by_cases h1 : M.count (i : Int) = 0
    ·have h1' : ((M.count (i : Int) : Int) != 0) = false := by simp [h1]
     simp [zfS, hlt, g0, g3, hu1, zaI, hcat, zbe, hnm, h1']
     rw [zar (by omega) (by omega)]
     exact good h1
    ·have h1' : ((M.count (i : Int) : Int) != 0) = true := nbt (by omega)
     simp [zfS, hlt, g0, g3, hu1, zaI, hcat, zbe, hnm, h1']
     exact hF (bad h1)
  ·obtain rfl : i = c.codes.length := by omega
   simp [zfS, g0, zaI]
   refine zFs hc' hvars hcodes hexprs hs K fun b h J => hb b ?_ J
   rw [h]
   exact ⟨fun h => ⟨fun j hj => hok j hj hj, h⟩, fun h => h.ru⟩
structure PlP (c : Cor) (T M : List Int) : Prop where
 placed : ∀ v : Nat, v < c.exprs.length → T.count (v : Int) = 1
 ma : MaP c M
theorem zFq {c : Cor} (hc : zaR c) (hvars : ∀ v ∈ c.vars, zax c.data 0 v = true) (hcodes : ∀ i (h : i < c.codes.length), RCode c i c.codes[i]) (hexprs : ∀ i (h : i < c.exprs.length), RExpr c i c.exprs[i]) {H : zaa} (hs : HSc H) {S T M : List Int} {m : Nat} (K : AV → zaa → Prop) (hb : ∀ b : Bool, (b = true ↔ PlP c T M) → ∀ J, Out H.length K (.bool b) (H ++ J)) :
  zqr (.ptr H.length 0) (.ms (H.length + 3) 0 c.codes.length c.codes.length) (.ms (H.length + 2) 0 c.exprs.length c.exprs.length) (.int .i64 c.exprs.length) (.int .i64 0) (vH H c S T M m) (Out H.length K) := by
 have hF : ¬ PlP c T M → Out H.length K (.bool false) (vH H c S T M m) := fun h => by have := hb false (by simp [h]) [.cells (zaI c), usB (cnt c.vars.length S), usB (cnt c.exprs.length T), usB (cnt c.codes.length M), .perm zbD 1 m]; exact this
 have hc' := hc
 obtain ⟨k1, k2, k3, ⟨k4, k5⟩, k6, k7⟩ := hc
 refine zJB (Inv := fun q t269 H' => ∃ i : Nat, i ≤ c.exprs.length ∧ q = c.exprs.length - i ∧ t269 = .int .i64 i ∧ (∀ j, j < i → T.count (j : Int) = 1) ∧ H' = vH H c S T M m) c.exprs.length ?_ ?_
 ·intro _; exact ⟨0, by omega, by omega, rfl, by omega, rfl⟩
 ·rintro q t269 H' ⟨i, hi, rfl, rfl, hok, rfl⟩ hsc hlen hsF Kb hKb
  have g3 : ∀ h, (vH H c S T M m)[H.length + 2]'h = .cells ((cnt c.exprs.length T).map fun n => .int .i64 n) := fun h => by simp [vH, usB]
  by_cases hlt : i < c.exprs.length
  ·have hel : i < (cnt c.exprs.length T).length := by simpa using hlt
   have hu1 : ∀ k : AV → Prop, zaP false 1 i ((cnt c.exprs.length T).map fun n => AV.int .i64 n) k = k (.int .i64 ((T.count (i : Int) : Nat) : Int)) := fun k => by rw [zfa 1 (zfv hel), zd5]
   by_cases h1 : T.count (i : Int) = 1
   ·have h1' : ((T.count (i : Int) : Int) != 1) = false := by simp [h1]
    simp [zji, hlt, g3, hu1, h1']
    rw [zar (by omega) (by omega)]
    refine hKb _ _ ⟨c.exprs.length - (i + 1), by omega, Back.here (by simp) (zeh hs _ _ _ _ _) ?_ ⟨_, rfl, i + 1, by omega, rfl, by simp, fun j hji => ?_, rfl⟩⟩
    ·simp [zf0, AV.sc, AV.scV, AV.scA, AV.scB]
    ·by_cases e : j = i
     ·subst e; exact h1
     ·exact hok j (by omega)
   ·have h1' : ((T.count (i : Int) : Int) != 1) = true := nbt (by omega)
    simp [zji, hlt, g3, hu1, h1']
    exact hF fun h => h1 (h.placed i hlt)
  ·obtain rfl : i = c.exprs.length := by omega
   simp [zji]
   refine zFr hc' hvars hcodes hexprs hs K fun b h J => hb b ?_ J
   rw [h]
   exact ⟨fun h => ⟨hok, h⟩, fun h => h.ma⟩
structure BoP (c : Cor) (S T M : List Int) : Prop where
 bound : ∀ v : Nat, v < c.vars.length → S.count (v : Int) = 1
 pl : PlP c T M
theorem zFp {c : Cor} (hc : zaR c) (hvars : ∀ v ∈ c.vars, zax c.data 0 v = true) (hcodes : ∀ i (h : i < c.codes.length), RCode c i c.codes[i]) (hexprs : ∀ i (h : i < c.exprs.length), RExpr c i c.exprs[i]) {H : zaa} (hs : HSc H) {S T M : List Int} {m : Nat} (K : AV → zaa → Prop) (hb : ∀ b : Bool, (b = true ↔ BoP c S T M) → ∀ J, Out H.length K (.bool b) (H ++ J)) :
  zqq (.ptr H.length 0) (.ms (H.length + 2) 0 c.exprs.length c.exprs.length) (.ms (H.length + 3) 0 c.codes.length c.codes.length) (.ms (H.length + 1) 0 c.vars.length c.vars.length) (.int .i64 c.vars.length) (.int .i64 0) (vH H c S T M m) (Out H.length K) := by
 have hF : ¬ BoP c S T M → Out H.length K (.bool false) (vH H c S T M m) := fun h => by have := hb false (by simp [h]) [.cells (zaI c), usB (cnt c.vars.length S), usB (cnt c.exprs.length T), usB (cnt c.codes.length M), .perm zbD 1 m]; exact this
 have hc' := hc
 obtain ⟨k1, k2, k3, ⟨k4, k5⟩, k6, k7⟩ := hc
 refine zJA (Inv := fun q t260 H' => ∃ i : Nat, i ≤ c.vars.length ∧ q = c.vars.length - i ∧ t260 = .int .i64 i ∧ (∀ j, j < i → S.count (j : Int) = 1) ∧ H' = vH H c S T M m) c.vars.length ?_ ?_
 ·intro _; exact ⟨0, by omega, by omega, rfl, by omega, rfl⟩
 ·rintro q t260 H' ⟨i, hi, rfl, rfl, hok, rfl⟩ hsc hlen hsF Kb hKb
  have g3 : ∀ h, (vH H c S T M m)[H.length + 1]'h = .cells ((cnt c.vars.length S).map fun n => .int .i64 n) := fun h => by simp [vH, usB]
  by_cases hlt : i < c.vars.length
  ·have hel : i < (cnt c.vars.length S).length := by simpa using hlt
   have hu1 : ∀ k : AV → Prop, zaP false 1 i ((cnt c.vars.length S).map fun n => AV.int .i64 n) k = k (.int .i64 ((S.count (i : Int) : Nat) : Int)) := fun k => by rw [zfa 1 (zfv hel), zd5]
   by_cases h1 : S.count (i : Int) = 1
   ·have h1' : ((S.count (i : Int) : Int) != 1) = false := by simp [h1]
    simp [zjh, hlt, g3, hu1, h1']
    rw [zar (by omega) (by omega)]
    refine hKb _ _ ⟨c.vars.length - (i + 1), by omega, Back.here (by simp) (zeh hs _ _ _ _ _) ?_ ⟨_, rfl, i + 1, by omega, rfl, by simp, fun j hji => ?_, rfl⟩⟩
    ·simp [zfZ, AV.sc, AV.scV, AV.scA, AV.scB]
    ·by_cases e : j = i
     ·subst e; exact h1
     ·exact hok j (by omega)
   ·have h1' : ((S.count (i : Int) : Int) != 1) = true := nbt (by omega)
    simp [zjh, hlt, g3, hu1, h1']
    exact hF fun h => h1 (h.bound i hlt)
  ·obtain rfl : i = c.vars.length := by omega
   simp [zjh]
   refine zFq hc' hvars hcodes hexprs hs K fun b h J => hb b ?_ J
   rw [h]
   exact ⟨fun h => ⟨hok, h⟩, fun h => h.pl⟩
theorem zua {c : Cor} (hc : zaR c) (i : Nat) : (zaW c i).length ≤ 1200 := by
 obtain ⟨k1, k2, k3, ⟨k4, k5⟩, k6, k7⟩ := hc
 have h := zds (fun f : Cod => f.params ++ f.capt) 50 (c.codes.take i) (fun f hf => by
  obtain ⟨_, h1, h2, _⟩ := k6 f (List.mem_of_mem_take hf)
  rw [List.length_append]; omega)
 have h2 : (c.codes.take i).length * 50 ≤ 24 * 50 := Nat.mul_le_mul_right _ (by rw [List.length_take]; omega)
 rw [zaW]; omega
theorem ztk (l : List (List Int)) (h : ∀ r ∈ l, r.length ≤ 10) : l.flatten.length ≤ l.length * 10 := by
 have := zds (fun r : List Int => r) 10 l h
 simpa [List.flatMap] using this
theorem zDI {c : Cor} (hc : zaR c) (i : Nat) : (zbC c i).length ≤ 16000 := by
 obtain ⟨k1, k2, k3, ⟨k4, k5⟩, k6, k7⟩ := hc
 have h := zds (fun e : CEx => e.binds.flatten) 100 (c.exprs.take i) (fun e he => by
  obtain ⟨_, h1, _, _, h2⟩ := k7 e (List.mem_of_mem_take he)
  have := ztk e.binds h2
  have : e.binds.length * 10 ≤ 10 * 10 := Nat.mul_le_mul_right _ h1
  omega)
 have h2 : (c.exprs.take i).length * 100 ≤ 160 * 100 := Nat.mul_le_mul_right _ (by rw [List.length_take]; omega)
 rw [zbC]; omega
theorem zEJ {c : Cor} (hc : zaR c) (i : Nat) : (zbf c i).length ≤ 1600 := by
 obtain ⟨k1, k2, k3, ⟨k4, k5⟩, k6, k7⟩ := hc
 have h := zds CEx.kids 10 (c.exprs.take i) (fun e he => (k7 e (List.mem_of_mem_take he)).2.2.1)
 have h2 : (c.exprs.take i).length * 10 ≤ 160 * 10 := Nat.mul_le_mul_right _ (by rw [List.length_take]; omega)
 rw [zbf]; omega
theorem zsN {c : Cor} (hc : zaR c) (i : Nat) : (zaQ c i).length ≤ 24 := by
 obtain ⟨k1, k2, k3, ⟨k4, k5⟩, k6, k7⟩ := hc
 simp [zaQ]; omega
theorem zEK {c : Cor} {i : Nat} (h : i < c.exprs.length) : zbf c (i + 1) = zbf c i ++ (c.exprs[i]).kids := by
 rw [zbf, zbR h, List.flatMap_append]; simp [zbf]
theorem ztD {c : Cor} {i : Nat} (h : i < c.exprs.length) : zb3 (c.exprs.take (i + 1)) = zb3 (c.exprs.take i) ++ (if (c.exprs[i]).op = 11 then [(c.exprs[i]).num] else []) := by
 rw [zb3, zbR h, List.filter_append, List.map_append, zb3]
 by_cases h1 : (c.exprs[i]).op = 11
 ·simp [h1]
 ·simp [h1]
theorem zER (l : List CEx) : (zb3 l).length ≤ l.length := by
 rw [zb3, List.length_map]; exact List.length_filter_le _ _
structure ExP (c : Cor) : Prop where
 exprs : ∀ i (h : i < c.exprs.length), RExpr c i c.exprs[i]
 bo : BoP c (zbS c) (zbI c) (zb3 c.exprs)
theorem zFo {c : Cor} (hc : zaR c) (hvars : ∀ v ∈ c.vars, zax c.data 0 v = true) (hcodes : ∀ i (h : i < c.codes.length), RCode c i c.codes[i]) {H : zaa} (hs : HSc H) {m : Nat} (K : AV → zaa → Prop) (hb : ∀ b : Bool, (b = true ↔ ExP c) → ∀ J, Out H.length K (.bool b) (H ++ J)) :
  zqp (.ptr H.length 0) (.ms (H.length + 1) 0 c.vars.length c.vars.length) (.ms (H.length + 2) 0 c.exprs.length c.exprs.length) (.ms (H.length + 3) 0 c.codes.length c.codes.length) (.sl (c.exprs.map CEx.cs) .none) (.int .i64 c.exprs.length) (.int .i64 0)
   (vH H c (zaW c c.codes.length) (zaQ c c.codes.length) [] m) (Out H.length K) := by
 have hF : ¬ ExP c → ∀ S T M J, Out H.length K (.bool false) (vH H c S T M m ++ J) := fun h S T M J => by rw [vH, List.append_assoc]; exact hb false (by simp [h]) _
 have hc' := hc
 obtain ⟨k1, k2, k3, ⟨k4, k5⟩, k6, k7⟩ := hc
 have lp := zua hc' c.codes.length
 have lb := zsN hc' c.codes.length
 refine zJv (Inv := fun q t177 H' => ∃ i : Nat, i ≤ c.exprs.length ∧ q = c.exprs.length - i ∧ t177 = .int .i64 i ∧ (∀ j (h : j < c.exprs.length), j < i → RExpr c j c.exprs[j]) ∧ H' = vH H c (zaW c c.codes.length ++ zbC c i) (zaQ c c.codes.length ++ zbf c i) (zb3 (c.exprs.take i)) m) c.exprs.length ?_ ?_
 ·intro _; exact ⟨0, by omega, by omega, rfl, by omega, by simp [zbC, zbf, zb3]⟩
 rintro q t177 H' ⟨i, hi, rfl, rfl, hok, rfl⟩ hsc hlen hsF Kb hKb
 have lbi := zDI hc' i
 have lki := zEJ hc' i
 have lmi := zER (c.exprs.take i)
 rw [List.length_take] at lmi
 by_cases hlt : i < c.exprs.length
 ·have hbad : ¬ RExpr c i c.exprs[i] → ∀ S T M J, Out H.length K (.bool false) (vH H c S T M m ++ J) := fun h => hF fun hh => h (hh.exprs i hlt)
  have hbs := zsM hlt
  have hks := zEK hlt
  have hls := ztD hlt
  obtain ⟨kv, kb, kk, _, kbl⟩ := k7 _ (List.getElem_mem hlt)
  have hat : (c.exprs[i]).cs = [.int .i64 (c.exprs[i]).op, .int .i64 (c.exprs[i]).num, .sl (ints (c.exprs[i]).vars) .none, .sl (rows (c.exprs[i]).binds) .none, .sl (ints (c.exprs[i]).kids) .none, .int .i64 (c.exprs[i]).ty.kind, .int .i64 (c.exprs[i]).ty.num, .sl (VT.css (c.exprs[i]).ty.kids) .none] := by rw [CEx.cs, zau]
  have hgood : RExpr c i c.exprs[i] → ∀ j (h : j < c.exprs.length), j < i + 1 → RExpr c j c.exprs[j] := fun h j hj hji => by
   by_cases e : j = i
   ·subst e; exact h
   ·exact hok j hj (by omega)
  generalize hE : c.exprs[i] = E at *
  generalize hS : zaW c c.codes.length ++ zbC c i = S at *
  generalize hT : zaQ c c.codes.length ++ zbf c i = T at *
  generalize hM : zb3 (c.exprs.take i) = M at *
  have lS : S.length ≤ 20000 := by rw [← hS, List.length_append]; omega
  have lT : T.length ≤ 2000 := by rw [← hT, List.length_append]; omega
  have lfl : ∀ j, (E.binds.take j).flatten.length ≤ 100 := fun j => by
   have := ztk (E.binds.take j) (fun r hr => kbl r (List.mem_of_mem_take hr))
   have : (E.binds.take j).length * 10 ≤ 10 * 10 := Nat.mul_le_mul_right _ (by rw [List.length_take]; omega)
   omega
  obtain ⟨X, hX⟩ : ∃ X, X = AB.cells [.int .i64 E.op, .int .i64 E.num, .sl (ints E.vars) .none, .sl (rows E.binds) .none, .sl (ints E.kids) .none, .int .i64 E.ty.kind, .int .i64 E.ty.num, .sl (VT.css E.ty.kids) .none] := ⟨_, rfl⟩
  have g5 : ∀ S T M, (vH H c S T M m ++ [X])[H.length + 5]? = some X := fun S T M => by have := vH5 H c S T M m 0 [X]; rw [Nat.add_zero] at this; exact this
  have hscX : ∀ S T M, HSc (vH H c S T M m ++ [X]) := fun S T M => (zeh hs c S T M m).snoc (by rw [hX]; simp [AB.sc, AV.scA, AV.scB])
  simp [zlA, hlt, hE, hat]
  rw [← hX]
  refine zJw (Inv := fun q t185 H' => ∃ j : Nat, j ≤ E.kids.length ∧ q = E.kids.length - j ∧ t185 = .int .i64 j ∧ (∀ k ∈ E.kids.take j, (i : Int) < k) ∧ H' = vH H c S T M m ++ [X]) E.kids.length ?_ ?_
  ·intro _; exact ⟨0, by omega, by omega, rfl, by simp, rfl⟩
  rintro q t185 H' ⟨j, hj, rfl, rfl, hk1, rfl⟩ hsc1 hlen1 hsF1 Kb1 hKb1
  by_cases hjl : j < E.kids.length
  ·by_cases hle : E.kids[j] ≤ i
   ·simp [zjg, hjl, hle]
    exact hbad (fun h => by have := h.kids _ (List.getElem_mem hjl); omega) _ _ _ _
   ·simp [zjg, hjl, hle]
    rw [zar (by omega) (by omega)]
    refine hKb1 _ _ ⟨E.kids.length - (j + 1), by omega, Back.here (by simp) (hscX _ _ _) ?_ ⟨_, rfl, j + 1, by omega, rfl, by simp, zb8 hjl hk1 (by omega), rfl⟩⟩
    simp [zfV, AV.sc, AV.scV, AV.scA, AV.scB]; omega
  obtain rfl : j = E.kids.length := by omega
  rw [List.take_length] at hk1
  simp [zjg, g5]
  rw [hX]
  simp
  rw [← hX]
  refine zeu (vH2 _ _ _ _ _ _ _) (by omega) _ (fun hr => ?_) (fun hr => ?_)
  rotate_left
  ·rw [zkU]
   simp
   exact hbad (fun h => hr h.range) _ _ _ _
  rw [zkU]
  by_cases hbk : E.binds.length ≠ E.kids.length
  ·have h1 : ((E.binds.length : Int) != E.kids.length) = true := nbt (by omega)
   simp [g5]
   rw [hX]
   simp [h1]
   exact hbad (fun h => hbk h.bk) _ _ _ _
  have hbk' : E.binds.length = E.kids.length := by omega
  have h1 : ((E.binds.length : Int) != E.kids.length) = false := by simp [hbk']
  simp [g5]
  rw [hX]
  simp [h1, hbk']
  rw [← hX, ← hbk']
  refine zJx (Inv := fun q t210 H' => ∃ j : Nat, j ≤ E.binds.length ∧ q = E.binds.length - j ∧ t210 = .int .i64 j ∧ (∀ l ∈ E.binds.take j, inV c l) ∧ H' = vH H c (S ++ (E.binds.take j).flatten) (T ++ E.kids) M m ++ [X]) E.binds.length ?_ ?_
  ·intro _; exact ⟨0, by omega, by omega, rfl, by simp, by simp⟩
  rintro q t210 H' ⟨j, hj, rfl, rfl, hb2, rfl⟩ hsc2 hlen2 hsF2 Kb2 hKb2
  by_cases hjl : j < E.binds.length
  ·have hbl := kbl _ (List.getElem_mem hjl)
   have hfl := lfl j
   simp [zlB, hjl]
   refine zeu (vH1 _ _ _ _ _ _ _) (by rw [List.length_append]; omega) _ (fun hr => ?_) (fun hr => ?_)
   ·rw [zhC]
    simp
    rw [zar (by omega) (by omega)]
    have hnx : S ++ ((E.binds.take j).flatten ++ E.binds[j]) = S ++ (E.binds.take (j + 1)).flatten := by
     rw [zbR hjl, List.flatten_append]; simp
    rw [hnx]
    refine hKb2 _ _ ⟨E.binds.length - (j + 1), by omega, Back.here (by simp) (hscX _ _ _) ?_ ⟨_, rfl, j + 1, by omega, rfl, by simp, zb8 hjl hb2 hr, rfl⟩⟩
    simp [zfW, AV.sc, AV.scV, AV.scA, AV.scB]; omega
   ·rw [zhC]
    simp
    exact hbad (fun h => hr (h.binds _ (List.getElem_mem hjl))) _ _ _ _
  obtain rfl : j = E.binds.length := by omega
  rw [List.take_length] at *
  simp [zlB, g5]
  rw [hX]
  simp
  rw [← hX]
  refine zJz (Inv := fun q t222 H' => ∃ j : Nat, j ≤ E.vars.length ∧ q = E.vars.length - j ∧ t222 = .int .i64 j ∧ (∀ x ∈ E.vars.take j, 0 ≤ x ∧ x < (c.vars.length : Int)) ∧ H' = vH H c (S ++ E.binds.flatten) (T ++ E.kids) M m ++ [X]) E.vars.length ?_ ?_
  ·intro _; exact ⟨0, by omega, by omega, rfl, by simp, rfl⟩
  rintro q t222 H' ⟨j, hj, rfl, rfl, hv1, rfl⟩ hsc3 hlen3 hsF3 Kb3 hKb3
  have g0 := vH0 H c (S ++ E.binds.flatten) (T ++ E.kids) M m
  by_cases hjl : j < E.vars.length
  ·by_cases h0 : E.vars[j] < 0
   ·simp [zei, hjl, h0]
    exact hbad (fun h => by have := h.vars _ (List.getElem_mem hjl); omega) _ _ _ _
   by_cases hge : (c.vars.length : Int) ≤ E.vars[j]
   ·simp [zei, hjl, h0, g0, zaI, hge]
    exact hbad (fun h => by have := h.vars _ (List.getElem_mem hjl); omega) _ _ _ _
   simp [zei, hjl, h0, g0, zaI, hge]
   rw [zar (by omega) (by omega)]
   refine hKb3 _ _ ⟨E.vars.length - (j + 1), by omega, Back.here (by simp) (hscX _ _ _) ?_ ⟨_, rfl, j + 1, by omega, rfl, by simp, zb8 hjl hv1 (by omega), rfl⟩⟩
   simp [zfY, AV.sc, AV.scV, AV.scA, AV.scB]; omega
  obtain rfl : j = E.vars.length := by omega
  rw [List.take_length] at hv1
  have back : ∀ M', zb3 (c.exprs.take (i + 1)) = M' → RExpr c i E → zlH (.ptr H.length 0) (.ms (H.length + 1) 0 c.vars.length c.vars.length) (.ms (H.length + 2) 0 c.exprs.length c.exprs.length) (.ms (H.length + 3) 0 c.codes.length c.codes.length) (.sl (c.exprs.map CEx.cs) .none) (.int .i64 c.exprs.length) (.int .i64 i) (vH H c (S ++ E.binds.flatten) (T ++ E.kids) M' m ++ [X]) (Out H.length K) Kb := fun M' hM' hR => by
   simp [zlH, zxi]
   rw [zar (by omega) (by omega)]
   refine hKb _ _ ⟨c.exprs.length - (i + 1), by omega, Back.at (J := [X]) (H2 := vH H c (S ++ E.binds.flatten) (T ++ E.kids) M' m) rfl (by simp) (zeh hs _ _ _ _ _) ?_ ⟨_, rfl, i + 1, by omega, rfl, by simp, hgood hR, ?_⟩⟩
   ·simp [zfU, AV.sc, AV.scV, AV.scA, AV.scB]
   ·rw [hM', hbs, hks, ← List.append_assoc, hS, ← List.append_assoc, hT]
  by_cases h11 : E.op = 11
  ·rw [if_pos h11] at hls
   by_cases hn0 : E.num < 0
   ·simp [zei, g5]
    rw [hX]
    simp [h11, hn0]
    exact hbad (fun h => by have := (h.lam h11).1; omega) _ _ _ _
   by_cases hnc : (c.codes.length : Int) ≤ E.num
   ·simp [zei, g5, g0, zaI]
    rw [hX]
    simp [h11, hn0, g0, zaI, hnc]
    exact hbad (fun h => by have := (h.lam h11).2; omega) _ _ _ _
   obtain ⟨n, hn⟩ : ∃ n : Nat, E.num = n := ⟨E.num.toNat, by omega⟩
   have hnl : n < c.codes.length := by omega
   have hel : n < (cnt c.codes.length M).length := by simpa using hnl
   have hu1 : ∀ k : AV → Prop, zaP false 1 n ((cnt c.codes.length M).map fun n => AV.int .i64 n) k = k (.int .i64 ((M.count (n : Int) : Nat) : Int)) := fun k => by rw [zfa 1 (zfv hel), zd5]
   have hce := List.count_le_length (a := (n : Int)) (l := M)
   have g3 : ∀ J, (vH H c (S ++ E.binds.flatten) (T ++ E.kids) M m ++ J)[H.length + 3]? = some (.cells ((cnt c.codes.length M).map fun n => .int .i64 n)) := fun J => vH3 _ _ _ _ _ _ _
   have := back (M ++ [E.num]) hls ⟨hk1, hr, hbk', hb2, hv1, fun _ => by omega⟩
   have hn0' : ¬ (n : Int) < 0 := by omega
   have hnc' : ¬ c.codes.length ≤ n := by omega
   have hs3 : ∀ M', (vH H c (S ++ E.binds.flatten) (T ++ E.kids) M m).set (H.length + 3) (.cells ((cnt c.codes.length M').map fun n => .int .i64 n)) = vH H c (S ++ E.binds.flatten) (T ++ E.kids) M' m := fun M' => by simp [vH, usB]
   have g3' : ∀ h, (vH H c (S ++ E.binds.flatten) (T ++ E.kids) M m)[H.length + 3]'h = .cells ((cnt c.codes.length M).map fun n => .int .i64 n) := fun h => by simp [vH, usB]
   rw [hn] at this
   simp [zei, g5]
   rw [hX]
   simp [h11, hn, hn0', hnc', hnl]
   rw [← hn, ← h11, ← hX]
   simp [g0, zaI, hn, hnc', g3', hu1]
   rw [zar (by omega) (by omega), zpG hel, zn8 M hnl, hs3]
   exact ⟨by omega, this⟩
  ·rw [if_neg h11, List.append_nil] at hls
   have := back M hls ⟨hk1, hr, hbk', hb2, hv1, fun h => absurd h h11⟩
   simp [zei, g5]
   rw [hX]
   simp [nb h11]
   rw [← hX]
   exact this
 obtain rfl : i = c.exprs.length := by omega
 rw [List.take_length] at *
 simp [zlA]
 rw [← zsC, ← zsB]
 refine zFp hc' hvars hcodes (fun j hj => hok j hj hj) hs K fun b h J => hb b ?_ J
 rw [h]
 exact ⟨fun h => ⟨fun j hj => hok j hj hj, h⟩, fun h => h.bo⟩
theorem zEX {c : Cor} {i : Nat} (h : i < c.codes.length) : nms (c.codes.take (i + 1)) = nms (c.codes.take i) ++ (if (c.codes[i]).name.isEmpty = true then [] else [(c.codes[i]).name]) := by
 rw [nms, zbR h, List.map_append, List.filter_append, nms]
 cases h1 : (c.codes[i]).name.isEmpty <;> simp [h1]
theorem zEW (l : List Cod) : (nms l).length ≤ l.length := by
 rw [nms]; exact Nat.le_trans (List.length_filter_le _ _) (by simp)
theorem zDM {c : Cor} {i : Nat} (h : i < c.codes.length) : zaQ c (i + 1) = zaQ c i ++ [(c.codes[i]).body] := by
 rw [zaQ, zbR h, List.map_append]; rfl
theorem zDQ {m : Int} {k : AV → Prop} : zaA 1 [.int .i64 0] 1 [(0, .int .i64 m)] k = k (.sl (ints [m]) .full) := propext Iff.rfl
structure CoP (c : Cor) : Prop where
 codes : ∀ i (h : i < c.codes.length), RCode c i c.codes[i]
 names : (nms c.codes).Nodup
 ex : ExP c
theorem zFn {c : Cor} (hc : zaR c) (hvars : ∀ v ∈ c.vars, zax c.data 0 v = true) {H : zaa} (hs : HSc H) (K : AV → zaa → Prop) (hb : ∀ b : Bool, (b = true ↔ CoP c) → ∀ J, Out H.length K (.bool b) (H ++ J)) :
  zlI (.ptr H.length 0) (.ms (H.length + 1) 0 c.vars.length c.vars.length) (.ms (H.length + 2) 0 c.exprs.length c.exprs.length) (.ms (H.length + 3) 0 c.codes.length c.codes.length) (.sl [] (.own (H.length + 4))) (.sl (c.codes.map Cod.cs) .none) (.int .i64 c.codes.length) (.int .i64 0)
   (vH H c [] [] [] 0) (Out H.length K) := by
 have hF : ¬ CoP c → ∀ S T M m J, Out H.length K (.bool false) (vH H c S T M m ++ J) := fun h S T M m J => by rw [vH, List.append_assoc]; exact hb false (by simp [h]) _
 have hc' := hc
 obtain ⟨k1, k2, k3, ⟨k4, k5⟩, k6, k7⟩ := hc
 refine zJu (Inv := fun q t8 t79 H' => ∃ i : Nat, i ≤ c.codes.length ∧ q = c.codes.length - i ∧ t79 = .int .i64 i ∧ t8 = .sl (strs (nms (c.codes.take i))) (.own (H.length + 4)) ∧ (∀ j (h : j < c.codes.length), j < i → RCode c j c.codes[j]) ∧ H' = vH H c (zaW c i) (zaQ c i) [] (nms (c.codes.take i)).length) c.codes.length ?_ ?_
 ·intro _; exact ⟨0, by omega, by omega, rfl, by simp [nms, strs], by omega, by simp [nms, zaW, zaQ]⟩
 rintro q t8 t79 H' ⟨i, hi, rfl, rfl, rfl, hok, rfl⟩ hsc hlen hsF Kb hKb
 have lp := zua hc' i
 have lb := zsN hc' i
 have ln := zEW (c.codes.take i)
 rw [List.length_take] at ln
 by_cases hlt : i < c.codes.length
 ·have hbad : ¬ RCode c i c.codes[i] → ∀ S T M m J, Out H.length K (.bool false) (vH H c S T M m ++ J) := fun h => hF fun hh => h (hh.codes i hlt)
  have hps := zub hlt
  have hbs := zDM hlt
  have hns := zEX hlt
  have hcat : (c.codes[i]).cs = zbe c.codes[i] := zhd _
  obtain ⟨_, kp, kc, kr⟩ := k6 _ (List.getElem_mem hlt)
  have hgood : RCode c i c.codes[i] → ∀ j (h : j < c.codes.length), j < i + 1 → RCode c j c.codes[j] := fun h j hj hji => by
   by_cases e : j = i
   ·subst e; exact h
   ·exact hok j hj (by omega)
  generalize hf : c.codes[i] = f at *
  generalize hS : zaW c i = S at *
  generalize hT : zaQ c i = T at *
  generalize hN : nms (c.codes.take i) = N at *
  have hw : IntKind.i64.wrap ((i : Int) + 1) = (i : Int) + 1 := zar (by omega) (by omega)
  obtain ⟨X, hX⟩ : ∃ X, X = AB.cells [.str f.name, .sl (ints f.params) .none, .sl (ints f.capt) .none, .int .i64 f.res.kind, .int .i64 f.res.num, .sl (VT.css f.res.kids) .none, .int .i64 f.body] := ⟨_, rfl⟩
  have g5 : ∀ S T M m, (vH H c S T M m ++ [X])[H.length + 5]? = some X := fun S T M m => by have := vH5 H c S T M m 0 [X]; rw [Nat.add_zero] at this; exact this
  have hscX : ∀ S T M m, HSc (vH H c S T M m ++ [X]) := fun S T M m => (zeh hs c S T M m).snoc (by rw [hX]; simp [AB.sc, AV.scA, AV.scB])
  have hNl : N.length ≤ 24 := by omega
  -- the counts
  have j3 : (f.name = [] → ∀ h : i + 1 < c.codes.length, (c.codes[i + 1]).name = []) → (f.name ≠ [] → f.capt = []) → f.params.length ≤ 6 → zax c.data 0 f.res = true → ∀ N', nms (c.codes.take (i + 1)) = N' →
    zlG (.ptr H.length 0) (.ms (H.length + 1) 0 c.vars.length c.vars.length) (.ms (H.length + 2) 0 c.exprs.length c.exprs.length) (.ms (H.length + 3) 0 c.codes.length c.codes.length) (.sl (strs N') (.own (H.length + 4))) (.ptr (H.length + 5) 0) (.sl (c.codes.map Cod.cs) .none) (.int .i64 c.codes.length) (.int .i64 i) (vH H c S T [] N'.length ++ [X]) (Out H.length K) Kb := by
   intro q1 q2 q3 q4 N' hN'
   refine zJr fun hs3 => ?_
   unfold zqn
   simp [g5]
   rw [hX]
   simp
   rw [← hX]
   by_cases hrp : inV c f.params
   ·refine zdo (.bool true) (vH H c (S ++ f.params) T [] N'.length ++ [X]) (zeu (vH1 _ _ _ _ _ _ _) (by omega) _ (fun hr => ⟨rfl, zhC _ _ _ _ _ _ _ _⟩) (fun hr => absurd hrp hr)) ?_
    simp [g5]
    rw [hX]
    simp
    rw [← hX]
    by_cases hrc : inV c f.capt
    ·refine zdo (.bool true) (vH H c (S ++ f.params ++ f.capt) T [] N'.length ++ [X]) (zeu (vH1 _ _ _ _ _ _ _) (by rw [List.length_append]; omega) _ (fun hr => ⟨rfl, zhC _ _ _ _ _ _ _ _⟩) (fun hr => absurd hrc hr)) ?_
     simp [g5]
     rw [hX]
     simp [zDQ]
     rw [← hX]
     by_cases hbd : 0 ≤ f.body ∧ f.body < c.exprs.length
     ·refine zdo (.bool true) (vH H c (S ++ (f.params ++ f.capt)) (T ++ [f.body]) [] N'.length ++ [X]) (zeu (vH2 _ _ _ _ _ _ _) (by simp; omega) _ (fun hr => ⟨rfl, zkU _ _ _ _ _ _ _ _⟩) (fun hr => absurd (by simpa using hbd) hr)) ?_
      obtain ⟨b, hbb⟩ : ∃ b : Nat, f.body = b := ⟨f.body.toNat, by omega⟩
      have hbl : b < c.exprs.length := by omega
      have hce : (c.exprs[b]).cs = zam c.exprs[b] := by rw [CEx.cs, zau]; rfl
      have hnb := (k7 _ (List.getElem_mem hbl)).2.2.2.1
      have g0 := vH0 H c (S ++ (f.params ++ f.capt)) (T ++ [f.body]) [] N'.length
      simp [g5, g0, zaI]
      rw [hX]
      simp [hbb, hbl, hce, zam]
      rw [← zau, ← zau, ← hbb]
      refine zdo (.bool ((c.exprs[b]).ty.same f.res)) _ (zdu (by omega) _ _ ⟨rfl, rfl⟩) ?_
      cases hsm : (c.exprs[b]).ty.same f.res with
      | false =>
       simp
       refine hbad (fun h => ?_) _ _ _ _ _
       obtain ⟨b', h1, h2, h3⟩ := h.body
       obtain rfl : b' = b := by omega
       rw [hsm] at h3; cases h3
      | true =>
       simp
       rw [hw]
       refine hKb _ _ ⟨c.codes.length - (i + 1), by omega, Back.at (J := [_]) (H2 := vH H c (S ++ (f.params ++ f.capt)) (T ++ [f.body]) [] N'.length) rfl (by simp) (zeh hs _ _ _ _ _) ?_ ⟨_, _, rfl, i + 1, by omega, rfl, by simp, by rw [hN'], hgood ⟨q1, q2, q3, q4, hrp, hrc, b, hbb, hbl, hsm⟩, by rw [hN', hps, hbs]⟩⟩
       simp [zfT, AV.sc, AV.scV, AV.scA, AV.scB]
     ·refine zdo (.bool false) _ (zeu (vH2 _ _ _ _ _ _ _) (by simp; omega) _ (fun hr => absurd (by simpa using hr) hbd) (fun hr => ⟨rfl, zkU _ _ _ _ _ _ _ _⟩)) ?_
      simp
      refine hbad (fun h => ?_) _ _ _ _ _
      obtain ⟨b', h1, h2, _⟩ := h.body
      exact hbd (by omega)
    ·refine zdo (.bool false) _ (zeu (vH1 _ _ _ _ _ _ _) (by rw [List.length_append]; omega) _ (fun hr => absurd hr hrc) (fun hr => ⟨rfl, zhC _ _ _ _ _ _ _ _⟩)) ?_
     simp
     exact hbad (fun h => hrc h.rc) _ _ _ _ _
   ·refine zdo (.bool false) _ (zeu (vH1 _ _ _ _ _ _ _) (by omega) _ (fun hr => absurd hr hrp) (fun hr => ⟨rfl, zhC _ _ _ _ _ _ _ _⟩)) ?_
    simp
    exact hbad (fun h => hrp h.rp) _ _ _ _ _
  have g0 := vH0 H c S T [] N.length
  cases hnm : f.name.isEmpty with
  | true =>
   have hn : f.name = [] := by simpa using hnm
   by_cases hI : i + 1 < c.codes.length
   ·have hI' : (i : Int) + 1 < c.codes.length := by omega
    have hto : ((i : Int) + 1).toNat = i + 1 := by omega
    have hI0 : (0 : Int) ≤ (i : Int) + 1 := by omega
    have hcat2 : (c.codes[i + 1]).cs = zbe c.codes[i + 1] := zhd _
    cases hnx : (c.codes[i + 1]).name.isEmpty with
    | false =>
     simp [zdx, hlt, hf, hcat, zbe, g0, zaI, hw, hnm, hI, hI', hto, hI0, hcat2, hnx]
     refine hbad (fun h => ?_) _ _ _ _ _
     have := h.order hn hI
     simp [this] at hnx
    | true =>
     have hnx' : (c.codes[i + 1]).name = [] := by simpa using hnx
     by_cases hp6 : 6 < f.params.length
     ·have hp6' : (6 : Int) < f.params.length := by omega
      simp [zdx, hlt, hf, hcat, zbe, g0, zaI, hw, hnm, hI, hI', hto, hI0, hcat2, hnx, hp6']
      exact hbad (fun h => by have := h.pars; omega) _ _ _ _ _
     have hp6' : ¬ (6 : Int) < f.params.length := by omega
     simp [zdx, hlt, hf, hcat, zbe, g0, zaI, hw, hnm, hI, hI', hto, hI0, hcat2, hnx, hp6']
     rw [← zau f.res]
     refine zh2 c.data (by obtain ⟨k1, _⟩ := k1; omega) 0 f.res (by omega) _ _ ?_
     cases hty : zax c.data 0 f.res with
     | false => simp; exact hbad (fun h => by have := h.res; rw [hty] at this; cases this) _ _ _ _ _
     | true =>
      have fin := j3 (fun _ _ => hnx') (fun h => absurd hn h) (by omega) hty
      rw [← hX]
      have fin := fin N (by rw [hns, if_pos hnm, List.append_nil])
      simp [g5]
      rw [hX] at fin ⊢
      simp [hnm] at fin ⊢
      exact fin
   ·have hI' : ¬ (i : Int) + 1 < c.codes.length := by omega
    by_cases hp6 : 6 < f.params.length
    ·have hp6' : (6 : Int) < f.params.length := by omega
     simp [zdx, hlt, hf, hcat, zbe, g0, zaI, hw, hnm, hI', hp6']
     exact hbad (fun h => by have := h.pars; omega) _ _ _ _ _
    have hp6' : ¬ (6 : Int) < f.params.length := by omega
    simp [zdx, hlt, hf, hcat, zbe, g0, zaI, hw, hnm, hI', hp6']
    rw [← zau f.res]
    refine zh2 c.data (by obtain ⟨k1, _⟩ := k1; omega) 0 f.res (by omega) _ _ ?_
    cases hty : zax c.data 0 f.res with
    | false => simp; exact hbad (fun h => by have := h.res; rw [hty] at this; cases this) _ _ _ _ _
    | true =>
     have fin := j3 (fun _ h => absurd h hI) (fun h => absurd hn h) (by omega) hty
     rw [← hX]
     have fin := fin N (by rw [hns, if_pos hnm, List.append_nil])
     simp [g5]
     rw [hX] at fin ⊢
     simp [hnm] at fin ⊢
     exact fin
  | false =>
   have hn : f.name ≠ [] := by intro h; simp [h] at hnm
   by_cases hcap : 0 < f.capt.length
   ·have hcap' : (0 : Int) < f.capt.length := by omega
    simp [zdx, hlt, hf, hcat, zbe, g0, zaI, hw, hnm, hcap, hcap']
    exact hbad (fun h => by have := h.capt hn; rw [this] at hcap; simp at hcap) _ _ _ _ _
   have hcap' : ¬ (0 : Int) < f.capt.length := by omega
   have hcap2 : f.capt = [] := List.eq_nil_of_length_eq_zero (by omega)
   by_cases hp6 : 6 < f.params.length
   ·have hp6' : (6 : Int) < f.params.length := by omega
    simp [zdx, hlt, hf, hcat, zbe, g0, zaI, hw, hnm, hcap, hcap', hp6']
    exact hbad (fun h => by have := h.pars; omega) _ _ _ _ _
   have hp6' : ¬ (6 : Int) < f.params.length := by omega
   simp [zdx, hlt, hf, hcat, zbe, g0, zaI, hw, hnm, hcap, hcap', hp6']
   rw [← zau f.res]
   refine zh2 c.data (by obtain ⟨k1, _⟩ := k1; omega) 0 f.res (by omega) _ _ ?_
   cases hty : zax c.data 0 f.res with
   | false => simp; exact hbad (fun h => by have := h.res; rw [hty] at this; cases this) _ _ _ _ _
   | true =>
    have fin := j3 (fun h => absurd h hn) (fun _ => hcap2) (by omega) hty
    rw [← hX]
    have fin := fin (N ++ [f.name]) (by rw [hns, if_neg (by simp [hnm])])
    simp [g5]
    rw [hX] at fin ⊢
    simp [hnm, zn2] at fin ⊢
    simp [zaJ, zbH, zbh, vH]
    refine ⟨by clear fin j3 hbad hgood ln hok hF hKb; omega, ?_⟩
    rw [← zps]
    simpa [vH] using fin
 obtain rfl : i = c.codes.length := by omega
 rw [List.take_length] at *
 simp [zdx]
 refine zJt fun hs4 => ?_
 unfold zqo
 refine zpf _ (by omega) _ _ ?_
 have g0 : ∀ h, (vH H c (zaW c c.codes.length) (zaQ c c.codes.length) [] (nms c.codes).length)[H.length]'h = .cells (zaI c) := fun h => by simp [vH]
 cases hr : zb0 (nms c.codes) with
 | true =>
  simp
  have := hF (fun h => by have := zkE h.names; rw [hr] at this; cases this) (zaW c c.codes.length) (zaQ c c.codes.length) [] (nms c.codes).length []
  simpa using this
 | false =>
  simp [g0, zaI]
  refine zFo hc' hvars (fun j hj => hok j hj hj) hs K fun b h J => hb b ?_ J
  rw [h]
  simp only [zb0, Bool.not_eq_false', decide_eq_true_eq] at hr
  exact ⟨fun h => ⟨fun j hj => hok j hj hj, hr, h⟩, fun h => h.ex⟩
theorem zJG (c : Cor) (hc : zaR c) (H : zaa) (K : AV → zaa → Prop) (hK : ∀ b, (b = true ↔ RefV c) → K (.bool b) H) : ACalls tP zkg [.agg c.cs] H K := by
 refine ACalls.out (zJF fun hs => ?_)
 have hF : ¬ RefV c → ∀ J, Out H.length K (.bool false) (H ++ J) := fun h J => Out.bool rfl (Nat.le_refl _) hs (hK _ (by simp [h]))
 have hT : ∀ b : Bool, (b = true ↔ RefV c) → ∀ J, Out H.length K (.bool b) (H ++ J) := fun b h J => Out.bool rfl (Nat.le_refl _) hs (hK _ h)
 have hc' := hc
 obtain ⟨k1, k2, k3, ⟨k4, k5⟩, k6, k7⟩ := hc
 have h1 : ¬ (64 : Int) < c.codes.length := by omega
 have h2 : ¬ (3000 : Int) < c.exprs.length := by omega
 have h3 : ¬ (3000 : Int) < c.vars.length := by omega
 simp [zqe, Cor.cs]
 refine zLh c.data k1 _ _ fun b hb => ?_
 cases b with
 | false => simp; exact hF (fun h => by have := hb.2 h.data; cases this) _
 | true =>
 have hd := hb.1 rfl
 simp [h1, h2, h3]
 refine zJn fun hs1 => ?_
 unfold zql
 simp
 refine zJy (Inv := fun q t54 H' => ∃ i : Nat, i ≤ c.vars.length ∧ q = c.vars.length - i ∧ t54 = .int .i64 i ∧ (∀ v ∈ c.vars.take i, zax c.data 0 v = true) ∧ H' = H ++ [.cells (zaI c)]) c.vars.length ?_ ?_
 ·intro _; exact ⟨0, by omega, by omega, rfl, by simp, rfl⟩
 rintro q t54 H' ⟨i, hi, rfl, rfl, hok, rfl⟩ hsc hlen hsF Kb hKb
 by_cases hlt : i < c.vars.length
 ·have hn := k5 _ (List.getElem_mem hlt)
  have hcs := zau c.vars[i]
  simp [zlC, hlt, hcs, zaI]
  rw [← hcs]
  refine zh2 c.data (by obtain ⟨k1, _⟩ := k1; omega) 0 c.vars[i] (by omega) _ _ ?_
  cases hty : zax c.data 0 c.vars[i] with
  | false =>
   simp
   exact hF (fun h => by have := h.vars _ (List.getElem_mem hlt); rw [hty] at this; cases this) _
  | true =>
   simp
   rw [zar (by omega) (by omega)]
   refine hKb _ _ ⟨c.vars.length - (i + 1), by omega, Back.at (J := [_]) (H2 := H ++ [.cells (zaI c)]) (by simp [zaI]; rfl) (by simp) hsc ?_ ⟨_, rfl, i + 1, by omega, rfl, by simp, zb8 hlt hok hty, rfl⟩⟩
   simp [zfX, AV.sc, AV.scV, AV.scA, AV.scB]
 obtain rfl : i = c.vars.length := by omega
 rw [List.take_length] at hok
 simp [zlC, zaI]
 simp only [zbd, Int.toNat_natCast, zpe, zn7]
 refine ⟨⟨by omega, by omega, by omega, by omega⟩, ?_⟩
 simp [zaI]
 refine ⟨⟨by omega, by omega⟩, ?_⟩
 refine zJp fun hs2 => ?_
 unfold zqm
 simp
 simp only [zbd, Int.toNat_natCast, zpe, zn7]
 refine ⟨⟨by omega, by omega, by omega, by omega⟩, ?_⟩
 simp
 unfold zlI
 refine ALoop.own 8 zbD 1 rfl ?_
 have := zFn hc' hok hs K fun b h J => hT b (by
  rw [h]
  exact ⟨fun h => ⟨hd, hok, h.codes, h.names, h.ex.exprs, h.ex.bo.bound, h.ex.bo.pl.placed, h.ex.bo.pl.ma.made, h.ex.bo.pl.ma.ru.rules, h.ex.bo.pl.ma.ru.sc⟩, fun h => ⟨h.codes, h.names, h.exprs, h.bound, h.placed, h.made, h.rules, h.scopes⟩⟩) J
 simp [vH, usB, zaI] at this ⊢
 exact this
mutual
theorem za8 : ∀ v w : VT, v.same w = true ↔ v = w
 | .mk k n ks, .mk k' n' ks' => by
  have h := zbr ks ks'
  simp only [VT.same, Bool.and_eq_true, beq_iff_eq, VT.mk.injEq, h, and_assoc]
theorem zbr : ∀ v w : List VT, VT.sameL v w = true ↔ v = w
 | v :: vs, w :: ws => by
  have h1 := za8 v w
  have h2 := zbr vs ws
  simp only [VT.sameL, Bool.and_eq_true, List.cons.injEq, h1, h2]
 | [], [] => by simp [VT.sameL]
 | [], _ :: _ => by simp [VT.sameL]
 | _ :: _, [] => by simp [VT.sameL]
end
theorem zpx {α : Type} (l : List α) (d n : Nat) : (l.take d)[n]? = if n < d then l[n]? else none := by
 by_cases h : n < d
 ·rw [if_pos h, List.getElem?_take_of_lt h]
 ·rw [if_neg h, List.getElem?_eq_none (by rw [List.length_take]; omega)]
theorem zGa {data : List Dat} {d : Nat} {vars k n : Int} {len : Nat} (h : (k == 5 && n == (d : Int)) = false) : za6 (data.take (d + 1)) vars k n len = za6 (data.take d) vars k n len := by
 unfold za6
 by_cases h5 : k = 5
 ·subst h5
  have hn : n ≠ d := by simpa using h
  simp only [zpx]
  by_cases h0 : 0 ≤ n
  ·have : (n.toNat < d + 1) = (n.toNat < d) := by
    apply propext; omega
   simp [this]
  ·simp [h0]
 ·have : (k == 5) = false := by simpa using h5
  simp [this]
mutual
theorem zuQ (data : List Dat) (d : Nat) (vars : Int) : ∀ t : VT, zce d t = false → zbs (data.take (d + 1)) vars t = zbs (data.take d) vars t
 | .mk k n ks => by
  intro h
  simp only [zce, Bool.or_eq_false_iff] at h
  rw [zbs, zbs, zGa h.1, zuP data d vars ks h.2]
theorem zuP (data : List Dat) (d : Nat) (vars : Int) : ∀ l : List VT, zeA d l = false → zbt (data.take (d + 1)) vars l = zbt (data.take d) vars l
 | [] => fun _ => rfl
 | t :: ts => by
  intro h
  simp only [zeA, Bool.or_eq_false_iff] at h
  rw [zbt, zbt, zuQ data d vars t h.1, zuP data d vars ts h.2]
end
mutual
theorem ztN (data : List Dat) (d : Nat) (vars : Int) : ∀ t : VT, zbs (data.take d) vars t = true → zce d t = false
 | .mk k n ks => by
  intro h
  rw [zbs, Bool.and_eq_true] at h
  rw [zce, ztM data d vars ks h.2, Bool.or_false]
  by_cases h5 : k = 5
  ·subst h5
   have h1 := h.1
   simp [za6, zpx] at h1
   obtain ⟨h0, h2⟩ := h1
   by_cases hn : n = d
   ·subst hn
    simp at h2
   ·simpa using hn
  ·have : (k == 5) = false := by simpa using h5
   simp [this]
theorem ztM (data : List Dat) (d : Nat) (vars : Int) : ∀ l : List VT, zbt (data.take d) vars l = true → zeA d l = false
 | [] => fun _ => rfl
 | t :: ts => by
  intro h
  rw [zbt, Bool.and_eq_true] at h
  rw [zeA, ztN data d vars t h.1, ztM data d vars ts h.2]; rfl
end
theorem zur (data : List Dat) (vars : Int) : ∀ (l : List VT) (i : Nat), zcZ l i = true → ((i + l.length : Nat) : Int) ≤ vars → zbt data vars l = true ∧ VT.nodesL l = l.length
 | [], i, _, _ => ⟨rfl, rfl⟩
 | .mk k n ks :: l, i, h, hv => by
  rw [zcZ, Bool.and_eq_true] at h
  obtain ⟨h1, h2⟩ := h
  simp only [zj2, Bool.and_eq_true, beq_iff_eq] at h1
  obtain ⟨⟨rfl, rfl⟩, h3⟩ := h1
  have hk : ks = [] := List.eq_nil_of_length_eq_zero h3
  subst hk
  obtain ⟨h4, h5⟩ := zur data vars l (i + 1) h2 (by simp at hv ⊢; omega)
  simp at hv
  constructor
  ·simp [zbt, zbs, za6, h4]
   omega
  ·simp [VT.nodesL, VT.nodes, h5]; omega
theorem zsG (data : List Dat) (d : Nat) (hd : d < data.length) (h0 : 0 ≤ (data[d]).vars) (h6 : (data[d]).vars ≤ 6) (t : VT) : zd2 data d (data[d]).vars t = zea data d (data[d]).vars t := by
 unfold zd2 zea
 cases hs : zcd d (data[d]).vars t with
 | true =>
  obtain ⟨k, n, ks⟩ := t
  simp only [zcd, Bool.and_eq_true, beq_iff_eq] at hs
  obtain ⟨⟨⟨rfl, rfl⟩, hl⟩, hs⟩ := hs
  obtain ⟨h1, h2⟩ := zur (data.take (d + 1)) (data[d]).vars ks 0 hs (by simp; omega)
  have hty : zax (data.take (d + 1)) (data[d]).vars (.mk 5 d ks) = true := by
   simp [zax, zbs, h1, VT.nodes, h2, za6, zpx, hd, hl]
   omega
  simp [hty]
 | false =>
  simp only [Bool.false_or]
  unfold zax
  cases hm : zce d t with
  | false => rw [zuQ data d _ t hm]; simp
  | true =>
   have : zbs (data.take d) (data[d]).vars t = false := by
    cases h : zbs (data.take d) (data[d]).vars t with
    | false => rfl
    | true => rw [ztN data d _ t h] at hm; cases hm
   simp [this]
theorem zs8 (data : List Dat) : ∀ (l : List Dat) (d : Nat), zdd data l d = true ↔ ∀ j (h : j < l.length), zcY data (d + j) l[j] = true
 | [], d => by simp [zdd]
 | D :: l, d => by
  rw [zdd, Bool.and_eq_true, zs8 data l (d + 1)]
  constructor
  ·rintro ⟨h1, h2⟩ j hj
   cases j with
   | zero => exact h1
   | succ j =>
    have := h2 j (by simpa using hj)
    rw [show d + (j + 1) = d + 1 + j by omega]
    simpa using this
  ·intro h
   refine ⟨h 0 (by simp), fun j hj => ?_⟩
   have := h (j + 1) (by simpa using hj)
   rw [show d + (j + 1) = d + 1 + j by omega] at this
   simpa using this
theorem zs7 (data : List Dat) : zcn data = true ↔ RData data := by
 unfold zcn
 simp only [Bool.and_eq_true, decide_eq_true_eq, zs8, zb0, Bool.not_not, Nat.zero_add]
 constructor
 ·rintro ⟨⟨⟨h1, h2⟩, h3⟩, h4⟩
  refine ⟨h1, fun d hd => ?_, h3, h4⟩
  have := h2 d hd
  simp only [zcY, Bool.and_eq_true, decide_eq_true_eq, List.all_eq_true] at this
  obtain ⟨⟨⟨⟨⟨q1, q2⟩, q3⟩, q4⟩, q5⟩, q6⟩ := this
  refine ⟨q2, q3, q4, q5, q1, fun c hc => ?_⟩
  have := q6 c hc
  simp only [zdq, Bool.and_eq_true, decide_eq_true_eq, List.all_eq_true] at this
  exact ⟨this.1, this.2.1, fun x hx => by rw [← zsG data d hd q2 q3 x]; exact this.2.2 x hx⟩
 ·rintro ⟨h1, h2, h3, h4⟩
  refine ⟨⟨⟨h1, fun d hd => ?_⟩, h3⟩, h4⟩
  obtain ⟨q2, q3, q4, q5, q1, q6⟩ := h2 d hd
  simp only [zcY, Bool.and_eq_true, decide_eq_true_eq, List.all_eq_true]
  refine ⟨⟨⟨⟨⟨q1, q2⟩, q3⟩, q4⟩, q5⟩, fun c hc => ?_⟩
  obtain ⟨r1, r2, r3⟩ := q6 c hc
  simp only [zdq, Bool.and_eq_true, decide_eq_true_eq, List.all_eq_true]
  exact ⟨r1, r2, fun x hx => by rw [zsG data d hd q2 q3 x]; exact r3 x hx⟩
end Go.Proofs.Ytkdmpbhbmmhijaa
