/- Indices: their degree, as each side computes it. -/
import Derived.Test.YtfpmdpldabopjaaGreatDoorKVa
import Derived.Test.YtfpmdpldabopjaaGreatDoorIT
import Derived.Test.YtfpmdpldabopjaaGreatDoorKYb
import Derived.Test.YtfpmdpldabopjaaGreatDoorKGI
import Derived.Test.YtfpmdpldabopjaaGreatDoorKGJ
import Derived.Test.YtfpmdpldabopjaaGreatDoorKVb
namespace Go.Proofs.YtfpmdpldabopjaaGreatDoor
open Go Go.Abs
set_option linter.unusedSimpArgs false
set_option linter.unusedVariables false
def pick : List VT → List Bool → List VT
  | x :: l, b :: bs => if b then pick l bs else x :: pick l bs
  | _, _ => []
def payT (data : List Dat) (t : VT) (c : Int) : Option (List VT) := (fields data t c).map fun l => pick l ((recs data t.num.toNat).getD c.toNat [])
mutual
def meaV (data : List Dat) : IT → VT → Int × Bool
  | .mk n ks, t =>
    if t.kind = 6 then (if n = 0 then (if t.kids.length = ks.length then meaA data ks t.kids 0 else (0, false)) else (0, false))
    else if t.kind = 7 then (n, decide (0 ≤ n) && decide (n ≤ 6) && decide (ks.length = 0))
    else if t.kind = 5 then (if n = 0 then meaE data ks t 0 else (0, false))
    else (0, decide (n = 0) && decide (ks.length = 0))
def meaA (data : List Dat) : List IT → List VT → Int → Int × Bool
  | [], _, a => (a, decide (a ≤ 6))
  | v :: vs, ts, a => match ts with
    | t :: ts => if (meaV data v t).2 then meaA data vs ts (a + (meaV data v t).1) else (0, false)
    | [] => (0, false)
def meaE (data : List Dat) : List IT → VT → Int → Int × Bool
  | [], _, a => (a, true)
  | .mk c ks :: es, t, a => match payT data t c with
    | none => (0, false)
    | some ps => if ps.length = ks.length then
        (if (meaA data ks ps 0).2 && decide (a + (1 + (meaA data ks ps 0).1) ≤ 6) then meaE data es t (a + (1 + (meaA data ks ps 0).1)) else (0, false))
      else (0, false)
end
mutual
def rdV (data : List Dat) : IT → VT → Int
  | .mk n ks, t =>
    if t.kind = 6 then (if n = 0 then (if t.kids.length = ks.length then rdA data ks t.kids 0 else -1) else -1)
    else if t.kind = 7 then (if 0 ≤ n ∧ n ≤ 6 ∧ ks.length = 0 then n else -1)
    else if t.kind = 5 then (if n = 0 ∧ ks.length ≤ 6 then rdE data ks t 0 else -1)
    else (if n = 0 ∧ ks.length = 0 then 0 else -1)
def rdA (data : List Dat) : List IT → List VT → Int → Int
  | [], _, a => a
  | v :: vs, ts, a => match ts with
    | t :: ts => if rdV data v t < 0 ∨ a + rdV data v t > 6 then -1 else rdA data vs ts (a + rdV data v t)
    | [] => -1
def rdE (data : List Dat) : List IT → VT → Int → Int
  | [], _, a => a
  | .mk c ks :: es, t, a => if c < 0 ∨ 8 ≤ c then -1 else match payT data t c with
    | none => -1
    | some ps => if ps.length = ks.length then
        (if rdA data ks ps 0 < 0 ∨ a + 1 + rdA data ks ps 0 > 6 then -1 else rdE data es t (a + (1 + rdA data ks ps 0)))
      else -1
end
theorem payT_lt {data : List Dat} (h8 : ∀ D ∈ data, D.cons.length ≤ 8) {t : VT} {c : Int} {ps : List VT} (h : payT data t c = some ps) : 0 ≤ c ∧ c < 8 := by
  unfold payT at h
  cases hf : fields data t c with
  | none => rw [hf] at h; cases h
  | some l =>
    obtain ⟨_, k1, k2, hn, hc, _⟩ := fields_some hf
    have := h8 _ (List.getElem_mem hn)
    omega
def agr (m : Int × Bool) (r : Int) : Prop := (m.2 = true → m.1 = r ∧ 0 ≤ r ∧ r ≤ 6) ∧ (m.2 = false → r = -1)
theorem agr_no : agr (0, false) (-1) := ⟨fun h => (by cases h), fun _ => rfl⟩
mutual
theorem agrV {data : List Dat} (h8 : ∀ D ∈ data, D.cons.length ≤ 8) : ∀ (v : IT) (t : VT), agr (meaV data v t) (rdV data v t)
  | .mk n ks, t => by
    have hA := (agrA h8 ks t.kids 0 (by omega)).1 (by omega)
    have hE := agrE h8 ks t 0 (by omega) (by omega)
    unfold meaV rdV
    split
    · split
      · split
        · exact hA
        · exact agr_no
      · exact agr_no
    · split
      · refine ⟨fun h => ?_, fun h => ?_⟩
        · simp at h
          rw [if_pos ⟨h.1.1, h.1.2, by simpa using h.2⟩]
          exact ⟨rfl, h.1.1, h.1.2⟩
        · rw [if_neg]
          rintro ⟨h1, h2, h3⟩
          simp [h1, h2, h3] at h
      · split
        · by_cases hn : n = 0
          · simp only [hn, if_true, true_and]
            by_cases hl : ks.length ≤ 6
            · rw [if_pos hl]; exact hE.1
            · rw [if_neg hl]
              refine ⟨fun h => ?_, fun _ => rfl⟩
              have := hE.2 h
              omega
          · simp only [hn, if_false, false_and]
            exact agr_no
        · refine ⟨fun h => ?_, fun h => ?_⟩
          · simp at h
            simp [h]
          · rw [if_neg]
            rintro ⟨h1, h2⟩
            simp [h1, h2] at h
theorem agrA {data : List Dat} (h8 : ∀ D ∈ data, D.cons.length ≤ 8) : ∀ (vs : List IT) (ts : List VT) (a : Int), 0 ≤ a → (a ≤ 6 → agr (meaA data vs ts a) (rdA data vs ts a)) ∧ (6 < a → (meaA data vs ts a).2 = false)
  | [], ts, a, ha => by
    simp only [meaA, rdA]
    exact ⟨fun h => ⟨fun _ => ⟨rfl, ha, h⟩, fun h2 => by simp at h2; omega⟩, fun h => by simp; omega⟩
  | v :: vs, ts, a, ha => by
    match ts with
    | [] => simp only [meaA, rdA]; exact ⟨fun _ => agr_no, fun _ => by trivial⟩
    | t :: ts =>
      obtain ⟨g1, g2⟩ := agrV h8 v t
      simp only [meaA, rdA]
      cases hb : (meaV data v t).2 with
      | false =>
        rw [g2 hb]
        simp
        exact fun _ => agr_no
      | true =>
        obtain ⟨e1, e2, e3⟩ := g1 hb
        rw [e1]
        have hn := agrA h8 vs ts (a + rdV data v t) (by omega)
        simp only [if_true]
        refine ⟨fun h => ?_, fun h => hn.2 (by omega)⟩
        by_cases h6 : a + rdV data v t > 6
        · rw [if_pos (.inr h6)]
          exact ⟨fun h => (by rw [hn.2 (by omega)] at h; cases h), fun _ => rfl⟩
        · rw [if_neg (by omega)]
          exact hn.1 (by omega)
theorem agrE {data : List Dat} (h8 : ∀ D ∈ data, D.cons.length ≤ 8) : ∀ (es : List IT) (t : VT) (a : Int), 0 ≤ a → a ≤ 6 → agr (meaE data es t a) (rdE data es t a) ∧ ((meaE data es t a).2 = true → a + es.length ≤ 6)
  | [], t, a, h0, h6 => by
    simp only [meaE, rdE]
    exact ⟨⟨fun _ => ⟨rfl, h0, h6⟩, fun h => by cases h⟩, fun _ => by simpa using h6⟩
  | .mk c ks :: es, t, a, h0, h6 => by
    simp only [meaE, rdE]
    cases hp : payT data t c with
    | none => simp only [ite_self]; exact ⟨agr_no, fun h => by cases h⟩
    | some ps =>
      obtain ⟨c0, c8⟩ := payT_lt h8 hp
      rw [if_neg (show ¬(c < 0 ∨ 8 ≤ c) by omega)]
      simp only
      by_cases hl : ps.length = ks.length
      · simp only [hl, if_true]
        obtain ⟨g1, g2⟩ := (agrA h8 ks ps 0 (by omega)).1 (by omega)
        cases hb : (meaA data ks ps 0).2 with
        | false =>
          rw [g2 hb]
          simp
          exact agr_no
        | true =>
          obtain ⟨e1, e2, e3⟩ := g1 hb
          rw [e1]
          by_cases hh : a + (1 + rdA data ks ps 0) ≤ 6
          · have hn := agrE h8 es t (a + (1 + rdA data ks ps 0)) (by omega) hh
            rw [if_neg (show ¬(rdA data ks ps 0 < 0 ∨ a + 1 + rdA data ks ps 0 > 6) by omega)]
            simp only [hh, decide_true, Bool.and_self, if_true]
            refine ⟨hn.1, fun h => ?_⟩
            have := hn.2 h
            simp only [List.length_cons]
            omega
          · rw [if_pos (show rdA data ks ps 0 < 0 ∨ a + 1 + rdA data ks ps 0 > 6 by omega)]
            simp [hh]
            exact agr_no
      · simp only [hl, if_false]
        exact ⟨agr_no, fun h => by cases h⟩
end
end Go.Proofs.YtfpmdpldabopjaaGreatDoor
namespace Go.Proofs.YtfpmdpldabopjaaGreatDoor
open Go Go.Abs
set_option linter.unusedSimpArgs false
set_option linter.unusedVariables false
set_option maxRecDepth 8000
def bcells (l : List Bool) : List (List AV) := l.map fun b => [.bool b]
theorem zq31_spec (data : List Dat) (d : Nat) (c : Nat) (hd : d < data.length) (hc : c < (data[d]).cons.length) (hl : data.length ≤ 1000000) (hcl : (data[d]).cons.length ≤ 1000000) (hal : ((data[d]).cons[c]).args.length ≤ 1000000)
    (hb : ∀ x ∈ ((data[d]).cons[c]).args, x.nodes ≤ 1000000) (H : Heap) (K : Kt)
    (hK : K (.sl (bcells (recsC d data[d] (data[d]).cons[c])) .none) H) :
    ACalls Tryz.prog n_zq31 [.sl (data.map Dat.cs) .none, .int .i64 d, .int .i64 c] H K := by
  refine ACalls.out (zq31_ok fun hs => ?_)
  have e1 : (data.map Dat.cs)[d]? = some (data[d]).cs := by simp [hd]
  have e2 : ((data[d]).cons.map Con.cs)[c]? = some ((data[d]).cons[c]).cs := by simp [hc]
  generalize hD : data[d] = D at *
  generalize hA : D.cons[c] = C at *
  have h1 : ¬ (d : Int) < 0 := by omega
  have h2 : ¬ (data.length : Int) ≤ d := by omega
  have h3 : ¬ (c : Int) < 0 := by omega
  have h4 : ¬ (D.cons.length : Int) ≤ c := by omega
  simp [zq31, h1, h2, h3, h4, e1, e2, Dat.cs, Con.cs, hd, hD, hc, hA]
  unfold zq31_l5
  refine ALoop.own 7 e_bool 1 rfl ?_
  show zq31_l5 (.sl (data.map Dat.cs) .none) (.int .i64 d) (.sl [] (.own H.length)) (.sl (VT.css C.args) .none) (.int .i64 C.args.length) (.int .i64 0) (H ++ [.perm e_bool 1 0]) (Out H.length K)
  have hperm : ∀ n, HSc (H ++ [.perm e_bool 1 n]) := fun n => hs.append rfl
  refine zq31_loop5 (Inv := fun q t7 t42 H' => ∃ i : Nat, i ≤ C.args.length ∧ q = C.args.length - i ∧ t42 = .int .i64 i ∧ t7 = .sl (bcells ((recsC d D C).take i)) (.own H.length) ∧ H' = H ++ [.perm e_bool 1 i]) C.args.length ?_ ?_
  · intro _; exact ⟨0, by omega, by omega, rfl, rfl, rfl⟩
  · rintro q t7 t42 H' ⟨i, hi, rfl, rfl, rfl, rfl⟩ hsc hlen hsF Kb hKb
    have hrl : (recsC d D C).length = C.args.length := by simp [recsC]
    by_cases hlt : i < C.args.length
    · obtain ⟨x, y, z, hvx, hx, hy, hz⟩ := vt3' C.args[i]
      have hnb := hb _ (List.getElem_mem hlt)
      simp [zq31_b5, hlt, hvx, Nat.add_assoc, e1, hd, hD, Dat.cs]
      rw [← hvx]
      refine ⟨⟨hx, hy, hz⟩, ?_⟩
      refine aPureX_call (.bool (isSelf d D.vars C.args[i])) (fun J => IsSelf_spec _ _ _ hnb _ _ ⟨rfl, rfl⟩) ?_
      simp [aBuildS, fillS, plain, AV.pd, aAppend, aSrc, aAppTo, bcells]
      have hmin : min i (recsC d D C).length = i := by omega
      rw [hmin]
      refine ⟨rfl, ⟨by omega, by omega⟩, ?_⟩
      rw [wrap_in (by omega) (by omega)]
      have hst : List.take i (List.map (fun b => [AV.bool b]) (recsC d D C)) ++ [[AV.bool (isSelf (↑d) D.vars C.args[i])]] = bcells ((recsC d D C).take (i + 1)) := by
        rw [List.take_succ_eq_append_getElem (by omega)]
        simp [bcells, recsC]
      rw [hst]
      refine hKb _ _ ⟨C.args.length - (i + 1), by omega, Back.at (J := [.cells C.args[i].cs]) (H2 := H ++ [.perm e_bool 1 (i + 1)]) (by simp) (by simp) (hperm _) ?_ ⟨_, _, rfl, i + 1, by omega, rfl, by simp, rfl, rfl⟩⟩
      simp [zq31_fr5, AV.sc, AV.scV, AV.scA, AV.scB]
    · obtain rfl : i = C.args.length := by omega
      rw [List.take_of_length_le (by omega)]
      simp [zq31_b5]
      exact Out.at rfl (Nat.le_refl _) hs (.atom (.sl _ _)) rfl (by simp [bcells, AV.scV, AV.scA, AV.scB]) hK
end Go.Proofs.YtfpmdpldabopjaaGreatDoor
namespace Go.Proofs.YtfpmdpldabopjaaGreatDoor
open Go Go.Abs
set_option linter.unusedSimpArgs false
set_option linter.unusedVariables false
set_option maxRecDepth 8000
theorem pick_snoc : ∀ (a : List VT) (b : List Bool) (x : VT) (y : Bool), a.length = b.length → pick (a ++ [x]) (b ++ [y]) = pick a b ++ (if y then [] else [x])
  | [], [], x, y, _ => by cases y <;> rfl
  | [], _ :: _, _, _, h => by cases h
  | _ :: _, [], _, _, h => by cases h
  | c :: a, d :: b, x, y, h => by
    have := pick_snoc a b x y (by simpa using h)
    cases d <;> simp [pick, this]
theorem pick_step {l : List VT} {bs : List Bool} {i : Nat} (h : l.length = bs.length) (hi : i < l.length) : pick (l.take (i + 1)) (bs.take (i + 1)) = pick (l.take i) (bs.take i) ++ (if bs[i]'(by omega) then [] else [l[i]]) := by
  rw [List.take_succ_eq_append_getElem hi, List.take_succ_eq_append_getElem (by omega : i < bs.length)]
  exact pick_snoc _ _ _ _ (by simp; omega)
theorem pick_len : ∀ (a : List VT) (b : List Bool), (pick a b).length ≤ a.length
  | [], b => by simp [pick]
  | _ :: _, [] => by simp [pick]
  | c :: a, d :: b => by
    have := pick_len a b
    cases d <;> simp [pick] <;> omega
theorem bcells_get {l : List Bool} {i : Nat} (h : i < (bcells l).length) : (bcells l)[i] = [.bool (l[i]'(by simpa [bcells] using h))] := by simp [bcells]
theorem bcells_len (l : List Bool) : (bcells l).length = l.length := by simp [bcells]
theorem payT_some {data : List Dat} {k n : Int} {ks : List VT} {c : Int} {l : List VT} (hk : KData data) (hf : fields data (.mk k n ks) c = some l) :
    ∃ bs, l.length = bs.length ∧ l.length ≤ 8 ∧ payT data (.mk k n ks) c = some (pick l bs) ∧ (∀ x ∈ l, x.nodes ≤ 200) ∧ k = 5 ∧
      (∀ H K, K (.sl (bcells bs) .none) H → ACalls Tryz.prog n_zq65 [.sl (data.map Dat.cs) .none, .int .i64 n, .int .i64 c] H K) ∧
      (∀ H K, K (.sl (bcells bs) .none) H → ACalls Tryz.prog n_zq31 [.sl (data.map Dat.cs) .none, .int .i64 n, .int .i64 c] H K) := by
  obtain ⟨k5, n0, c0, hn, hc, hv, rfl, h200⟩ := fields_some hf
  obtain ⟨f1, f2, f3⟩ := kd_fields hk
  have hd := List.getElem_mem hn
  have hcm := List.getElem_mem hc
  obtain ⟨g1, g2⟩ := f2 _ hd _ hcm
  have g3 := f3 _ hd
  have h8 := ((hk.2 _ hd).2.2 _ hcm).2.1
  refine ⟨recsC n.toNat data[n.toNat] (data[n.toNat]).cons[c.toNat], by simp [recsC], by simpa using h8, ?_, h200, k5, fun H K hK => ?_, fun H K hK => ?_⟩
  · simp [payT, hf, recs, hn, hc, List.getD_eq_getElem?_getD, VT.num]
  · have := zq65_spec data n.toNat c.toNat hn hc f1 g3 (by omega) (fun x hx => by have := g2 x hx; omega) H K (by simpa [bcells, recsC, Function.comp_def] using hK)
    rwa [Int.toNat_of_nonneg n0, Int.toNat_of_nonneg c0] at this
  · have := zq31_spec data n.toNat c.toNat hn hc f1 g3 (by omega) (fun x hx => by have := g2 x hx; omega) H K hK
    rwa [Int.toNat_of_nonneg n0, Int.toNat_of_nonneg c0] at this
theorem payT_none {data : List Dat} {t : VT} {c : Int} (hf : fields data t c = none) : payT data t c = none := by simp [payT, hf]
theorem zq107_spec (data : List Dat) (hk : KData data) (t : VT) (ht : t.nodes ≤ 1000) (c : Int) (H : Heap) (K : Kt) (hK : K (fieldsR (payT data t c)) H) :
    ACalls Tryz.prog n_zq107 [.sl (data.map Dat.cs) .none, .agg t.cs, .int .i64 c] H K := by
  refine ACalls.out (zq107_ok fun hs => ?_)
  obtain ⟨f1, f2, f3⟩ := kd_fields hk
  obtain ⟨k, n, ks⟩ := t
  simp [zq107, VT.cs, Nat.add_assoc]
  refine zq89_spec data f1 f2 f3 (.mk k n ks) ht c _ _ ?_
  cases hf : fields data (.mk k n ks) c with
  | none =>
    rw [payT_none hf] at hK
    simp [fieldsR]
    refine ⟨⟨rfl, rfl⟩, ?_⟩
    exact Out.tup (bs := [.sl [] .none, .bool false]) hs hK ⟨snilV, keepV rfl rfl, trivial⟩
  | some l =>
    obtain ⟨bs, hlb, hl8, hpay, h200, k5, hsc, _⟩ := payT_some hk hf
    rw [hpay] at hK
    simp [fieldsR]
    refine hsc _ _ ?_
    simp [bcells_len]
    unfold zq107_l6
    refine ALoop.own 10 e_api_Type 3 rfl ?_
    have hl1 : (H ++ [AB.cells [AV.int IntKind.i64 k, AV.int IntKind.i64 n, AV.sl (VT.css ks) Tok.none]]).length = H.length + 1 := by simp
    rw [hl1]
    show zq107_l6 (.sl (VT.css l) .none) (.sl [] (.own (H.length + 1))) (.sl (bcells bs) .none) (.int .i64 bs.length) (.int .i64 0) (H ++ [.cells [.int .i64 k, .int .i64 n, .sl (VT.css ks) .none]] ++ [.perm e_api_Type 3 0]) (Out H.length K)
    have hperm : ∀ m, HSc (H ++ [.cells [.int .i64 k, .int .i64 n, .sl (VT.css ks) .none], .perm e_api_Type 3 m]) := fun m => hs.append (by simp [AB.sc, AV.scA, AV.scB])
    refine zq107_loop6 (Inv := fun q t10 t28 H' => ∃ i : Nat, i ≤ bs.length ∧ q = bs.length - i ∧ t28 = .int .i64 i ∧ t10 = .sl (VT.css (pick (l.take i) (bs.take i))) (.own (H.length + 1)) ∧ H' = H ++ [.cells [.int .i64 k, .int .i64 n, .sl (VT.css ks) .none], .perm e_api_Type 3 (pick (l.take i) (bs.take i)).length]) bs.length ?_ ?_
    · intro _; exact ⟨0, by omega, by omega, rfl, by simp [pick, VT.css], by simp [pick]⟩
    · rintro q t10 t28 H' ⟨i, hi, rfl, rfl, rfl, rfl⟩ hsc' hlen hsF Kb hKb
      by_cases hlt : i < bs.length
      · have hps := pick_step hlb (by omega : i < l.length)
        have hpl := pick_len (l.take i) (bs.take i)
        rw [List.length_take] at hpl
        have hnext : ∀ J, zq107_j1 (.sl (VT.css l) .none) (.sl (VT.css (pick (l.take (i + 1)) (bs.take (i + 1)))) (.own (H.length + 1))) (.sl (bcells bs) .none) (.int .i64 bs.length) (.int .i64 i)
            (H ++ .cells [.int .i64 k, .int .i64 n, .sl (VT.css ks) .none] :: .perm e_api_Type 3 (pick (l.take (i + 1)) (bs.take (i + 1))).length :: J) (Out H.length K) Kb := by
          intro J
          simp [zq107_j1, zq107_j2]
          rw [wrap_in (by omega) (by omega)]
          refine hKb _ _ ⟨bs.length - (i + 1), by omega, Back.at (J := J) (H2 := H ++ [.cells [.int .i64 k, .int .i64 n, .sl (VT.css ks) .none], .perm e_api_Type 3 (pick (l.take (i + 1)) (bs.take (i + 1))).length]) (by simp) (by simp) (hperm _) ?_ ⟨_, _, rfl, i + 1, by omega, rfl, by simp, rfl, rfl⟩⟩
          simp [zq107_fr6, AV.sc, AV.scV, AV.scA, AV.scB]
        simp [zq107_b6, bcells_len, hlt, bcells_get]
        cases hbi : bs[i] with
        | true =>
          rw [hbi] at hps
          simp at hps
          simp
          have := hnext []
          rw [hps] at this
          exact this
        | false =>
          rw [hbi] at hps
          simp only [Bool.false_eq_true, if_false] at hps
          simp [show i < l.length by omega]
          rw [buildS_vt]
          simp [aAppend, aSrc, aAppTo]
          have := hnext []
          rw [hps] at this
          rw [show VT.css (pick (l.take i) (bs.take i) ++ [l[i]]) = VT.css (pick (l.take i) (bs.take i)) ++ [l[i].cs] by simp [VT.css_map], show (pick (l.take i) (bs.take i) ++ [l[i]]).length = (pick (l.take i) (bs.take i)).length + 1 by simp] at this
          exact ⟨⟨by omega, by omega⟩, this⟩
      · obtain rfl : i = bs.length := by omega
        rw [List.take_of_length_le (by omega), List.take_length] at *
        simp [zq107_b6]
        refine ⟨⟨rfl, rfl⟩, ?_⟩
        exact Out.tup (bs := [.sl (VT.css (pick l bs)) .none, .bool true]) hs hK ⟨slV, keepV rfl rfl, trivial⟩
end Go.Proofs.YtfpmdpldabopjaaGreatDoor
namespace Go.Proofs.YtfpmdpldabopjaaGreatDoor
open Go Go.Abs
set_option linter.unusedSimpArgs false
set_option linter.unusedVariables false
set_option maxRecDepth 8000
def pos (v : Bool) (bs : List Bool) (i : Nat) : List Nat := (List.range i).filter fun j => bs.getD j false == v
def natsC (l : List Nat) : List (List AV) := l.map fun (n : Nat) => [AV.int .i64 (Int.ofNat n)]
theorem pos_succ (v : Bool) (bs : List Bool) (i : Nat) (h : i < bs.length) : pos v bs (i + 1) = pos v bs i ++ (if bs[i] == v then [i] else []) := by
  unfold pos
  rw [List.range_succ, List.filter_append]
  congr 1
  simp [List.filter_cons, List.getD_eq_getElem?_getD, h]
theorem pos_len (v : Bool) (bs : List Bool) (i : Nat) : (pos v bs i).length ≤ i := by
  have := List.length_filter_le (fun j => bs.getD j false == v) (List.range i)
  simpa [pos] using this
theorem pos_lt {v : Bool} {bs : List Bool} {i j : Nat} (h : j ∈ pos v bs i) : j < i := by
  simp [pos] at h
  exact h.1
theorem pick_pos {l : List VT} {bs : List Bool} (h : l.length = bs.length) (d : VT) : ∀ i, i ≤ l.length → pick (l.take i) (bs.take i) = (pos false bs i).map fun j => l.getD j d
  | 0, _ => by simp [pick, pos]
  | i + 1, hi => by
    rw [pick_step h (by omega), pos_succ false bs i (by omega), List.map_append, pick_pos h d i (by omega)]
    congr 1
    cases hb : bs[i]'(by omega) <;> simp [List.getD_eq_getElem?_getD, show i < l.length by omega]
theorem natsC_len (l : List Nat) : (natsC l).length = l.length := by simp [natsC]
theorem natsC_get {l : List Nat} {i : Nat} (h : i < (natsC l).length) : (natsC l)[i] = [.int .i64 ((l[i]'(by simpa [natsC] using h) : Nat) : Int)] := by simp [natsC]
theorem natsC_app (l m : List Nat) : natsC (l ++ m) = natsC l ++ natsC m := by simp [natsC]
theorem zq145_spec (data : List Dat) (hk : KData data) (k n : Int) (ks : List VT) (ht : (VT.mk k n ks).nodes ≤ 1000) (c : Int) {l : List VT} {bs : List Bool} (hf : fields data (.mk k n ks) c = some l)
    (hlb : l.length = bs.length) (hl8 : l.length ≤ 8) (hrec : ∀ H K, K (.sl (bcells bs) .none) H → ACalls Tryz.prog n_zq31 [.sl (data.map Dat.cs) .none, .int .i64 n, .int .i64 c] H K) (H : Heap) (K : Kt)
    (hK : K (.tup [.sl (natsC (pos false bs bs.length)) .none, .sl (natsC (pos true bs bs.length)) .none, .bool true]) H) :
    ACalls Tryz.prog n_zq145 [.sl (data.map Dat.cs) .none, .agg (VT.mk k n ks).cs, .int .i64 c] H K := by
  refine ACalls.out (zq145_ok fun hs => ?_)
  obtain ⟨f1, f2, f3⟩ := kd_fields hk
  simp [zq145, VT.cs, Nat.add_assoc]
  refine zq96_spec data f1 f2 f3 (.mk k n ks) ht c _ _ ?_
  rw [hf]
  simp [fieldsR]
  refine hrec _ _ ?_
  simp [bcells_len]
  unfold zq145_l6
  refine ALoop.own 11 e_int 1 rfl ?_
  refine ALoop.own 12 e_int 1 rfl ?_
  have hl1 : (H ++ [AB.cells [AV.int IntKind.i64 k, AV.int IntKind.i64 n, AV.sl (VT.css ks) Tok.none]]).length = H.length + 1 := by simp
  have hl2 : (H ++ [AB.cells [AV.int IntKind.i64 k, AV.int IntKind.i64 n, AV.sl (VT.css ks) Tok.none]] ++ [AB.perm e_int 1 0]).length = H.length + 2 := by simp
  rw [hl1, hl2]
  show zq145_l6 (.sl [] (.own (H.length + 1))) (.sl [] (.own (H.length + 2))) (.sl (bcells bs) .none) (.int .i64 bs.length) (.int .i64 0) (H ++ [.cells [.int .i64 k, .int .i64 n, .sl (VT.css ks) .none]] ++ [.perm e_int 1 0] ++ [.perm e_int 1 0]) (Out H.length K)
  have hperm : ∀ m m2, HSc (H ++ [.cells [.int .i64 k, .int .i64 n, .sl (VT.css ks) .none], .perm e_int 1 m, .perm e_int 1 m2]) := fun m m2 => hs.append (by simp [AB.sc, AV.scA, AV.scB])
  refine zq145_loop6 (Inv := fun q t11 t12 t30 H' => ∃ i : Nat, i ≤ bs.length ∧ q = bs.length - i ∧ t30 = .int .i64 i ∧ t11 = .sl (natsC (pos false bs i)) (.own (H.length + 1)) ∧ t12 = .sl (natsC (pos true bs i)) (.own (H.length + 2)) ∧
    H' = H ++ [.cells [.int .i64 k, .int .i64 n, .sl (VT.css ks) .none], .perm e_int 1 (pos false bs i).length, .perm e_int 1 (pos true bs i).length]) bs.length ?_ ?_
  · intro _; exact ⟨0, by omega, by omega, rfl, by simp [pos, natsC], by simp [pos, natsC], by simp [pos]⟩
  · rintro q t11 t12 t30 H' ⟨i, hi, rfl, rfl, rfl, rfl, rfl⟩ hsc' hlen hsF Kb hKb
    by_cases hlt : i < bs.length
    · have hp1 := pos_succ false bs i hlt
      have hp2 := pos_succ true bs i hlt
      have hn1 := pos_len false bs i
      have hn2 := pos_len true bs i
      have hnext : zq145_j1 (.sl (natsC (pos false bs (i + 1))) (.own (H.length + 1))) (.sl (natsC (pos true bs (i + 1))) (.own (H.length + 2))) (.sl (bcells bs) .none) (.int .i64 bs.length) (.int .i64 i)
          (H ++ [.cells [.int .i64 k, .int .i64 n, .sl (VT.css ks) .none], .perm e_int 1 (pos false bs (i + 1)).length, .perm e_int 1 (pos true bs (i + 1)).length]) (Out H.length K) Kb := by
        simp [zq145_j1, zq145_j2]
        rw [wrap_in (by omega) (by omega)]
        refine hKb _ _ ⟨bs.length - (i + 1), by omega, Back.at (J := []) (H2 := H ++ [.cells [.int .i64 k, .int .i64 n, .sl (VT.css ks) .none], .perm e_int 1 (pos false bs (i + 1)).length, .perm e_int 1 (pos true bs (i + 1)).length]) (by simp) (by simp) (hperm _ _) ?_ ⟨_, _, _, rfl, i + 1, by omega, rfl, by simp, rfl, rfl, rfl⟩⟩
        simp [zq145_fr6, AV.sc, AV.scV, AV.scA, AV.scB]
      cases hbi : bs[i] with
      | true =>
        rw [hbi] at hp1 hp2
        simp at hp1 hp2
        rw [hp1, hp2] at hnext
        simp [zq145_b6, bcells_len, hlt, bcells_get, hbi, aBuildS, fillS, plain, AV.pd, aAppend, aSrc, aAppTo, natsC_len]
        refine ⟨⟨by omega, by omega⟩, ?_⟩
        simpa [natsC_app, natsC] using hnext
      | false =>
        rw [hbi] at hp1 hp2
        simp at hp1 hp2
        rw [hp1, hp2] at hnext
        simp [zq145_b6, bcells_len, hlt, bcells_get, hbi, aBuildS, fillS, plain, AV.pd, aAppend, aSrc, aAppTo, natsC_len]
        refine ⟨⟨by omega, by omega⟩, ?_⟩
        simpa [natsC_app, natsC] using hnext
    · obtain rfl : i = bs.length := by omega
      simp [zq145_b6]
      refine ⟨⟨rfl, rfl, rfl⟩, ?_⟩
      exact Out.tup (bs := [.sl (natsC (pos false bs bs.length)) .none, .sl (natsC (pos true bs bs.length)) .none, .bool true]) hs hK ⟨slV, slV, keepV rfl rfl, trivial⟩
end Go.Proofs.YtfpmdpldabopjaaGreatDoor
namespace Go.Proofs.YtfpmdpldabopjaaGreatDoor
open Go Go.Abs
set_option linter.unusedSimpArgs false
set_option linter.unusedVariables false
set_option maxRecDepth 8000
theorem zq83_spec (data : List Dat) (hk : KData data) (t : VT) (ht : t.nodes ≤ 1000) (c : Int) (H : Heap) (K : Kt) (hK : K (fieldsR (payT data t c)) H) :
    ACalls Tryz.prog n_zq83 [.sl (data.map Dat.cs) .none, .agg t.cs, .int .i64 c] H K := by
  refine ACalls.out (zq83_ok fun hs => ?_)
  obtain ⟨f1, f2, f3⟩ := kd_fields hk
  obtain ⟨k, n, ks⟩ := t
  simp [zq83, VT.cs, Nat.add_assoc]
  refine zq96_spec data f1 f2 f3 (.mk k n ks) ht c _ _ ?_
  cases hf : fields data (.mk k n ks) c with
  | none =>
    rw [payT_none hf] at hK
    simp [fieldsR]
    refine ⟨⟨rfl, rfl⟩, ?_⟩
    exact Out.tup (bs := [.sl [] .none, .bool false]) hs hK ⟨snilV, keepV rfl rfl, trivial⟩
  | some l =>
    obtain ⟨bs, hlb, hl8, hpay, h200, k5, _, hrec⟩ := payT_some hk hf
    rw [hpay] at hK
    simp [fieldsR]
    refine zq145_spec data hk k n ks ht c hf hlb hl8 hrec _ _ ?_
    simp [natsC_len]
    unfold zq83_l7
    refine ALoop.own 13 e_api_Type 3 rfl ?_
    have hl1 : (H ++ [AB.cells [AV.int IntKind.i64 k, AV.int IntKind.i64 n, AV.sl (VT.css ks) Tok.none]]).length = H.length + 1 := by simp
    rw [hl1]
    have hpp := pick_pos hlb (.mk 0 0 []) l.length (Nat.le_refl _)
    rw [List.take_length, hlb, List.take_length] at hpp
    rw [hpp] at hK
    have hpt : ∀ j ∈ pos false bs bs.length, j < l.length := fun j hj => by have := pos_lt hj; omega
    have hp8 := pos_len false bs bs.length
    generalize pos false bs bs.length = P at *
    show zq83_l7 (.sl (VT.css l) .none) (.sl [] (.own (H.length + 1))) (.sl (natsC P) .none) (.int .i64 P.length) (.int .i64 0) (H ++ [.cells [.int .i64 k, .int .i64 n, .sl (VT.css ks) .none]] ++ [.perm e_api_Type 3 0]) (Out H.length K)
    have hperm : ∀ m, HSc (H ++ [.cells [.int .i64 k, .int .i64 n, .sl (VT.css ks) .none], .perm e_api_Type 3 m]) := fun m => hs.append (by simp [AB.sc, AV.scA, AV.scB])
    refine zq83_loop7 (Inv := fun q t13 t35 H' => ∃ i : Nat, i ≤ P.length ∧ q = P.length - i ∧ t35 = .int .i64 i ∧ t13 = .sl (VT.css ((P.take i).map fun j => l.getD j (.mk 0 0 []))) (.own (H.length + 1)) ∧ H' = H ++ [.cells [.int .i64 k, .int .i64 n, .sl (VT.css ks) .none], .perm e_api_Type 3 i]) P.length ?_ ?_
    · intro _; exact ⟨0, by omega, by omega, rfl, by simp [VT.css], by simp⟩
    · rintro q t13 t35 H' ⟨i, hi, rfl, rfl, rfl, rfl⟩ hsc' hlen hsF Kb hKb
      by_cases hlt : i < P.length
      · have hj := hpt _ (List.getElem_mem hlt)
        simp [zq83_b7, natsC_len, natsC_get, hlt, hj]
        rw [buildS_vt]
        simp [aAppend, aSrc, aAppTo, Nat.min_eq_left hi]
        refine ⟨⟨by omega, by omega⟩, ?_⟩
        rw [wrap_in (by omega) (by omega)]
        have hst : VT.css (List.take i (List.map (fun j => l[j]?.getD (VT.mk 0 0 [])) P)) ++ [(l[P[i]]'hj).cs] = VT.css ((P.take (i + 1)).map fun j => l.getD j (.mk 0 0 [])) := by
          rw [List.take_succ_eq_append_getElem hlt, VT.css_map, VT.css_map, List.map_append, List.map_append, List.map_take]
          simp [List.getD_eq_getElem?_getD, hj]
        rw [hst]
        refine hKb _ _ ⟨P.length - (i + 1), by omega, Back.at (J := []) (H2 := H ++ [.cells [.int .i64 k, .int .i64 n, .sl (VT.css ks) .none], .perm e_api_Type 3 (i + 1)]) (by simp) (by simp) (hperm _) ?_ ⟨_, _, rfl, i + 1, by omega, rfl, by simp, rfl, rfl⟩⟩
        simp [zq83_fr7, AV.sc, AV.scV, AV.scA, AV.scB]
      · obtain rfl : i = P.length := by omega
        rw [List.take_length] at *
        simp [zq83_b7, natsC_len]
        refine ⟨⟨rfl, rfl⟩, ?_⟩
        exact Out.tup (bs := [.sl (VT.css (P.map fun j => l.getD j (.mk 0 0 []))) .none, .bool true]) hs hK ⟨slV, keepV rfl rfl, trivial⟩
end Go.Proofs.YtfpmdpldabopjaaGreatDoor
