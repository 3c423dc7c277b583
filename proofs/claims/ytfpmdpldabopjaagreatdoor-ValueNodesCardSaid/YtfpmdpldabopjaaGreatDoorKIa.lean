/- Indices: their degree, as each side computes it. -/
import Derived.Test.YtfpmdpldabopjaaGreatDoorKVa
import Derived.Test.YtfpmdpldabopjaaGreatDoorIT
import Derived.Test.YtfpmdpldabopjaaGreatDoorKYb
import Derived.Test.YtfpmdpldabopjaaGreatDoorKGI
import Derived.Test.YtfpmdpldabopjaaGreatDoorKGJ
namespace Go.Proofs.YtfpmdpldabopjaaGreatDoor
open Go Go.Abs
set_option linter.unusedSimpArgs false
set_option linter.unusedVariables false
/-- What of a constructor's fields is no recursive one. -/
def pick : List VT → List Bool → List VT
  | x :: l, b :: bs => if b then pick l bs else x :: pick l bs
  | _, _ => []
def payT (data : List Dat) (t : VT) (c : Int) : Option (List VT) := (fields data t c).map fun l => pick l ((recs data t.num.toNat).getD c.toNat [])
mutual
def meaV (data : List Dat) : IT → VT → Int × Bool
  | .mk n ks, t =>
    if t.kind = 6 then (if n = 0 then (if t.kids.length = ks.length then meaA data ks t.kids 0 else (0, false)) else (0, false))
    else if t.kind = 7 then (n, decide (0 ≤ n) && decide (n ≤ 6) && decide (ks.length = 0))
    else if t.kind = 5 then (if n = 0 then meaE data ks t 0 else (0, false))
    else (0, decide (n = 0) && decide (ks.length = 0))
def meaA (data : List Dat) : List IT → List VT → Int → Int × Bool
  | [], _, a => (a, decide (a ≤ 6))
  | v :: vs, ts, a => match ts with
    | t :: ts => if (meaV data v t).2 then meaA data vs ts (a + (meaV data v t).1) else (0, false)
    | [] => (0, false)
def meaE (data : List Dat) : List IT → VT → Int → Int × Bool
  | [], _, a => (a, true)
  | .mk c ks :: es, t, a => match payT data t c with
    | none => (0, false)
    | some ps => if ps.length = ks.length then
        (if (meaA data ks ps 0).2 && decide (a + (1 + (meaA data ks ps 0).1) ≤ 6) then meaE data es t (a + (1 + (meaA data ks ps 0).1)) else (0, false))
      else (0, false)
end
mutual
def rdV (data : List Dat) : IT → VT → Int
  | .mk n ks, t =>
    if t.kind = 6 then (if n = 0 then (if t.kids.length = ks.length then rdA data ks t.kids 0 else -1) else -1)
    else if t.kind = 7 then (if 0 ≤ n ∧ n ≤ 6 ∧ ks.length = 0 then n else -1)
    else if t.kind = 5 then (if n = 0 ∧ ks.length ≤ 6 then rdE data ks t 0 else -1)
    else (if n = 0 ∧ ks.length = 0 then 0 else -1)
def rdA (data : List Dat) : List IT → List VT → Int → Int
  | [], _, a => a
  | v :: vs, ts, a => match ts with
    | t :: ts => if rdV data v t < 0 ∨ a + rdV data v t > 6 then -1 else rdA data vs ts (a + rdV data v t)
    | [] => -1
def rdE (data : List Dat) : List IT → VT → Int → Int
  | [], _, a => a
  | .mk c ks :: es, t, a => if c < 0 ∨ 8 ≤ c then -1 else match payT data t c with
    | none => -1
    | some ps => if ps.length = ks.length then
        (if rdA data ks ps 0 < 0 ∨ a + 1 + rdA data ks ps 0 > 6 then -1 else rdE data es t (a + (1 + rdA data ks ps 0)))
      else -1
end
theorem payT_lt {data : List Dat} (h8 : ∀ D ∈ data, D.cons.length ≤ 8) {t : VT} {c : Int} {ps : List VT} (h : payT data t c = some ps) : 0 ≤ c ∧ c < 8 := by
  unfold payT at h
  cases hf : fields data t c with
  | none => rw [hf] at h; cases h
  | some l =>
    obtain ⟨_, k1, k2, hn, hc, _⟩ := fields_some hf
    have := h8 _ (List.getElem_mem hn)
    omega
/-- What the two sides have in common. -/
def agr (m : Int × Bool) (r : Int) : Prop := (m.2 = true → m.1 = r ∧ 0 ≤ r ∧ r ≤ 6) ∧ (m.2 = false → r = -1)
theorem agr_no : agr (0, false) (-1) := ⟨fun h => (by cases h), fun _ => rfl⟩
mutual
theorem agrV {data : List Dat} (h8 : ∀ D ∈ data, D.cons.length ≤ 8) : ∀ (v : IT) (t : VT), agr (meaV data v t) (rdV data v t)
  | .mk n ks, t => by
    have hA := (agrA h8 ks t.kids 0 (by omega)).1 (by omega)
    have hE := agrE h8 ks t 0 (by omega) (by omega)
    unfold meaV rdV
    split
    · split
      · split
        · exact hA
        · exact agr_no
      · exact agr_no
    · split
      · refine ⟨fun h => ?_, fun h => ?_⟩
        · simp at h
          rw [if_pos ⟨h.1.1, h.1.2, by simpa using h.2⟩]
          exact ⟨rfl, h.1.1, h.1.2⟩
        · rw [if_neg]
          rintro ⟨h1, h2, h3⟩
          simp [h1, h2, h3] at h
      · split
        · by_cases hn : n = 0
          · simp only [hn, if_true, true_and]
            by_cases hl : ks.length ≤ 6
            · rw [if_pos hl]; exact hE.1
            · rw [if_neg hl]
              refine ⟨fun h => ?_, fun _ => rfl⟩
              have := hE.2 h
              omega
          · simp only [hn, if_false, false_and]
            exact agr_no
        · refine ⟨fun h => ?_, fun h => ?_⟩
          · simp at h
            simp [h]
          · rw [if_neg]
            rintro ⟨h1, h2⟩
            simp [h1, h2] at h
theorem agrA {data : List Dat} (h8 : ∀ D ∈ data, D.cons.length ≤ 8) : ∀ (vs : List IT) (ts : List VT) (a : Int), 0 ≤ a → (a ≤ 6 → agr (meaA data vs ts a) (rdA data vs ts a)) ∧ (6 < a → (meaA data vs ts a).2 = false)
  | [], ts, a, ha => by
    simp only [meaA, rdA]
    exact ⟨fun h => ⟨fun _ => ⟨rfl, ha, h⟩, fun h2 => by simp at h2; omega⟩, fun h => by simp; omega⟩
  | v :: vs, ts, a, ha => by
    match ts with
    | [] => simp only [meaA, rdA]; exact ⟨fun _ => agr_no, fun _ => by trivial⟩
    | t :: ts =>
      obtain ⟨g1, g2⟩ := agrV h8 v t
      simp only [meaA, rdA]
      cases hb : (meaV data v t).2 with
      | false =>
        rw [g2 hb]
        simp
        exact fun _ => agr_no
      | true =>
        obtain ⟨e1, e2, e3⟩ := g1 hb
        rw [e1]
        have hn := agrA h8 vs ts (a + rdV data v t) (by omega)
        simp only [if_true]
        refine ⟨fun h => ?_, fun h => hn.2 (by omega)⟩
        by_cases h6 : a + rdV data v t > 6
        · rw [if_pos (.inr h6)]
          exact ⟨fun h => (by rw [hn.2 (by omega)] at h; cases h), fun _ => rfl⟩
        · rw [if_neg (by omega)]
          exact hn.1 (by omega)
theorem agrE {data : List Dat} (h8 : ∀ D ∈ data, D.cons.length ≤ 8) : ∀ (es : List IT) (t : VT) (a : Int), 0 ≤ a → a ≤ 6 → agr (meaE data es t a) (rdE data es t a) ∧ ((meaE data es t a).2 = true → a + es.length ≤ 6)
  | [], t, a, h0, h6 => by
    simp only [meaE, rdE]
    exact ⟨⟨fun _ => ⟨rfl, h0, h6⟩, fun h => by cases h⟩, fun _ => by simpa using h6⟩
  | .mk c ks :: es, t, a, h0, h6 => by
    simp only [meaE, rdE]
    cases hp : payT data t c with
    | none => simp only [ite_self]; exact ⟨agr_no, fun h => by cases h⟩
    | some ps =>
      obtain ⟨c0, c8⟩ := payT_lt h8 hp
      rw [if_neg (show ¬(c < 0 ∨ 8 ≤ c) by omega)]
      simp only
      by_cases hl : ps.length = ks.length
      · simp only [hl, if_true]
        obtain ⟨g1, g2⟩ := (agrA h8 ks ps 0 (by omega)).1 (by omega)
        cases hb : (meaA data ks ps 0).2 with
        | false =>
          rw [g2 hb]
          simp
          exact agr_no
        | true =>
          obtain ⟨e1, e2, e3⟩ := g1 hb
          rw [e1]
          by_cases hh : a + (1 + rdA data ks ps 0) ≤ 6
          · have hn := agrE h8 es t (a + (1 + rdA data ks ps 0)) (by omega) hh
            rw [if_neg (show ¬(rdA data ks ps 0 < 0 ∨ a + 1 + rdA data ks ps 0 > 6) by omega)]
            simp only [hh, decide_true, Bool.and_self, if_true]
            refine ⟨hn.1, fun h => ?_⟩
            have := hn.2 h
            simp only [List.length_cons]
            omega
          · rw [if_pos (show rdA data ks ps 0 < 0 ∨ a + 1 + rdA data ks ps 0 > 6 by omega)]
            simp [hh]
            exact agr_no
      · simp only [hl, if_false]
        exact ⟨agr_no, fun h => by cases h⟩
end
end Go.Proofs.YtfpmdpldabopjaaGreatDoor
namespace Go.Proofs.YtfpmdpldabopjaaGreatDoor
open Go Go.Abs
set_option linter.unusedSimpArgs false
set_option linter.unusedVariables false
set_option maxRecDepth 8000
def bcells (l : List Bool) : List (List AV) := l.map fun b => [.bool b]
theorem ref5_Recursive_spec (data : List Dat) (d : Nat) (c : Nat) (hd : d < data.length) (hc : c < (data[d]).cons.length) (hl : data.length ≤ 1000000) (hcl : (data[d]).cons.length ≤ 1000000) (hal : ((data[d]).cons[c]).args.length ≤ 1000000)
    (hb : ∀ x ∈ ((data[d]).cons[c]).args, x.nodes ≤ 1000000) (H : Heap) (K : Kt)
    (hK : K (.sl (bcells (recsC d data[d] (data[d]).cons[c])) .none) H) :
    ACalls Tryz.prog n_ref5_Recursive [.sl (data.map Dat.cs) .none, .int .i64 d, .int .i64 c] H K := by
  refine ACalls.out (ref5_Recursive_ok fun hs => ?_)
  have e1 : (data.map Dat.cs)[d]? = some (data[d]).cs := by simp [hd]
  have e2 : ((data[d]).cons.map Con.cs)[c]? = some ((data[d]).cons[c]).cs := by simp [hc]
  generalize hD : data[d] = D at *
  generalize hA : D.cons[c] = C at *
  have h1 : ¬ (d : Int) < 0 := by omega
  have h2 : ¬ (data.length : Int) ≤ d := by omega
  have h3 : ¬ (c : Int) < 0 := by omega
  have h4 : ¬ (D.cons.length : Int) ≤ c := by omega
  simp [ref5_Recursive, h1, h2, h3, h4, e1, e2, Dat.cs, Con.cs, hd, hD, hc, hA]
  unfold ref5_Recursive_l5
  refine ALoop.own 7 e_bool 1 rfl ?_
  show ref5_Recursive_l5 (.sl (data.map Dat.cs) .none) (.int .i64 d) (.sl [] (.own H.length)) (.sl (VT.css C.args) .none) (.int .i64 C.args.length) (.int .i64 0) (H ++ [.perm e_bool 1 0]) (Out H.length K)
  have hperm : ∀ n, HSc (H ++ [.perm e_bool 1 n]) := fun n => hs.append rfl
  refine ref5_Recursive_loop5 (Inv := fun q t7 t42 H' => ∃ i : Nat, i ≤ C.args.length ∧ q = C.args.length - i ∧ t42 = .int .i64 i ∧ t7 = .sl (bcells ((recsC d D C).take i)) (.own H.length) ∧ H' = H ++ [.perm e_bool 1 i]) C.args.length ?_ ?_
  · intro _; exact ⟨0, by omega, by omega, rfl, rfl, rfl⟩
  · rintro q t7 t42 H' ⟨i, hi, rfl, rfl, rfl, rfl⟩ hsc hlen hsF Kb hKb
    have hrl : (recsC d D C).length = C.args.length := by simp [recsC]
    by_cases hlt : i < C.args.length
    · obtain ⟨x, y, z, hvx, hx, hy, hz⟩ := vt3' C.args[i]
      have hnb := hb _ (List.getElem_mem hlt)
      simp [ref5_Recursive_b5, hlt, hvx, Nat.add_assoc, e1, hd, hD, Dat.cs]
      rw [← hvx]
      refine ⟨⟨hx, hy, hz⟩, ?_⟩
      refine aPureX_call (.bool (isSelf d D.vars C.args[i])) (fun J => IsSelf_spec _ _ _ hnb _ _ ⟨rfl, rfl⟩) ?_
      simp [aBuildS, fillS, plain, AV.pd, aAppend, aSrc, aAppTo, bcells]
      have hmin : min i (recsC d D C).length = i := by omega
      rw [hmin]
      refine ⟨rfl, ⟨by omega, by omega⟩, ?_⟩
      rw [wrap_in (by omega) (by omega)]
      have hst : List.take i (List.map (fun b => [AV.bool b]) (recsC d D C)) ++ [[AV.bool (isSelf (↑d) D.vars C.args[i])]] = bcells ((recsC d D C).take (i + 1)) := by
        rw [List.take_succ_eq_append_getElem (by omega)]
        simp [bcells, recsC]
      rw [hst]
      refine hKb _ _ ⟨C.args.length - (i + 1), by omega, Back.at (J := [.cells C.args[i].cs]) (H2 := H ++ [.perm e_bool 1 (i + 1)]) (by simp) (by simp) (hperm _) ?_ ⟨_, _, rfl, i + 1, by omega, rfl, by simp, rfl, rfl⟩⟩
      simp [ref5_Recursive_fr5, AV.sc, AV.scV, AV.scA, AV.scB]
    · obtain rfl : i = C.args.length := by omega
      rw [List.take_of_length_le (by omega)]
      simp [ref5_Recursive_b5]
      exact Out.at rfl (Nat.le_refl _) hs (.atom (.sl _ _)) rfl (by simp [bcells, AV.scV, AV.scA, AV.scB]) hK
end Go.Proofs.YtfpmdpldabopjaaGreatDoor
