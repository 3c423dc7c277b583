/- Names in upper case; repeated names. -/
import Derived.Test.YtfpmdpldabopjaaGreatDoorKYa
import Derived.Test.YtfpmdpldabopjaaGreatDoorKTWa
import Derived.Test.YtfpmdpldabopjaaGreatDoorKGR
import Derived.Test.YtfpmdpldabopjaaGreatDoorKGC
namespace Go.Proofs.YtfpmdpldabopjaaGreatDoor
open Go Go.Abs
set_option linter.unusedSimpArgs false
set_option linter.unusedVariables false
set_option maxRecDepth 8000
theorem aExt_1 {k : AV → Prop} (a b : AV) (vs : List AV) : aExt (.tup (a :: b :: vs)) 1 k = k b := propext Iff.rfl
theorem aExt_2 {k : AV → Prop} (a b c : AV) (vs : List AV) : aExt (.tup (a :: b :: c :: vs)) 2 k = k c := propext Iff.rfl
def splitL (s : List UInt8) : List Tk × Int × Int :=
  if s.length > 16384 then ([], 0, 9) else
  match toks (kwF kwds) s 0 with
  | .error (p, e) => ([], p, e)
  | .ok l => (l, 0, 0)
theorem splitR_eq (s : List UInt8) : splitR s = .tup [.sl ((splitL s).1.map Tk.cs) .none, .int .i64 (splitL s).2.1, .int .i64 (splitL s).2.2] := by
  unfold splitR splitL
  split
  · rfl
  · split <;> (rename_i h; simp [h])
def upOf (s : List UInt8) (x : List Tk × Int × Int) : Bool := x.2.2 == 0 && match x.1 with
  | [a, _] => a.kind == 2 && a.text == s
  | _ => false
def upName (s : List UInt8) : Bool := upOf s (splitL s)
theorem zq187_spec (s : List UInt8) (H : Heap) (K : AV → Heap → Prop) (hK : K (.bool (upName s)) H) : ACalls Tryz.prog n_zq187 [.str s] H K := by
  refine ACalls.out (zq187_ok fun hs => ?_)
  have hO : Out H.length K (.bool (upName s)) H := Out.bool (J := []) (by simp) (Nat.le_refl _) hs hK
  simp only [zq187]
  refine split25 s _ _ ?_
  rw [splitR_eq]
  rw [upName] at hO
  generalize splitL s = x at hO ⊢
  obtain ⟨l, p, e⟩ := x
  clear hK
  cases h0 : e == 0 with
  | false =>
    rw [show upOf s (l, p, e) = false by simp [upOf, h0]] at hO
    simp [aExt_1, aExt_2, h0]; exact hO
  | true =>
  match l with
  | [] =>
    rw [show upOf s ([], p, e) = false by simp [upOf]] at hO
    simp [aExt_1, aExt_2, h0]; exact hO
  | [x] =>
    rw [show upOf s ([x], p, e) = false by simp [upOf]] at hO
    simp [aExt_1, aExt_2, h0]; exact hO
  | [a, x] =>
    rw [show upOf s ([a, x], p, e) = (a.kind == 2 && a.text == s) by simp [upOf, h0]] at hO
    cases hk : a.kind == 2 with
    | false => rw [hk] at hO; simp [aExt_1, aExt_2, h0, Tk.cs, hk]; exact hO
    | true => rw [hk] at hO; simp [aExt_1, aExt_2, h0, Tk.cs, hk]; exact hO
  | a :: b :: c :: r =>
    rw [show upOf s (a :: b :: c :: r, p, e) = false by simp [upOf]] at hO
    have : ¬ ((r.length : Int) + 1 + 1 + 1 = 2) := by omega
    have h2 : ((r.length : Int) + 1 + 1 + 1 == 2) = false := by simpa using this
    simp [aExt_1, aExt_2, h0, h2]; exact hO
theorem zq91_spec (s : List UInt8) (H : Heap) (K : AV → Heap → Prop) (hK : K (.bool (upName s)) H) : ACalls Tryz.prog n_zq91 [.str s] H K := by
  refine ACalls.out (zq91_ok fun hs => ?_)
  have hO : Out H.length K (.bool (upName s)) H := Out.bool (J := []) (by simp) (Nat.le_refl _) hs hK
  simp only [zq91]
  refine split26 s _ _ ?_
  rw [splitR_eq]
  rw [upName] at hO
  generalize splitL s = x at hO ⊢
  obtain ⟨l, p, e⟩ := x
  clear hK
  cases h0 : e == 0 with
  | false =>
    rw [show upOf s (l, p, e) = false by simp [upOf, h0]] at hO
    simp [aExt_1, aExt_2, h0]; exact hO
  | true =>
  match l with
  | [] =>
    rw [show upOf s ([], p, e) = false by simp [upOf]] at hO
    simp [aExt_1, aExt_2, h0]; exact hO
  | [x] =>
    rw [show upOf s ([x], p, e) = false by simp [upOf]] at hO
    simp [aExt_1, aExt_2, h0]; exact hO
  | [a, x] =>
    rw [show upOf s ([a, x], p, e) = (a.kind == 2 && a.text == s) by simp [upOf, h0]] at hO
    cases hk : a.kind == 2 with
    | false => rw [hk] at hO; simp [aExt_1, aExt_2, h0, Tk.cs, hk]; exact hO
    | true => rw [hk] at hO; simp [aExt_1, aExt_2, h0, Tk.cs, hk]; exact hO
  | a :: b :: c :: r =>
    rw [show upOf s (a :: b :: c :: r, p, e) = false by simp [upOf]] at hO
    have : ¬ ((r.length : Int) + 1 + 1 + 1 = 2) := by omega
    have h2 : ((r.length : Int) + 1 + 1 + 1 == 2) = false := by simpa using this
    simp [aExt_1, aExt_2, h0, h2]; exact hO
def repeats (l : List (List UInt8)) : Bool := !decide l.Nodup
def strs (l : List (List UInt8)) : List (List AV) := l.map fun s => [.str s]
@[simp] theorem strs_len (l : List (List UInt8)) : (strs l).length = l.length := by simp [strs]
theorem strs_get {l : List (List UInt8)} {i : Nat} (h : i < (strs l).length) : (strs l)[i] = [.str (l[i]'(by simpa using h))] := by simp [strs]
theorem repeats_true {l : List (List UInt8)} {i j : Nat} (hi : i < l.length) (hj : j < i) (h : l[i] = l[j]) : repeats l = true := by
  simp only [repeats, Bool.not_eq_true', decide_eq_false_iff_not]
  intro hn
  exact (List.pairwise_iff_getElem.mp hn) j i (by omega) hi hj h.symm
theorem zq92_spec (l : List (List UInt8)) (hl : l.length ≤ 1000000) (H : Heap) (K : AV → Heap → Prop) (hK : K (.bool (repeats l)) H) : ACalls Tryz.prog n_zq92 [.sl (strs l) .none] H K := by
  refine ACalls.out (zq92_ok fun hs => ?_)
  have hO : Out H.length K (.bool (repeats l)) H := Out.bool (J := []) (by simp) (Nat.le_refl _) hs hK
  simp [zq92]
  refine zq92_loop2 (Inv := fun q t3 H' => ∃ i : Nat, i ≤ l.length ∧ q = l.length - i ∧ t3 = .int .i64 i ∧ (∀ a b (ha : a < i) (hb : b < a) (h' : a < l.length), l[a] ≠ l[b]) ∧ H = H') l.length ?_ ?_
  · intro _; exact ⟨0, by omega, by omega, rfl, by omega, rfl⟩
  · rintro q t3 H' ⟨i, hi, rfl, rfl, hne, rfl⟩ hsc hlen hsF Kb hKb
    by_cases hlt : i < l.length
    · simp [zq92_b2, hlt]
      refine zq92_loop5 (Inv := fun q t4 H' => ∃ j : Nat, j ≤ i ∧ q = i - j ∧ t4 = .int .i64 j ∧ (∀ b (hb : b < j) (hb' : b < l.length), l[i] ≠ l[b]) ∧ H = H') i ?_ ?_
      · intro _; exact ⟨0, by omega, by omega, rfl, by omega, rfl⟩
      · rintro q t4 H' ⟨j, hj, rfl, rfl, hnj, rfl⟩ hsc1 hlen1 hsF1 Kb1 hKb1
        by_cases hjl : j < i
        · simp [zq92_b5, hjl, hlt, show j < l.length by omega, strs_get]
          cases he : l[i] == l[j] with
          | true =>
            rw [repeats_true hlt hjl (by simpa using he)] at hO
            simpa using hO
          | false =>
            simp
            rw [wrap_in (by omega) (by omega)]
            refine hKb1 _ _ ⟨i - (j + 1), by omega, Back.at (J := []) (H2 := H) (by simp) (Nat.le_refl _) hs ?_ ⟨_, rfl, j + 1, by omega, rfl, by simp, ?_, rfl⟩⟩
            · simp [zq92_fr5, AV.sc, AV.scV, AV.scA, AV.scB]
            · intro b hb hb'
              by_cases hbj : b = j
              · subst hbj; simpa using he
              · exact hnj b (by omega) hb'
        · obtain rfl : j = i := by omega
          simp [zq92_b5]
          rw [wrap_in (by omega) (by omega)]
          refine hKb _ _ ⟨l.length - (j + 1), by omega, Back.at (J := []) (H2 := H) (by simp) (Nat.le_refl _) hs ?_ ⟨_, rfl, j + 1, by omega, rfl, by simp, ?_, rfl⟩⟩
          · simp [zq92_fr2, AV.sc, AV.scV, AV.scA, AV.scB]
          · intro a b ha hb h'
            by_cases haj : a = j
            · subst haj; exact hnj b hb (by omega)
            · exact hne a b (by omega) hb h'
    · obtain rfl : i = l.length := by omega
      have : repeats l = false := by
        simp only [repeats, Bool.not_eq_false', decide_eq_true_eq]
        refine List.pairwise_iff_getElem.mpr fun a b ha hb hab he => ?_
        exact hne b a hb hab hb he.symm
      rw [this] at hO
      simp [zq92_b2]
      exact hO
end Go.Proofs.YtfpmdpldabopjaaGreatDoor
namespace Go.Proofs.YtfpmdpldabopjaaGreatDoor
open Go Go.Abs
set_option linter.unusedSimpArgs false
set_option linter.unusedVariables false
set_option maxRecDepth 8000
def argOk (data : List Dat) (d : Nat) (vars : Int) (t : VT) : Bool := tyValid (data.take (d + 1)) vars t && (isSelf d vars t || !mentions d t)
theorem zq188_spec (data : List Dat) (d : Nat) (c : Nat) (hd : d < data.length) (hc : c < (data[d]).cons.length) (hl : data.length ≤ 1000000) (hcl : (data[d]).cons.length ≤ 1000000) (hal : ((data[d]).cons[c]).args.length ≤ 1000000)
    (hb : ∀ x ∈ ((data[d]).cons[c]).args, x.nodes ≤ 1000000) (H : Heap) (K : AV → Heap → Prop)
    (hK : K (.bool (decide (((data[d]).cons[c]).args.length ≤ 6) && ((data[d]).cons[c]).args.all (argOk data d (data[d]).vars))) H) :
    ACalls Tryz.prog n_zq188 [.sl (data.map Dat.cs) .none, .int .i64 d, .int .i64 c] H K := by
  refine ACalls.out (zq188_ok fun hs => ?_)
  have e1 : (data.map Dat.cs)[d]? = some (data[d]).cs := by simp [hd]
  have e2 : ((data[d]).cons.map Con.cs)[c]? = some ((data[d]).cons[c]).cs := by simp [hc]
  have hrec := zq65_spec data d c hd hc hl hcl hal hb
  generalize hD : data[d] = D at *
  generalize hA : D.cons[c] = C at *
  have hO : ∀ J, Out H.length K (.bool (decide (C.args.length ≤ 6) && C.args.all (argOk data d D.vars))) (H ++ J) := fun J => Out.bool rfl (Nat.le_refl _) hs hK
  simp [zq188, e1, e2, Dat.cs, Con.cs, hd, hD, hc, hA]
  by_cases h6 : C.args.length ≤ 6
  · have h6' : ¬ (6 : Int) < C.args.length := by omega
    have h6'' : ¬ 6 < C.args.length := by omega
    simp [h6', h6'']
    refine hrec _ _ ?_
    simp [h6] at hO
    refine zq188_loop6 (Inv := fun q t29 H' => ∃ i : Nat, i ≤ C.args.length ∧ q = C.args.length - i ∧ t29 = .int .i64 i ∧ (C.args.drop i).all (argOk data d D.vars) = C.args.all (argOk data d D.vars) ∧ H = H') C.args.length ?_ ?_
    · intro _; exact ⟨0, by omega, by omega, rfl, by simp, rfl⟩
    · rintro q t29 H' ⟨i, hi, rfl, rfl, ho, rfl⟩ hsc hlen hsF Kb hKb
      by_cases hlt : i < C.args.length
      · rw [List.drop_eq_getElem_cons hlt, List.all_cons] at ho
        have hnb := hb _ (List.getElem_mem hlt)
        obtain ⟨x1, x2, x3, hvx, hx1, hx2, hx3⟩ := vt3' C.args[i]
        simp [zq188_b6, hlt, hvx, e1, hd, hD, Dat.cs]
        refine ⟨⟨hx1, hx2, hx3⟩, ?_⟩
        rw [wrap_in (by omega) (by omega), show ((d : Int) + 1).toNat = d + 1 by omega, ← List.map_take]
        refine ⟨by omega, by omega, ?_⟩
        rw [← hvx]
        refine aPureX_call (.bool (tyValid (data.take (d + 1)) D.vars C.args[i])) (fun J => zq85_spec (data.take (d + 1)) D.vars _ (by omega) _ _ ⟨rfl, rfl⟩) ?_
        have hao : argOk data d D.vars C.args[i] = (tyValid (data.take (d + 1)) D.vars C.args[i] && (isSelf d D.vars C.args[i] || !mentions d C.args[i])) := rfl
        rw [hao] at ho
        cases hv : tyValid (data.take (d + 1)) D.vars C.args[i] with
        | false =>
          rw [hv] at ho
          simp only [Bool.false_and] at ho
          rw [← ho] at hO
          simp; exact hO _
        | true =>
        rw [hv] at ho
        cases hsf : isSelf d D.vars C.args[i] with
        | true =>
          rw [hsf] at ho
          simp [hlt, hsf]
          rw [wrap_in (by omega) (by omega)]
          refine hKb _ _ ⟨C.args.length - (i + 1), by omega, Back.same (by simp) hs ?_ ⟨_, rfl, i + 1, by omega, rfl, by simp, by simpa using ho, rfl⟩⟩
          simp [zq188_fr6, AV.sc, AV.scV, AV.scA, AV.scB]
        | false =>
          rw [hsf] at ho
          simp [hlt, hsf]
          refine aPureX_call (.bool (mentions d C.args[i])) (fun J => zq222_spec d _ _ (Nat.le_refl _) (by omega) _ _ ⟨rfl, rfl⟩) ?_
          cases hm : mentions d C.args[i] with
          | true =>
            rw [hm] at ho
            simp only [Bool.not_true, Bool.or_false, Bool.and_false, Bool.false_and] at ho
            rw [← ho] at hO
            simp; exact hO _
          | false =>
            rw [hm] at ho
            simp
            rw [wrap_in (by omega) (by omega)]
            refine hKb _ _ ⟨C.args.length - (i + 1), by omega, Back.same (by simp) hs ?_ ⟨_, rfl, i + 1, by omega, rfl, by simp, by simpa using ho, rfl⟩⟩
            simp [zq188_fr6, AV.sc, AV.scV, AV.scA, AV.scB]
      · obtain rfl : i = C.args.length := by omega
        rw [List.drop_length, List.all_nil] at ho
        rw [← ho] at hO
        simp [zq188_b6]
        simpa using hO []
  · have h6' : (6 : Int) < C.args.length := by omega
    have h6'' : 6 < C.args.length := by omega
    simp [h6', h6'']
    simp [h6] at hO
    simpa using hO []
end Go.Proofs.YtfpmdpldabopjaaGreatDoor
namespace Go.Proofs.YtfpmdpldabopjaaGreatDoor
open Go Go.Abs
set_option linter.unusedSimpArgs false
set_option linter.unusedVariables false
set_option maxRecDepth 8000
def seen (l : List (List UInt8)) : List (List UInt8 × AV) := l.map fun s => (s, .bool true)
theorem seen_get (s : List UInt8) : ∀ l : List (List UInt8), (mget (seen l) s).getD (.bool false) = .bool (decide (s ∈ l))
  | [] => by simp [seen, mget]
  | a :: l => by
    have := seen_get s l
    cases h : a == s with
    | true =>
      have h' : a = s := by simpa using h
      simp [seen, mget, h, h']
    | false =>
      have h' : a ≠ s := by simpa using h
      have h'' : s ≠ a := fun e => h' e.symm
      simp only [seen, List.map_cons, mget, h] at this ⊢
      rw [this]; simp [h'']
theorem seen_put (s : List UInt8) : ∀ l : List (List UInt8), s ∉ l → mput (seen l) s (.bool true) = seen (l ++ [s])
  | [], _ => rfl
  | a :: l, h => by
    have h1 : (a == s) = false := by simp at h; simpa using fun e => h.1 e.symm
    have := seen_put s l (by simp at h; exact h.2)
    simp only [seen, List.map_cons, mput, h1, List.cons_append] at this ⊢
    rw [this]
theorem seen_sc (m : Nat) (l : List (List UInt8)) : (AB.map (seen l)).sc m = true := by simp [AB.sc, seen, AV.scV]
def dnames (data : List Dat) : List (List UInt8) := data.map Dat.name
def cnames (data : List Dat) : List (List UInt8) := data.flatMap fun D => D.cons.map Con.name
def conOk (data : List Dat) (d : Nat) (vars : Int) (c : Con) : Bool := upName c.name && (decide (c.args.length ≤ 6) && c.args.all (argOk data d vars))
def datOk (data : List Dat) (d : Nat) (D : Dat) : Bool := upName D.name && decide (0 ≤ D.vars) && decide (D.vars ≤ 6) && decide (1 ≤ D.cons.length) && decide (D.cons.length ≤ 8) && D.cons.all (conOk data d D.vars)
def datsOk (data : List Dat) : List Dat → Nat → Bool
  | [], _ => true
  | D :: l, d => datOk data d D && datsOk data l (d + 1)
def dataOk (data : List Dat) : Bool := decide (data.length ≤ 12) && datsOk data data 0 && !repeats (dnames data) && !repeats (cnames data)
theorem repeats_mid {A R : List (List UInt8)} {s : List UInt8} (h : s ∈ A) : repeats (A ++ s :: R) = true := by
  simp only [repeats, Bool.not_eq_true', decide_eq_false_iff_not, List.nodup_append]
  rintro ⟨_, _, h3⟩
  exact h3 s h s (by simp) rfl
theorem repeats_nodup {l : List (List UInt8)} (h : l.Nodup) : repeats l = false := by simp [repeats, h]
theorem nodup_snoc {A : List (List UInt8)} {s : List UInt8} (h : A.Nodup) (hs : s ∉ A) : (A ++ [s]).Nodup := by
  rw [List.nodup_append]
  refine ⟨h, by simp, ?_⟩
  intro a ha b hb
  simp at hb; subst hb
  exact fun e => hs (e ▸ ha)
def Small (data : List Dat) : Prop := ∀ D ∈ data, D.cons.length ≤ 1000000 ∧ ∀ c ∈ D.cons, c.args.length ≤ 1000000 ∧ ∀ x ∈ c.args, x.nodes ≤ 1000000
theorem zq146_spec (data : List Dat) (hB : Small data) (hl : data.length ≤ 1000000) (H : Heap) (K : AV → Heap → Prop) (hK : K (.bool (dataOk data)) H) : ACalls Tryz.prog n_zq146 [.sl (data.map Dat.cs) .none] H K := by
  refine ACalls.out (zq146_ok fun hs => ?_)
  have hO : ∀ J, Out H.length K (.bool (dataOk data)) (H ++ J) := fun J => Out.bool rfl (Nat.le_refl _) hs hK
  by_cases h12 : data.length ≤ 12
  · have h12' : ¬ (12 : Int) < data.length := by omega
    have h12'' : ¬ 12 < data.length := by omega
    have hD0 : datsOk data data 0 = false → ∀ J, Out H.length K (.bool false) (H ++ J) := fun h J => by
      have := hO J; rwa [show dataOk data = false by simp [dataOk, h]] at this
    have hD1 : repeats (dnames data) = true → ∀ J, Out H.length K (.bool false) (H ++ J) := fun h J => by
      have := hO J; rwa [show dataOk data = false by simp [dataOk, h]] at this
    have hD2 : repeats (cnames data) = true → ∀ J, Out H.length K (.bool false) (H ++ J) := fun h J => by
      have := hO J; rwa [show dataOk data = false by simp [dataOk, h]] at this
    simp [zq146, h12', h12'']
    refine zq146_loop5 (Inv := fun q t15 H' => ∃ i : Nat, i ≤ data.length ∧ q = data.length - i ∧ t15 = .int .i64 i ∧ datsOk data (data.drop i) i = datsOk data data 0 ∧ (dnames (data.take i)).Nodup ∧ (cnames (data.take i)).Nodup ∧ H' = H ++ [.map (seen (dnames (data.take i))), .map (seen (cnames (data.take i)))]) data.length ?_ ?_
    · intro _; exact ⟨0, by omega, by omega, rfl, by simp, by simp [dnames], by simp [cnames], by simp [dnames, cnames, seen]⟩
    · rintro q t15 H' ⟨i, hi, rfl, rfl, ho, hdn, hcn, rfl⟩ hsc hlen hsF Kb hKb
      by_cases hlt : i < data.length
      · have e1 : (data.map Dat.cs)[i]? = some (data[i]).cs := by simp [hlt]
        obtain ⟨hB1, hB2⟩ := hB _ (List.getElem_mem hlt)
        have hargs := fun c hc => zq188_spec data i c hlt hc hl hB1 (hB2 _ (List.getElem_mem hc)).1 (hB2 _ (List.getElem_mem hc)).2
        rw [List.drop_eq_getElem_cons hlt, datsOk] at ho
        have htk : data.take (i + 1) = data.take i ++ [data[i]] := by rw [List.take_append_getElem hlt]
        have hsplit : data = data.take i ++ data[i] :: data.drop (i + 1) := by rw [List.getElem_cons_drop, List.take_append_drop]
        generalize hD : data[i] = D at *
        have hbad : datOk data i D = false → datsOk data data 0 = false := fun h => by rw [← ho, h, Bool.false_and]
        have hno : ∀ J, datOk data i D = false → Out H.length K (.bool false) (H ++ [.map (seen (dnames (data.take i))), .map (seen (cnames (data.take i)))] ++ J) := fun J h => by
          rw [List.append_assoc]; exact hD0 (hbad h) _
        simp [zq146_b5, hlt, e1, hD, Dat.cs]
        refine zq187_spec _ _ _ ?_
        cases hu : upName D.name with
        | false => simp; exact hD0 (hbad (by simp [datOk, hu])) _
        | true =>
        by_cases hmem : D.name ∈ dnames (data.take i)
        · simp [hlt, e1, hD, Dat.cs, seen_get, hmem]
          refine hD1 ?_ _
          rw [hsplit]; simp only [dnames, List.map_append, List.map_cons]
          exact repeats_mid hmem
        by_cases hv0 : D.vars < 0
        · simp [hlt, e1, hD, Dat.cs, seen_get, hmem, hv0]
          exact hD0 (hbad (by simp [datOk, show ¬ 0 ≤ D.vars by omega])) _
        by_cases hv6 : 6 < D.vars
        · simp [hlt, e1, hD, Dat.cs, seen_get, hmem, hv0, hv6]
          exact hD0 (hbad (by simp [datOk, show ¬ D.vars ≤ 6 by omega])) _
        simp [hlt, e1, hD, Dat.cs, seen_get, hmem, hv0, hv6, seen_put _ _ hmem]
        by_cases hc1 : D.cons.length < 1
        · have hc1' : (D.cons.length : Int) < 1 := by omega
          simp [hc1']
          exact hD0 (hbad (by simp [datOk, show ¬ 1 ≤ D.cons.length by omega])) _
        have hc1' : ¬ (D.cons.length : Int) < 1 := by omega
        by_cases hc8 : 8 < D.cons.length
        · have hc8' : (8 : Int) < D.cons.length := by omega
          simp [hlt, e1, hD, Dat.cs, hc1', hc8', hc8]
          exact hD0 (hbad (by simp [datOk, show ¬ D.cons.length ≤ 8 by omega])) _
        have hc8' : ¬ (8 : Int) < D.cons.length := by omega
        have hdat : datOk data i D = D.cons.all (conOk data i D.vars) := by
          simp [datOk, hu, show 0 ≤ D.vars by omega, show D.vars ≤ 6 by omega, show 1 ≤ D.cons.length by omega, show D.cons.length ≤ 8 by omega]
        simp [hlt, e1, hD, Dat.cs, hc1', hc8', hc8]
        have hdn' : (dnames (data.take (i + 1))).Nodup := by
          rw [htk]; simp only [dnames, List.map_append, List.map_cons, List.map_nil]; exact nodup_snoc hdn hmem
        have hde : dnames (data.take i) ++ [D.name] = dnames (data.take (i + 1)) := by rw [htk]; simp [dnames]
        rw [hde]
        refine zq146_loop13 (Inv := fun q t78 H' => ∃ j : Nat, j ≤ D.cons.length ∧ q = D.cons.length - j ∧ t78 = .int .i64 j ∧ (D.cons.drop j).all (conOk data i D.vars) = D.cons.all (conOk data i D.vars) ∧ (cnames (data.take i) ++ (D.cons.take j).map Con.name).Nodup ∧ H' = H ++ [.map (seen (dnames (data.take (i + 1)))), .map (seen (cnames (data.take i) ++ (D.cons.take j).map Con.name))]) D.cons.length ?_ ?_
        · intro _; exact ⟨0, by omega, by omega, rfl, by simp, by simpa using hcn, by simp⟩
        · rintro q t78 H' ⟨j, hj, rfl, rfl, hoc, hcj, rfl⟩ hsc1 hlen1 hsF1 Kb1 hKb1
          have hscH : ∀ A B, HSc (H ++ [.map (seen A), .map (seen B)]) := fun A B => hs.append (by simp [seen_sc])
          by_cases hjl : j < D.cons.length
          · have e2 : (D.cons.map Con.cs)[j]? = some (D.cons[j]).cs := by simp [hjl]
            have hargs' := hargs j hjl
            rw [List.drop_eq_getElem_cons hjl, List.all_cons] at hoc
            have htj : cnames (data.take i) ++ (D.cons.take (j + 1)).map Con.name = (cnames (data.take i) ++ (D.cons.take j).map Con.name) ++ [(D.cons[j]).name] := by
              rw [← List.take_append_getElem hjl, List.map_append, List.append_assoc]; rfl
            have hcs : cnames data = (cnames (data.take i) ++ (D.cons.take j).map Con.name) ++ (D.cons[j]).name :: ((D.cons.drop (j + 1)).map Con.name ++ cnames (data.drop (i + 1))) := by
              have h1 : D.cons.map Con.name = (D.cons.take j).map Con.name ++ (D.cons[j]).name :: (D.cons.drop (j + 1)).map Con.name := by
                rw [← List.map_cons (f := Con.name), List.getElem_cons_drop, ← List.map_append, List.take_append_drop]
              conv => lhs; rw [hsplit]
              simp only [cnames, List.flatMap_append, List.flatMap_cons, List.append_assoc, h1, List.cons_append]
            generalize hC : D.cons[j] = C at *
            have hbad' : conOk data i D.vars C = false → datsOk data data 0 = false := fun h => hbad (by rw [hdat, ← hoc, h, Bool.false_and])
            generalize hA : cnames (data.take i) ++ (D.cons.take j).map Con.name = A at *
            simp only [zq146_b13]
            simp [hjl, hC, Con.cs, Nat.add_assoc]
            refine zq187_spec _ _ _ ?_
            cases hu2 : upName C.name with
            | false => simp; exact hD0 (hbad' (by simp [conOk, hu2])) _
            | true =>
            by_cases hm2 : C.name ∈ A
            · simp [seen_get, hm2]
              exact hD2 (by rw [hcs]; exact repeats_mid hm2) _
            · simp [seen_get, hm2]
              refine hargs' _ _ ?_
              have hce : conOk data i D.vars C = (decide (C.args.length ≤ 6) && C.args.all (argOk data i D.vars)) := by simp [conOk, hu2]
              rw [← hce]
              cases hco : conOk data i D.vars C with
              | false => simp; exact hD0 (hbad' hco) _
              | true =>
                rw [hco, Bool.true_and] at hoc
                simp [seen_put _ _ hm2]
                rw [wrap_in (by omega) (by omega)]
                refine hKb1 _ _ ⟨D.cons.length - (j + 1), by omega, Back.at (J := [.cells [.str C.name, .sl (VT.css C.args) .none]]) (H2 := H ++ [.map (seen (dnames (data.take (i + 1)))), .map (seen (A ++ [C.name]))]) (by simp) (by simp) (hscH _ _) ?_ ⟨_, rfl, j + 1, by omega, rfl, by simp, hoc, ?_, ?_⟩⟩
                · simp [zq146_fr13, AV.sc, AV.scV, AV.scA, AV.scB]
                · rw [htj]; exact nodup_snoc hcj hm2
                · rw [htj]
          · obtain rfl : j = D.cons.length := by omega
            rw [List.drop_length, List.all_nil] at hoc
            rw [List.take_length] at *
            simp [zq146_b13]
            rw [wrap_in (by omega) (by omega)]
            have hce : cnames (data.take i) ++ D.cons.map Con.name = cnames (data.take (i + 1)) := by rw [htk]; simp [cnames]
            rw [hce] at hcj ⊢
            refine hKb _ _ ⟨data.length - (i + 1), by omega, Back.at (J := []) (by simp) (by simp) (hscH _ _) ?_ ⟨_, rfl, i + 1, by omega, rfl, by simp, ?_, hdn', hcj, rfl⟩⟩
            · simp [zq146_fr5, AV.sc, AV.scV, AV.scA, AV.scB]
            · rw [← ho, hdat, ← hoc, Bool.true_and]
      · obtain rfl : i = data.length := by omega
        rw [List.drop_length, datsOk] at ho
        rw [List.take_length] at *
        simp [zq146_b5]
        have := hO [.map (seen (dnames data)), .map (seen (cnames data))]
        rwa [show dataOk data = true by simp [dataOk, h12, ← ho, repeats_nodup hdn, repeats_nodup hcn]] at this
  · have h12' : (12 : Int) < data.length := by omega
    have h12'' : 12 < data.length := by omega
    rw [show dataOk data = false by simp [dataOk, h12]] at hO
    simp [zq146, h12', h12'']
    simpa using hO []
end Go.Proofs.YtfpmdpldabopjaaGreatDoor
namespace Go.Proofs.YtfpmdpldabopjaaGreatDoor
open Go Go.Abs
set_option linter.unusedSimpArgs false
set_option maxRecDepth 8000
def KCon (c : Con) : Prop := c.name.length ≤ 40 ∧ c.args.length ≤ 8 ∧ ∀ t ∈ c.args, t.nodes ≤ 20
def KDat (d : Dat) : Prop := d.name.length ≤ 40 ∧ d.cons.length ≤ 10 ∧ ∀ c ∈ d.cons, KCon c
def KData (ds : List Dat) : Prop := ds.length ≤ 14 ∧ ∀ d ∈ ds, KDat d
theorem mem_take_succ {α : Type} {l : List α} {i : Nat} (h : i < l.length) {p : α → Prop} (h1 : ∀ x ∈ l.take i, p x) (h2 : p l[i]) : ∀ x ∈ l.take (i + 1), p x := by
  rw [List.take_succ_eq_append_getElem h]
  intro x hx
  rcases List.mem_append.1 hx with hx | hx
  · exact h1 x hx
  · simp at hx; subst hx; exact h2
theorem map_at {α : Type} {cs : α → List AV} {l : List α} {i : Nat} (h : i < l.length) : (l.map cs)[i]?.getD [] = cs l[i] := by simp [h]
theorem vt3 (v : VT) : ∃ a b c, v.cs = [a, b, c] ∧ a.known = true ∧ b.known = true ∧ c.known = true := by
  obtain ⟨k, n, ks⟩ := v; exact ⟨_, _, _, rfl, rfl, rfl, rfl⟩
theorem zq13_spec (ds : List Dat) (H : Heap) (K : AV → Heap → Prop) (hlen : ds.length ≤ 9223372036854775807) (hK : ∀ b, (b = true → KData ds) → K (.bool b) H) : ACalls Tryz.prog n_zq13 [.sl (ds.map Dat.cs) .none] H K := by
  refine ACalls.out (zq13_ok fun hs => ?_)
  have hF : ∀ J, Out H.length K (.bool false) (H ++ J) := fun J => Out.bool rfl (Nat.le_refl _) hs (hK false fun h => by cases h)
  have hF0 : Out H.length K (.bool false) H := by simpa using hF []
  by_cases h14 : ds.length > 14
  · have : (14 : Int) < ds.length := by omega
    simp [zq13, this]
    exact hF0
  have : ¬ (14 : Int) < ds.length := by omega
  simp [zq13, this]
  refine zq13_loop4 (Inv := fun q t15 H' => ∃ i : Nat, i ≤ ds.length ∧ q = ds.length - i ∧ t15 = .int .i64 i ∧ (∀ d ∈ ds.take i, KDat d) ∧ H = H') ds.length ?_ ?_
  · intro _; exact ⟨0, by omega, by omega, rfl, by simp, rfl⟩
  · rintro q t15 H' ⟨i, hi, rfl, rfl, ha, rfl⟩ hsc hl hsF Kb4 hKb4
    by_cases hil : i < ds.length
    · have hat : (ds.map Dat.cs)[i]?.getD [] = [.str ds[i].name, .int .i64 ds[i].vars, .sl (ds[i].cons.map Con.cs) .none] := map_at hil
      have next : KDat ds[i] → ∀ J, Kb4 (zq13_fr4 (.sl (ds.map Dat.cs) .none) (.int .i64 ds.length) (.int .i64 (i + 1))) (H ++ J) := by
        intro hd J
        refine hKb4 _ _ ⟨ds.length - (i + 1), by omega, Back.same (Nat.le_refl _) hs ?_ ⟨_, rfl, i + 1, by omega, rfl, by simp, mem_take_succ hil ha hd, rfl⟩⟩
        simp [zq13_fr4, AV.sc, AV.scV, AV.scA, AV.scB]
      generalize hdd : ds[i] = d at *
      simp [zq13_b4, hil, hat, AV.known, hdd, Dat.cs]
      by_cases hn : d.name.length > 40
      · have : (40 : Int) < d.name.length := by omega
        simp [this]
        exact hF _
      have hn' : ¬ (40 : Int) < d.name.length := by omega
      by_cases hc : d.cons.length > 10
      · have : (10 : Int) < d.cons.length := by omega
        simp [hn', this]
        exact hF _
      have hc' : ¬ (10 : Int) < d.cons.length := by omega
      simp [hn', hc']
      refine zq13_loop9 (Inv := fun q t32 H' => ∃ j : Nat, j ≤ d.cons.length ∧ q = d.cons.length - j ∧ t32 = .int .i64 j ∧ (∀ c ∈ d.cons.take j, KCon c) ∧ H' = H ++ [.cells [.str d.name, .int .i64 d.vars, .sl (d.cons.map Con.cs) .none]]) d.cons.length ?_ ?_
      · intro _; exact ⟨0, by omega, by omega, rfl, by simp, rfl⟩
      · rintro q t32 H' ⟨j, hj, rfl, rfl, hb, rfl⟩ hsc9 hl9 hsF9 Kb9 hKb9
        by_cases hjl : j < d.cons.length
        · have hat : (d.cons.map Con.cs)[j]?.getD [] = [.str d.cons[j].name, .sl (VT.css d.cons[j].args) .none] := map_at hjl
          generalize hcc : d.cons[j] = c at *
          simp [zq13_b9, hjl, hat, AV.known, hcc, Con.cs]
          by_cases hn : c.name.length > 40
          · have : (40 : Int) < c.name.length := by omega
            simp [this]
            exact hF _
          have hn' : ¬ (40 : Int) < c.name.length := by omega
          by_cases hc : c.args.length > 8
          · have : (8 : Int) < c.args.length := by omega
            simp [hn', this]
            exact hF _
          have hc' : ¬ (8 : Int) < c.args.length := by omega
          simp [hn', hc']
          refine zq13_loop15 (Inv := fun q t49 H' => ∃ (k : Nat) (l : Int), k ≤ c.args.length ∧ q = c.args.length - k ∧ t49 = .int .i64 k ∧ -1 ≤ l ∧ l ≤ 20 ∧ (∀ t ∈ c.args.take k, t.nodes ≤ 20) ∧ H' = H ++ [.cells [.str d.name, .int .i64 d.vars, .sl (d.cons.map Con.cs) .none], .cells [.str c.name, .sl (VT.css c.args) .none], .cells [.int .i64 l]]) c.args.length ?_ ?_
          · intro _; exact ⟨0, 20, by omega, by omega, rfl, by omega, by omega, by simp, rfl⟩
          · rintro q t49 H' ⟨k, l, hk, rfl, rfl, hl0, hl1, hb15, rfl⟩ hsc15 hl15 hsF15 Kb15 hKb15
            by_cases hkl : k < c.args.length
            · obtain ⟨x, y, z, hv, hx, hy, hz⟩ := vt3 c.args[k]
              simp [zq13_b15, hkl, hv, hx, hy, hz]
              rw [← hv]
              refine zq46_spec _ _ (Nat.le_refl _) l (by omega) hl0 _ (H.length + 2) (by simp) _ ?_ ?_
              · intro hle
                simp
                rw [wrap_in (by omega) (by omega)]
                refine hKb15 _ _ ⟨c.args.length - (k + 1), by omega, Back.at (J := [_]) (H2 := H ++ [.cells [.str d.name, .int .i64 d.vars, .sl (d.cons.map Con.cs) .none], .cells [.str c.name, .sl (VT.css c.args) .none], .cells [.int .i64 (l - c.args[k].nodes)]]) (by simp; rfl) (by simp) (hs.append rfl) ?_ ⟨_, rfl, k + 1, l - c.args[k].nodes, by omega, rfl, by simp, by omega, by omega, mem_take_succ hkl hb15 (by omega), rfl⟩⟩
                simp [zq13_fr15, AV.sc, AV.scV, AV.scA, AV.scB]
              · intro hle l'
                simp
                exact hF _
            · obtain rfl : k = c.args.length := by omega
              rw [List.take_length] at hb15
              simp [zq13_b15]
              rw [wrap_in (by omega) (by omega)]
              refine hKb9 _ _ ⟨d.cons.length - (j + 1), by omega, Back.at (J := [_, _]) (H2 := H ++ [.cells [.str d.name, .int .i64 d.vars, .sl (d.cons.map Con.cs) .none]]) (by simp; exact ⟨rfl, rfl⟩) (by simp) (hs.append rfl) ?_ ⟨_, rfl, j + 1, by omega, rfl, by simp, mem_take_succ hjl hb (by rw [hcc]; exact ⟨by omega, by omega, hb15⟩), rfl⟩⟩
              simp [zq13_fr9, AV.sc, AV.scV, AV.scA, AV.scB]
        · obtain rfl : j = d.cons.length := by omega
          rw [List.take_length] at hb
          simp [zq13_b9]
          rw [wrap_in (by omega) (by omega)]
          exact next ⟨by omega, by omega, hb⟩ _
    · obtain rfl : i = ds.length := by omega
      rw [List.take_length] at ha
      simp [zq13_b4]
      exact Out.bool (J := []) (by simp) (Nat.le_refl _) hs (hK true fun _ => ⟨by omega, ha⟩)
end Go.Proofs.YtfpmdpldabopjaaGreatDoor
