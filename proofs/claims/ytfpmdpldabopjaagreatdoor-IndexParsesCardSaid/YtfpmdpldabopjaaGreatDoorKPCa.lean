/- Texts of indices: an ideal reader, what it reads is what was written. -/
import Derived.Test.YtfpmdpldabopjaaGreatDoorKPAa
import Derived.Test.YtfpmdpldabopjaaGreatDoorKIFa
namespace Go.Proofs.YtfpmdpldabopjaaGreatDoor
open Go Go.Abs
set_option linter.unusedSimpArgs false
set_option linter.unusedVariables false
def cut (p s : List UInt8) : Option (List UInt8) := if p.isPrefixOf s then some (s.drop p.length) else none
theorem cut_some {p s r : List UInt8} (h : cut p s = some r) : s = p ++ r := by
  unfold cut at h
  split at h
  · rename_i hp
    obtain ⟨t, rfl⟩ := List.isPrefixOf_iff_prefix.1 hp
    simp at h
    rw [h]
  · cases h
theorem cut_app (p r : List UInt8) : cut p (p ++ r) = some r := by
  unfold cut
  rw [if_pos (List.isPrefixOf_iff_prefix.2 (List.prefix_append _ _))]
  simp
theorem cut_head {a b : UInt8} {p s : List UInt8} (h : a ≠ b) : cut (a :: p) (b :: s) = none := by
  simp [cut, h]
def conAt : List Dat → Nat → List UInt8 → Option (Nat × Nat)
  | [], _, _ => none
  | D :: l, d, s => match D.cons.findIdx? (fun C => C.name == s) with
    | some c => some (d, c)
    | none => conAt l (d + 1) s
def lookG (data : List Dat) (n : Int) (g : Int → Option (List VT)) (s : List UInt8) : Option (Int × List VT) := match conAt data 0 s with
  | some (d, c) => if (d : Int) = n then (g c).map fun ps => ((c : Int), ps) else none
  | none => none
def look (data : List Dat) (t : VT) (s : List UInt8) : Option (Int × List VT) := lookG data t.num (payT data t) s
def prA {α : Type} (rd : VT → List UInt8 → Option (α × List UInt8)) : List VT → Bool → List UInt8 → Option (List α × List UInt8)
  | [], _, s => some ([], s)
  | t :: ts, first, s => match (if first then some s else cut [44, 32] s) with
    | none => none
    | some s1 => match rd t s1 with
      | none => none
      | some (v, s2) => match prA rd ts false s2 with
        | none => none
        | some (l, r) => some (v :: l, r)
def prP {α : Type} (rd : VT → List UInt8 → Option (α × List UInt8)) (ts : List VT) (s : List UInt8) : Option (List α × List UInt8) := match cut [40] s with
  | none => none
  | some s1 => match prA rd ts true s1 with
    | none => none
    | some (l, s2) => match cut [41] s2 with
      | none => none
      | some r => some (l, r)
def prE (rd : VT → List UInt8 → Option (IT × List UInt8)) (data : List Dat) (t : VT) : Nat → List UInt8 → Option (List IT × List UInt8)
  | 0, _ => none
  | n + 1, s => match look data t (s.takeWhile bIn) with
    | none => none
    | some (c, ps) => match (if ps.length = 0 then some ([], s.dropWhile bIn) else prP rd ps (s.dropWhile bIn)) with
      | none => none
      | some (ks, s2) => match cut [93] s2 with
        | some r => some ([.mk c ks], r)
        | none => match cut [44, 32] s2 with
          | none => none
          | some s3 => match prE rd data t n s3 with
            | none => none
            | some (l, r) => some (.mk c ks :: l, r)
def prI (data : List Dat) : Nat → VT → List UInt8 → Option (IT × List UInt8)
  | 0, _, _ => none
  | f + 1, t, s =>
    if t.kind = 6 then (match prP (prI data f) t.kids s with
      | none => none
      | some (l, r) => some (.mk 0 l, r))
    else if t.kind = 7 then (match s with
      | b :: r => if bDig b then some (.mk ((b.toNat : Int) - 48) [], r) else none
      | [] => none)
    else if t.kind = 5 then (match cut [91] s with
      | none => none
      | some s1 => match cut [93] s1 with
        | some r => some (.mk 0 [], r)
        | none => match prE (prI data f) data t 7 s1 with
          | none => none
          | some (l, r) => some (.mk 0 l, r))
    else match cut [42] s with
      | none => none
      | some r => some (.mk 0 [], r)
theorem prI_mk (data : List Dat) (f : Nat) (tk tn : Int) (tks : List VT) (s : List UInt8) : prI data (f + 1) (.mk tk tn tks) s =
    if tk = 6 then (match prP (prI data f) tks s with
      | none => none
      | some (l, r) => some (.mk 0 l, r))
    else if tk = 7 then (match s with
      | b :: r => if bDig b then some (.mk ((b.toNat : Int) - 48) [], r) else none
      | [] => none)
    else if tk = 5 then (match cut [91] s with
      | none => none
      | some s1 => match cut [93] s1 with
        | some r => some (.mk 0 [], r)
        | none => match prE (prI data f) data (.mk tk tn tks) 7 s1 with
          | none => none
          | some (l, r) => some (.mk 0 l, r))
    else match cut [42] s with
      | none => none
      | some r => some (.mk 0 [], r) := by
  unfold prI
  rfl
theorem conAt_some : ∀ {l : List Dat} {d : Nat} {s : List UInt8} {d' c : Nat}, conAt l d s = some (d', c) → d ≤ d' ∧ ∃ (h1 : d' - d < l.length) (h2 : c < (l[d' - d]).cons.length), ((l[d' - d]).cons[c]).name = s
  | [], d, s, d', c, h => by simp [conAt] at h
  | D :: l, d, s, d', c, h => by
    unfold conAt at h
    split at h
    · rename_i c' hc
      simp only [Option.some.injEq, Prod.mk.injEq] at h
      obtain ⟨rfl, rfl⟩ := h
      obtain ⟨h1, h2, _⟩ := List.findIdx?_eq_some_iff_getElem.1 hc
      refine ⟨Nat.le_refl _, by simp, by simpa using h1, by simpa using h2⟩
    · obtain ⟨h1, h2, h3, h4⟩ := conAt_some h
      have e : d' - d = (d' - (d + 1)) + 1 := by omega
      refine ⟨by omega, by simp; omega, ?_, ?_⟩
      · simp only [e, List.getElem_cons_succ]; exact h3
      · simp only [e, List.getElem_cons_succ]; exact h4
theorem lookG_some {data : List Dat} {k n : Int} {tks : List VT} {g : Int → Option (List VT)} {s : List UInt8} {c : Int} {ps : List VT} (h : lookG data n g s = some (c, ps)) : conName data (.mk k n tks) c = s ∧ g c = some ps := by
  unfold lookG at h
  split at h
  · rename_i d c' hc
    split at h
    · rename_i hd
      cases hp : g (c' : Int) with
      | none => rw [hp] at h; cases h
      | some ps' =>
        rw [hp] at h
        simp only [Option.map_some, Option.some.injEq, Prod.mk.injEq] at h
        obtain ⟨rfl, rfl⟩ := h
        refine ⟨?_, hp⟩
        obtain ⟨_, h1, h2, h3⟩ := conAt_some hc
        simp only [Nat.sub_zero] at h1 h2 h3
        subst hd
        simp [conName, VT.num, h1, h2, h3]
    · cases h
  · cases h
theorem look_some {data : List Dat} {t : VT} {s : List UInt8} {c : Int} {ps : List VT} (h : look data t s = some (c, ps)) : conName data t c = s ∧ payT data t c = some ps := by
  obtain ⟨k, n, ks⟩ := t
  exact lookG_some h
theorem conAt_hit : ∀ {l : List Dat} {d i c : Nat} (hi : i < l.length) (hc : c < (l[i]).cons.length), (cnames l).Nodup → conAt l d ((l[i]).cons[c]).name = some (d + i, c)
  | [], d, i, c, hi, hc, hn => by simp at hi
  | D :: l, d, 0, c, hi, hc, hn => by
    have hs := (sub_names (D :: l) (List.mem_cons_self)).nodup hn
    have hf : D.cons.findIdx? (fun C => C.name == (D.cons[c]'(by simpa using hc)).name) = some c := by
      rw [List.findIdx?_eq_some_iff_getElem]
      refine ⟨by simpa using hc, by simp, fun j hj => ?_⟩
      have := (List.pairwise_iff_getElem.1 hs) j c (by simp at hc ⊢; omega) (by simpa using hc) hj
      simpa using this
    simp only [List.getElem_cons_zero, conAt]
    rw [hf]
    simp
  | D :: l, d, i + 1, c, hi, hc, hn => by
    have hi' : i < l.length := by simpa using hi
    have hc' : c < (l[i]).cons.length := by simpa using hc
    unfold cnames at hn
    rw [List.flatMap_cons, List.nodup_append] at hn
    have hf : D.cons.findIdx? (fun C => C.name == ((l[i]).cons[c]).name) = none := by
      rw [List.findIdx?_eq_none_iff]
      intro C hC
      have h2 : ((l[i]).cons[c]).name ∈ List.flatMap (fun D => D.cons.map Con.name) l := List.mem_flatMap.2 ⟨l[i], List.getElem_mem hi', List.mem_map.2 ⟨_, List.getElem_mem hc', rfl⟩⟩
      have := hn.2.2 C.name (List.mem_map.2 ⟨C, hC, rfl⟩) _ h2
      simpa using this
    simp only [List.getElem_cons_succ, conAt]
    rw [hf]
    have := conAt_hit (d := d + 1) hi' hc' (by unfold cnames; exact hn.2.1)
    rw [show d + (i + 1) = d + 1 + i from by omega]
    exact this
theorem lookG_hit {data : List Dat} (hD : dataOk data = true) {k n : Int} {tks : List VT} {g : Int → Option (List VT)} {c : Int} {ps : List VT} (n0 : 0 ≤ n) (c0 : 0 ≤ c) (hn : n.toNat < data.length) (hc : c.toNat < (data[n.toNat]).cons.length)
    (hnm : conName data (.mk k n tks) c = ((data[n.toNat]).cons[c.toNat]).name) (h : g c = some ps) : lookG data n g (conName data (.mk k n tks) c) = some (c, ps) := by
  have hnd : (cnames data).Nodup := by
    simp only [dataOk, Bool.and_eq_true] at hD
    have h1 := hD.2
    simpa only [repeats, Bool.not_not, decide_eq_true_eq] using h1
  have hh := conAt_hit (d := 0) hn hc hnd
  unfold lookG
  rw [hnm, hh]
  have e1 : ((n.toNat : Int)) = n := by omega
  have e2 : ((c.toNat : Int)) = c := by omega
  simp only [Nat.zero_add, e1, e2, if_true, h, Option.map_some]
theorem look_hit {data : List Dat} (hD : dataOk data = true) {k n : Int} {tks : List VT} {c : Int} {ps : List VT} (h : payT data (.mk k n tks) c = some ps) : look data (.mk k n tks) (conName data (.mk k n tks) c) = some (c, ps) := by
  obtain ⟨_, n0, c0, hn, hc, hnm⟩ := payT_con h
  exact lookG_hit hD n0 c0 hn hc hnm h
end Go.Proofs.YtfpmdpldabopjaaGreatDoor
namespace Go.Proofs.YtfpmdpldabopjaaGreatDoor
open Go Go.Abs
set_option linter.unusedSimpArgs false
set_option linter.unusedVariables false
def RdS (data : List Dat) (rd : VT → List UInt8 → Option (IT × List UInt8)) : Prop := ∀ t s v r, rd t s = some (v, r) → s = fmtV data v t ++ r ∧ v.nodes + r.length ≤ s.length
theorem prA_sound {data : List Dat} {rd : VT → List UInt8 → Option (IT × List UInt8)} (hrd : RdS data rd) : ∀ (ts : List VT) (first : Bool) (s : List UInt8) (l : List IT) (r : List UInt8), prA rd ts first s = some (l, r) →
    s = fmtA data l ts first ++ r ∧ l.length = ts.length ∧ IT.nodesL l + r.length ≤ s.length
  | [], first, s, l, r, h => by
    simp only [prA, Option.some.injEq, Prod.mk.injEq] at h
    obtain ⟨rfl, rfl⟩ := h
    simp [fmtA, IT.nodesL]
  | t :: ts, first, s, l, r, h => by
    unfold prA at h
    split at h
    · cases h
    · rename_i s1 hs1
      split at h
      · cases h
      · rename_i v s2 hv
        split at h
        · cases h
        · rename_i l2 r2 h2
          simp only [Option.some.injEq, Prod.mk.injEq] at h
          obtain ⟨rfl, rfl⟩ := h
          obtain ⟨e1, n1⟩ := hrd _ _ _ _ hv
          obtain ⟨e2, hl, n2⟩ := prA_sound hrd ts false s2 l2 r2 h2
          have hs : s = (if first then [] else [44, 32]) ++ s1 := by
            cases first with
            | true => simp at hs1; simp [hs1]
            | false => simp at hs1; simpa using cut_some hs1
          refine ⟨?_, by simp [hl], ?_⟩
          · rw [hs, e1, e2]
            simp [fmtA]
          · rw [hs]
            simp only [IT.nodesL, List.length_append]
            omega
theorem prP_sound {data : List Dat} {rd : VT → List UInt8 → Option (IT × List UInt8)} (hrd : RdS data rd) (ts : List VT) (s : List UInt8) (l : List IT) (r : List UInt8) (h : prP rd ts s = some (l, r)) :
    s = [40] ++ fmtA data l ts true ++ [41] ++ r ∧ l.length = ts.length ∧ IT.nodesL l + r.length + 2 ≤ s.length := by
  unfold prP at h
  split at h
  · cases h
  · rename_i s1 h1
    split at h
    · cases h
    · rename_i l2 s2 h2
      split at h
      · cases h
      · rename_i r2 h3
        simp only [Option.some.injEq, Prod.mk.injEq] at h
        obtain ⟨rfl, rfl⟩ := h
        obtain ⟨e2, hl, n2⟩ := prA_sound hrd _ _ _ _ _ h2
        have e1 := cut_some h1
        have e3 := cut_some h3
        have n1 := congrArg List.length e1
        have n3 := congrArg List.length e3
        simp only [List.length_append, List.length_cons, List.length_nil] at n1 n3
        refine ⟨?_, hl, by omega⟩
        rw [e1, e2, e3]
        simp
theorem fmtE_step (data : List Dat) (v : IT) (es : List IT) (t : VT) : fmtE data (v :: es) t false = [44, 32] ++ fmtE data (v :: es) t true := by
  obtain ⟨c, ks⟩ := v
  simp [fmtE]
theorem prE_sound {data : List Dat} {rd : VT → List UInt8 → Option (IT × List UInt8)} (hrd : RdS data rd) (t : VT) : ∀ (n : Nat) (s : List UInt8) (l : List IT) (r : List UInt8), prE rd data t n s = some (l, r) →
    s = fmtE data l t true ++ [93] ++ r ∧ l ≠ [] ∧ IT.nodesL l + r.length ≤ s.length
  | 0, s, l, r, h => by simp [prE] at h
  | n + 1, s, l, r, h => by
    unfold prE at h
    split at h
    · cases h
    · rename_i c ps hlook
      obtain ⟨hnm, hp⟩ := look_some hlook
      have hs := (List.takeWhile_append_dropWhile (p := bIn) (l := s)).symm
      rw [← hnm] at hs
      split at h
      · cases h
      · rename_i ks s2 h2
        have hmid : s.dropWhile bIn = (if ks.length = 0 then [] else [40] ++ fmtA data ks ps true ++ [41]) ++ s2 ∧ IT.nodesL ks + s2.length ≤ (s.dropWhile bIn).length := by
          split at h2
          · simp only [Option.some.injEq, Prod.mk.injEq] at h2
            obtain ⟨rfl, h2⟩ := h2
            simp [← h2, IT.nodesL]
          · rename_i hne
            obtain ⟨e, hl, hn⟩ := prP_sound hrd _ _ _ _ h2
            rw [if_neg (by omega)]
            exact ⟨e, by omega⟩
        obtain ⟨hmid, hmn⟩ := hmid
        have hsl := congrArg List.length hs
        simp only [List.length_append] at hsl
        have hcl : ∀ es first, fmtE data (.mk c ks :: es) t first = (if first then [] else [44, 32]) ++ conName data t c ++ (if ks.length = 0 then [] else [40] ++ fmtA data ks ps true ++ [41]) ++ fmtE data es t false := fun es first => fmtE_cons data c ks es t first ps hp
        split at h
        · rename_i r' h3
          simp only [Option.some.injEq, Prod.mk.injEq] at h
          obtain ⟨rfl, rfl⟩ := h
          have e3 := cut_some h3
          have n3 := congrArg List.length e3
          simp only [List.length_append, List.length_cons, List.length_nil] at n3
          refine ⟨?_, by simp, ?_⟩
          · rw [hcl, hs, hmid, e3]
            simp [fmtE]
          · simp [IT.nodesL, IT.nodes]
            omega
        · split at h
          · cases h
          · rename_i s3 h3
            split at h
            · cases h
            · rename_i l2 r2 h4
              simp only [Option.some.injEq, Prod.mk.injEq] at h
              obtain ⟨rfl, rfl⟩ := h
              have e3 := cut_some h3
              have n3 := congrArg List.length e3
              simp only [List.length_append, List.length_cons, List.length_nil] at n3
              obtain ⟨e4, hne, n4⟩ := prE_sound hrd t n _ _ _ h4
              obtain ⟨w, l3, rfl⟩ := List.exists_cons_of_ne_nil hne
              refine ⟨?_, by simp, ?_⟩
              · rw [hcl, hs, hmid, e3, fmtE_step, e4]
                simp
              · simp only [IT.nodesL, IT.nodes] at n4 ⊢
                omega
theorem small_byte {b : UInt8} (hb : bDig b = true) : small ((b.toNat : Int) - 48).toNat = [b] := by
  unfold bDig at hb
  simp only [Bool.and_eq_true, decide_eq_true_eq] at hb
  have h1 : ∀ k : Nat, k < 10 → small k = [UInt8.ofNat (48 + k)] := by decide
  have hk := h1 (b.toNat - 48) (by omega)
  have e : ((b.toNat : Int) - 48).toNat = b.toNat - 48 := by omega
  rw [e, hk]
  have e2 : 48 + (b.toNat - 48) = b.toNat := by omega
  rw [e2]
  simp
theorem prI_sound {data : List Dat} : ∀ (f : Nat), RdS data (prI data f)
  | 0, t, s, v, r, h => by simp [prI] at h
  | f + 1, t, s, v, r, h => by
    have ih := prI_sound (data := data) f
    obtain ⟨tk, tn, tks⟩ := t
    rw [prI_mk] at h
    by_cases h6 : tk = 6
    · rw [if_pos h6] at h
      split at h
      · cases h
      · rename_i l r2 h2
        simp only [Option.some.injEq, Prod.mk.injEq] at h
        obtain ⟨rfl, rfl⟩ := h
        obtain ⟨e, hl, hn⟩ := prP_sound ih _ _ _ _ h2
        refine ⟨?_, by simp [IT.nodes]; omega⟩
        rw [fmtV_mk, if_pos h6]
        exact e
    rw [if_neg h6] at h
    by_cases h7 : tk = 7
    · rw [if_pos h7] at h
      cases s with
      | nil => cases h
      | cons b r2 =>
        simp only at h
        split at h
        · rename_i hb
          simp only [Option.some.injEq, Prod.mk.injEq] at h
          obtain ⟨rfl, rfl⟩ := h
          refine ⟨?_, by simp [IT.nodes, IT.nodesL]; omega⟩
          rw [fmtV_mk, if_neg h6, if_pos h7]
          have hsm : small ((b.toNat : Int) - 48).toNat = [b] := small_byte hb
          rw [hsm]
          rfl
        · cases h
    rw [if_neg h7] at h
    by_cases h5 : tk = 5
    · rw [if_pos h5] at h
      split at h
      · cases h
      · rename_i s1 h1
        have e1 := cut_some h1
        have n1 := congrArg List.length e1
        simp only [List.length_append, List.length_cons, List.length_nil] at n1
        split at h
        · rename_i r2 h2
          simp only [Option.some.injEq, Prod.mk.injEq] at h
          obtain ⟨rfl, rfl⟩ := h
          have e2 := cut_some h2
          have n2 := congrArg List.length e2
          simp only [List.length_append, List.length_cons, List.length_nil] at n2
          refine ⟨?_, by simp [IT.nodes, IT.nodesL]; omega⟩
          rw [fmtV_mk, if_neg h6, if_neg h7, if_pos h5, e1, e2]
          simp [fmtE]
        · split at h
          · cases h
          · rename_i l r2 h2
            simp only [Option.some.injEq, Prod.mk.injEq] at h
            obtain ⟨rfl, rfl⟩ := h
            obtain ⟨e2, hne, n2⟩ := prE_sound ih _ _ _ _ _ h2
            refine ⟨?_, by simp [IT.nodes]; omega⟩
            rw [fmtV_mk, if_neg h6, if_neg h7, if_pos h5, e1, e2]
            simp
    rw [if_neg h5] at h
    split at h
    · cases h
    · rename_i r2 h1
      simp only [Option.some.injEq, Prod.mk.injEq] at h
      obtain ⟨rfl, rfl⟩ := h
      have e1 := cut_some h1
      have n1 := congrArg List.length e1
      simp only [List.length_append, List.length_cons, List.length_nil] at n1
      refine ⟨?_, by simp [IT.nodes, IT.nodesL]; omega⟩
      rw [fmtV_mk, if_neg h6, if_neg h7, if_neg h5, e1]
end Go.Proofs.YtfpmdpldabopjaaGreatDoor
namespace Go.Proofs.YtfpmdpldabopjaaGreatDoor
open Go Go.Abs
set_option linter.unusedSimpArgs false
set_option linter.unusedVariables false
def RdC (data : List Dat) (rd : VT → List UInt8 → Option (IT × List UInt8)) (L : Nat) : Prop := ∀ t v r, 0 ≤ rdV data v t → (fmtV data v t ++ r).length < L → rd t (fmtV data v t ++ r) = some (v, r)
theorem prA_comp {data : List Dat} {rd : VT → List UInt8 → Option (IT × List UInt8)} {L : Nat} (hrd : RdC data rd L) : ∀ (ts : List VT) (first : Bool) (vs : List IT) (r : List UInt8) (a : Int), 0 ≤ rdA data vs ts a → vs.length = ts.length → (fmtA data vs ts first ++ r).length < L →
    prA rd ts first (fmtA data vs ts first ++ r) = some (vs, r)
  | [], first, vs, r, a, h, hl, hb => by
    obtain rfl : vs = [] := List.eq_nil_of_length_eq_zero (by simpa using hl)
    simp [prA, fmtA]
  | t :: ts, first, [], r, a, h, hl, hb => by simp at hl
  | t :: ts, first, v :: vs, r, a, h, hl, hb => by
    simp only [rdA] at h
    split at h
    · omega
    · rename_i hc
      simp only [fmtA, List.length_append] at hb
      have h1 := hrd t v (fmtA data vs ts false ++ r) (by omega) (by simp only [List.length_append]; omega)
      have h2 := prA_comp hrd ts false vs r _ h (by simpa using hl) (by simp only [List.length_append]; omega)
      cases first with
      | true => simp [prA, fmtA, h1, h2]
      | false =>
        simp only [prA, fmtA, Bool.false_eq_true, if_false]
        have hc := cut_app [44, 32] (fmtV data v t ++ (fmtA data vs ts false ++ r))
        simp only [List.append_assoc] at hc ⊢
        rw [hc]
        simp [h1, h2]
theorem prP_comp {data : List Dat} {rd : VT → List UInt8 → Option (IT × List UInt8)} {L : Nat} (hrd : RdC data rd L) (ts : List VT) (vs : List IT) (r : List UInt8) (a : Int) (h : 0 ≤ rdA data vs ts a) (hl : vs.length = ts.length) (hb : ([40] ++ fmtA data vs ts true ++ [41] ++ r).length < L + 1) :
    prP rd ts ([40] ++ fmtA data vs ts true ++ [41] ++ r) = some (vs, r) := by
  unfold prP
  simp only [List.append_assoc] at hb ⊢
  simp only [List.length_append, List.length_cons, List.length_nil] at hb
  rw [cut_app]
  have h1 := prA_comp hrd ts true vs ([41] ++ r) a h hl (by simp only [List.length_append, List.length_cons, List.length_nil]; omega)
  simp only [h1, cut_app]
theorem takeWhile_stop {w r : List UInt8} (hw : ∀ b ∈ w, bIn b = true) (hr : ∀ b, r.head? = some b → bIn b = false) : (w ++ r).takeWhile bIn = w ∧ (w ++ r).dropWhile bIn = r := by
  induction w with
  | nil =>
    cases r with
    | nil => simp
    | cons b r => have := hr b rfl; simp [this]
  | cons b w ih =>
    have h1 := hw b (by simp)
    have h2 := ih fun b hb => hw b (by simp [hb])
    simp [h1, h2]
theorem prE_comp {data : List Dat} (hD : dataOk data = true) {rd : VT → List UInt8 → Option (IT × List UInt8)} {L : Nat} (hrd : RdC data rd L) (k tn : Int) (tks : List VT) : ∀ (n : Nat) (es : List IT) (r : List UInt8) (a : Int), es ≠ [] → es.length ≤ n →
    0 ≤ rdE data es (.mk k tn tks) a → (fmtE data es (.mk k tn tks) true ++ [93] ++ r).length < L → prE rd data (.mk k tn tks) n (fmtE data es (.mk k tn tks) true ++ [93] ++ r) = some (es, r)
  | n, [], r, a, hne, hl, h, hb => absurd rfl hne
  | 0, e :: es, r, a, hne, hl, h, hb => by simp at hl
  | n + 1, .mk c ks :: es, r, a, hne, hl, h, hb => by
    have h0 := h
    simp only [rdE] at h
    split at h
    · omega
    · split at h
      · omega
      · rename_i ps hp
        split at h
        · rename_i hpl
          split at h
          · omega
          · rename_i hr
            obtain ⟨_, n0, c0, hn1, hc1, hnm⟩ := payT_con hp
            have hnw := con_name hD hn1 hc1
            rw [← hnm] at hnw
            rw [fmtE_cons data c ks es _ _ ps hp] at hb ⊢
            simp only [if_true, List.nil_append, List.append_assoc] at hb ⊢
            simp only [List.length_append, List.length_cons, List.length_nil] at hb
            have hstopE : ∀ b, (fmtE data es (.mk k tn tks) false ++ ([93] ++ r)).head? = some b → bIn b = false := by
              intro b hb
              cases es with
              | nil => simp [fmtE] at hb; subst hb; decide
              | cons v es => obtain ⟨c, ks⟩ := v; simp [fmtE] at hb; subst hb; decide
            have hstop : ∀ b, ((if ks.length = 0 then [] else [40] ++ (fmtA data ks ps true ++ [41])) ++ (fmtE data es (.mk k tn tks) false ++ ([93] ++ r))).head? = some b → bIn b = false := by
              intro b hb
              by_cases hz : ks.length = 0
              · rw [if_pos hz] at hb; exact hstopE b (by simpa using hb)
              · rw [if_neg hz] at hb; simp at hb; subst hb; decide
            obtain ⟨htw, hdw⟩ := takeWhile_stop hnw.2 hstop
            unfold prE
            rw [htw, hdw, look_hit hD hp]
            have hmid : (if ps.length = 0 then some ([], (if ks.length = 0 then [] else [40] ++ (fmtA data ks ps true ++ [41])) ++ (fmtE data es (.mk k tn tks) false ++ ([93] ++ r))) else prP rd ps ((if ks.length = 0 then [] else [40] ++ (fmtA data ks ps true ++ [41])) ++ (fmtE data es (.mk k tn tks) false ++ ([93] ++ r)))) = some (ks, fmtE data es (.mk k tn tks) false ++ ([93] ++ r)) := by
              by_cases hz : ks.length = 0
              · have hz' : ps.length = 0 := by omega
                obtain rfl : ks = [] := List.eq_nil_of_length_eq_zero hz
                rw [if_pos hz', if_pos hz]
                simp
              · have hz' : ¬ ps.length = 0 := by omega
                rw [if_neg hz] at hb
                rw [if_neg hz', if_neg hz]
                have := prP_comp hrd ps ks (fmtE data es (.mk k tn tks) false ++ ([93] ++ r)) 0 (by omega) hpl.symm (by simp only [List.length_append, List.length_cons, List.length_nil] at hb ⊢; omega)
                simp only [List.append_assoc] at this ⊢
                exact this
            simp only [hmid]
            cases es with
            | nil =>
              simp only [fmtE, List.nil_append, cut_app]
            | cons w es =>
              have hnc : cut [93] (fmtE data (w :: es) (.mk k tn tks) false ++ ([93] ++ r)) = none := by
                rw [fmtE_step]
                exact cut_head (by decide)
              have ih := prE_comp hD hrd k tn tks n (w :: es) r _ (by simp) (by simpa using hl) h (by rw [fmtE_step] at hb; simp only [List.length_append, List.length_cons, List.length_nil] at hb ⊢; omega)
              rw [hnc]
              simp only [fmtE_step]
              simp only [List.append_assoc] at ih ⊢
              rw [cut_app]
              simp only [ih]
        · omega
theorem small_back : ∀ m : Nat, m < 7 → ∃ b, small m = [b] ∧ bDig b = true ∧ (b.toNat : Int) - 48 = m := by
  intro m hm
  refine ⟨UInt8.ofNat (48 + m), ?_, ?_, ?_⟩
  · revert m; decide
  · revert m; decide
  · revert m; decide
theorem prI_comp {data : List Dat} (hD : dataOk data = true) : ∀ (f : Nat), RdC data (prI data f) f
  | 0, t, v, r, h, hb => by omega
  | f + 1, t, v, r, h, hb => by
    have ih := prI_comp hD f
    obtain ⟨n, ks⟩ := v
    obtain ⟨tk, tn, tks⟩ := t
    rw [rdV_mk] at h
    rw [fmtV_mk] at hb ⊢
    rw [prI_mk]
    by_cases h6 : tk = 6
    · rw [if_pos h6] at h hb ⊢
      by_cases hn : n = 0
      · rw [if_pos hn] at h
        by_cases hl : tks.length = ks.length
        · rw [if_pos hl] at h
          subst hn
          rw [if_pos h6, prP_comp ih tks ks r 0 h hl.symm hb]
        · rw [if_neg hl] at h; omega
      · rw [if_neg hn] at h; omega
    · rw [if_neg h6] at h hb ⊢
      rw [if_neg h6]
      by_cases h7 : tk = 7
      · rw [if_pos h7] at h hb ⊢
        rw [if_pos h7]
        by_cases g : 0 ≤ n ∧ n ≤ 6 ∧ ks.length = 0
        · obtain ⟨m, rfl⟩ : ∃ m : Nat, n = m := ⟨n.toNat, by omega⟩
          obtain rfl : ks = [] := List.eq_nil_of_length_eq_zero g.2.2
          obtain ⟨b, h1, h2, h3⟩ := small_back m (by omega)
          simp only [Int.toNat_natCast, h1, List.cons_append, List.nil_append, h2, if_true, h3]
        · rw [if_neg g] at h; omega
      · rw [if_neg h7] at h hb ⊢
        rw [if_neg h7]
        by_cases h5 : tk = 5
        · rw [if_pos h5] at h hb ⊢
          rw [if_pos h5]
          by_cases g : n = 0 ∧ ks.length ≤ 6
          · rw [if_pos g] at h
            obtain ⟨rfl, g2⟩ := g
            simp only [List.append_assoc] at hb ⊢
            rw [cut_app]
            cases ks with
            | nil => simp only [fmtE, List.nil_append, cut_app]
            | cons w es =>
              have hc : cut [93] (fmtE data (w :: es) (.mk tk tn tks) true ++ ([93] ++ r)) = none := by
                obtain ⟨c, ks⟩ := w
                obtain ⟨c', ks', ps, he, hp, _, _⟩ := rdE_el h 0 (by simp)
                simp only [List.getElem_cons_zero] at he
                obtain ⟨rfl, rfl⟩ := IT.mk.inj he
                obtain ⟨_, n0, c0, hn1, hc1, hnm⟩ := payT_con hp
                have hnw := con_name hD hn1 hc1
                rw [← hnm] at hnw
                rw [fmtE_cons data c ks es _ _ ps hp]
                obtain ⟨b0, nm', hnm0⟩ := List.exists_cons_of_ne_nil hnw.1
                have hb0 := hnw.2 b0 (by rw [hnm0]; simp)
                rw [hnm0]
                refine cut_head ?_
                rintro rfl
                revert hb0
                decide
              simp only [List.length_append, List.length_cons, List.length_nil] at hb
              have h2 := prE_comp hD ih tk tn tks 7 (w :: es) r 0 (by simp) (by omega) h (by simp only [List.length_append, List.length_cons, List.length_nil]; omega)
              simp only [List.append_assoc] at h2
              simp only [hc, h2]
          · rw [if_neg g] at h; omega
        · rw [if_neg h5] at h hb ⊢
          rw [if_neg h5]
          by_cases g : n = 0 ∧ ks.length = 0
          · obtain ⟨rfl, g2⟩ := g
            obtain rfl : ks = [] := List.eq_nil_of_length_eq_zero g2
            simp only [cut_app]
          · rw [if_neg g] at h; omega
end Go.Proofs.YtfpmdpldabopjaaGreatDoor
