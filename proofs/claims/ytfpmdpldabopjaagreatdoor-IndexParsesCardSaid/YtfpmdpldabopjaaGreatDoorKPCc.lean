/- The reference's reader of indices: its leaves. -/
import Derived.Test.YtfpmdpldabopjaaGreatDoorKPCa
import Derived.Test.YtfpmdpldabopjaaGreatDoorKGZ
import Derived.Test.YtfpmdpldabopjaaGreatDoorKPAb
import Derived.Test.YtfpmdpldabopjaaGreatDoorKPCb
namespace Go.Proofs.YtfpmdpldabopjaaGreatDoor
open Go Go.Abs
set_option linter.unusedSimpArgs false
set_option linter.unusedVariables false
set_option maxRecDepth 8000
def r5B (data : List Dat) (s : List UInt8) (n : Nat) (b : Bool) : AB := .cells [.sl (data.map Dat.cs) .none, .str s, .int .i64 n, .bool b]
theorem r5B_sc (data : List Dat) (s : List UInt8) (n : Nat) (b : Bool) (m : Nat) : (r5B data s n b).sc m = true := by simp [r5B, AB.sc, AV.scA, AV.scB]
theorem cut_take {p s : List UInt8} {n : Nat} (h : n + p.length ≤ s.length) : cut p (s.drop n) = if (s.take (n + p.length)).drop n = p then some (s.drop (n + p.length)) else none := by
  have e : (s.take (n + p.length)).drop n = (s.drop n).take p.length := by
    rw [List.drop_take]
    congr 1
    omega
  rw [e]
  by_cases hp : (s.drop n).take p.length = p
  · rw [if_pos hp]
    have h2 : s.drop n = p ++ s.drop (n + p.length) := by
      have := List.take_append_drop p.length (s.drop n)
      rw [hp, List.drop_drop] at this
      exact this.symm
    rw [h2, cut_app]
  · rw [if_neg hp]
    cases hc : cut p (s.drop n) with
    | none => rfl
    | some r =>
      exfalso
      have := cut_some hc
      rw [this] at hp
      simp at hp
theorem cut_short {p s : List UInt8} {n : Nat} (hn : n ≤ s.length) (h : ¬ n + p.length ≤ s.length) : cut p (s.drop n) = none := by
  cases hc : cut p (s.drop n) with
  | none => rfl
  | some r =>
    exfalso
    have := congrArg List.length (cut_some hc)
    simp at this
    omega
theorem r5_take {data : List Dat} {b : Bool} (p s : List UInt8) (n : Nat) (hn : n ≤ s.length) (hs : s.length ≤ 1000000000) (hp : p.length ≤ 1000) {H : Heap} {id : Nat} (hid : H[id]? = some (r5B data s n b)) (K : Kt)
    (h1 : b = false → n + p.length ≤ s.length → cut p (s.drop n) = some (s.drop (n + p.length)) → K (.bool true) (H.set id (r5B data s (n + p.length) false))) (h2 : (b = true ∨ cut p (s.drop n) = none) → K (.bool false) H) :
    ACalls Tryz.prog n_zq122 [.ptr id 0, .str p] H K := by
  refine zq122_ok fun hsc => ?_
  have h0 : H[id]? = some (.cells [.sl (data.map Dat.cs) .none, .str s, .int .i64 n, .bool b]) := hid
  cases b with
  | true =>
    simp [zq122, h0]
    exact h2 (.inl rfl)
  | false =>
    by_cases hl : n + p.length ≤ s.length
    · have w1 : IntKind.i64.wrap ((s.length : Int) - n) = s.length - n := wrap_in (by omega) (by omega)
      have g1 : (p.length : Int) ≤ s.length - n := by omega
      have hc := cut_take (p := p) (s := s) (n := n) hl
      obtain ⟨m, hm⟩ : ∃ m, m = n + p.length := ⟨_, rfl⟩
      have w2 : IntKind.i64.wrap ((n : Int) + p.length) = (m : Int) := by rw [wrap_in (by omega) (by omega)]; omega
      rw [← hm] at hl hc h1
      have hle : n ≤ m := by omega
      by_cases he : (s.take m).drop n = p
      · rw [if_pos he] at hc
        have h := h1 rfl hl hc
        simp [zq122, h0, w1, w2, g1, aSlice, aBound, AV.known, hl, he, hle]
        simpa [r5B] using h
      · rw [if_neg he] at hc
        have h := h2 (.inr hc)
        have he' : ((s.take m).drop n == p) = false := by simpa using he
        simp [zq122, h0, w1, w2, g1, aSlice, aBound, AV.known, hl, he, he', hle]
        exact h
    · have w1 : IntKind.i64.wrap ((s.length : Int) - n) = s.length - n := wrap_in (by omega) (by omega)
      have g1 : ¬ (p.length : Int) ≤ s.length - n := by omega
      simp [zq122, h0, w1, g1]
      exact h2 (.inr (cut_short hn hl))
def Ok5 {α : Type} (b0 : Bool) (x : Option (α × List UInt8)) (s : List UInt8) (v : α) (n' : Nat) (b : Bool) : Prop := n' ≤ s.length ∧ (b = false → b0 = false ∧ x = some (v, s.drop n')) ∧ (b = true → b0 = true ∨ x = none)
theorem r5_need {data : List Dat} {b : Bool} (p s : List UInt8) (n : Nat) (hn : n ≤ s.length) (hs : s.length ≤ 1000000000) (hp : p.length ≤ 1000) {H : Heap} {id : Nat} (hid : H[id]? = some (r5B data s n b)) (K : Kt)
    (hK : ∀ n' b', n' ≤ s.length → (b' = false → b = false ∧ cut p (s.drop n) = some (s.drop n') ∧ n' = n + p.length) → (b' = true → b = true ∨ cut p (s.drop n) = none) → K (.tup []) (H.set id (r5B data s n' b'))) :
    ACalls Tryz.prog n_zq120 [.ptr id 0, .str p] H K := by
  refine zq120_ok fun hsc => ?_
  have h0 : H[id]? = some (.cells [.sl (data.map Dat.cs) .none, .str s, .int .i64 n, .bool b]) := hid
  simp [zq120]
  refine r5_take p s n hn hs hp hid _ (fun hb hl hc => ?_) fun hc => ?_
  · simp
    exact hK _ _ hl (fun _ => ⟨hb, hc, rfl⟩) fun h => by cases h
  · simp [h0, AV.known]
    exact hK n true hn (fun h => by cases h) fun _ => hc
theorem r5_letter (b : UInt8) (H : Heap) (K : Kt) (hK : K (.bool (bIn b)) H) : ACalls Tryz.prog n_zq123 [.int .u8 b.toNat] H K := by
  refine ACalls.out (zq123_ok fun hs => ?_)
  have hO := outHere (K := K) (H := H) (r := .bool (bIn b)) hs rfl rfl hK
  have e1 : ((b.toNat : Int) == 95) = (b == 95) := u8_eq b 95
  unfold bIn bLow bUp bDig at hO
  cases h1 : decide (97 ≤ (b.toNat : Int)) <;> cases h2 : decide ((b.toNat : Int) ≤ 122) <;> cases h3 : decide (65 ≤ (b.toNat : Int)) <;> cases h4 : decide ((b.toNat : Int) ≤ 90) <;> cases h5 : (b == 95) <;> cases h6 : decide (48 ≤ (b.toNat : Int)) <;> cases h7 : decide ((b.toNat : Int) ≤ 57) <;>
    simp [zq123, e1, h1, h2, h3, h4, h5, h6, h7] <;> simp [h1, h2, h3, h4, h5, h6, h7] at hO <;> exact hO
def conR (data : List Dat) (s : List UInt8) : AV := match conAt data 0 s with
  | some (d, c) => .tup [.int .i64 (d : Int), .int .i64 (c : Int), .bool true]
  | none => .tup [.int .i64 0, .int .i64 0, .bool false]
theorem conAt_step {data : List Dat} {i : Nat} (h : i < data.length) (s : List UInt8) : conAt (data.drop i) i s = match (data[i]).cons.findIdx? (fun C => C.name == s) with
    | some c => some (i, c)
    | none => conAt (data.drop (i + 1)) (i + 1) s := by
  rw [List.drop_eq_getElem_cons h, conAt]
  cases (data[i]).cons.findIdx? (fun C => C.name == s) <;> rfl
theorem find_none {C : List Con} {s : List UInt8} {j : Nat} (h : ∀ (k : Nat) (hk : k < C.length), k < j → (C[k]).name ≠ s) (hj : C.length ≤ j) : C.findIdx? (fun C => C.name == s) = none := by
  rw [List.findIdx?_eq_none_iff]
  intro x hx
  obtain ⟨k, hk, rfl⟩ := List.getElem_of_mem hx
  simpa using h k hk (by omega)
theorem find_some {C : List Con} {s : List UInt8} {j : Nat} (h : ∀ (k : Nat) (hk : k < C.length), k < j → (C[k]).name ≠ s) (hj : j < C.length) (he : (C[j]).name = s) : C.findIdx? (fun C => C.name == s) = some j := by
  rw [List.findIdx?_eq_some_iff_getElem]
  exact ⟨hj, by simpa using he, fun k hk => by simpa using h k (by omega) hk⟩
theorem zq124_spec (data : List Dat) (hl : data.length ≤ 1000000) (hc : ∀ d ∈ data, d.cons.length ≤ 1000000) (s : List UInt8) (H : Heap) (K : Kt) (hK : K (conR data s) H) : ACalls Tryz.prog n_zq124 [.sl (data.map Dat.cs) .none, .str s] H K := by
  refine ACalls.out (zq124_ok fun hs => ?_)
  have hO : Out H.length K (conR data s) H := by
    unfold conR at hK ⊢
    split
    · rename_i d c hc
      rw [hc] at hK
      exact Out.tup0 hs hK ⟨keepV rfl rfl, keepV rfl rfl, keepV rfl rfl, trivial⟩
    · rename_i hc
      rw [hc] at hK
      exact Out.tup0 hs hK ⟨keepV rfl rfl, keepV rfl rfl, keepV rfl rfl, trivial⟩
  unfold conR at hO
  simp [zq124]
  refine zq124_loop2 (Inv := fun q t7 H' => ∃ i : Nat, i ≤ data.length ∧ q = data.length - i ∧ t7 = .int .i64 i ∧ conAt data 0 s = conAt (data.drop i) i s ∧ H' = H) data.length ?_ ?_
  · intro _; exact ⟨0, by omega, by omega, rfl, by simp, rfl⟩
  · rintro q t7 H' ⟨i, hi, rfl, rfl, hca, rfl⟩ hsc hlen hsF Kb hKb
    by_cases hlt : i < data.length
    · have hci := hc _ (List.getElem_mem hlt)
      rw [conAt_step hlt] at hca
      simp [zq124_b2, hlt]
      refine zq124_loop5 (Inv := fun q t8 H'' => ∃ j : Nat, j ≤ (data[i]).cons.length ∧ q = (data[i]).cons.length - j ∧ t8 = .int .i64 j ∧ (∀ (k : Nat) (hk : k < (data[i]).cons.length), k < j → ((data[i]).cons[k]).name ≠ s) ∧ H'' = H') (data[i]).cons.length ?_ ?_
      · intro _; exact ⟨0, by omega, by omega, rfl, fun k hk h => by omega, rfl⟩
      · rintro q2 t8 H'' ⟨j, hj, rfl, rfl, hno, rfl⟩ hsc2 hlen2 hsF2 Kb2 hKb2
        by_cases hjl : j < (data[i]).cons.length
        · by_cases he : ((data[i]).cons[j]).name = s
          · rw [find_some hno hjl he] at hca
            rw [hca] at hO
            simp [zq124_b5, hlt, Dat.cs, hjl, Con.cs, he]
            exact ⟨⟨rfl, rfl, rfl⟩, hO⟩
          · have he' : (((data[i]).cons[j]).name == s) = false := by simpa using he
            simp [zq124_b5, hlt, Dat.cs, hjl, Con.cs, he, he']
            rw [wrap_in (by omega) (by omega)]
            refine hKb2 _ _ ⟨(data[i]).cons.length - (j + 1), by omega, Back.here (by simp) hsc2 ?_ ⟨_, rfl, j + 1, by omega, rfl, by simp, fun k hk h => ?_, rfl⟩⟩
            · simp [zq124_fr5, AV.sc, AV.scV, AV.scA, AV.scB]
            · by_cases hkj : k = j
              · subst hkj; exact he
              · exact hno k hk (by omega)
        · rw [find_none hno (by omega)] at hca
          simp [zq124_b5, hlt, Dat.cs, hjl]
          rw [wrap_in (by omega) (by omega)]
          refine hKb _ _ ⟨data.length - (i + 1), by omega, Back.here (by simp) hsc2 ?_ ⟨_, rfl, i + 1, by omega, rfl, by simp, hca, rfl⟩⟩
          simp [zq124_fr2, AV.sc, AV.scV, AV.scA, AV.scB]
    · have hd : data.drop i = [] := by simp; omega
      rw [hd, conAt] at hca
      rw [hca] at hO
      simp [zq124_b2, hlt]
      exact ⟨⟨rfl, rfl⟩, hO⟩
end Go.Proofs.YtfpmdpldabopjaaGreatDoor
namespace Go.Proofs.YtfpmdpldabopjaaGreatDoor
open Go Go.Abs
set_option linter.unusedSimpArgs false
set_option linter.unusedVariables false
set_option maxRecDepth 8000
def RdR (data : List Dat) (f : Nat) : Prop := ∀ t : VT, t.nodes ≤ 1000 → ∀ (H : Heap) (id : Nat) (s : List UInt8) (n : Nat) (b : Bool), n ≤ s.length → (b = false → (s.drop n).length < f) → s.length ≤ 1000000000 → H[id]? = some (r5B data s n b) →
  ∀ K : Kt, (∀ (v : IT) n' b', Ok5 b (prI data f t (s.drop n)) s v n' b' → K (.agg v.cs) (H.set id (r5B data s n' b'))) → ACalls Tryz.prog n_zq70 [.ptr id 0, .agg t.cs] H K
theorem prA_step {rd : VT → List UInt8 → Option (IT × List UInt8)} {t : VT} {ts : List VT} {first : Bool} {s1 s2 : List UInt8} {v : IT} (s : List UInt8) (h1 : (if first then some s else cut [44, 32] s) = some s1) (h2 : rd t s1 = some (v, s2)) :
    prA rd (t :: ts) first s = (prA rd ts false s2).map fun x => (v :: x.1, x.2) := by
  rw [prA]
  simp only [h1, h2]
  cases prA rd ts false s2 <;> rfl
theorem r5_list {data : List Dat} {f : Nat} (hel : RdR data f) (ts : List VT) (htl : ts.length ≤ 1000) (htn : ∀ t ∈ ts, t.nodes ≤ 1000) (H : Heap) (id : Nat) (s : List UInt8) (n : Nat) (b : Bool) (hn : n ≤ s.length) (hf : b = false → (s.drop n).length < f) (hs1 : s.length ≤ 1000000000)
    (hid : H[id]? = some (r5B data s n b)) (K : Kt) (hK : ∀ (vs : List IT) n' b', Ok5 b (prA (prI data f) ts true (s.drop n)) s vs n' b' → K (.sl (IT.css vs) .none) (H.set id (r5B data s n' b'))) :
    ACalls Tryz.prog n_zq121 [.ptr id 0, .sl (VT.css ts) .none] H K := by
  refine ACalls.out (zq121_ok fun hs => ?_)
  have hl1 := lt_get hid
  unfold zq121
  unfold zq121_l3
  refine ALoop.own 5 e_api_Index 2 rfl ?_
  show zq121_l3 (.ptr id 0) (.sl (VT.css ts) .none) (.sl [] (.own H.length)) (.int .i64 0) _ (Out H.length K)
  have hsc1 : ∀ n b, HSc (H.set id (r5B data s n b)) := fun n b => hs.set (r5B_sc _ _ _ _ _)
  have hX0 : ∀ n b (J : Heap), (H.set id (r5B data s n b) ++ J)[id]? = some (r5B data s n b) := fun n b J => by simp [List.getElem?_append, hl1]
  have hX0' : ∀ n b (J : Heap), (H.set id (r5B data s n b) ++ J)[id]? = some (.cells [.sl (data.map Dat.cs) .none, .str s, .int .i64 n, .bool b]) := hX0
  have hO : ∀ (vs : List IT) n' b', Ok5 b (prA (prI data f) ts true (s.drop n)) s vs n' b' → ∀ J, Out H.length K (.sl (IT.css vs) (.own H.length)) (H.set id (r5B data s n' b') ++ J) := fun vs n' b' h J =>
    Out.at rfl (by simp) (hsc1 _ _) (slV (n := 0)).1 rfl rfl (hK vs n' b' h)
  refine zq121_loop3 (Inv := fun q t5 t6 H' => ∃ (i : Nat) (vs : List IT) (n2 : Nat) (b2 : Bool), i ≤ ts.length ∧ vs.length = i ∧ q = ts.length - i ∧ t6 = .int .i64 i ∧ t5 = .sl (IT.css vs) (.own H.length) ∧ n2 ≤ s.length ∧
    (b2 = false → b = false ∧ (s.drop n2).length ≤ (s.drop n).length ∧ prA (prI data f) ts true (s.drop n) = (prA (prI data f) (ts.drop i) (i == 0) (s.drop n2)).map fun x => (vs ++ x.1, x.2)) ∧ (b2 = true → b = true ∨ prA (prI data f) ts true (s.drop n) = none) ∧
    H' = H.set id (r5B data s n2 b2) ++ [.perm e_api_Index 2 i]) ts.length ?_ ?_
  · intro _
    exact ⟨0, [], n, b, by omega, rfl, by omega, rfl, rfl, hn, fun h => ⟨h, Nat.le_refl _, by simp⟩, fun h => .inl h, by rw [set_same hid]⟩
  · rintro q t5 t6 H' ⟨i, vs, n2, b2, hi, hvl, rfl, rfl, rfl, hn2, hb2, hb2', rfl⟩ hsc' hlen' hsF Kb hKb
    have hcl : (IT.css vs).length = i := by rw [IT.css_map]; simpa using hvl
    cases b2 with
    | true =>
      have hend := hO vs n2 true ⟨hn2, (fun h => by cases h), hb2'⟩ [.perm e_api_Index 2 i]
      by_cases hlt : i < ts.length
      · simp [zq121_b3, hlt, hX0']
        exact hend
      · simp [zq121_b3, hlt, hX0']
        exact hend
    | false =>
      obtain ⟨hb, hle, hpr⟩ := hb2 rfl
      by_cases hlt : i < ts.length
      · have hti := htn _ (List.getElem_mem hlt)
        obtain ⟨x, y, z, hvx, hx, hy, hz⟩ := vt3' ts[i]
        rw [List.drop_eq_getElem_cons hlt] at hpr
        have hnext : ∀ n3 b3, n3 ≤ s.length → (b3 = false → (if (i == 0) then some (s.drop n2) else cut [44, 32] (s.drop n2)) = some (s.drop n3) ∧ (s.drop n3).length ≤ (s.drop n2).length) →
            (b3 = true → (if (i == 0) then some (s.drop n2) else cut [44, 32] (s.drop n2)) = none) →
            zq121_j1 (.ptr id 0) (.sl (VT.css ts) .none) (.sl (IT.css vs) (.own H.length)) (.int .i64 i) (H.set id (r5B data s n3 b3) ++ [.perm e_api_Index 2 i]) (Out H.length K) Kb := by
          intro n3 b3 hn3 h1 h2
          simp [zq121_j1, hlt]
          refine hel ts[i] hti _ id s n3 b3 hn3 (fun h => by have := (h1 h).2; have := hf hb; omega) hs1 (hX0 _ _ _) _ fun v n4 b4 ⟨hn4, h3, h4⟩ => ?_
          rw [buildS_it, List.set_append_left _ _ (by simpa using hl1), List.set_set]
          have hc2 : v.cs.length = 2 := by obtain ⟨n, ks⟩ := v; rfl
          simp [aAppend, aSrc, aAppTo, hcl, hc2, List.set_append_right, List.set_append]
          refine ⟨by omega, ?_⟩
          rw [wrap_in (by omega) (by omega)]
          refine hKb _ _ ⟨ts.length - (i + 1), by omega, Back.at (J := []) (H2 := H.set id (r5B data s n4 b4) ++ [.perm e_api_Index 2 (i + 1)]) (by simp) (by simp) ((hsc1 _ _).append (by simp [AB.sc, AV.scA, AV.scB])) ?_ ⟨_, _, rfl, i + 1, vs ++ [v], n4, b4, by omega, by simp [hvl], rfl, by simp, by rw [css_snoc], hn4, fun h => ?_, fun h => .inr ?_, rfl⟩⟩
          · simp [zq121_fr3, AV.sc, AV.scV, AV.scA, AV.scB]
            try omega
          · obtain ⟨h5, h6⟩ := h3 h
            obtain ⟨h7, h8⟩ := h1 h5
            have hle2 := (prI_sound f _ _ _ _ h6).2
            refine ⟨hb, by omega, ?_⟩
            rw [hpr, prA_step _ h7 h6]
            have e0 : (i + 1 == 0) = false := by simp
            rw [e0]
            cases prA (prI data f) (ts.drop (i + 1)) false (s.drop n4) <;> simp
          · rw [hpr, prA]
            rcases h4 h with h5 | h5
            · rw [h2 h5]
              rfl
            · cases b3 with
              | true => rw [h2 rfl]; rfl
              | false =>
                rw [(h1 rfl).1]
                simp only [h5]
                rfl
        by_cases h0 : i = 0
        · have h1 : ¬ (0 : Int) < i := by omega
          simp [zq121_b3, hlt, hX0', h1, show ¬ 0 < i by omega]
          exact hnext n2 false hn2 (fun _ => ⟨by simp [h0], Nat.le_refl _⟩) fun h => by cases h
        · have h1 : (0 : Int) < i := by omega
          have hz : (i == 0) = false := by simpa using h0
          simp [zq121_b3, hlt, hX0', h1, show 0 < i by omega]
          refine r5_need [44, 32] s n2 hn2 hs1 (by simp) (hX0 _ _ _) _ fun n3 b3 hn3 h2 h3 => ?_
          rw [List.set_append_left _ _ (by simpa using hl1), List.set_set]
          refine hnext n3 b3 hn3 (fun h => ?_) fun h => ?_
          · obtain ⟨_, h4, h5⟩ := h2 h
            rw [hz]
            exact ⟨by simpa using h4, by simp; omega⟩
          · rw [hz]
            rcases h3 h with h4 | h4
            · cases h4
            · simpa using h4
      · obtain rfl : i = ts.length := by omega
        simp [zq121_b3]
        refine hO vs n2 false ⟨hn2, fun _ => ⟨hb, ?_⟩, fun h => by cases h⟩ _
        rw [hpr, List.drop_length, prA]
        simp
theorem r5_list_bad {data : List Dat} (ts : List VT) (htl : ts.length ≤ 1000) (H : Heap) (id : Nat) (s : List UInt8) (n : Nat) (hid : H[id]? = some (r5B data s n true)) (K : Kt) (hK : K (.sl [] .none) H) :
    ACalls Tryz.prog n_zq121 [.ptr id 0, .sl (VT.css ts) .none] H K := by
  refine ACalls.out (zq121_ok fun hs => ?_)
  have h0 : H[id]? = some (.cells [.sl (data.map Dat.cs) .none, .str s, .int .i64 n, .bool true]) := hid
  unfold zq121
  refine zq121_loop3 (Inv := fun q t5 t6 H' => t5 = .snil ∧ t6 = .int .i64 0 ∧ H' = H) 0 ?_ ?_
  · intro _; exact ⟨rfl, rfl, rfl⟩
  · rintro q t5 t6 H' ⟨rfl, rfl, rfl⟩ hsc' hlen' hsF Kb hKb
    have hO : Out H'.length K .snil H' := by
      have := Out.at (J := []) (H2 := H') (a := .snil) rfl (Nat.le_refl _) hs (snilV (n := 0)).1 rfl rfl hK
      simpa using this
    by_cases hlt : 0 < ts.length
    · have hlt' : (0 : Int) < ts.length := by omega
      simp [zq121_b3, hlt, hlt', h0]
      exact hO
    · have hlt' : ¬ (0 : Int) < ts.length := by omega
      simp [zq121_b3, hlt, hlt', h0]
      exact hO
theorem r5_arr {data : List Dat} (tn : Int) (tks : List VT) (s : List UInt8) (n : Nat) (b : Bool) (hn : n ≤ s.length) (hs1 : s.length ≤ 1000000000) {H : Heap} {id : Nat} (hs : HSc H) (hid : H[id]? = some (r5B data s n b)) (K : Kt)
    (h1 : ∀ hlt : n < s.length, bDig s[n] = true → K (.agg (IT.mk ((s[n].toNat : Int) - 48) []).cs) (H.set id (r5B data s (n + 1) b))) (h2 : (∀ hlt : n < s.length, bDig s[n] = false) → K (.agg (IT.mk 0 []).cs) (H.set id (r5B data s n true))) :
    zq70 (.ptr id 0) (.agg (VT.mk 7 tn tks).cs) H (Out H.length K) := by
  have hl1 := lt_get hid
  have hsc1 : ∀ n b, HSc (H.set id (r5B data s n b)) := fun n b => hs.set (r5B_sc _ _ _ _ _)
  have hX' : ∀ J : Heap, (H ++ J)[id]? = some (.cells [.sl (data.map Dat.cs) .none, .str s, .int .i64 n, .bool b]) := fun J => by rw [List.getElem?_append_left hl1]; exact hid
  have hX0' : ∀ n b (J : Heap), (H.set id (r5B data s n b) ++ J)[id]? = some (.cells [.sl (data.map Dat.cs) .none, .str s, .int .i64 n, .bool b]) := fun n b J => by simp [List.getElem?_append, hl1, r5B]
  have hO : ∀ (m : Int) n' b' (J : Heap), K (.agg (IT.mk m []).cs) (H.set id (r5B data s n' b')) → Out H.length K (.agg [.int .i64 m, .snil]) (H.set id (r5B data s n' b') ++ J) := fun m n' b' J h =>
    Out.at (H2 := H.set id (r5B data s n' b')) (b := .agg [.int .i64 m, .sl (IT.css []) .none]) rfl (by simp) (hsc1 _ _) (.agg ⟨.refl _, .snil, trivial⟩) rfl (by simp [AV.scV, AV.scA, AV.scB]) (by simpa [IT.cs] using h)
  have e1 : ∀ m (b : Bool), AB.cells [AV.sl (List.map Dat.cs data) Tok.none, AV.str s, AV.int IntKind.i64 ((m : Nat) : Int), AV.bool b] = r5B data s m b := fun _ _ => rfl
  have e2 : AB.cells [AV.sl (List.map Dat.cs data) Tok.none, AV.str s, AV.int IntKind.i64 ((n : Int) + 1), AV.bool b] = r5B data s (n + 1) b := by simp [r5B]
  by_cases hlt : n < s.length
  · have hge : ¬ (s.length : Int) ≤ n := by omega
    have h1 := h1 hlt
    have w1 : IntKind.i64.wrap ((n : Int) + 1) = n + 1 := wrap_in (by omega) (by omega)
    cases c1 : decide ((s[n].toNat : Int) < 48) with
    | true =>
      have hnd : bDig s[n] = false := by
        have := of_decide_eq_true c1
        simp only [bDig, Bool.and_eq_false_iff, decide_eq_false_iff_not]
        omega
      have h2 := h2 fun _ => hnd
      simp [zq70, VT.cs, Nat.add_assoc, aBuild, fillA, AV.known, hX', hlt, hge, c1]
      refine zq70_j3_ok fun _ => ?_
      simp [zq70_j3b, VT.cs, Nat.add_assoc, aBuild, fillA, AV.known, hX', hlt, hge, c1]
      simp [AV.known, List.getElem?_append, List.set_append, hl1, Nat.add_assoc, e1]
      exact hO 0 n true _ h2
    | false =>
      cases c2 : decide (57 < (s[n].toNat : Int)) with
      | true =>
        have hnd : bDig s[n] = false := by
          have := of_decide_eq_true c2
          simp only [bDig, Bool.and_eq_false_iff, decide_eq_false_iff_not]
          omega
        have h2 := h2 fun _ => hnd
        simp [zq70, VT.cs, Nat.add_assoc, aBuild, fillA, AV.known, hX', hlt, hge, c1, c2]
        refine zq70_j3_ok fun _ => ?_
        simp [zq70_j3b, VT.cs, Nat.add_assoc, aBuild, fillA, AV.known, hX', hlt, hge, c1, c2]
        simp [AV.known, List.getElem?_append, List.set_append, hl1, Nat.add_assoc, e1]
        exact hO 0 n true _ h2
      | false =>
        have g1 := of_decide_eq_false c1
        have g2 := of_decide_eq_false c2
        have hd : bDig s[n] = true := by
          simp only [bDig, Bool.and_eq_true, decide_eq_true_eq]
          omega
        have w2 : IntKind.u8.wrap ((s[n].toNat : Int) - 48) = (s[n].toNat : Int) - 48 := by
          have : ∀ k : Nat, k < 10 → IntKind.u8.wrap (k : Int) = k := by decide
          have h3 := this (s[n].toNat - 48) (by omega)
          rw [show ((s[n].toNat - 48 : Nat) : Int) = (s[n].toNat : Int) - 48 by omega] at h3
          exact h3
        have w3 : IntKind.i64.wrap ((s[n].toNat : Int) - 48) = (s[n].toNat : Int) - 48 := wrap_in (by omega) (by omega)
        simp [zq70, VT.cs, Nat.add_assoc, aBuild, fillA, AV.known, hX', hlt, hge, c1, c2, w1, w2, w3, aConv]
        refine zq70_j3_ok fun _ => ?_
        simp [zq70_j3b, VT.cs, Nat.add_assoc, aBuild, fillA, AV.known, hX', hlt, hge, c1, c2, w1, w2, w3, aConv]
        simp [AV.known, List.getElem?_append, List.set_append, hl1, Nat.add_assoc, w1, w2, w3, aConv, e1, e2, zq70_j1, zq70_j2]
        exact hO _ (n + 1) b _ (h1 hd)
  · have hge : (s.length : Int) ≤ n := by omega
    have h2 := h2 fun h => absurd h hlt
    simp [zq70, VT.cs, Nat.add_assoc, aBuild, fillA, AV.known, hX', hlt, hge, show s.length ≤ n by omega]
    refine zq70_j3_ok fun _ => ?_
    simp [zq70_j3b, VT.cs, Nat.add_assoc, aBuild, fillA, AV.known, hX', hlt, hge, show s.length ≤ n by omega]
    simp [AV.known, List.getElem?_append, List.set_append, hl1, Nat.add_assoc, e1]
    exact hO 0 n true _ h2
theorem r5_index_bad {data : List Dat} (t : VT) (htn : t.nodes ≤ 1000) (H : Heap) (id : Nat) (s : List UInt8) (n : Nat) (hn : n ≤ s.length) (hs1 : s.length ≤ 1000000000) (hid : H[id]? = some (r5B data s n true)) (K : Kt)
    (hK : ∀ (v : IT) n', n' ≤ s.length → K (.agg v.cs) (H.set id (r5B data s n' true))) : ACalls Tryz.prog n_zq70 [.ptr id 0, .agg t.cs] H K := by
  refine ACalls.out (zq70_ok fun hs => ?_)
  obtain ⟨tk, tn, tks⟩ := t
  have hl1 := lt_get hid
  have hsc1 : ∀ n b, HSc (H.set id (r5B data s n b)) := fun n b => hs.set (r5B_sc _ _ _ _ _)
  have hX : ∀ J : Heap, (H ++ J)[id]? = some (r5B data s n true) := fun J => by rw [List.getElem?_append_left hl1]; exact hid
  have hX0 : ∀ n b (J : Heap), (H.set id (r5B data s n b) ++ J)[id]? = some (r5B data s n b) := fun n b J => by simp [List.getElem?_append, hl1]
  have hX0' : ∀ n b (J : Heap), (H.set id (r5B data s n b) ++ J)[id]? = some (.cells [.sl (data.map Dat.cs) .none, .str s, .int .i64 n, .bool b]) := hX0
  have hX' : ∀ J : Heap, (H ++ J)[id]? = some (.cells [.sl (data.map Dat.cs) .none, .str s, .int .i64 n, .bool true]) := hX
  have hset : ∀ b J, (H ++ J).set id b = H.set id b ++ J := fun b J => List.set_append_left _ _ hl1
  have hO0 : ∀ (m : Int) n' (J : Heap), n' ≤ s.length → Out H.length K (.agg [.int .i64 m, .snil]) (H.set id (r5B data s n' true) ++ J) := fun m n' J h =>
    Out.at (H2 := H.set id (r5B data s n' true)) (b := .agg [.int .i64 m, .sl (IT.css []) .none]) rfl (by simp) (hsc1 _ _) (.agg ⟨.refl _, .snil, trivial⟩) rfl (by simp [AV.scV, AV.scA, AV.scB])
      (by simpa [IT.cs] using hK (.mk m []) n' h)
  have hO1 : ∀ n' (J : Heap), n' ≤ s.length → Out H.length K (.agg [.int .i64 0, .sl [] .none]) (H.set id (r5B data s n' true) ++ J) := fun n' J h =>
    Out.at (H2 := H.set id (r5B data s n' true)) (b := .agg [.int .i64 0, .sl (IT.css []) .none]) rfl (by simp) (hsc1 _ _) .rfl' rfl (by simp [AV.scV, AV.scA, AV.scB])
      (by simpa [IT.cs] using hK (.mk 0 []) n' h)
  have hid2 : H.set id (r5B data s n true) = H := set_same hid
  by_cases h6 : tk = 6
  · subst h6
    simp [zq70, VT.cs, Nat.add_assoc, aBuild, fillA, AV.known]
    refine r5_need [40] s n hn hs1 (by simp) (hX _) _ fun n1 b1 hn1 h1 h2 => ?_
    cases b1 with
    | false => exact absurd (h1 rfl).1 (by simp)
    | true =>
      rw [hset]
      have htl : tks.length ≤ 1000 := by
        have := VT.len_le tks
        simp [VT.nodes] at htn
        omega
      simp [List.getElem?_append, hl1]
      refine r5_list_bad tks htl _ id s n1 (hX0 _ _ _) _ ?_
      simp [AV.known, List.set_append, hl1, List.getElem?_append, Nat.add_assoc]
      refine r5_need [41] s n1 hn1 hs1 (by simp) (hX0 _ _ _) _ fun n2 b2 hn2 h1 h2 => ?_
      cases b2 with
      | false => exact absurd (h1 rfl).1 (by simp)
      | true =>
        simp [zq70_j1, zq70_j2, AV.known, List.set_append, hl1, List.getElem?_append, Nat.add_assoc]
        exact hO1 n2 _ hn2
  have h6' : (tk == 6) = false := by simp [h6]
  by_cases h7 : tk = 7
  · subst h7
    refine r5_arr tn tks s n true hn hs1 hs hid _ (fun hlt hd => ?_) fun _ => hK (.mk 0 []) n hn
    exact hK _ _ (by omega)
  have h7' : (tk == 7) = false := by simp [h7]
  by_cases h5 : tk = 5
  · subst h5
    simp [zq70, VT.cs, Nat.add_assoc, aBuild, fillA, AV.known]
    refine zq70_j3_ok fun _ => ?_
    simp [zq70_j3b, VT.cs, Nat.add_assoc, aBuild, fillA, AV.known]
    refine r5_need [91] s n hn hs1 (by simp) (hX _) _ fun n1 b1 hn1 h1 h2 => ?_
    cases b1 with
    | false => exact absurd (h1 rfl).1 (by simp)
    | true =>
      rw [hset]
      refine r5_take [93] s n1 hn1 hs1 (by simp) (hX0 _ _ _) _ (fun h => by cases h) fun _ => ?_
      simp
      refine zq70_loop19 (Inv := fun q t6 H' => t6 = .int .i64 0 ∧ H' = H.set id (r5B data s n1 true) ++ [AB.cells [.int .i64 5, .int .i64 tn, .sl (VT.css tks) .none], .cells [.int .i64 0, .snil], .cells [.int .i64 0, .snil]]) 0 ?_ ?_
      · intro _; exact ⟨rfl, rfl⟩
      · rintro q t6 H' ⟨rfl, rfl⟩ hsc' hlen' hsF Kb hKb
        simp [zq70_b19, hX0', zq70_j1, zq70_j2, AV.known, List.set_append, hl1, List.getElem?_append, Nat.add_assoc]
        exact hO0 0 n1 _ hn1
  have h5' : (tk == 5) = false := by simp [h5]
  simp [zq70, VT.cs, Nat.add_assoc, aBuild, fillA, AV.known, h6', h7', h5']
  refine zq70_j3_ok fun _ => ?_
  simp [zq70_j3b, VT.cs, Nat.add_assoc, aBuild, fillA, AV.known, h6', h7', h5']
  refine r5_need [42] s n hn hs1 (by simp) (hX _) _ fun n1 b1 hn1 h1 h2 => ?_
  cases b1 with
  | false => exact absurd (h1 rfl).1 (by simp)
  | true =>
    rw [hset]
    simp [zq70_j1, zq70_j2, AV.known, List.set_append, hl1, List.getElem?_append, Nat.add_assoc]
    exact hO0 0 n1 _ hn1
end Go.Proofs.YtfpmdpldabopjaaGreatDoor
namespace Go.Proofs.YtfpmdpldabopjaaGreatDoor
open Go Go.Abs
set_option linter.unusedSimpArgs false
set_option linter.unusedVariables false
set_option maxRecDepth 8000
theorem AWp.reCell {P : Program} {c : Code} {Q : AExit → List AV → Heap → Prop} {F : List AV} {H : Heap} {id : Nat} {cs : List AV} (cs' : List AV) (hid : H[id]? = some (.cells cs)) (hw : All2 WkA cs cs') (h : AWp P c Q F (H.set id (.cells cs'))) : AWp P c Q F H := by
  intro B w G a hH hF hd
  refine h B w G a (hH.reCell hid fun vs hv => ?_) hF hd
  clear h hid hH hF
  induction cs generalizing cs' vs with
  | nil => cases cs' with
    | nil => exact hv
    | cons _ _ => exact hw.elim
  | cons x cs ih => cases cs' with
    | nil => exact hw.elim
    | cons x' cs' => cases vs with
      | nil => exact hv.elim
      | cons v vs => exact ⟨hw.1.arel hv.1, ih cs' hw.2 vs hv.2⟩
theorem drop_while_eq (g : UInt8 → Bool) (s : List UInt8) : s.dropWhile g = s.drop (s.takeWhile g).length := by
  have h : s.takeWhile g ++ s.dropWhile g = s := List.takeWhile_append_dropWhile
  have h2 : (s.takeWhile g ++ s.dropWhile g).drop (s.takeWhile g).length = s.dropWhile g := List.drop_left
  rw [← h2]
  exact congrArg (List.drop (s.takeWhile g).length) h
def midR (rd : VT → List UInt8 → Option (IT × List UInt8)) (ps : List VT) (s : List UInt8) : Option (List IT × List UInt8) := if ps.length = 0 then some ([], s) else prP rd ps s
theorem prE_step {rd : VT → List UInt8 → Option (IT × List UInt8)} {data : List Dat} {t : VT} (k : Nat) {s : List UInt8} {c : Int} {ps : List VT} (h : look data t (s.takeWhile bIn) = some (c, ps)) : prE rd data t (k + 1) s = match midR rd ps (s.dropWhile bIn) with
    | none => none
    | some (ks, s2) => match cut [93] s2 with
      | some r => some ([.mk c ks], r)
      | none => match cut [44, 32] s2 with
        | none => none
        | some s3 => match prE rd data t k s3 with
          | none => none
          | some (l, r) => some (.mk c ks :: l, r) := by
  rw [prE]
  simp only [h]
  rfl
theorem mid_len {data : List Dat} {rd : VT → List UInt8 → Option (IT × List UInt8)} (hrd : RdS data rd) {ps : List VT} {s r : List UInt8} {ks : List IT} (h : midR rd ps s = some (ks, r)) : r.length ≤ s.length := by
  unfold midR at h
  split at h
  · simp only [Option.some.injEq, Prod.mk.injEq] at h
    rw [h.2]
    exact Nat.le_refl _
  · have := (prP_sound hrd _ _ _ _ h).2.2
    omega
theorem r5_index {data : List Dat} (hk : KData data) : ∀ (f : Nat), RdR data f := by
  intro f
  induction f with
  | zero =>
    intro t htn H id s n b hn hf hs1 hid K hK
    cases b with
    | false => have := hf rfl; omega
    | true => exact r5_index_bad t htn H id s n hn hs1 hid K fun v n' h => hK v n' true ⟨h, (fun h => by cases h), fun _ => .inl rfl⟩
  | succ f ih =>
    intro t htn H id s n b hn hf hs1 hid K hK
    cases b with
    | true => exact r5_index_bad t htn H id s n hn hs1 hid K fun v n' h => hK v n' true ⟨h, (fun h => by cases h), fun _ => .inl rfl⟩
    | false =>
      have hf := hf rfl
      refine ACalls.out (zq70_ok fun hs => ?_)
      obtain ⟨tk, tn, tks⟩ := t
      rw [prI_mk] at hK
      have hl1 := lt_get hid
      have hsc1 : ∀ n b, HSc (H.set id (r5B data s n b)) := fun n b => hs.set (r5B_sc _ _ _ _ _)
      have hX : ∀ J : Heap, (H ++ J)[id]? = some (r5B data s n false) := fun J => by rw [List.getElem?_append_left hl1]; exact hid
      have hX0 : ∀ n b (J : Heap), (H.set id (r5B data s n b) ++ J)[id]? = some (r5B data s n b) := fun n b J => by simp [List.getElem?_append, hl1]
      have hX0' : ∀ n b (J : Heap), (H.set id (r5B data s n b) ++ J)[id]? = some (.cells [.sl (data.map Dat.cs) .none, .str s, .int .i64 n, .bool b]) := hX0
      have hset : ∀ b J, (H ++ J).set id b = H.set id b ++ J := fun b J => List.set_append_left _ _ hl1
      have hsetX : ∀ n b x (J : Heap), (H.set id (r5B data s n b) ++ J).set id x = H.set id x ++ J := fun n b x J => by rw [List.set_append_left _ _ (by simpa using hl1), List.set_set]
      have hO : ∀ (m : Int) (vs : List IT) n' b' (t : Tok), K (.agg (IT.mk m vs).cs) (H.set id (r5B data s n' b')) → ∀ J, Out H.length K (.agg [.int .i64 m, .sl (IT.css vs) t]) (H.set id (r5B data s n' b') ++ J) := fun m vs n' b' t h J =>
        Out.at (H2 := H.set id (r5B data s n' b')) (b := .agg [.int .i64 m, .sl (IT.css vs) .none]) rfl (by simp) (hsc1 _ _) (.agg ⟨.refl _, .sl _ _, trivial⟩) rfl (by simp [AV.scV, AV.scA, AV.scB]) (by simpa [IT.cs] using h)
      have hO0 : ∀ n' b', K (.agg (IT.mk 0 []).cs) (H.set id (r5B data s n' b')) → ∀ J, Out H.length K (.agg [.int .i64 0, .snil]) (H.set id (r5B data s n' b') ++ J) := fun n' b' h J =>
        Out.at (H2 := H.set id (r5B data s n' b')) (b := .agg [.int .i64 0, .sl (IT.css []) .none]) rfl (by simp) (hsc1 _ _) (.agg ⟨.refl _, .snil, trivial⟩) rfl (by simp [AV.scV, AV.scA, AV.scB]) (by simpa [IT.cs] using h)
      by_cases h6 : tk = 6
      · subst h6
        rw [if_pos rfl] at hK
        unfold prP at hK
        simp [zq70, VT.cs, Nat.add_assoc, aBuild, fillA, AV.known]
        refine r5_need [40] s n hn hs1 (by simp) (hX _) _ fun n1 b1 hn1 h1 h2 => ?_
        rw [hset]
        have htl : tks.length ≤ 1000 := by
          have := VT.len_le tks
          simp [VT.nodes] at htn
          omega
        have htk : ∀ t ∈ tks, t.nodes ≤ 1000 := fun t htm => by
          obtain ⟨i, hi, rfl⟩ := List.getElem_of_mem htm
          have := VT.kid_lt (k := 6) (n := tn) hi
          omega
        simp [List.getElem?_append, hl1]
        refine r5_list ih tks htl htk _ id s n1 b1 hn1 (fun h => by have := (h1 h).2.2; simp at this hf ⊢; omega) hs1 (hX0 _ _ _) _ fun vs n2 b2 ⟨hn2, h3, h4⟩ => ?_
        rw [hsetX]
        simp [AV.known, List.set_append, hl1, List.getElem?_append, Nat.add_assoc]
        refine r5_need [41] s n2 hn2 hs1 (by simp) (hX0 _ _ _) _ fun n3 b3 hn3 h5 h6 => ?_
        rw [hsetX]
        simp [zq70_j1, zq70_j2, AV.known, List.set_append, hl1, List.getElem?_append, Nat.add_assoc]
        refine hO 0 vs n3 b3 .none (hK _ _ _ ⟨hn3, fun h => ⟨rfl, ?_⟩, fun h => .inr ?_⟩) _
        · obtain ⟨g1, g2, _⟩ := h5 h
          obtain ⟨g3, g4⟩ := h3 g1
          obtain ⟨_, g5, _⟩ := h1 g3
          simp only [g5, g4, g2]
        · cases b1 with
          | true =>
            rcases h2 rfl with g | g
            · cases g
            · simp only [g]
          | false =>
            obtain ⟨_, g5, _⟩ := h1 rfl
            cases b2 with
            | true =>
              rcases h4 rfl with g | g
              · cases g
              · simp only [g5, g]
            | false =>
              obtain ⟨_, g4⟩ := h3 rfl
              rcases h6 h with g | g
              · cases g
              · simp only [g5, g4, g]
      have h6' : (tk == 6) = false := by simp [h6]
      rw [if_neg h6] at hK
      by_cases h7 : tk = 7
      · subst h7
        rw [if_pos rfl] at hK
        refine r5_arr tn tks s n false hn hs1 hs hid _ (fun hlt hd => ?_) fun hno => ?_
        · refine hK _ _ _ ⟨by omega, fun _ => ⟨rfl, ?_⟩, fun h => by cases h⟩
          rw [List.drop_eq_getElem_cons hlt]
          simp only [hd, if_true]
        · refine hK _ _ _ ⟨hn, (fun h => by cases h), fun _ => .inr ?_⟩
          by_cases hlt : n < s.length
          · rw [List.drop_eq_getElem_cons hlt]
            simp only [hno hlt, Bool.false_eq_true, if_false]
          · have : s.drop n = [] := by simp; omega
            rw [this]
      have h7' : (tk == 7) = false := by simp [h7]
      rw [if_neg h7] at hK
      by_cases h5 : tk = 5
      case neg =>
        have h5' : (tk == 5) = false := by simp [h5]
        rw [if_neg h5] at hK
        simp [zq70, VT.cs, Nat.add_assoc, aBuild, fillA, AV.known, h6', h7', h5']
        refine zq70_j3_ok fun _ => ?_
        simp [zq70_j3b, VT.cs, Nat.add_assoc, aBuild, fillA, AV.known, h6', h7', h5']
        refine r5_need [42] s n hn hs1 (by simp) (hX _) _ fun n1 b1 hn1 h1 h2 => ?_
        rw [hset]
        simp [zq70_j1, zq70_j2, AV.known, List.set_append, hl1, List.getElem?_append, Nat.add_assoc]
        refine hO0 n1 b1 (hK _ _ _ ⟨hn1, fun h => ⟨rfl, ?_⟩, fun h => .inr ?_⟩) _
        · simp only [(h1 h).2.1]
        · rcases h2 h with g | g
          · cases g
          · simp only [g]
      subst h5
      rw [if_pos rfl] at hK
      have hT' : (VT.mk 5 tn tks).cs = [.int .i64 5, .int .i64 tn, .sl (VT.css tks) .none] := rfl
      simp [zq70, VT.cs, Nat.add_assoc, aBuild, fillA, AV.known]
      refine zq70_j3_ok fun _ => ?_
      simp [zq70_j3b, VT.cs, Nat.add_assoc, aBuild, fillA, AV.known]
      refine r5_need [91] s n hn hs1 (by simp) (hX _) _ fun n1 b1 hn1 h1 h2 => ?_
      rw [hset]
      refine r5_take [93] s n1 hn1 hs1 (by simp) (hX0 _ _ _) _ (fun hb hl hc => ?_) fun hc => ?_
      · rw [hsetX]
        simp [AV.known, List.set_append, hl1, List.getElem?_append, Nat.add_assoc]
        refine hO0 _ _ (hK _ _ _ ⟨by simpa using hl, fun h => ⟨rfl, ?_⟩, (fun h => by cases h)⟩) _
        simp only [(h1 hb).2.1, hc]
        rfl
      simp
      -- what is left to be read
      have hK2 : ∀ (l : List IT) n' b', n' ≤ s.length → (b' = false → b1 = false ∧ prE (prI data f) data (.mk 5 tn tks) 7 (s.drop n1) = some (l, s.drop n')) → (b' = true → b1 = true ∨ prE (prI data f) data (.mk 5 tn tks) 7 (s.drop n1) = none) → K (.agg (IT.mk 0 l).cs) (H.set id (r5B data s n' b')) := by
        intro l n' b' g1 g2 g3
        refine hK _ _ _ ⟨g1, fun h => ⟨rfl, ?_⟩, fun h => .inr ?_⟩
        · obtain ⟨g4, g5⟩ := g2 h
          rcases hc with hc | hc
          · rw [hc] at g4; cases g4
          · simp only [(h1 g4).2.1, hc, g5]
        · cases b1 with
          | true =>
            rcases h2 rfl with g | g
            · cases g
            · simp only [g]
          | false =>
            rcases hc with hc | hc
            · cases hc
            · rcases g3 h with g | g
              · cases g
              · simp only [(h1 rfl).2.1, hc, g]
      have hf1 : b1 = false → (s.drop n1).length < f := fun h => by have := (h1 h).2.2; simp at this hf ⊢; omega
      unfold zq70_l19
      refine ALoop.ownC (H.length + 2) 1 e_api_Index 2 (cs := [.int .i64 0, .snil]) (by simp [List.set_append, hl1, List.getElem?_append]) rfl ?_
      have hset2 : (H.set id (r5B data s n1 b1) ++ [AB.cells [.int .i64 5, .int .i64 tn, .sl (VT.css tks) .none], .cells [.int .i64 0, .snil], .cells [.int .i64 0, .snil]]).set (H.length + 2) (.cells ([AV.int .i64 0, .snil].set 1 (.sl [] (.own (H.set id (r5B data s n1 b1) ++ [AB.cells [.int .i64 5, .int .i64 tn, .sl (VT.css tks) .none], .cells [.int .i64 0, .snil], .cells [.int .i64 0, .snil]]).length)))) ++ [.perm e_api_Index 2 0] =
          H.set id (r5B data s n1 b1) ++ [AB.cells [.int .i64 5, .int .i64 tn, .sl (VT.css tks) .none], .cells [.int .i64 0, .snil], .cells [.int .i64 0, .sl [] (.own (H.length + 3))], .perm e_api_Index 2 0] := by
        simp [List.set_append, hl1]
      rw [hset2]
      show zq70_l19 (.ptr id 0) (.ptr H.length 0) (.ptr (H.length + 1) 0) (.ptr (H.length + 2) 0) (.int .i64 0) _ (Out H.length K)
      refine zq70_loop19 (Inv := fun q t6 H' => ∃ (i : Nat) (vs : List IT) (n2 : Nat) (b2 : Bool), vs.length = i ∧ i ≤ 7 ∧ q = 7 - i ∧ t6 = .int .i64 i ∧ n2 ≤ s.length ∧
        (b2 = false → b1 = false ∧ (s.drop n2).length ≤ (s.drop n1).length ∧ prE (prI data f) data (.mk 5 tn tks) 7 (s.drop n1) = (prE (prI data f) data (.mk 5 tn tks) (7 - i) (s.drop n2)).map fun x => (vs ++ x.1, x.2)) ∧
        (b2 = true → b1 = true ∨ prE (prI data f) data (.mk 5 tn tks) 7 (s.drop n1) = none) ∧
        H' = H.set id (r5B data s n2 b2) ++ [AB.cells [.int .i64 5, .int .i64 tn, .sl (VT.css tks) .none], .cells [.int .i64 0, .snil], .cells [.int .i64 0, .sl (IT.css vs) (.own (H.length + 3))], .perm e_api_Index 2 i]) 7 ?_ ?_
      · intro _
        exact ⟨0, [], n1, b1, rfl, by omega, rfl, rfl, hn1, fun h => ⟨h, Nat.le_refl _, by simp⟩, fun h => .inl h, by simp [IT.css]⟩
      · rintro q t6 H' ⟨i, vs, n2, b2, hvl, hi7, rfl, rfl, hn2, hb2, hb2', rfl⟩ hsc' hlen hsF Kb hKb
        have hcl : (IT.css vs).length = i := by rw [IT.css_map]; simpa using hvl
        have hfin : ∀ (l : List IT) n' b', n' ≤ s.length → (b' = false → b1 = false ∧ prE (prI data f) data (.mk 5 tn tks) 7 (s.drop n1) = some (l, s.drop n')) → (b' = true → b1 = true ∨ prE (prI data f) data (.mk 5 tn tks) 7 (s.drop n1) = none) → ∀ k J,
            zq70_j1 (.ptr (H.length + 1) 0) (.ptr (H.length + 2) 0) (H.set id (r5B data s n' b') ++ (AB.cells [.int .i64 5, .int .i64 tn, .sl (VT.css tks) .none] :: .cells [.int .i64 0, .snil] :: .cells [.int .i64 0, .sl (IT.css l) (.own (H.length + 3))] :: .perm e_api_Index 2 k :: J)) (Out H.length K) := by
          intro l n' b' g1 g2 g3 k J
          simp [zq70_j1, zq70_j2, AV.known, List.set_append, hl1, List.getElem?_append, Nat.add_assoc]
          exact hO 0 l n' b' _ (hK2 l n' b' g1 g2 g3) _
        have hbad : ∀ n' k J, n' ≤ s.length → (b1 = true ∨ prE (prI data f) data (.mk 5 tn tks) 7 (s.drop n1) = none) →
            zq70_j1 (.ptr (H.length + 1) 0) (.ptr (H.length + 2) 0) (H.set id (r5B data s n' true) ++ (AB.cells [.int .i64 5, .int .i64 tn, .sl (VT.css tks) .none] :: .cells [.int .i64 0, .snil] :: .cells [.int .i64 0, .sl (IT.css vs) (.own (H.length + 3))] :: .perm e_api_Index 2 k :: J)) (Out H.length K) :=
          fun n' k J g1 g2 => hfin vs n' true g1 (fun h => by cases h) (fun _ => g2) k J
        cases b2 with
        | true =>
          simp [zq70_b19, hX0']
          rw [hsetX]
          exact hbad n2 i [] hn2 (hb2' rfl)
        | false =>
          obtain ⟨hb1, hle, hpr⟩ := hb2 rfl
          by_cases hi6 : i ≤ 6
          · have hi6' : (i : Int) ≤ 6 := by omega
            obtain ⟨k, hk1⟩ : ∃ k, 7 - i = k + 1 := ⟨6 - i, by omega⟩
            have hk2 : 7 - (i + 1) = k := by omega
            rw [hk1] at hpr
            simp [zq70_b19, hX0', hi6, hi6']
            generalize hw : (s.drop n2).takeWhile bIn = w at *
            have hdw : (s.drop n2).dropWhile bIn = s.drop (n2 + w.length) := by rw [drop_while_eq, hw, List.drop_drop]
            have hwd : s.drop n2 = w ++ s.drop (n2 + w.length) := by
              have := List.takeWhile_append_dropWhile (p := bIn) (l := s.drop n2)
              rw [hw, hdw] at this
              exact this.symm
            obtain ⟨e, he⟩ : ∃ e, e = n2 + w.length := ⟨_, rfl⟩
            rw [← he] at hdw hwd
            have hwl : e ≤ s.length := by
              have := congrArg List.length hwd
              simp at this
              omega
            have hwin : ∀ b ∈ w, bIn b = true := fun b hb => by rw [← hw] at hb; exact List.all_eq_true.1 List.all_takeWhile b hb
            have hwat : ∀ m, n2 ≤ m → m < e → ∃ h : m < s.length, bIn s[m] = true := fun m h1 h2 => by
              have hj : m - n2 < w.length := by omega
              have h3 : (s.drop n2)[m - n2]? = some w[m - n2] := by rw [hwd, List.getElem?_append_left hj, List.getElem?_eq_getElem hj]
              rw [List.getElem?_drop, show n2 + (m - n2) = m by omega] at h3
              obtain ⟨h4, h5⟩ := List.getElem?_eq_some_iff.1 h3
              exact ⟨h4, by rw [h5]; exact hwin _ (List.getElem_mem hj)⟩
            have hstop : e = s.length ∨ ∃ h : e < s.length, bIn s[e] = false := by
              by_cases h : e < s.length
              · refine .inr ⟨h, ?_⟩
                have h2 := (take_drop_while bIn (s.drop n2)).2 s[e]
                rw [hdw] at h2
                exact h2 (by rw [List.head?_drop, List.getElem?_eq_getElem h])
              · exact .inl (by omega)
            have hcutw : (s.take e).drop n2 = w := by
              rw [List.drop_take, hwd, he]
              simp
            have hnone : look data (.mk 5 tn tks) w = none → prE (prI data f) data (.mk 5 tn tks) 7 (s.drop n1) = none := by
              intro h
              rw [hpr, prE, hw, h]
              rfl
            have hne : n2 ≤ e := by omega
            have hj5 : ∀ (c : Nat) (ps : List VT), look data (.mk 5 tn tks) w = some ((c : Int), ps) → ∀ (ks : List IT) n3 b3, n3 ≤ s.length → (b3 = false → midR (prI data f) ps (s.drop e) = some (ks, s.drop n3)) → (b3 = true → midR (prI data f) ps (s.drop e) = none) →
                zq70_j5 (.ptr id 0) (.ptr H.length 0) (.ptr (H.length + 1) 0) (.ptr (H.length + 2) 0) (.int .i64 i) (.ptr (H.length + 4) 0) (H.set id (r5B data s n3 b3) ++ [AB.cells [.int .i64 5, .int .i64 tn, .sl (VT.css tks) .none], .cells [.int .i64 0, .snil], .cells [.int .i64 0, .sl (IT.css vs) (.own (H.length + 3))], .perm e_api_Index 2 i, .cells [.int .i64 c, .sl (IT.css ks) .none]]) (Out H.length K) Kb := by
              intro c ps hlook ks n3 b3 hn3 g1 g2
              rw [prE_step k (by rw [hw]; exact hlook), hdw] at hpr
              refine zq70_j5_ok fun _ => ?_
              simp [zq70_j5b, List.getElem?_append]
              rw [show (AV.agg [AV.int .i64 (c : Int), .sl (IT.css ks) .none]) = .agg (IT.mk c ks).cs from rfl, buildS_it]
              have hc2 : (IT.mk (c : Int) ks).cs.length = 2 := rfl
              simp [aAppend, aSrc, aAppTo, hcl, hc2, List.set_append, List.getElem?_append]
              rw [← css_snoc]
              refine ⟨⟨by omega, by omega⟩, ?_⟩
              refine r5_take [93] s n3 hn3 hs1 (by simp) (hX0 _ _ _) _ (fun hb hl hc => ?_) fun hc => ?_
              · rw [hsetX]
                simp [AV.known, List.set_append, List.getElem?_append]
                refine hO 0 (vs ++ [.mk c ks]) _ false _ (hK2 _ _ _ (by simpa using hl) (fun _ => ⟨hb1, ?_⟩) fun h => by cases h) _
                rw [hpr, g1 hb]
                simp only [hc]
                rfl
              · simp
                refine r5_need [44, 32] s n3 hn3 hs1 (by simp) (hX0 _ _ _) _ fun n4 b4 hn4 g3 g4 => ?_
                rw [hsetX, wrap_in (by omega) (by omega)]
                refine hKb _ _ ⟨7 - (i + 1), by omega, Back.at (J := [.cells [.int .i64 c, .sl (IT.css ks) .none]]) (H2 := H.set id (r5B data s n4 b4) ++ [AB.cells [.int .i64 5, .int .i64 tn, .sl (VT.css tks) .none], .cells [.int .i64 0, .snil], .cells [.int .i64 0, .sl (IT.css (vs ++ [.mk c ks])) (.own (H.length + 3))], .perm e_api_Index 2 (i + 1)]) (by simp) (by simp) ((hsc1 _ _).append (by simp [AB.sc, AV.scA, AV.scB])) ?_ ⟨_, rfl, i + 1, vs ++ [.mk c ks], n4, b4, by simp [hvl], by omega, rfl, by simp, hn4, fun h => ⟨hb1, ?_, ?_⟩, fun h => .inr ?_, rfl⟩⟩
                · simp [zq70_fr19, AV.sc, AV.scV, AV.scA, AV.scB]
                  try omega
                · obtain ⟨g5, g6, g7⟩ := g3 h
                  have g8 := mid_len (prI_sound f) (g1 g5)
                  simp at g7 g8 hle ⊢
                  omega
                · obtain ⟨g5, g6, g7⟩ := g3 h
                  have hc : cut [93] (s.drop n3) = none := by
                    rcases hc with hc | hc
                    · rw [hc] at g5; cases g5
                    · exact hc
                  rw [hpr, g1 g5, hk2]
                  simp only [hc, g6]
                  cases prE (prI data f) data (.mk 5 tn tks) k (s.drop n4) <;> simp
                · rw [hpr]
                  cases b3 with
                  | true => rw [g2 rfl]; rfl
                  | false =>
                    have hc : cut [93] (s.drop n3) = none := by
                      rcases hc with hc | hc
                      · cases hc
                      · exact hc
                    rcases g4 h with g5 | g5
                    · cases g5
                    · rw [g1 rfl]
                      simp only [hc, g5]
                      rfl
            refine zq70_j4_ok fun _ => ?_
            unfold zq70_j4b
            refine zq70_loop22 (Inv := fun q H' => ∃ m : Nat, n2 ≤ m ∧ m ≤ e ∧ q = e - m ∧
              H' = H.set id (r5B data s m false) ++ [AB.cells [.int .i64 5, .int .i64 tn, .sl (VT.css tks) .none], .cells [.int .i64 0, .snil], .cells [.int .i64 0, .sl (IT.css vs) (.own (H.length + 3))], .perm e_api_Index 2 i]) w.length ?_ ?_
            · intro _; exact ⟨n2, by omega, by omega, by omega, rfl⟩
            · rintro q H' ⟨m, hm1, hm2, rfl, rfl⟩ hsc2 hlen2 hsF2 Kb2 hKb2
              by_cases hjl : m < e
              · obtain ⟨hlt, hin⟩ := hwat m hm1 hjl
                simp [zq70_b22, hX0', hlt]
                refine aPureX_call (.bool (bIn s[m])) (fun J => r5_letter _ _ _ ⟨rfl, rfl⟩) ?_
                rw [hin]
                simp [hX0']
                rw [hsetX, wrap_in (by omega) (by omega)]
                refine hKb2 _ _ ⟨e - (m + 1), by omega, Back.here (H := H.set id (r5B data s (m + 1) false) ++ [AB.cells [.int .i64 5, .int .i64 tn, .sl (VT.css tks) .none], .cells [.int .i64 0, .snil], .cells [.int .i64 0, .sl (IT.css vs) (.own (H.length + 3))], .perm e_api_Index 2 i]) (by simp) ((hsc1 _ _).append (by simp [AB.sc, AV.scA, AV.scB])) ?_ ⟨rfl, m + 1, by omega, by omega, rfl, rfl⟩⟩
                simp [zq70_fr22, AV.sc, AV.scV, AV.scA, AV.scB]
                try omega
              · obtain rfl : m = e := by omega
                rcases hstop with hst | ⟨hlt, hst⟩
                case' inl =>
                  have hge : ¬ m < s.length := by omega
                  simp [zq70_b22, hX0', hge, aSlice, aBound, AV.known, hne, hwl, hcutw]
                case' inr =>
                  simp [zq70_b22, hX0', hlt]
                  refine aPureX_call (.bool (bIn s[m])) (fun J => r5_letter _ _ _ ⟨rfl, rfl⟩) ?_
                  rw [hst]
                  simp [hX0', aSlice, aBound, AV.known, hne, hwl, hcutw]
                all_goals
                  have hbadO : look data (.mk 5 tn tks) w = none → ∀ J, Out H.length K (.agg [.int .i64 0, .sl (IT.css vs) (.own (H.length + 3))]) (H.set id (r5B data s m true) ++ J) := fun hl J =>
                    hO 0 vs m true _ (hK2 vs m true hwl (fun h => by cases h) fun _ => .inr (hnone hl)) J
                  have e1 : ∀ m (b : Bool), AB.cells [AV.sl (List.map Dat.cs data) Tok.none, AV.str s, AV.int IntKind.i64 ((m : Nat) : Int), AV.bool b] = r5B data s m b := fun _ _ => rfl
                  refine aPureX_call (conR data w) (fun J => zq124_spec data (kd_fields hk).1 (kd_fields hk).2.2 w _ _ ⟨rfl, rfl⟩) ?_
                  unfold conR
                  cases hcon : conAt data 0 w with
                  | none =>
                    have hl : look data (.mk 5 tn tks) w = none := by unfold look lookG; rw [hcon]
                    simp
                    rw [← hT']
                    refine aPureX_call (fieldsR (payT data (.mk 5 tn tks) 0)) (fun J => zq83_spec data hk (.mk 5 tn tks) htn 0 _ _ ⟨rfl, rfl⟩) ?_
                    cases payT data (.mk 5 tn tks) 0 with
                    | none =>
                      simp [fieldsR, hX0', AV.known, List.getElem?_append, List.set_append, hl1]
                      exact hbadO hl _
                    | some ps =>
                      simp [fieldsR, hX0', AV.known, List.getElem?_append, List.set_append, hl1]
                      exact hbadO hl _
                  | some dc =>
                    obtain ⟨d, c⟩ := dc
                    simp
                    rw [← hT']
                    refine aPureX_call (fieldsR (payT data (.mk 5 tn tks) c)) (fun J => zq83_spec data hk (.mk 5 tn tks) htn c _ _ ⟨rfl, rfl⟩) ?_
                    have hlk : look data (.mk 5 tn tks) w = if (d : Int) = tn then (payT data (.mk 5 tn tks) (c : Int)).map fun ps => ((c : Int), ps) else none := by unfold look lookG; rw [hcon]; rfl
                    by_cases hd : (d : Int) = tn
                    · rw [if_pos hd] at hlk
                      have hd' : ((d : Int) == tn) = true := by simpa using hd
                      cases hp : payT data (.mk 5 tn tks) (c : Int) with
                      | none =>
                        rw [hp] at hlk
                        simp [fieldsR, hX0', AV.known, List.getElem?_append, List.set_append, hl1, hd, hd', VT.cs]
                        exact hbadO hlk _
                      | some ps =>
                        rw [hp] at hlk
                        simp [fieldsR, hX0', AV.known, List.getElem?_append, hl1, hd, hd', aBuild, fillA, VT.cs]
                        by_cases hz : ps.length = 0
                        · have hz' : ¬ 0 < ps.length := by omega
                          simp [hz']
                          have h := hj5 c ps hlk [] m false hwl (fun _ => by rw [midR, if_pos hz]) fun h => by cases h
                          unfold zq70_j5 at h ⊢
                          refine AWp.reCell (id := H.length + 4) (cs := [.int .i64 c, .snil]) [.int .i64 c, .sl (IT.css []) .none] (by simp [List.getElem?_append]) ⟨.refl _, .snil, trivial⟩ ?_
                          simpa [List.set_append] using h
                        · have hz' : 0 < ps.length := by omega
                          have hmid : midR (prI data f) ps (s.drop m) = prP (prI data f) ps (s.drop m) := by rw [midR, if_neg hz]
                          simp [hz']
                          refine r5_need [40] s m hwl hs1 (by simp) (hX0 _ _ _) _ fun n3 b3 hn3 g1 g2 => ?_
                          rw [hsetX]
                          refine r5_list ih ps (payT_len hk hp) (payT_nodes hp) _ id s n3 b3 hn3 (fun h => by have := (g1 h).2.2; have := hf1 hb1; simp at this hle ⊢; omega) hs1 (hX0 _ _ _) _ fun ks n4 b4 ⟨hn4, g3, g4⟩ => ?_
                          rw [hsetX]
                          simp [List.getElem?_append, List.set_append, AV.known]
                          refine r5_need [41] s n4 hn4 hs1 (by simp) (hX0 _ _ _) _ fun n5 b5 hn5 g5 g6 => ?_
                          rw [hsetX]
                          refine hj5 c ps hlk ks n5 b5 hn5 (fun h => ?_) fun h => ?_
                          · obtain ⟨k1, k2, _⟩ := g5 h
                            obtain ⟨k3, k4⟩ := g3 k1
                            obtain ⟨_, k5, _⟩ := g1 k3
                            rw [hmid, prP]
                            simp only [k5, k4, k2]
                          · rw [hmid, prP]
                            cases b3 with
                            | true =>
                              rcases g2 rfl with g | g
                              · cases g
                              · simp only [g]
                            | false =>
                              obtain ⟨_, k5, _⟩ := g1 rfl
                              cases b4 with
                              | true =>
                                rcases g4 rfl with g | g
                                · cases g
                                · simp only [k5, g]
                              | false =>
                                obtain ⟨_, k4⟩ := g3 rfl
                                rcases g6 h with g | g
                                · cases g
                                · simp only [k5, k4, g]
                    · rw [if_neg hd] at hlk
                      have hd' : ((d : Int) != tn) = true := by simpa using hd
                      cases hp : payT data (.mk 5 tn tks) (c : Int) with
                      | none =>
                        simp [fieldsR, hX0', AV.known, List.getElem?_append, List.set_append, hl1, hd, hd', VT.cs]
                        exact hbadO hlk _
                      | some ps =>
                        simp [fieldsR, hX0', AV.known, List.getElem?_append, List.set_append, hl1, hd, hd', VT.cs]
                        exact hbadO hlk _
          · obtain rfl : i = 7 := by omega
            have hi6' : ¬ (((7 : Nat) : Int)) ≤ 6 := by omega
            simp [zq70_b19, hX0']
            rw [hsetX]
            refine hbad n2 _ [] hn2 (.inr ?_)
            rw [hpr]
            simp [prE]
end Go.Proofs.YtfpmdpldabopjaaGreatDoor
namespace Go.Proofs.YtfpmdpldabopjaaGreatDoor
open Go Go.Abs
set_option linter.unusedSimpArgs false
set_option linter.unusedVariables false
set_option maxRecDepth 8000
def Good (data : List Dat) (t : VT) (s : List UInt8) (v : IT) : Prop := v.nodes ≤ 900 ∧ 0 ≤ degI data t v ∧ s = fmtV data v t
theorem zq34_spec (data : List Dat) (hk : KData data) (t : VT) (ht : t.nodes ≤ 1000) (s : List UInt8) (hb : s.length ≤ 900) (H : Heap) (K : Kt)
    (h1 : ∀ v, Good data t s v → K (.tup [.agg v.cs, .bool true]) H) (h2 : (¬ ∃ v, Good data t s v) → K (.tup [.agg (IT.mk 0 []).cs, .bool false]) H) :
    ACalls Tryz.prog n_zq34 [.sl (data.map Dat.cs) .none, .agg t.cs, .str s] H K := by
  refine ACalls.out (zq34_ok fun hs => ?_)
  obtain ⟨x, y, z, hvx, hx, hy, hz⟩ := vt3' t
  have hO : ((¬ ∃ v, Good data t s v)) → ∀ J, Out H.length K (.tup [.agg [.int .i64 0, .snil], .bool false]) (H ++ J) := fun h J => Out.tup (bs := [.agg [.int .i64 0, .sl (IT.css []) .none], .bool false]) hs (by simpa [IT.cs] using h2 h) ⟨⟨.agg ⟨.refl _, .snil, trivial⟩, rfl, by simp [AV.scV, AV.scA, AV.scB]⟩, keepV rfl rfl, trivial⟩
  simp [zq34, hvx, Nat.add_assoc]
  rw [← hvx]
  refine zq61_spec data hk t (by omega) _ _ ?_
  cases hfv : fineV data t with
  | false =>
    simp [aBuild, fillA, AV.known, List.getElem?_append, Nat.add_assoc]
    refine ⟨⟨rfl, rfl⟩, hO ?_ _⟩
    rintro ⟨v, _, hd, _⟩
    rw [(degI_pos hd).1] at hfv
    cases hfv
  | true =>
    have hD : dataOk data = true := by
      unfold fineV at hfv
      simp only [Bool.and_eq_true] at hfv
      exact hfv.1
    simp [aBuild, fillA, AV.known, hvx, hx, hy, hz, List.getElem?_append, Nat.add_assoc]
    rw [← hvx]
    refine r5_index hk (s.length + 1) t ht _ (H.length + 2) s 0 false (by omega) (fun _ => by simp) (by omega) (by simp [r5B]) _ fun v n' b ⟨hn', g1, g2⟩ => ?_
    simp only [List.drop_zero] at g1 g2
    obtain ⟨x2, y2, hvx2, hx2, hy2⟩ := it2 v
    have hread : ∀ w, Good data t s w → prI data (s.length + 1) t s = some (w, []) := by
      rintro w ⟨_, hd, rfl⟩
      have := prI_comp hD ((fmtV data w t).length + 1) t w [] (degI_pos hd).2 (by simp)
      simpa using this
    cases b with
    | true =>
      have hno : ¬ ∃ v, Good data t s v := by
        rintro ⟨w, hw⟩
        rcases g2 rfl with g | g
        · cases g
        · rw [hread w hw] at g; cases g
      simp [r5B, hvx2, hx2, hy2, hx, hy, hz, List.getElem?_append, List.set_append, Nat.add_assoc, aBuild, fillA]
      exact ⟨⟨rfl, rfl⟩, hO hno _⟩
    | false =>
      obtain ⟨_, g1⟩ := g1 rfl
      obtain ⟨e1, hn1⟩ := prI_sound _ _ _ _ _ g1
      by_cases hz' : n' = s.length
      · subst hz'
        have hnil : s.drop s.length = [] := List.drop_length
        rw [hnil] at e1 hn1 g1
        rw [List.append_nil] at e1
        simp [r5B, hvx2, hx2, hy2, hx, hy, hz, List.getElem?_append, List.set_append, Nat.add_assoc]
        rw [← hvx2]
        refine zq24_spec data hk t ht v (by simp at hn1; omega) _ _ ?_
        by_cases hd : 0 ≤ degI data t v
        · have hg : Good data t s v := ⟨by simp at hn1; omega, hd, e1⟩
          have hvc : (AV.agg v.cs).scV H.length = true := by obtain ⟨n, ks⟩ := v; simp [IT.cs, AV.scV, AV.scA, AV.scB]
          simp [hd, hvx2, hx2, hy2, List.getElem?_append, List.set_append, Nat.add_assoc]
          rw [← hvx2]
          refine ⟨⟨rfl, rfl⟩, ?_⟩
          exact Out.tup (bs := [.agg v.cs, .bool true]) hs (h1 v hg) ⟨keepV rfl hvc, keepV rfl rfl, trivial⟩
        · have hno : ¬ ∃ v, Good data t s v := by
            rintro ⟨w, hw⟩
            have h3 := hread w hw
            rw [g1] at h3
            simp only [Option.some.injEq, Prod.mk.injEq] at h3
            obtain ⟨rfl, _⟩ := h3
            exact hd hw.2.1
          simp [hd, hvx2, hx2, hy2, List.getElem?_append, List.set_append, Nat.add_assoc, aBuild, fillA]
          exact ⟨⟨rfl, rfl⟩, hO hno _⟩
      · have hno : ¬ ∃ v, Good data t s v := by
          rintro ⟨w, hw⟩
          have h3 := hread w hw
          rw [g1] at h3
          simp only [Option.some.injEq, Prod.mk.injEq] at h3
          have := congrArg List.length h3.2
          simp at this
          omega
        have hne : ((n' : Int) != s.length) = true := by simp; omega
        simp [r5B, hvx2, hx2, hy2, hx, hy, hz, hz', hne, List.getElem?_append, List.set_append, Nat.add_assoc, aBuild, fillA]
        exact ⟨⟨rfl, rfl⟩, hO hno _⟩
theorem IndexParses_spec (data : List Dat) (hlen : data.length ≤ 9223372036854775807) (t : VT) (s : List UInt8) (hsl : s.length ≤ 9223372036854775807) (H : Heap) (K : Kt) (hf : H[0]? = some (.fact EF)) (hK : K (.bool true) H) :
    ACalls Tryz.prog n_zq6 [.sl (data.map Dat.cs) .none, .agg t.cs, .str s] H K := by
  refine ACalls.out (zq6_ok fun hs => ?_)
  have hO : ∀ J, Out H.length K (.bool true) (H ++ J) := fun J => Out.bool rfl (Nat.le_refl _) hs hK
  have hlf := lt_get hf
  have hff : ∀ J : Heap, (H ++ J)[0]? = some (.fact EF) := fun J => by rw [List.getElem?_append_left hlf]; exact hf
  obtain ⟨x, y, z, hvx, hx, hy, hz⟩ := vt3' t
  simp [zq6, hvx, Nat.add_assoc]
  rw [← hvx]
  refine small_law_spec data hlen t _ _ fun b1 hb1 => ?_
  cases b1 with
  | false =>
    simp
    exact hO _
  | true =>
    obtain ⟨hk, ht⟩ := hb1 rfl
    by_cases hl : 500 < s.length
    · have hl' : (500 : Int) < s.length := by omega
      simp [hl, hl']
      exact hO _
    · have hl' : ¬ (500 : Int) < s.length := by omega
      simp [hl, hl', hvx, hx, hy, hz, Nat.add_assoc]
      rw [← hvx]
      by_cases hg : ∃ v, Good data t s v
      · obtain ⟨v, hv⟩ := hg
        obtain ⟨hvn, hd, he⟩ := hv
        have hD : dataOk data = true := by
          have := (degI_pos hd).1
          unfold fineV at this
          simp only [Bool.and_eq_true] at this
          exact this.1
        obtain ⟨x2, y2, hvx2, hx2, hy2⟩ := it2 v
        have hp := zq33_back data hk hD t (by omega) v hvn hd
        rw [← he] at hp
        refine hp _ _ ?_
        simp [hvx, hvx2, hx2, hy2, hx, hy, hz, List.getElem?_append, List.set_append, Nat.add_assoc]
        rw [← hvx]
        refine zq34_spec data hk t (by omega) s (by omega) _ _ (fun w hw => ?_) fun h => absurd ⟨v, hvn, hd, he⟩ h
        obtain rfl : w = v := by
          have h1 := prI_comp hD ((fmtV data w t).length + 1) t w [] (degI_pos hw.2.1).2 (by simp)
          have h2 := prI_comp hD ((fmtV data v t).length + 1) t v [] (degI_pos hd).2 (by simp)
          rw [List.append_nil, ← hw.2.2] at h1
          rw [List.append_nil, ← he] at h2
          rw [h1] at h2
          simp only [Option.some.injEq, Prod.mk.injEq] at h2
          exact h2.1
        simp [hvx2, hx2, hy2, List.getElem?_append, List.set_append, Nat.add_assoc]
        rw [← hvx2]
        refine zq35_spec _ w (Nat.le_refl _) (by omega) _ _ ?_
        simp
        refine awake15_spec _ _ ?_
        try simp
        exact hO _
      · refine zq33_none data hk t (by omega) s (by omega) (fun ⟨v, h⟩ => hg ⟨v, h⟩) _ 0 (hff _) _ ?_
        simp [IT.cs, hvx, hx, hy, hz, List.getElem?_append, List.set_append, Nat.add_assoc]
        rw [← hvx]
        refine zq34_spec data hk t (by omega) s (by omega) _ _ (fun w hw => absurd ⟨w, hw⟩ hg) fun _ => ?_
        simp [IT.cs, List.getElem?_append, List.set_append, Nat.add_assoc]
        have hsame := zq35_spec _ (.mk 0 []) (Nat.le_refl _) (by simp [IT.nodes, IT.nodesL])
        simp only [IT.cs] at hsame
        refine hsame _ _ ?_
        simp
        refine awake15_spec _ _ ?_
        try simp
        exact hO _
end Go.Proofs.YtfpmdpldabopjaaGreatDoor
