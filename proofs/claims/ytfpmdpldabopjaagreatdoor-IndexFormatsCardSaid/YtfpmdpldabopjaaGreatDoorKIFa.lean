/- Indices in writing: what both sides write. -/
import Derived.Test.YtfpmdpldabopjaaGreatDoorKIa
import Derived.Test.YtfpmdpldabopjaaGreatDoorKBa
import Derived.Test.YtfpmdpldabopjaaGreatDoorKCN
import Derived.Test.YtfpmdpldabopjaaGreatDoorKGK
import Derived.Test.YtfpmdpldabopjaaGreatDoorKIb
namespace Go.Proofs.YtfpmdpldabopjaaGreatDoor
open Go Go.Abs
set_option linter.unusedSimpArgs false
set_option linter.unusedVariables false
mutual
def fmtV (data : List Dat) : IT → VT → List UInt8
  | .mk n ks, t =>
    if t.kind = 6 then [40] ++ fmtA data ks t.kids true ++ [41]
    else if t.kind = 7 then small n.toNat
    else if t.kind = 5 then [91] ++ fmtE data ks t true ++ [93]
    else [42]
def fmtA (data : List Dat) : List IT → List VT → Bool → List UInt8
  | [], _, _ => []
  | v :: vs, ts, first => match ts with
    | t :: ts => (if first then [] else [44, 32]) ++ fmtV data v t ++ fmtA data vs ts false
    | [] => []
def fmtE (data : List Dat) : List IT → VT → Bool → List UInt8
  | [], _, _ => []
  | .mk c ks :: es, t, first => (if first then [] else [44, 32]) ++ conName data t c ++ (match payT data t c with
    | some ps => if ks.length = 0 then [] else [40] ++ fmtA data ks ps true ++ [41]
    | none => []) ++ fmtE data es t false
end
end Go.Proofs.YtfpmdpldabopjaaGreatDoor
namespace Go.Proofs.YtfpmdpldabopjaaGreatDoor
open Go Go.Abs
set_option linter.unusedSimpArgs false
set_option linter.unusedVariables false
set_option maxRecDepth 8000
theorem ref15_number_spec (n : Nat) (hn : n < 10) (H : Heap) (K : Kt) (hK : K (.str (small n)) H) : ACalls Tryz.prog n_ref15_number [.int .i64 n] H K := by
  refine ref15_number_ok fun hs => ?_
  have go : ∀ m : Nat, m < 10 → m = n → ref15_number (.int .i64 m) H K := by
    intro m hm he
    subst he
    have hk : ∀ b : UInt8, K (.str (small m)) H → small m = [b] → ref15_number_l3 (.int .i64 0) (.str [b]) H K := by
      intro b h1 h2
      rw [h2] at h1
      refine ref15_number_loop3 (Inv := fun q t0 t3 H' => t0 = .int .i64 0 ∧ t3 = .str [b] ∧ H' = H) 0 (fun _ => ⟨rfl, rfl, rfl⟩) ?_
      rintro q t0 t3 H' ⟨rfl, rfl, rfl⟩ hsc hlen hsF Kb hKb
      simp [ref15_number_b3]
      exact h1
    have e1 : ((m : Int).tmod 10) = m := by rw [Int.tmod_eq_emod_of_nonneg (by omega)]; omega
    have e2 : ((m : Int).tdiv 10) = 0 := by rw [Int.tdiv_eq_ediv_of_nonneg (by omega)]; omega
    have q1 : IntKind.i64.wrap (48 + (m : Int)) = 48 + m := wrap_in (by omega) (by omega)
    have q3 : IntKind.i64.wrap 0 = 0 := rfl
    have q2 : IntKind.u8.wrap (48 + (m : Int)) = 48 + m := by
      have : ∀ k : Nat, k < 10 → IntKind.u8.wrap (48 + (k : Int)) = 48 + k := by decide
      exact this m hm
    simp [ref15_number, aBin, binOf, e1, e2, q1, q2, q3, aBuildS, fillS, plain, AV.pd, aConvB]
    have hbo : ∀ k : Nat, k < 10 → bytesOf [[AV.int IntKind.u8 (48 + (k : Int))]] = some [48 + UInt8.ofNat k] := by decide
    rw [hbo m hm]
    exact hk _ hK (by simp [small, hm])
  exact go n hn rfl
end Go.Proofs.YtfpmdpldabopjaaGreatDoor
namespace Go.Proofs.YtfpmdpldabopjaaGreatDoor
open Go Go.Abs
set_option linter.unusedSimpArgs false
set_option linter.unusedVariables false
set_option maxRecDepth 8000
theorem rdA_el {data : List Dat} : ∀ {vs : List IT} {ts : List VT} {a : Int}, 0 ≤ rdA data vs ts a → ∀ (i : Nat) (hi : i < vs.length), ∃ ht : i < ts.length, 0 ≤ rdV data vs[i] ts[i]
  | [], ts, a, h, i, hi => by simp at hi
  | v :: vs, [], a, h, i, hi => by simp [rdA] at h
  | v :: vs, t :: ts, a, h, i, hi => by
    simp only [rdA] at h
    split at h
    · omega
    · rename_i hc
      cases i with
      | zero => exact ⟨by simp, by simp; omega⟩
      | succ i =>
        obtain ⟨h1, h2⟩ := rdA_el h i (by simpa using hi)
        exact ⟨by simpa using h1, by simpa using h2⟩
def FmtOk (data : List Dat) (v : IT) : Prop := ∀ t : VT, t.nodes ≤ 1000 → 0 ≤ rdV data v t → (fmtV data v t).length ≤ 1000000000 → ∀ (H : Heap) (K : Kt), K (.str (fmtV data v t)) H → ACalls Tryz.prog n_ref15_format [.sl (data.map Dat.cs) .none, .agg t.cs, .agg v.cs] H K
theorem ref15_list_spec {data : List Dat} (vs : List IT) (hv : vs.length ≤ 1000) (hel : ∀ v ∈ vs, FmtOk data v) (ts : List VT) (ht : ∀ t ∈ ts, t.nodes ≤ 1000) (hb : (fmtA data vs ts true).length ≤ 1000000000) {a0 : Int} (hok : 0 ≤ rdA data vs ts a0) (H : Heap) (K : Kt)
    (hK : K (.str (fmtA data vs ts true)) H) : ACalls Tryz.prog n_ref15_list [.sl (data.map Dat.cs) .none, .sl (VT.css ts) .none, .sl (IT.css vs) .none] H K := by
  refine ACalls.out (ref15_list_ok fun hs => ?_)
  have hO : ∀ r, fmtA data vs ts true = r → Out H.length K (.str r) H := fun r h => by subst h; simpa using (Out.at (J := []) rfl (Nat.le_refl _) hs .rfl' rfl rfl hK : Out H.length K (.str (fmtA data vs ts true)) (H ++ []))
  simp [ref15_list]
  refine ref15_list_loop3 (Inv := fun q t7 t11 H' => ∃ (i : Nat) (s : List UInt8), i ≤ vs.length ∧ q = vs.length - i ∧ t11 = .int .i64 i ∧ t7 = .str s ∧ s ++ fmtA data (vs.drop i) (ts.drop i) (i == 0) = fmtA data vs ts true ∧ H' = H) vs.length ?_ ?_
  · intro _; exact ⟨0, [], by omega, by omega, rfl, rfl, by simp, rfl⟩
  · rintro q t7 t11 H' ⟨i, s, hi, rfl, rfl, rfl, ho, rfl⟩ hsc' hlen hsF Kb hKb
    by_cases hlt : i < vs.length
    · obtain ⟨hlt', hri⟩ := rdA_el hok i hlt
      rw [List.drop_eq_getElem_cons hlt, List.drop_eq_getElem_cons hlt'] at ho
      simp only [fmtA] at ho
      have hti := ht _ (List.getElem_mem hlt')
      have hvi := hel _ (List.getElem_mem hlt)
      have hnext : ∀ s', s' ++ fmtV data vs[i] ts[i] ++ fmtA data (vs.drop (i + 1)) (ts.drop (i + 1)) false = fmtA data vs ts true →
          ref15_list_j1 (.sl (data.map Dat.cs) .none) (.sl (VT.css ts) .none) (.sl (IT.css vs) .none) (.str s') (.int .i64 i) (.int .i64 vs.length) (.int .i64 i) H' (Out H'.length K) Kb := by
        intro s' hs'
        have hsl : s'.length + (fmtV data vs[i] ts[i]).length ≤ 1000000000 := by
          have := congrArg List.length hs'
          simp only [List.length_append] at this
          omega
        simp [ref15_list_j1, hlt, hlt', Nat.add_assoc]
        refine aPureX_call (.str (fmtV data vs[i] ts[i])) (fun J => hvi _ hti hri (by omega) _ _ ⟨rfl, rfl⟩) ?_
        simp
        refine ⟨by omega, ?_⟩
        rw [wrap_in (by omega) (by omega)]
        refine hKb _ _ ⟨vs.length - (i + 1), by omega, Back.at (J := []) (H2 := H') (by simp) (Nat.le_refl _) hs ?_ ⟨_, _, rfl, i + 1, s' ++ fmtV data vs[i] ts[i], by omega, rfl, by simp, by simp, by simpa using hs', rfl⟩⟩
        simp [ref15_list_fr3, AV.sc, AV.scV, AV.scA, AV.scB]
      by_cases h0 : i = 0
      · subst h0
        simp [ref15_list_b3, hlt]
        exact hnext _ (by simpa using ho)
      · have hp : (0 : Int) < i := by omega
        have hz : (i == 0) = false := by simpa using h0
        rw [hz] at ho
        simp [ref15_list_b3, hlt, hp, show 0 < i by omega]
        refine ⟨?_, hnext (s ++ [44, 32]) (by simpa using ho)⟩
        have := congrArg List.length ho
        simp only [List.length_append] at this
        omega
    · obtain rfl : i = vs.length := by omega
      rw [List.drop_length] at ho
      simp only [fmtA, List.append_nil] at ho
      simp [ref15_list_b3]
      exact hO _ ho.symm
end Go.Proofs.YtfpmdpldabopjaaGreatDoor
namespace Go.Proofs.YtfpmdpldabopjaaGreatDoor
open Go Go.Abs
set_option linter.unusedSimpArgs false
set_option linter.unusedVariables false
set_option maxRecDepth 8000
theorem fmtV_mk (data : List Dat) (n : Int) (ks : List IT) (tk tn : Int) (tks : List VT) : fmtV data (.mk n ks) (.mk tk tn tks) =
    if tk = 6 then [40] ++ fmtA data ks tks true ++ [41]
    else if tk = 7 then small n.toNat
    else if tk = 5 then [91] ++ fmtE data ks (.mk tk tn tks) true ++ [93]
    else [42] := by
  rw [fmtV]
  rfl
theorem ref15_format_easy {data : List Dat} (hk : KData data) (n : Int) (ks : List IT) (hkids : ∀ v ∈ ks, FmtOk data v) (hks : ks.length ≤ 1000) (tk tn : Int) (tks : List VT) (h5 : tk ≠ 5) (ht : (VT.mk tk tn tks).nodes ≤ 1000)
    (hok : 0 ≤ rdV data (.mk n ks) (.mk tk tn tks)) (hb : (fmtV data (.mk n ks) (.mk tk tn tks)).length ≤ 1000000000) (H : Heap) (K : Kt) (hK : K (.str (fmtV data (.mk n ks) (.mk tk tn tks))) H) :
    ACalls Tryz.prog n_ref15_format [.sl (data.map Dat.cs) .none, .agg (VT.mk tk tn tks).cs, .agg (IT.mk n ks).cs] H K := by
  refine ACalls.out (ref15_format_ok fun hs => ?_)
  rw [fmtV_mk] at hK hb
  rw [rdV_mk] at hok
  have hO : ∀ r J, K (.str r) H → Out H.length K (.str r) (H ++ J) := fun r J h => Out.at rfl (Nat.le_refl _) hs .rfl' rfl rfl h
  by_cases h6 : tk = 6
  · subst h6
    rw [if_pos rfl] at hK hok hb
    by_cases hn : n = 0
    · subst hn
      rw [if_pos rfl] at hok
      by_cases hl : tks.length = ks.length
      · rw [if_pos hl] at hok
        simp only [List.length_append, List.length_cons, List.length_nil] at hb
        simp [ref15_format, VT.cs, IT.cs, Nat.add_assoc]
        have htk : ∀ t ∈ tks, t.nodes ≤ 1000 := fun t htm => by
          obtain ⟨i, hi, rfl⟩ := List.getElem_of_mem htm
          have := VT.kid_lt (k := 6) (n := tn) hi
          omega
        refine ref15_list_spec ks hks hkids tks htk (by omega) hok _ _ ?_
        simp
        refine ⟨by omega, ?_⟩
        first
          | exact hO _ _ (by simpa using hK)
          | exact ⟨by omega, hO _ _ (by simpa using hK)⟩
      · rw [if_neg hl] at hok; omega
    · rw [if_neg hn] at hok; omega
  have h6' : (tk == 6) = false := by simp [h6]
  rw [if_neg h6] at hK hok hb
  by_cases h7 : tk = 7
  · subst h7
    rw [if_pos rfl] at hK hok hb
    by_cases g : 0 ≤ n ∧ n ≤ 6 ∧ ks.length = 0
    · obtain ⟨m, rfl⟩ : ∃ m : Nat, n = m := ⟨n.toNat, by omega⟩
      simp [ref15_format, VT.cs, IT.cs, Nat.add_assoc]
      refine ref15_number_spec m (by omega) _ _ ?_
      exact hO _ _ (by simpa using hK)
    · rw [if_neg g] at hok; omega
  have h7' : (tk == 7) = false := by simp [h7]
  have h5' : (tk == 5) = false := by simp [h5]
  rw [if_neg h7, if_neg h5] at hK
  simp [ref15_format, VT.cs, IT.cs, Nat.add_assoc, h6', h7', h5']
  exact hO _ _ hK
end Go.Proofs.YtfpmdpldabopjaaGreatDoor
namespace Go.Proofs.YtfpmdpldabopjaaGreatDoor
open Go Go.Abs
set_option linter.unusedSimpArgs false
set_option linter.unusedVariables false
set_option maxRecDepth 8000
theorem rdE_el {data : List Dat} : ∀ {es : List IT} {t : VT} {a : Int}, 0 ≤ rdE data es t a → ∀ (i : Nat) (hi : i < es.length), ∃ c ks ps, es[i] = IT.mk c ks ∧ payT data t c = some ps ∧ ps.length = ks.length ∧ 0 ≤ rdA data ks ps 0
  | [], t, a, h, i, hi => by simp at hi
  | .mk c ks :: es, t, a, h, i, hi => by
    simp only [rdE] at h
    split at h
    · omega
    · split at h
      · omega
      · rename_i ps hp
        split at h
        · rename_i hl
          split at h
          · omega
          · rename_i hr
            cases i with
            | zero => exact ⟨c, ks, ps, by simp, hp, hl, by omega⟩
            | succ i =>
              obtain ⟨c', ks', ps', h1, h2⟩ := rdE_el h i (by simpa using hi)
              exact ⟨c', ks', ps', by simpa using h1, h2⟩
        · omega
theorem payT_con {data : List Dat} {k n : Int} {tks : List VT} {c : Int} {ps : List VT} (h : payT data (.mk k n tks) c = some ps) :
    k = 5 ∧ 0 ≤ n ∧ 0 ≤ c ∧ ∃ (hn : n.toNat < data.length) (hc : c.toNat < (data[n.toNat]).cons.length), conName data (.mk k n tks) c = ((data[n.toNat]).cons[c.toNat]).name := by
  unfold payT at h
  cases hf : fields data (.mk k n tks) c with
  | none => rw [hf] at h; cases h
  | some l =>
    obtain ⟨k5, n0, c0, hn, hc, _⟩ := fields_some hf
    exact ⟨k5, n0, c0, hn, hc, by simp [conName, VT.num, hn, hc]⟩
theorem fmtE_cons (data : List Dat) (c : Int) (ks es : List IT) (t : VT) (first : Bool) (ps : List VT) (hp : payT data t c = some ps) : fmtE data (.mk c ks :: es) t first =
    (if first then [] else [44, 32]) ++ conName data t c ++ (if ks.length = 0 then [] else [40] ++ fmtA data ks ps true ++ [41]) ++ fmtE data es t false := by
  rw [fmtE, hp]
theorem ref15_format_spec {data : List Dat} (hk : KData data) : ∀ (m : Nat) (v : IT), v.nodes ≤ m → v.nodes ≤ 900 → FmtOk data v := by
  intro m
  induction m with
  | zero => intro v h; have := v.nodes_pos; omega
  | succ m ih =>
    intro v hv hb t ht hok hbd H K hK
    obtain ⟨n, ks⟩ := v
    obtain ⟨tk, tn, tks⟩ := t
    have hnl : IT.nodesL ks + 1 ≤ 900 := by simpa [IT.nodes] using hb
    have hll := IT.len_le ks
    have hkids : ∀ v ∈ ks, FmtOk data v := fun v hvm => by
      obtain ⟨i, hi, rfl⟩ := List.getElem_of_mem hvm
      have := IT.kid_lt (n := n) hi
      exact ih _ (by omega) (by omega)
    by_cases h5 : tk = 5
    case neg => exact ref15_format_easy hk n ks hkids (by omega) tk tn tks h5 ht hok hbd H K hK
    subst h5
    refine ACalls.out (ref15_format_ok fun hs => ?_)
    rw [fmtV_mk, if_neg (by decide), if_neg (by decide), if_pos rfl] at hK hbd
    rw [rdV_mk, if_neg (by decide), if_neg (by decide), if_pos rfl] at hok
    by_cases hn : n = 0 ∧ ks.length ≤ 6
    case neg => rw [if_neg hn] at hok; omega
    rw [if_pos hn] at hok
    obtain ⟨rfl, hl6⟩ := hn
    have hT' : (VT.mk 5 tn tks).cs = [.int .i64 5, .int .i64 tn, .sl (VT.css tks) .none] := rfl
    have hO : ∀ r J, K (.str r) H → Out H.length K (.str r) (H ++ J) := fun r J h => Out.at rfl (Nat.le_refl _) hs .rfl' rfl rfl h
    simp only [List.length_append, List.length_cons, List.length_nil] at hbd
    simp [ref15_format, VT.cs, IT.cs, Nat.add_assoc]
    have hsc2 : HSc (H ++ [.cells [.int .i64 5, .int .i64 tn, .sl (VT.css tks) .none], .cells [.int .i64 0, .sl (IT.css ks) .none]]) := hs.append (by simp [AB.sc, AV.scA, AV.scB])
    refine ref15_format_loop9 (Inv := fun q t7 t34 H' => ∃ (i : Nat) (s : List UInt8), i ≤ ks.length ∧ q = ks.length - i ∧ t34 = .int .i64 i ∧ t7 = .str s ∧ s ++ fmtE data (ks.drop i) (.mk 5 tn tks) (i == 0) = fmtE data ks (.mk 5 tn tks) true ∧
      H' = H ++ [.cells [.int .i64 5, .int .i64 tn, .sl (VT.css tks) .none], .cells [.int .i64 0, .sl (IT.css ks) .none]]) ks.length ?_ ?_
    · intro _; exact ⟨0, [], by omega, by omega, rfl, rfl, by simp, rfl⟩
    · rintro q t7 t34 H' ⟨i, s, hi, rfl, rfl, rfl, ho, rfl⟩ hsc' hlen hsF Kb hKb
      by_cases hlt : i < ks.length
      · obtain ⟨c, es, ps, hx, hp, hpl, hra⟩ := rdE_el hok i hlt
        have hkn := IT.kid_lt (n := 0) hlt
        rw [List.drop_eq_getElem_cons hlt, hx, fmtE_cons data c es _ _ _ ps hp] at ho
        rw [hx] at hkn
        obtain ⟨_, n0, c0, hn1, hc1, hnm⟩ := payT_con hp
        have hlo := congrArg List.length ho
        simp only [List.length_append] at hlo
        obtain ⟨tn, rfl⟩ : ∃ x : Nat, tn = x := ⟨tn.toNat, by omega⟩
        obtain ⟨c, rfl⟩ : ∃ x : Nat, c = x := ⟨c.toNat, by omega⟩
        simp only [Int.toNat_natCast] at hn1 hc1 hnm
        have hesl := IT.len_le es
        have hen : IT.nodesL es + 1 ≤ 900 := by
          have : (IT.mk c es).nodes = IT.nodesL es + 1 := by simp [IT.nodes]
          have : (IT.mk 0 ks).nodes = IT.nodesL ks + 1 := by simp [IT.nodes]
          omega
        have hes : ∀ v ∈ es, FmtOk data v := fun v hvm => by
          obtain ⟨j, hj, rfl⟩ := List.getElem_of_mem hvm
          have := IT.kid_lt (n := c) hj
          exact ih _ (by omega) (by omega)
        have e1 : (data.map Dat.cs)[tn]? = some (data[tn]).cs := by simp [hn1]
        have e2 : ((data[tn]).cons.map Con.cs)[c]? = some ((data[tn]).cons[c]).cs := by simp [hc1]
        have hback : ∀ s' J, s' ++ fmtE data (ks.drop (i + 1)) (.mk 5 tn tks) false = fmtE data ks (.mk 5 tn tks) true →
            Kb (ref15_format_fr9 (.sl (data.map Dat.cs) .none) (.ptr H.length 0) (.str s') (.sl (IT.css ks) .none) (.int .i64 ks.length) (.int .i64 (IntKind.i64.wrap (i + 1))))
              (H ++ ([.cells [.int .i64 5, .int .i64 tn, .sl (VT.css tks) .none], .cells [.int .i64 0, .sl (IT.css ks) .none]] ++ J)) := by
          intro s' J hs'
          rw [wrap_in (by omega) (by omega)]
          refine hKb _ _ ⟨ks.length - (i + 1), by omega, Back.at (J := J) (H2 := H ++ [.cells [.int .i64 5, .int .i64 tn, .sl (VT.css tks) .none], .cells [.int .i64 0, .sl (IT.css ks) .none]]) (by simp) (by simp) hsc2 ?_ ⟨_, _, rfl, i + 1, s', by omega, rfl, by simp, rfl, by simpa using hs', rfl⟩⟩
          simp [ref15_format_fr9, AV.sc, AV.scV, AV.scA, AV.scB]
        have hnext : ∀ s', s' ++ conName data (.mk 5 tn tks) c ++ (if es.length = 0 then [] else [40] ++ fmtA data es ps true ++ [41]) ++ fmtE data (ks.drop (i + 1)) (.mk 5 tn tks) false = fmtE data ks (.mk 5 tn tks) true →
            ref15_format_j1 (.sl (data.map Dat.cs) .none) (.ptr H.length 0) (.str s') (.ptr (H.length + 2) 0) (.sl (IT.css ks) .none) (.int .i64 ks.length) (.int .i64 i)
              (H ++ [.cells [.int .i64 5, .int .i64 tn, .sl (VT.css tks) .none], .cells [.int .i64 0, .sl (IT.css ks) .none], .cells [.int .i64 c, .sl (IT.css es) .none]]) (Out H.length K) Kb := by
          intro s' hs'
          have hl' := congrArg List.length hs'
          simp only [List.length_append] at hl'
          rw [hnm] at hs' hl'
          simp [ref15_format_j1, e1, e2, hn1, hc1, Dat.cs, Con.cs, Nat.add_assoc]
          refine ⟨by omega, ?_⟩
          by_cases hz : es.length = 0
          · have : ¬ 0 < es.length := by omega
            rw [if_pos hz] at hs' hl'
            simp [this, ref15_format_j2, ref15_format_j3]
            have := hback (s' ++ ((data[tn]).cons[c]).name) [.cells [.int .i64 c, .sl (IT.css es) .none]] (by simpa using hs')
            simpa [hT'] using this
          · have : 0 < es.length := by omega
            rw [if_neg hz] at hs' hl'
            simp only [List.length_append, List.length_cons, List.length_nil] at hl'
            simp [this, Nat.add_assoc]
            rw [← hT']
            refine ref15_PayloadTypes_spec data hk (.mk 5 tn tks) ht c _ _ ?_
            rw [hp]
            simp [fieldsR]
            have hpn : ∀ t ∈ ps, t.nodes ≤ 1000 := payT_nodes hp
            refine ref15_list_spec es (by omega) hes ps hpn (by omega) hra _ _ ?_
            simp [ref15_format_j2, ref15_format_j3]
            refine ⟨by omega, by omega, by omega, ?_⟩
            have := hback (s' ++ (((data[tn]).cons[c]).name ++ (40 :: (fmtA data es ps true ++ [41])))) [.cells [.int .i64 c, .sl (IT.css es) .none]] (by simpa using hs')
            simpa [hT'] using this
        by_cases h0 : i = 0
        · subst h0
          simp [ref15_format_b9, hlt, hx, IT.cs, Nat.add_assoc]
          exact hnext s (by simpa using ho)
        · have hp0 : (0 : Int) < i := by omega
          have hz : (i == 0) = false := by simpa using h0
          rw [hz] at ho hlo
          simp [ref15_format_b9, hlt, hx, IT.cs, Nat.add_assoc, hp0, show 0 < i by omega]
          refine ⟨by simp at hlo; omega, hnext (s ++ [44, 32]) (by simpa using ho)⟩
      · obtain rfl : i = ks.length := by omega
        rw [List.drop_length] at ho
        simp only [fmtE, List.append_nil] at ho
        subst ho
        simp [ref15_format_b9]
        refine ⟨by omega, by omega, ?_⟩
        exact hO _ _ (by simpa using hK)
end Go.Proofs.YtfpmdpldabopjaaGreatDoor
