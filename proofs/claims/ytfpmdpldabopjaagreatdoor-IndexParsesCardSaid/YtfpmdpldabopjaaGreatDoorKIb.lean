/- Degrees: the program's side. -/
import Derived.Test.YtfpmdpldabopjaaGreatDoorKIa
import Derived.Test.YtfpmdpldabopjaaGreatDoorKX1
namespace Go.Proofs.YtfpmdpldabopjaaGreatDoor
open Go Go.Abs
set_option linter.unusedSimpArgs false
set_option linter.unusedVariables false
set_option maxRecDepth 8000
theorem it2 (v : IT) : ∃ a b, v.cs = [a, b] ∧ a.known = true ∧ b.known = true := by
  obtain ⟨n, ks⟩ := v; exact ⟨_, _, rfl, rfl, rfl⟩
theorem meaV_bd {data : List Dat} (h8 : ∀ D ∈ data, D.cons.length ≤ 8) (v : IT) (t : VT) (h : (meaV data v t).2 = true) : 0 ≤ (meaV data v t).1 ∧ (meaV data v t).1 ≤ 6 := by
  obtain ⟨e1, e2, e3⟩ := (agrV h8 v t).1 h
  omega
theorem meaA_bd {data : List Dat} (h8 : ∀ D ∈ data, D.cons.length ≤ 8) : ∀ (vs : List IT) (ts : List VT) (a : Int), 0 ≤ a → 0 ≤ (meaA data vs ts a).1 ∧ (meaA data vs ts a).1 ≤ a + 6 * vs.length
  | [], ts, a, h => by simp [meaA]; omega
  | v :: vs, [], a, h => by simp [meaA]; omega
  | v :: vs, t :: ts, a, h => by
    simp only [meaA]
    split
    · rename_i hb
      have := meaV_bd h8 v t hb
      have := meaA_bd h8 vs ts (a + (meaV data v t).1) (by omega)
      simp only [List.length_cons]
      omega
    · simp; omega
theorem pick_mem {x : VT} : ∀ {l : List VT} {bs : List Bool}, x ∈ pick l bs → x ∈ l
  | [], _, h => by simp [pick] at h
  | _ :: _, [], h => by simp [pick] at h
  | c :: l, b :: bs, h => by
    cases b with
    | true => simp [pick] at h; exact List.mem_cons_of_mem _ (pick_mem h)
    | false =>
      simp [pick] at h
      rcases h with rfl | h
      · exact List.mem_cons_self
      · exact List.mem_cons_of_mem _ (pick_mem h)
theorem payT_nodes {data : List Dat} {t : VT} {c : Int} {ps : List VT} (h : payT data t c = some ps) : ∀ x ∈ ps, x.nodes ≤ 1000 := by
  unfold payT at h
  obtain ⟨k, n, ks⟩ := t
  cases hf : fields data (.mk k n ks) c with
  | none => rw [hf] at h; cases h
  | some l =>
    rw [hf] at h
    obtain ⟨_, _, _, _, _, _, _, h2⟩ := fields_some hf
    simp at h
    subst h
    exact fun x hx => by have := h2 x (pick_mem hx); omega
theorem meaV_mk (data : List Dat) (n : Int) (ks : List IT) (tk tn : Int) (tks : List VT) : meaV data (.mk n ks) (.mk tk tn tks) =
    if tk = 6 then (if n = 0 then (if tks.length = ks.length then meaA data ks tks 0 else (0, false)) else (0, false))
    else if tk = 7 then (n, decide (0 ≤ n) && decide (n ≤ 6) && decide (ks.length = 0))
    else if tk = 5 then (if n = 0 then meaE data ks (.mk tk tn tks) 0 else (0, false))
    else (0, decide (n = 0) && decide (ks.length = 0)) := by
  rw [meaV]
  rfl
def totR (data : List Dat) (vs : List IT) (ts : List VT) : Int × Bool := if ts.length = vs.length then meaA data vs ts 0 else (0, false)
def MeaOk (data : List Dat) (v : IT) : Prop := ∀ t : VT, t.nodes ≤ 1000 → ∀ (H : Heap) (K : Kt), K (.tup [.int .i64 (meaV data v t).1, .bool (meaV data v t).2]) H → ACalls Tryz.prog n_zq60 [.sl (data.map Dat.cs) .none, .agg t.cs, .agg v.cs] H K
theorem tup2 {H : Heap} {K : Kt} {a : Int} {b : Bool} (hs : HSc H) (h : K (.tup [.int .i64 a, .bool b]) H) (J : Heap) : Out H.length K (.tup [.int .i64 a, .bool b]) (H ++ J) := Out.tup hs h ⟨keepV rfl rfl, keepV rfl rfl, trivial⟩
theorem zq106_spec {data : List Dat} (h8 : ∀ D ∈ data, D.cons.length ≤ 8) (vs : List IT) (hv : vs.length ≤ 1000) (hel : ∀ v ∈ vs, MeaOk data v) (ts : List VT) (ht : ∀ t ∈ ts, t.nodes ≤ 1000) (H : Heap) (K : Kt)
    (hK : K (.tup [.int .i64 (totR data vs ts).1, .bool (totR data vs ts).2]) H) : ACalls Tryz.prog n_zq106 [.sl (data.map Dat.cs) .none, .sl (VT.css ts) .none, .sl (IT.css vs) .none] H K := by
  refine ACalls.out (zq106_ok fun hs => ?_)
  have h0 : ∀ b J, totR data vs ts = (0, b) → Out H.length K (.tup [.int .i64 0, .bool b]) (H ++ J) := fun b J h => by rw [h] at hK; exact tup2 hs hK J
  by_cases hl : ts.length = vs.length
  case neg =>
    have : ((ts.length : Int) != (vs.length : Int)) = true := by simp [bne]; omega
    simp [zq106, this]
    refine ⟨⟨rfl, rfl⟩, ?_⟩
    simpa using h0 false [] (by simp [totR, hl])
  have htot : totR data vs ts = meaA data vs ts 0 := by simp [totR, hl]
  rw [htot] at hK h0
  simp [zq106, hl]
  refine zq106_loop5 (Inv := fun q t8 t20 H' => ∃ (i : Nat) (a : Int), i ≤ vs.length ∧ q = vs.length - i ∧ t20 = .int .i64 i ∧ t8 = .int .i64 a ∧ 0 ≤ a ∧ a ≤ 6 * i ∧ meaA data (vs.drop i) (ts.drop i) a = meaA data vs ts 0 ∧ H' = H) vs.length ?_ ?_
  · intro _; exact ⟨0, 0, by omega, by omega, rfl, rfl, by omega, by omega, by simp, rfl⟩
  · rintro q t8 t20 H' ⟨i, a, hi, rfl, rfl, rfl, ha0, ha6, ho, rfl⟩ hsc' hlen hsF Kb hKb
    by_cases hlt : i < vs.length
    · have hlt' : i < ts.length := by omega
      rw [List.drop_eq_getElem_cons hlt, List.drop_eq_getElem_cons hlt'] at ho
      simp only [meaA] at ho
      obtain ⟨x, y, z, hvx, hx, hy, hz⟩ := vt3' ts[i]
      obtain ⟨x2, y2, hvx2, hx2, hy2⟩ := it2 vs[i]
      have hti := ht _ (List.getElem_mem hlt')
      have hvi := hel _ (List.getElem_mem hlt)
      simp [zq106_b5, hl, hlt, hlt', hvx, hvx2, Nat.add_assoc]
      refine ⟨⟨hx, hy, hz⟩, ?_⟩
      rw [← hvx, ← hvx2]
      refine aPureX_call (.tup [.int .i64 (meaV data vs[i] ts[i]).1, .bool (meaV data vs[i] ts[i]).2]) (fun J => hvi _ hti _ _ ⟨rfl, rfl⟩) ?_
      cases hb : (meaV data vs[i] ts[i]).2 with
      | false =>
        rw [hb] at ho
        simp at ho
        simp
        exact ⟨⟨rfl, rfl⟩, h0 _ _ ho.symm⟩
      | true =>
        rw [hb] at ho
        simp at ho
        have hbd := meaV_bd h8 _ _ hb
        simp
        rw [wrap_in (by omega) (by omega), wrap_in (by omega) (by omega)]
        refine hKb _ _ ⟨vs.length - (i + 1), by omega, Back.at (J := [_]) rfl (Nat.le_refl _) hs ?_ ⟨_, _, rfl, i + 1, _, by omega, rfl, by simp, rfl, by omega, by simp; omega, ho, rfl⟩⟩
        simp [zq106_fr5, AV.sc, AV.scV, AV.scA, AV.scB]
    · obtain rfl : i = vs.length := by omega
      rw [List.drop_length] at ho
      simp only [meaA] at ho
      rw [← ho] at hK
      simp [zq106_b5, hl]
      refine ⟨⟨rfl, rfl⟩, ?_⟩
      have := tup2 hs hK []
      simpa using this
theorem zq60_spec {data : List Dat} (hk : KData data) (h8 : ∀ D ∈ data, D.cons.length ≤ 8) : ∀ (m : Nat) (v : IT), v.nodes ≤ m → v.nodes ≤ 900 → MeaOk data v := by
  intro m
  induction m with
  | zero => intro v h; have := v.nodes_pos; omega
  | succ m ih =>
    intro v hv hb t ht H K hK
    obtain ⟨n, ks⟩ := v
    obtain ⟨tk, tn, tks⟩ := t
    have hnl : IT.nodesL ks + 1 ≤ 900 := by simpa [IT.nodes] using hb
    have hll := IT.len_le ks
    have hkids : ∀ v ∈ ks, MeaOk data v := fun v hvm => by
      obtain ⟨i, hi, rfl⟩ := List.getElem_of_mem hvm
      have := IT.kid_lt (n := n) hi
      exact ih _ (by omega) (by omega)
    refine ACalls.out (zq60_ok fun hs => ?_)
    rw [meaV_mk] at hK
    by_cases h6 : tk = 6
    · subst h6
      by_cases hn : n = 0
      · subst hn
        simp [zq60, VT.cs, IT.cs, Nat.add_assoc]
        have htk : ∀ t ∈ tks, t.nodes ≤ 1000 := fun t htm => by
          obtain ⟨i, hi, rfl⟩ := List.getElem_of_mem htm
          have := VT.kid_lt (k := 6) (n := tn) hi
          omega
        refine zq106_spec h8 ks (by omega) hkids tks htk _ _ ?_
        simp
        refine ⟨⟨rfl, rfl⟩, ?_⟩
        exact tup2 hs (by simpa [totR] using hK) _
      · have : (n != 0) = true := by simp [bne, hn]
        simp [zq60, VT.cs, IT.cs, Nat.add_assoc, this]
        simp [hn] at hK
        exact ⟨⟨rfl, rfl⟩, tup2 hs hK _⟩
    have h6' : (tk == 6) = false := by simp [h6]
    rw [if_neg h6] at hK
    by_cases h7 : tk = 7
    · subst h7
      simp only [if_true] at hK
      by_cases g1 : 0 ≤ n
      · by_cases g2 : n ≤ 6
        · by_cases g3 : ks.length = 0
          · simp [zq60, VT.cs, IT.cs, Nat.add_assoc, g1, g2, g3]
            simp [g1, g2, g3] at hK
            exact ⟨⟨rfl, rfl⟩, tup2 hs hK _⟩
          · have g3' : ((ks.length : Int) == 0) = false := by simp; exact fun h => g3 (by simp [h])
            simp [zq60, VT.cs, IT.cs, Nat.add_assoc, g1, g2, g3, g3']
            simp [g1, g2, g3] at hK
            exact ⟨⟨rfl, rfl⟩, tup2 hs hK _⟩
        · simp [zq60, VT.cs, IT.cs, Nat.add_assoc, g1, g2]
          simp [g1, g2] at hK
          exact ⟨⟨rfl, rfl⟩, tup2 hs hK _⟩
      · simp [zq60, VT.cs, IT.cs, Nat.add_assoc, g1]
        simp [g1] at hK
        exact ⟨⟨rfl, rfl⟩, tup2 hs hK _⟩
    have h7' : (tk == 7) = false := by simp [h7]
    rw [if_neg h7] at hK
    by_cases h5 : tk = 5
    case neg =>
      have h5' : (tk == 5) = false := by simp [h5]
      rw [if_neg h5] at hK
      by_cases g1 : n = 0
      · by_cases g2 : ks.length = 0
        · simp [zq60, VT.cs, IT.cs, Nat.add_assoc, h6', h7', h5', g1, g2, aPure]
          simp [g1, g2] at hK
          exact ⟨⟨rfl, rfl⟩, tup2 hs hK _⟩
        · have g2' : ((ks.length : Int) == 0) = false := by simp; exact fun h => g2 (by simp [h])
          simp [zq60, VT.cs, IT.cs, Nat.add_assoc, h6', h7', h5', g1, g2, g2', aPure]
          simp [g1, g2] at hK
          exact ⟨⟨rfl, rfl⟩, tup2 hs hK _⟩
      · have g1' : (n == 0) = false := by simp [g1]
        simp [zq60, VT.cs, IT.cs, Nat.add_assoc, h6', h7', h5', g1, g1', aPure]
        simp [g1] at hK
        exact ⟨⟨rfl, rfl⟩, tup2 hs hK _⟩
    subst h5
    simp only [if_true] at hK
    by_cases hn : n = 0
    case neg =>
      have : (n != 0) = true := by simp [bne, hn]
      simp [zq60, VT.cs, IT.cs, Nat.add_assoc, this]
      simp [hn] at hK
      exact ⟨⟨rfl, rfl⟩, tup2 hs hK _⟩
    subst hn
    simp only [if_true] at hK
    simp [zq60, VT.cs, IT.cs, Nat.add_assoc]
    have hT : (VT.mk 5 tn tks).nodes ≤ 1000 := ht
    have hT' : (VT.mk 5 tn tks).cs = [.int .i64 5, .int .i64 tn, .sl (VT.css tks) .none] := rfl
    generalize hTg : VT.mk 5 tn tks = T at *
    have hsc2 : HSc (H ++ [.cells [.int .i64 5, .int .i64 tn, .sl (VT.css tks) .none], .cells [.int .i64 0, .sl (IT.css ks) .none]]) := hs.append (by simp [AB.sc, AV.scA, AV.scB])
    have hF : meaE data ks T 0 = (0, false) → ∀ J, Out H.length K (.tup [.int .i64 0, .bool false]) (H ++ J) := fun h J => tup2 hs (by rw [h] at hK; exact hK) J
    refine zq60_loop13 (Inv := fun q t8 t55 H' => ∃ (i : Nat) (a : Int), i ≤ ks.length ∧ q = ks.length - i ∧ t55 = .int .i64 i ∧ t8 = .int .i64 a ∧ 0 ≤ a ∧ a ≤ 6 ∧ meaE data (ks.drop i) T a = meaE data ks T 0 ∧
      H' = H ++ [.cells [.int .i64 5, .int .i64 tn, .sl (VT.css tks) .none], .cells [.int .i64 0, .sl (IT.css ks) .none]]) ks.length ?_ ?_
    · intro _; exact ⟨0, 0, by omega, by omega, rfl, rfl, by omega, by omega, by simp, rfl⟩
    · rintro q t8 t55 H' ⟨i, a, hi, rfl, rfl, rfl, ha0, ha6, ho, rfl⟩ hsc' hlen hsF Kb hKb
      by_cases hlt : i < ks.length
      · rw [List.drop_eq_getElem_cons hlt] at ho
        have hkn := IT.kid_lt (n := 0) hlt
        obtain ⟨c, es, hx⟩ : ∃ c es, ks[i] = IT.mk c es := by cases h : ks[i] with | mk a b => exact ⟨a, b, rfl⟩
        rw [hx] at ho hkn
        have hesl := IT.len_le es
        have hen : IT.nodesL es + 1 ≤ 900 := by
          have : (IT.mk c es).nodes = IT.nodesL es + 1 := by simp [IT.nodes]
          have : (IT.mk 0 ks).nodes = IT.nodesL ks + 1 := by simp [IT.nodes]
          omega
        have hes : ∀ v ∈ es, MeaOk data v := fun v hvm => by
          obtain ⟨j, hj, rfl⟩ := List.getElem_of_mem hvm
          have := IT.kid_lt (n := c) hj
          exact ih _ (by omega) (by omega)
        simp only [meaE] at ho
        simp [zq60_b13, hlt, hx, IT.cs, Nat.add_assoc]
        rw [← hT']
        refine zq107_spec data hk T hT c _ _ ?_
        cases hp : payT data T c with
        | none =>
          rw [hp] at ho
          simp only at ho
          simp [fieldsR]
          exact ⟨⟨rfl, rfl⟩, hF ho.symm _⟩
        | some ps =>
          rw [hp] at ho
          simp only at ho
          simp [fieldsR]
          have hpn : ∀ t ∈ ps, t.nodes ≤ 1000 := payT_nodes hp
          refine zq106_spec h8 es (by omega) hes ps hpn _ _ ?_
          have htb : 0 ≤ (totR data es ps).1 ∧ (totR data es ps).1 ≤ 6 * es.length := by
            unfold totR
            split
            · have := meaA_bd h8 es ps 0 (by omega); omega
            · simp; omega
          have ho' : (if (totR data es ps).2 && decide (a + (1 + (totR data es ps).1) ≤ 6) then meaE data (ks.drop (i + 1)) T (a + (1 + (totR data es ps).1)) else (0, false)) = meaE data ks T 0 := by
            rw [← ho]
            unfold totR
            by_cases hl : ps.length = es.length
            · simp only [hl, if_true]
            · simp only [hl, if_false]; rfl
          generalize totR data es ps = w at *
          obtain ⟨w1, w2⟩ := w
          simp only at htb ho'
          simp
          have q1 : IntKind.i64.wrap (1 + w1) = 1 + w1 := wrap_in (by omega) (by omega)
          have q2 : IntKind.i64.wrap (a + (1 + w1)) = a + (1 + w1) := wrap_in (by omega) (by omega)
          rw [q1, q2]
          cases w2 with
          | false =>
            simp at ho' ⊢
            exact ⟨⟨rfl, rfl⟩, hF ho'.symm _⟩
          | true =>
            by_cases hh : a + (1 + w1) ≤ 6
            · have hh' : ¬ (6 : Int) < a + (1 + w1) := by omega
              simp [hh] at ho'
              simp [hh']
              rw [wrap_in (by omega) (by omega)]
              refine hKb _ _ ⟨ks.length - (i + 1), by omega, Back.at (J := [.cells [.int .i64 c, .sl (IT.css es) .none]]) (H2 := H ++ [.cells [.int .i64 5, .int .i64 tn, .sl (VT.css tks) .none], .cells [.int .i64 0, .sl (IT.css ks) .none]]) (by simp [hT']) (by simp) hsc2 ?_ ⟨_, _, rfl, i + 1, _, by omega, rfl, by simp, rfl, by omega, by omega, ho', rfl⟩⟩
              simp [zq60_fr13, AV.sc, AV.scV, AV.scA, AV.scB]
            · have hh' : (6 : Int) < a + (1 + w1) := by omega
              simp [hh] at ho'
              simp [hh']
              exact ⟨⟨rfl, rfl⟩, hF ho'.symm _⟩
      · obtain rfl : i = ks.length := by omega
        rw [List.drop_length] at ho
        simp only [meaE] at ho
        rw [← ho] at hK
        simp [zq60_b13]
        exact ⟨⟨rfl, rfl⟩, tup2 hs hK _⟩
end Go.Proofs.YtfpmdpldabopjaaGreatDoor
namespace Go.Proofs.YtfpmdpldabopjaaGreatDoor
open Go Go.Abs
set_option linter.unusedSimpArgs false
set_option linter.unusedVariables false
set_option maxRecDepth 8000
theorem rdV_mk (data : List Dat) (n : Int) (ks : List IT) (tk tn : Int) (tks : List VT) : rdV data (.mk n ks) (.mk tk tn tks) =
    if tk = 6 then (if n = 0 then (if tks.length = ks.length then rdA data ks tks 0 else -1) else -1)
    else if tk = 7 then (if 0 ≤ n ∧ n ≤ 6 ∧ ks.length = 0 then n else -1)
    else if tk = 5 then (if n = 0 ∧ ks.length ≤ 6 then rdE data ks (.mk tk tn tks) 0 else -1)
    else (if n = 0 ∧ ks.length = 0 then 0 else -1) := by
  rw [rdV]
  rfl
theorem agr_bd {m : Int × Bool} {r : Int} (h : agr m r) : -1 ≤ r ∧ r ≤ 6 := by
  obtain ⟨h1, h2⟩ := h
  cases hb : m.2 with
  | true => have := h1 hb; omega
  | false => have := h2 hb; omega
def totI (data : List Dat) (vs : List IT) (ts : List VT) : Int := if ts.length = vs.length then rdA data vs ts 0 else -1
theorem totI_bd {data : List Dat} (h8 : ∀ D ∈ data, D.cons.length ≤ 8) (vs : List IT) (ts : List VT) : -1 ≤ totI data vs ts ∧ totI data vs ts ≤ 6 := by
  unfold totI
  split
  · exact agr_bd ((agrA h8 vs ts 0 (by omega)).1 (by omega))
  · omega
def DegOk (data : List Dat) (v : IT) : Prop := ∀ t : VT, t.nodes ≤ 1000 → ∀ (H : Heap) (K : Kt), K (.int .i64 (rdV data v t)) H → ACalls Tryz.prog n_zq62 [.sl (data.map Dat.cs) .none, .agg t.cs, .agg v.cs] H K
theorem zq108_spec {data : List Dat} (h8 : ∀ D ∈ data, D.cons.length ≤ 8) (vs : List IT) (hv : vs.length ≤ 1000) (hel : ∀ v ∈ vs, DegOk data v) (ts : List VT) (ht : ∀ t ∈ ts, t.nodes ≤ 1000) (H : Heap) (K : Kt)
    (hK : K (.int .i64 (totI data vs ts)) H) : ACalls Tryz.prog n_zq108 [.sl (data.map Dat.cs) .none, .sl (VT.css ts) .none, .sl (IT.css vs) .none] H K := by
  refine ACalls.out (zq108_ok fun hs => ?_)
  have hO : ∀ r J, totI data vs ts = r → Out H.length K (.int .i64 r) (H ++ J) := fun r J h => by subst h; exact Out.int rfl (Nat.le_refl _) hs hK
  have hO0 : ∀ r, totI data vs ts = r → Out H.length K (.int .i64 r) H := fun r h => by simpa using hO r [] h
  by_cases hl : ts.length = vs.length
  case neg =>
    have : ((ts.length : Int) != (vs.length : Int)) = true := by simp [bne]; omega
    simp [zq108, this]
    exact hO0 _ (by simp [totI, hl])
  have htot : totI data vs ts = rdA data vs ts 0 := by simp [totI, hl]
  simp [zq108, hl]
  refine zq108_loop5 (Inv := fun q t7 t17 H' => ∃ (i : Nat) (a : Int), i ≤ vs.length ∧ q = vs.length - i ∧ t17 = .int .i64 i ∧ t7 = .int .i64 a ∧ 0 ≤ a ∧ a ≤ 6 ∧ rdA data (vs.drop i) (ts.drop i) a = totI data vs ts ∧ H' = H) vs.length ?_ ?_
  · intro _; exact ⟨0, 0, by omega, by omega, rfl, rfl, by omega, by omega, by simp [htot], rfl⟩
  · rintro q t7 t17 H' ⟨i, a, hi, rfl, rfl, rfl, ha0, ha6, ho, rfl⟩ hsc' hlen hsF Kb hKb
    by_cases hlt : i < vs.length
    · have hlt' : i < ts.length := by omega
      rw [List.drop_eq_getElem_cons hlt, List.drop_eq_getElem_cons hlt'] at ho
      simp only [rdA] at ho
      have hti := ht _ (List.getElem_mem hlt')
      have hvi := hel _ (List.getElem_mem hlt)
      have hbd := agr_bd (agrV h8 vs[i] ts[i])
      simp [zq108_b5, hl, hlt, hlt', Nat.add_assoc]
      refine aPureX_call (.int .i64 (rdV data vs[i] ts[i])) (fun J => hvi _ hti _ _ ⟨rfl, rfl⟩) ?_
      generalize rdV data vs[i] ts[i] = r at *
      by_cases hr : r < 0
      · rw [if_pos (.inl hr)] at ho
        simp [hr]
        exact hO0 _ ho.symm
      · have q1 : IntKind.i64.wrap (a + r) = a + r := wrap_in (by omega) (by omega)
        by_cases h6 : a + r > 6
        · rw [if_pos (.inr h6)] at ho
          simp [hr, q1, h6]
          exact hO0 _ ho.symm
        · rw [if_neg (by omega)] at ho
          simp [hr, q1, h6]
          rw [wrap_in (by omega) (by omega)]
          refine hKb _ _ ⟨vs.length - (i + 1), by omega, Back.at (J := []) (by simp) (Nat.le_refl _) hs ?_ ⟨_, _, rfl, i + 1, _, by omega, rfl, by simp, rfl, by omega, by omega, ho, rfl⟩⟩
          simp [zq108_fr5, AV.sc, AV.scV, AV.scA, AV.scB]
    · obtain rfl : i = vs.length := by omega
      rw [List.drop_length] at ho
      simp only [rdA] at ho
      simp [zq108_b5, hl]
      exact hO0 _ ho.symm
end Go.Proofs.YtfpmdpldabopjaaGreatDoor
namespace Go.Proofs.YtfpmdpldabopjaaGreatDoor
open Go Go.Abs
set_option linter.unusedSimpArgs false
set_option linter.unusedVariables false
set_option maxRecDepth 8000
theorem zq62_spec {data : List Dat} (hk : KData data) (h8 : ∀ D ∈ data, D.cons.length ≤ 8) : ∀ (m : Nat) (v : IT), v.nodes ≤ m → v.nodes ≤ 900 → DegOk data v := by
  intro m
  induction m with
  | zero => intro v h; have := v.nodes_pos; omega
  | succ m ih =>
    intro v hv hb t ht H K hK
    obtain ⟨n, ks⟩ := v
    obtain ⟨tk, tn, tks⟩ := t
    have hnl : IT.nodesL ks + 1 ≤ 900 := by simpa [IT.nodes] using hb
    have hll := IT.len_le ks
    have hkids : ∀ v ∈ ks, DegOk data v := fun v hvm => by
      obtain ⟨i, hi, rfl⟩ := List.getElem_of_mem hvm
      have := IT.kid_lt (n := n) hi
      exact ih _ (by omega) (by omega)
    refine ACalls.out (zq62_ok fun hs => ?_)
    rw [rdV_mk] at hK
    have hO : ∀ r J, K (.int .i64 r) H → Out H.length K (.int .i64 r) (H ++ J) := fun r J h => Out.int rfl (Nat.le_refl _) hs h
    by_cases h6 : tk = 6
    · subst h6
      rw [if_pos rfl] at hK
      by_cases hn : n = 0
      · subst hn
        rw [if_pos rfl] at hK
        simp [zq62, VT.cs, IT.cs, Nat.add_assoc]
        have htk : ∀ t ∈ tks, t.nodes ≤ 1000 := fun t htm => by
          obtain ⟨i, hi, rfl⟩ := List.getElem_of_mem htm
          have := VT.kid_lt (k := 6) (n := tn) hi
          omega
        refine zq108_spec h8 ks (by omega) hkids tks htk _ _ ?_
        exact hO _ _ hK
      · have : (n != 0) = true := by simp [bne, hn]
        rw [if_neg hn] at hK
        simp [zq62, VT.cs, IT.cs, Nat.add_assoc, this]
        exact hO _ _ hK
    have h6' : (tk == 6) = false := by simp [h6]
    rw [if_neg h6] at hK
    by_cases h7 : tk = 7
    · subst h7
      rw [if_pos rfl] at hK
      by_cases g1 : n < 0
      · rw [if_neg (by omega)] at hK
        simp [zq62, VT.cs, IT.cs, Nat.add_assoc, g1]
        exact hO _ _ hK
      · by_cases g2 : n > 6
        · rw [if_neg (by omega)] at hK
          simp [zq62, VT.cs, IT.cs, Nat.add_assoc, g1, g2]
          exact hO _ _ hK
        · by_cases g3 : 0 < ks.length
          · rw [if_neg (by omega)] at hK
            have g3' : (0 : Int) < ks.length := by omega
            simp [zq62, VT.cs, IT.cs, Nat.add_assoc, g1, g2, g3, g3']
            exact hO _ _ hK
          · rw [if_pos (by omega)] at hK
            have g3' : ¬ (0 : Int) < ks.length := by omega
            simp [zq62, VT.cs, IT.cs, Nat.add_assoc, g1, g2, g3, g3']
            exact hO _ _ hK
    have h7' : (tk == 7) = false := by simp [h7]
    rw [if_neg h7] at hK
    by_cases h5 : tk = 5
    case neg =>
      have h5' : (tk == 5) = false := by simp [h5]
      rw [if_neg h5] at hK
      by_cases g1 : n = 0
      · subst g1
        by_cases g2 : 0 < ks.length
        · have g2' : (0 : Int) < ks.length := by omega
          rw [if_neg (by omega)] at hK
          simp [zq62, VT.cs, IT.cs, Nat.add_assoc, h6', h7', h5', g2, g2']
          exact hO _ _ hK
        · have g2' : ¬ (0 : Int) < ks.length := by omega
          rw [if_pos (by omega)] at hK
          simp [zq62, VT.cs, IT.cs, Nat.add_assoc, h6', h7', h5', g2, g2']
          exact hO _ _ hK
      · have g1' : (n != 0) = true := by simp [bne, g1]
        rw [if_neg (by omega)] at hK
        simp [zq62, VT.cs, IT.cs, Nat.add_assoc, h6', h7', h5', g1, g1']
        exact hO _ _ hK
    subst h5
    rw [if_pos rfl] at hK
    by_cases hn : n = 0
    case neg =>
      have : (n != 0) = true := by simp [bne, hn]
      rw [if_neg (by omega)] at hK
      simp [zq62, VT.cs, IT.cs, Nat.add_assoc, this]
      exact hO _ _ hK
    subst hn
    by_cases hl6 : ks.length > 6
    · rw [if_neg (by omega)] at hK
      have : (6 : Int) < ks.length := by omega
      simp [zq62, VT.cs, IT.cs, Nat.add_assoc, this]
      exact hO _ _ hK
    have hl6' : ¬ (6 : Int) < ks.length := by omega
    rw [if_pos (by omega)] at hK
    simp [zq62, VT.cs, IT.cs, Nat.add_assoc, hl6']
    have hT : (VT.mk 5 tn tks).nodes ≤ 1000 := ht
    have hT' : (VT.mk 5 tn tks).cs = [.int .i64 5, .int .i64 tn, .sl (VT.css tks) .none] := rfl
    generalize hTg : VT.mk 5 tn tks = T at *
    have hsc2 : HSc (H ++ [.cells [.int .i64 5, .int .i64 tn, .sl (VT.css tks) .none], .cells [.int .i64 0, .sl (IT.css ks) .none]]) := hs.append (by simp [AB.sc, AV.scA, AV.scB])
    have hF : ∀ r, r = rdE data ks T 0 → ∀ J, Out H.length K (.int .i64 r) (H ++ J) := fun r h J => hO _ _ (by rw [h]; exact hK)
    refine zq62_loop15 (Inv := fun q t7 t58 H' => ∃ (i : Nat) (a : Int), i ≤ ks.length ∧ q = ks.length - i ∧ t58 = .int .i64 i ∧ t7 = .int .i64 a ∧ 0 ≤ a ∧ a ≤ 6 ∧ rdE data (ks.drop i) T a = rdE data ks T 0 ∧
      H' = H ++ [.cells [.int .i64 5, .int .i64 tn, .sl (VT.css tks) .none], .cells [.int .i64 0, .sl (IT.css ks) .none]]) ks.length ?_ ?_
    · intro _; exact ⟨0, 0, by omega, by omega, rfl, rfl, by omega, by omega, by simp, rfl⟩
    · rintro q t7 t58 H' ⟨i, a, hi, rfl, rfl, rfl, ha0, ha6, ho, rfl⟩ hsc' hlen hsF Kb hKb
      by_cases hlt : i < ks.length
      · rw [List.drop_eq_getElem_cons hlt] at ho
        have hkn := IT.kid_lt (n := 0) hlt
        obtain ⟨c, es, hx⟩ : ∃ c es, ks[i] = IT.mk c es := by cases h : ks[i] with | mk a b => exact ⟨a, b, rfl⟩
        rw [hx] at ho hkn
        have hesl := IT.len_le es
        have hen : IT.nodesL es + 1 ≤ 900 := by
          have : (IT.mk c es).nodes = IT.nodesL es + 1 := by simp [IT.nodes]
          have : (IT.mk 0 ks).nodes = IT.nodesL ks + 1 := by simp [IT.nodes]
          omega
        have hes : ∀ v ∈ es, DegOk data v := fun v hvm => by
          obtain ⟨j, hj, rfl⟩ := List.getElem_of_mem hvm
          have := IT.kid_lt (n := c) hj
          exact ih _ (by omega) (by omega)
        simp only [rdE] at ho
        by_cases c1 : c < 0
        · rw [if_pos (.inl c1)] at ho
          simp [zq62_b15, hlt, hx, IT.cs, Nat.add_assoc, c1]
          exact hF _ ho _
        by_cases c2 : 8 ≤ c
        · rw [if_pos (.inr c2)] at ho
          simp [zq62_b15, hlt, hx, IT.cs, Nat.add_assoc, c1, c2]
          exact hF _ ho _
        rw [if_neg (by omega)] at ho
        simp [zq62_b15, hlt, hx, IT.cs, Nat.add_assoc, c1, c2]
        rw [← hT']
        refine zq83_spec data hk T hT c _ _ ?_
        cases hp : payT data T c with
        | none =>
          rw [hp] at ho
          simp only at ho
          simp [fieldsR]
          exact hF _ ho _
        | some ps =>
          rw [hp] at ho
          simp only at ho
          simp [fieldsR]
          have hpn : ∀ t ∈ ps, t.nodes ≤ 1000 := payT_nodes hp
          refine zq108_spec h8 es (by omega) hes ps hpn _ _ ?_
          have htb := totI_bd h8 es ps
          have ho' : (if totI data es ps < 0 ∨ a + 1 + totI data es ps > 6 then -1 else rdE data (ks.drop (i + 1)) T (a + (1 + totI data es ps))) = rdE data ks T 0 := by
            rw [← ho]
            unfold totI
            by_cases hl : ps.length = es.length
            · simp only [hl, if_true]
            · simp only [hl, if_false]; rfl
          generalize totI data es ps = w at *
          by_cases w0 : w < 0
          · rw [if_pos (.inl w0)] at ho'
            simp [w0]
            exact hF _ ho' _
          · have q1 : IntKind.i64.wrap (a + 1) = a + 1 := wrap_in (by omega) (by omega)
            have q2 : IntKind.i64.wrap (a + 1 + w) = a + 1 + w := wrap_in (by omega) (by omega)
            have q3 : IntKind.i64.wrap (1 + w) = 1 + w := wrap_in (by omega) (by omega)
            have q4 : IntKind.i64.wrap (a + (1 + w)) = a + (1 + w) := wrap_in (by omega) (by omega)
            by_cases hh : a + 1 + w > 6
            · rw [if_pos (.inr hh)] at ho'
              simp [w0, q1, q2, hh]
              exact hF _ ho' _
            · rw [if_neg (by omega)] at ho'
              simp [w0, q1, q2, hh, q3, q4]
              rw [wrap_in (by omega) (by omega)]
              refine hKb _ _ ⟨ks.length - (i + 1), by omega, Back.at (J := [.cells [.int .i64 c, .sl (IT.css es) .none]]) (H2 := H ++ [.cells [.int .i64 5, .int .i64 tn, .sl (VT.css tks) .none], .cells [.int .i64 0, .sl (IT.css ks) .none]]) (by simp [hT']) (by simp) hsc2 ?_ ⟨_, _, rfl, i + 1, _, by omega, rfl, by simp, rfl, by omega, by omega, ho', rfl⟩⟩
              simp [zq62_fr15, AV.sc, AV.scV, AV.scA, AV.scB]
      · obtain rfl : i = ks.length := by omega
        rw [List.drop_length] at ho
        simp only [rdE] at ho
        simp [zq62_b15]
        exact hF _ ho _
end Go.Proofs.YtfpmdpldabopjaaGreatDoor
namespace Go.Proofs.YtfpmdpldabopjaaGreatDoor
open Go Go.Abs
set_option linter.unusedSimpArgs false
set_option linter.unusedVariables false
set_option maxRecDepth 8000
theorem datsOk_cons {data : List Dat} : ∀ {l : List Dat} {d : Nat}, datsOk data l d = true → ∀ D ∈ l, D.cons.length ≤ 8
  | [], _, _, D, h => by cases h
  | E :: l, d, h, D, hD => by
    simp only [datsOk, Bool.and_eq_true] at h
    rcases List.mem_cons.1 hD with rfl | hD
    · have := h.1
      simp only [datOk, Bool.and_eq_true, decide_eq_true_eq] at this
      exact this.1.2
    · exact datsOk_cons h.2 D hD
theorem fine_cons {data : List Dat} {t : VT} (h : fineV data t = true) : ∀ D ∈ data, D.cons.length ≤ 8 := by
  simp only [fineV, dataOk, Bool.and_eq_true] at h
  exact datsOk_cons h.1.1.1.2
def degI (data : List Dat) (t : VT) (v : IT) : Int := if fineV data t then rdV data v t else -1
theorem zq59_spec (data : List Dat) (hk : KData data) (t : VT) (ht : t.nodes ≤ 1000000) (H : Heap) (K : Kt) (hK : K (.bool (fineV data t)) H) : ACalls Tryz.prog n_zq59 [.sl (data.map Dat.cs) .none, .agg t.cs] H K := by
  refine ACalls.out (zq59_ok fun hs => ?_)
  obtain ⟨x, y, z, hvx, hx, hy, hz⟩ := vt3' t
  simp [zq59, aBuild, fillA, hvx, Nat.add_assoc]
  refine zq84_d4 data (kdata_small hk) (by have := hk.1; omega) ?_
  unfold fineV at hK
  cases hd : dataOk data with
  | false =>
    rw [hd] at hK
    simp
    exact Out.bool rfl (Nat.le_refl _) hs hK
  | true =>
    rw [hd, Bool.true_and] at hK
    simp
    rw [← hvx]
    refine zq85_spec data 0 t (by omega) _ _ ?_
    exact Out.bool rfl (Nat.le_refl _) hs hK
theorem zq61_spec (data : List Dat) (hk : KData data) (t : VT) (ht : t.nodes ≤ 1000000) (H : Heap) (K : Kt) (hK : K (.bool (fineV data t)) H) : ACalls Tryz.prog n_zq61 [.sl (data.map Dat.cs) .none, .agg t.cs] H K := by
  refine ACalls.out (zq61_ok fun hs => ?_)
  obtain ⟨x, y, z, hvx, hx, hy, hz⟩ := vt3' t
  simp [zq61, hvx, Nat.add_assoc]
  refine zq51_spec data hk _ _ fun b hb => ?_
  have hbd : b = dataOk data := by rw [Bool.eq_iff_iff, hb, data_iff]
  subst hbd
  unfold fineV at hK
  cases hd : dataOk data with
  | false =>
    rw [hd] at hK
    simp
    exact Out.bool rfl (Nat.le_refl _) hs hK
  | true =>
    rw [hd, Bool.true_and] at hK
    simp
    rw [← hvx]
    refine zq52_spec data (by have := hk.1; omega) 0 t (by omega) _ _ ?_
    exact Out.bool rfl (Nat.le_refl _) hs hK
theorem zq25_spec (data : List Dat) (hk : KData data) (t : VT) (ht : t.nodes ≤ 1000) (v : IT) (hv : v.nodes ≤ 900) (H : Heap) (K : Kt) (hK : K (.int .i64 (degI data t v)) H) : ACalls Tryz.prog n_zq25 [.sl (data.map Dat.cs) .none, .agg t.cs, .agg v.cs] H K := by
  refine ACalls.out (zq25_ok fun hs => ?_)
  have hO : ∀ r J, degI data t v = r → Out H.length K (.int .i64 r) (H ++ J) := fun r J h => by subst h; exact Out.int rfl (Nat.le_refl _) hs hK
  obtain ⟨x, y, z, hvx, hx, hy, hz⟩ := vt3' t
  obtain ⟨x2, y2, hvx2, hx2, hy2⟩ := it2 v
  simp [zq25, hvx, hvx2, Nat.add_assoc]
  rw [← hvx]
  refine zq59_spec data hk t (by omega) _ _ ?_
  cases hf : fineV data t with
  | false =>
    simp
    exact hO _ _ (by simp [degI, hf])
  | true =>
    have h8 := fine_cons hf
    obtain ⟨g1, g2⟩ := agrV h8 v t
    simp [Nat.add_assoc]
    rw [← hvx2]
    refine zq60_spec hk h8 _ v (Nat.le_refl _) hv t ht _ _ ?_
    cases hb : (meaV data v t).2 with
    | false =>
      simp
      exact hO _ _ (by simp [degI, hf, g2 hb])
    | true =>
      simp
      exact hO _ _ (by simp [degI, hf, (g1 hb).1])
theorem zq26_spec (data : List Dat) (hk : KData data) (t : VT) (ht : t.nodes ≤ 1000) (v : IT) (hv : v.nodes ≤ 900) (H : Heap) (K : Kt) (hK : K (.int .i64 (degI data t v)) H) : ACalls Tryz.prog n_zq26 [.sl (data.map Dat.cs) .none, .agg t.cs, .agg v.cs] H K := by
  refine ACalls.out (zq26_ok fun hs => ?_)
  have hO : ∀ r J, degI data t v = r → Out H.length K (.int .i64 r) (H ++ J) := fun r J h => by subst h; exact Out.int rfl (Nat.le_refl _) hs hK
  obtain ⟨x, y, z, hvx, hx, hy, hz⟩ := vt3' t
  obtain ⟨x2, y2, hvx2, hx2, hy2⟩ := it2 v
  simp [zq26, hvx, hvx2, Nat.add_assoc]
  rw [← hvx]
  refine zq61_spec data hk t (by omega) _ _ ?_
  cases hf : fineV data t with
  | false =>
    simp
    exact hO _ _ (by simp [degI, hf])
  | true =>
    have h8 := fine_cons hf
    simp [Nat.add_assoc]
    rw [← hvx2]
    refine zq62_spec hk h8 _ v (Nat.le_refl _) hv t ht _ _ ?_
    exact hO _ _ (by simp [degI, hf])
theorem zq23_spec (data : List Dat) (hk : KData data) (t : VT) (ht : t.nodes ≤ 1000) (v : IT) (hv : v.nodes ≤ 900) (H : Heap) (K : Kt) (hK : K (.bool (decide (0 ≤ degI data t v))) H) : ACalls Tryz.prog n_zq23 [.sl (data.map Dat.cs) .none, .agg t.cs, .agg v.cs] H K := by
  refine ACalls.out (zq23_ok fun hs => ?_)
  obtain ⟨x, y, z, hvx, hx, hy, hz⟩ := vt3' t
  obtain ⟨x2, y2, hvx2, hx2, hy2⟩ := it2 v
  simp [zq23, hvx, hvx2, Nat.add_assoc]
  rw [← hvx, ← hvx2]
  refine zq25_spec data hk t ht v hv _ _ ?_
  simp
  exact Out.bool rfl (Nat.le_refl _) hs (by simpa using hK)
theorem zq24_spec (data : List Dat) (hk : KData data) (t : VT) (ht : t.nodes ≤ 1000) (v : IT) (hv : v.nodes ≤ 900) (H : Heap) (K : Kt) (hK : K (.bool (decide (0 ≤ degI data t v))) H) : ACalls Tryz.prog n_zq24 [.sl (data.map Dat.cs) .none, .agg t.cs, .agg v.cs] H K := by
  refine ACalls.out (zq24_ok fun hs => ?_)
  obtain ⟨x, y, z, hvx, hx, hy, hz⟩ := vt3' t
  obtain ⟨x2, y2, hvx2, hx2, hy2⟩ := it2 v
  simp [zq24, hvx, hvx2, Nat.add_assoc]
  rw [← hvx, ← hvx2]
  refine zq26_spec data hk t ht v hv _ _ ?_
  simp
  exact Out.bool rfl (Nat.le_refl _) hs (by simpa using hK)
end Go.Proofs.YtfpmdpldabopjaaGreatDoor
namespace Go.Proofs.YtfpmdpldabopjaaGreatDoor
open Go Go.Abs
set_option linter.unusedSimpArgs false
set_option linter.unusedVariables false
set_option maxRecDepth 8000
def c71 : List AV := [.int .i64 7, .int .i64 0, .sl [[.int .i64 1, .int .i64 0, .sl [] .none]] .full]
def t71 : AV := .agg c71
def i2 : AV := .agg [.int .i64 2, .snil]
theorem deg_71 : degI [] (.mk 7 0 [.mk 1 0 []]) (.mk 2 []) = 2 := by decide
theorem nil71 {f : Nat} {H : Heap} {K : Kt} (h : ACalls Tryz.prog f [.sl (([] : List Dat).map Dat.cs) .none, .agg (VT.mk 7 0 [.mk 1 0 []]).cs, .agg (IT.mk 2 []).cs] H K) : ACalls Tryz.prog f [.snil, t71, i2] H K :=
  ACalls.wk h ⟨.atom .snil, .agg ⟨.refl _, .refl _, .sl _ _, trivial⟩, .agg ⟨.refl _, .snil, trivial⟩, trivial⟩
theorem Degree_71 (H : Heap) (K : Kt) (hK : K (.int .i64 2) H) : ACalls Tryz.prog n_zq25 [.snil, t71, i2] H K :=
  nil71 (zq25_spec [] kdata_nil _ (by decide) _ (by decide) _ _ (by rw [deg_71]; exact hK))
theorem Valid_71 (H : Heap) (K : Kt) (hK : K (.bool true) H) : ACalls Tryz.prog n_zq23 [.snil, t71, i2] H K :=
  nil71 (zq23_spec [] kdata_nil _ (by decide) _ (by decide) _ _ (by rw [deg_71]; exact hK))
theorem Format_71 (H : Heap) (K : Kt) (hK : K (.str [50]) H) : ACalls Tryz.prog n_zq28 [.snil, t71, i2] H K := by
  refine ACalls.out (zq28_ok fun hs => ?_)
  simp [zq28, t71, c71, i2, Nat.add_assoc]
  refine Valid_71 _ _ ?_
  simp [aNewB, Nat.add_assoc]
  refine zq63_ok fun hs2 => ?_
  simp [zq63, Nat.add_assoc]
  refine Itoa_spec 2 (by omega) _ _ ?_
  refine ACalls.ownB (id := H.length + 2) (t := 73) (p := .nilp) 5 1 (by simp) ?_
  refine WriteString_spec (id2 := H.length + 5) (l := []) (.inl rfl) (by simp [bcs]) (by simp) (by simp [small]) ?_
  have e7 : small 2 = [50] := by decide
  have e1 : ∀ F : AV → Heap → Prop, ∀ X, zq63_j1 X F = F (.tup []) X := fun F X => by simp [zq63_j1, aRet]
  rw [e1, e7]
  refine String_spec (id2 := H.length + 5) (l := [50]) (p := .ptr (H.length + 2) 0) ?_ ?_ ?_
  · simp
  · simp
  · exact Out.at (H2 := H) (J := [.cells c71, .cells [.int .i64 2, .snil], .bld 73 [.ptr (H.length + 2) 0, .sl (bcs [50]) (.own (H.length + 5))], .cells c71, .cells [.int .i64 2, .snil], .dead]) (by simp [List.set_append_right, c71]) (Nat.le_refl _) hs .rfl' rfl rfl hK
theorem awake15_spec (H : Heap) (K : Kt) (hK : K (.bool true) H) : ACalls Tryz.prog n_zq27 [] H K := by
  refine ACalls.out (zq27_ok fun hs => ?_)
  simp [zq27, aBuild, fillA, aBuildS, fillS, plain, AV.pd, Nat.add_assoc]
  refine Degree_71 _ _ ?_
  simp [Nat.add_assoc]
  refine Valid_71 _ _ ?_
  simp [Nat.add_assoc]
  refine Format_71 _ _ ?_
  simp
  exact Out.bool rfl (Nat.le_refl _) hs hK
theorem small_law_spec (data : List Dat) (hlen : data.length ≤ 9223372036854775807) (t : VT) (H : Heap) (K : Kt) (hK : ∀ b, (b = true → KData data ∧ t.nodes ≤ 250) → K (.bool b) H) : ACalls Tryz.prog n_zq21 [.sl (data.map Dat.cs) .none, .agg t.cs] H K := by
  refine ACalls.out (zq21_ok fun hs => ?_)
  have hO : ∀ b, (b = true → KData data ∧ t.nodes ≤ 250) → ∀ J, Out H.length K (.bool b) (H ++ J) := fun b h J => Out.bool rfl (Nat.le_refl _) hs (hK b h)
  obtain ⟨x, y, z, hvx, hx, hy, hz⟩ := vt3' t
  simp [zq21, hvx, Nat.add_assoc]
  refine zq13_spec data _ _ hlen fun b1 hb1 => ?_
  cases b1 with
  | false =>
    simp
    exact hO _ (fun h => by cases h) _
  | true =>
    simp [Nat.add_assoc]
    rw [← hvx]
    refine zq15_spec t _ _ fun b2 hb2 => ?_
    try simp
    exact hO _ (fun h => ⟨hb1 rfl, hb2 h⟩) _
end Go.Proofs.YtfpmdpldabopjaaGreatDoor
