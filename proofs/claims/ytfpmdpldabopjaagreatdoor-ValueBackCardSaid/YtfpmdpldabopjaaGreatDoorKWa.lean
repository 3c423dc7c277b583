/- Values in writing: what both sides write. -/
import Derived.Test.YtfpmdpldabopjaaGreatDoorKVb
import Derived.Test.YtfpmdpldabopjaaGreatDoorKCN
import Derived.Test.YtfpmdpldabopjaaGreatDoorKIFb
import Derived.Lib.ItoaNum
import Derived.Test.YtfpmdpldabopjaaGreatDoorKGW
import Derived.Test.YtfpmdpldabopjaaGreatDoorA3
import Derived.Test.YtfpmdpldabopjaaGreatDoorKSH
import Derived.Test.YtfpmdpldabopjaaGreatDoorKX1
namespace Go.Proofs.YtfpmdpldabopjaaGreatDoor
open Go Go.Abs
set_option linter.unusedSimpArgs false
set_option linter.unusedVariables false
mutual
def wrV (data : List Dat) : VT → VT → List UInt8
  | .mk vk vn vks, t =>
    if t.kind = 1 then Lib.itoa vn
    else if t.kind = 2 then (if vn = 1 then [116, 114, 117, 101] else [102, 97, 108, 115, 101])
    else if t.kind = 3 then [40, 41]
    else if t.kind = 6 then [40] ++ wrL data vks t.kids true ++ [41]
    else if t.kind = 5 then conName data t vn ++ (if vks.length = 0 then [] else match fields data t vn with
      | some ts => [40] ++ wrL data vks ts true ++ [41]
      | none => [])
    else if t.kind = 7 then [91] ++ wrL data vks (List.replicate vks.length (t.kids.getD 0 (.mk 0 0 []))) true ++ [93]
    else if t.kind = 8 then [114, 101, 102, 40] ++ wrL data vks t.kids true ++ [41]
    else [102, 110, 35] ++ Lib.itoa vn
def wrL (data : List Dat) : List VT → List VT → Bool → List UInt8
  | [], _, _ => []
  | v :: vs, ts, first => match ts with
    | t :: ts => (if first then [] else [44, 32]) ++ wrV data v t ++ wrL data vs ts false
    | [] => []
end
theorem nDigits_le : ∀ (k u : Nat), u < 10 ^ (k + 1) → Lib.nDigits u ≤ k + 1
  | 0, u, h => by rw [Lib.nDigits_small (by simpa using h)]; exact Nat.le_refl _
  | k + 1, u, h => by
    by_cases h1 : u < 10
    · rw [Lib.nDigits_small h1]; omega
    · rw [Lib.nDigits_big h1]
      have := nDigits_le k (u / 10) (by rw [Nat.pow_succ] at h; omega)
      omega
theorem itoa_len {n : Int} (h1 : -1099511627776 ≤ n) (h2 : n ≤ 1099511627776) : (Lib.itoa n).length ≤ 20 := by
  unfold Lib.itoa
  split
  · rw [List.length_cons, Lib.decDigits_length]
    have := nDigits_le 12 n.natAbs (by omega)
    omega
  · rw [Lib.decDigits_length]
    have := nDigits_le 12 n.toNat (by omega)
    omega
/-- A valid value's text is not long. -/
def Rng (vn : Int) : Prop := -1099511627776 ≤ vn ∧ vn ≤ 1099511627776
mutual
theorem wrV_bound {data : List Dat} (hk : KData data) : ∀ (v t : VT), hasV data v t = true → (wrV data v t).length + 28 ≤ 70 * v.nodes
  | .mk vk vn vks, t => by
    intro h
    obtain ⟨k, n, al⟩ := t
    have hL := wrL_bound hk vks
    simp only [wrV, VT.kind, VT.kids, VT.nodes]
    rw [hasV] at h
    by_cases h1 : k = 1
    · simp [h1] at h ⊢
      have := itoa_len (n := vn) (by omega) (by omega)
      omega
    by_cases h2 : k = 2
    · simp [h2] at h ⊢
      split <;> simp <;> omega
    by_cases h3 : k = 3
    · simp [h3] at h ⊢
      omega
    by_cases h6 : k = 6
    · simp [h6] at h ⊢
      have := hL al true (.inl h.2)
      omega
    by_cases h5 : k = 5
    · simp [h5] at h ⊢
      have hc := con_bound hk (.mk 5 n al) vn
      split
      · simp; omega
      · cases hf : fields data (.mk 5 n al) vn with
        | none => simp; omega
        | some ts =>
          rw [hf, hasL?_some] at h
          have := hL ts true (.inl h.2)
          simp; omega
    by_cases h7 : k = 7
    · simp [h7] at h ⊢
      have := hL (List.replicate vks.length (al.getD 0 (.mk 0 0 []))) true (.inr ⟨_, rfl, by simpa using h.2⟩)
      simp at this
      omega
    by_cases h8 : k = 8
    · simp [h8] at h ⊢
      have := hL al true (.inl h.2)
      simp; omega
    · simp [h1, h2, h3, h6, h5, h7, h8] at h ⊢
      have := itoa_len (n := vn) (by omega) (by omega)
      omega
theorem wrL_bound {data : List Dat} (hk : KData data) : ∀ (vs ts : List VT) (b : Bool), (hasL data vs ts = true ∨ ∃ t, ts = List.replicate vs.length t ∧ hasA data vs t = true) → (wrL data vs ts b).length ≤ 70 * VT.nodesL vs
  | [], ts, b => by intro _; simp [wrL]
  | v :: vs, [], b => by intro _; simp [wrL]
  | v :: vs, t :: ts, b => by
    intro h
    have h12 : hasV data v t = true ∧ (hasL data vs ts = true ∨ ∃ t, ts = List.replicate vs.length t ∧ hasA data vs t = true) := by
      rcases h with h | ⟨u, h, h'⟩
      · simp only [hasL, Bool.and_eq_true] at h
        exact ⟨h.1, .inl h.2⟩
      · simp only [List.length_cons, List.replicate_succ, List.cons.injEq] at h
        simp only [hasA, Bool.and_eq_true] at h'
        obtain ⟨rfl, h⟩ := h
        exact ⟨h'.1, .inr ⟨_, h, h'.2⟩⟩
    have h1 := wrV_bound hk v t h12.1
    have h2 := wrL_bound hk vs ts false h12.2
    have hb : (if b then ([] : List UInt8) else [44, 32]).length ≤ 2 := by cases b <;> simp
    simp only [wrL, VT.nodesL, List.length_append]
    omega
end
end Go.Proofs.YtfpmdpldabopjaaGreatDoor
namespace Go.Proofs.YtfpmdpldabopjaaGreatDoor
open Go Go.Abs
set_option linter.unusedSimpArgs false
set_option linter.unusedVariables false
set_option maxRecDepth 8000
theorem u48 (k : Nat) : UInt8.ofNat (48 + k) = 48 + UInt8.ofNat k := by simp [UInt8.ofNat_add]
end Go.Proofs.YtfpmdpldabopjaaGreatDoor
namespace Go.Proofs.YtfpmdpldabopjaaGreatDoor
open Go Go.Abs
set_option linter.unusedSimpArgs false
set_option linter.unusedVariables false
set_option maxRecDepth 8000
theorem wrV_mk (data : List Dat) (vk vn : Int) (vks : List VT) (k n : Int) (al : List VT) : wrV data (.mk vk vn vks) (.mk k n al) =
    if k = 1 then Lib.itoa vn
    else if k = 2 then (if vn = 1 then [116, 114, 117, 101] else [102, 97, 108, 115, 101])
    else if k = 3 then [40, 41]
    else if k = 6 then [40] ++ wrL data vks al true ++ [41]
    else if k = 5 then conName data (.mk k n al) vn ++ (if vks.length = 0 then [] else match fields data (.mk k n al) vn with
      | some ts => [40] ++ wrL data vks ts true ++ [41]
      | none => [])
    else if k = 7 then [91] ++ wrL data vks (List.replicate vks.length (al.getD 0 (.mk 0 0 []))) true ++ [93]
    else if k = 8 then [114, 101, 102, 40] ++ wrL data vks al true ++ [41]
    else [102, 110, 35] ++ Lib.itoa vn := by
  rw [wrV]
  rfl
theorem hasA_rep {data : List Dat} {t : VT} {vs : List VT} (h : hasA data vs t = true) (i : Nat) (h1 : i < vs.length) (h2 : i < (List.replicate vs.length t).length) : hasV data vs[i] (List.replicate vs.length t)[i] = true := by
  rw [List.getElem_replicate]
  exact hasA_at h _ (List.getElem_mem h1)
end Go.Proofs.YtfpmdpldabopjaaGreatDoor
namespace Go.Proofs.YtfpmdpldabopjaaGreatDoor
open Go Go.Abs
set_option linter.unusedSimpArgs false
set_option linter.unusedVariables false
set_option maxRecDepth 8000
theorem tupW {n : Nat} {H2 J H' : Heap} {K : Kt} (he : H' = H2 ++ J) (hn : n ≤ H2.length) (hs : HSc H2) (h : K (.tup []) H2) : Out n K (.tup []) H' := by
  subst he
  exact ⟨.tup [], H2, J, rfl, hn, hs, .tup trivial, h⟩
/-- The heap besides a builder's two blocks. -/
def Rest (H X : Heap) (id id2 : Nat) : Prop := ∀ k, k < H.length → k ≠ id → k ≠ id2 → X[k]? = H[k]?
theorem rest_bw {H : Heap} {id id2 : Nat} (l : List UInt8) (J : Heap) : Rest H (bw H id id2 l ++ J) id id2 := by
  intro k hk h1 h2
  rw [List.getElem?_append_left (by simpa using hk)]
  unfold bw
  rw [List.getElem?_set_ne (fun h => h1 h.symm), List.getElem?_set_ne (fun h => h2 h.symm)]
/-- A closure that gives the type of each place. -/
def TypF (fv : AV) (H : Heap) (id id2 : Nat) (ts : List VT) : Prop := ∀ (i : Nat) (hi : i < ts.length) (X : Heap) (K : Kt), Rest H X id id2 → K (.agg (ts[i]).cs) X → aCallV Tryz.prog fv [.int .i64 i] X K
/-- The table of powers of ten lies in the memory. -/
def Ft (H : Heap) (id id2 : Nat) : Prop := ∃ k, k < H.length ∧ k ≠ id ∧ k ≠ id2 ∧ H[k]? = some (.fact LF)
theorem Ft.rest {H X : Heap} {id id2 : Nat} (h : Ft H id id2) (hl : H.length ≤ X.length) (hr : Rest H X id id2) : Ft X id id2 := by
  obtain ⟨k, h1, h2, h3, h4⟩ := h
  exact ⟨k, by omega, h2, h3, by rw [hr k h1 h2 h3]; exact h4⟩
theorem Ft.bw {H : Heap} {id id2 : Nat} (h : Ft H id id2) (l : List UInt8) (J : Heap) : Ft (bw H id id2 l ++ J) id id2 := h.rest (by simp) (rest_bw l J)
theorem Ft.app {H : Heap} {id id2 : Nat} (h : Ft H id id2) (J : Heap) : Ft (H ++ J) id id2 := by
  obtain ⟨k, h1, h2, h3, h4⟩ := h
  exact ⟨k, by simp; omega, h2, h3, by rw [List.getElem?_append_left h1]; exact h4⟩
def WrW (data : List Dat) (v : VT) : Prop := ∀ t : VT, tyValid data 0 t = true → hasV data v t = true → ∀ (H : Heap) (id id2 : Nat) (l : List UInt8), Bw H id id2 l → Ft H id id2 → l.length + (wrV data v t).length ≤ 1000000000 →
  ∀ K : Kt, K (.tup []) (bw H id id2 (l ++ wrV data v t)) → ACalls Tryz.prog n_value_write [.ptr id 0, .sl (data.map Dat.cs) .none, .agg v.cs, .agg t.cs] H K
theorem value_writeAll_spec {data : List Dat} (vs : List VT) (hv : vs.length ≤ 1000000) (hel : ∀ v ∈ vs, WrW data v) (ts : List VT) (hlen : vs.length = ts.length) (ht : ∀ t ∈ ts, tyValid data 0 t = true)
    (hh : ∀ (i : Nat) (h1 : i < vs.length) (h2 : i < ts.length), hasV data vs[i] ts[i] = true) (fv : AV) (H : Heap) (id id2 : Nat) (hfv : fv.sc H.length = true) (hF : TypF fv H id id2 ts) (l : List UInt8) (hB : Bw H id id2 l) (hT : Ft H id id2)
    (hb : l.length + (wrL data vs ts true).length ≤ 1000000000) (K : Kt) (hK : K (.tup []) (bw H id id2 (l ++ wrL data vs ts true))) (hl0 : bw H id id2 l = H) :
    ACalls Tryz.prog n_value_writeAll [.ptr id 0, .sl (data.map Dat.cs) .none, .sl (VT.css vs) .none, fv] H K := by
  refine ACalls.out (value_writeAll_ok fun hs => ?_)
  have hne := hB.ne
  have hO : ∀ X J, X = bw H id id2 (l ++ wrL data vs ts true) → Out H.length K (.tup []) (X ++ J) := fun X J h => by
    subst h; exact tupW rfl (by simp) (hB.hsc hs) hK
  have hl1 := hB.lt1
  simp [value_writeAll]
  refine value_writeAll_loop1 (Inv := fun q t12 H' => ∃ (i : Nat) (s : List UInt8), i ≤ vs.length ∧ q = vs.length - i ∧ t12 = .int .i64 i ∧ s ++ wrL data (vs.drop i) (ts.drop i) (i == 0) = l ++ wrL data vs ts true ∧ H' = bw H id id2 s) vs.length ?_ ?_
  · intro _; exact ⟨0, l, by omega, by omega, rfl, by simp, hl0.symm⟩
  · rintro q t12 H' ⟨i, s, hi, rfl, rfl, ho, rfl⟩ hsc' hlen' hsF Kb hKb
    have hlo := congrArg List.length ho
    simp only [List.length_append] at hlo
    have hBX : Bw (bw H id id2 s) id id2 s := hB.next
    have hXX : ∀ s', bw (bw H id id2 s) id id2 s' = bw H id id2 s' := fun s' => bw_bw hne
    have hXl : (bw H id id2 s).length = H.length := bw_len
    by_cases hlt : i < vs.length
    · have hltt : i < ts.length := by omega
      rw [List.drop_eq_getElem_cons hlt, List.drop_eq_getElem_cons hltt] at ho hlo
      simp only [wrL, List.length_append] at ho hlo
      have hti := ht _ (List.getElem_mem hltt)
      have hvi := hel _ (List.getElem_mem hlt)
      have hhi := hh i hlt hltt
      obtain ⟨x, y, z, hvx, hx, hy, hz⟩ := vt3' vs[i]
      have hnext : ∀ (s' : List UInt8), s' ++ wrV data vs[i] ts[i] ++ wrL data (vs.drop (i + 1)) (ts.drop (i + 1)) false = l ++ wrL data vs ts true →
          value_writeAll_j1 (.ptr id 0) (.sl (data.map Dat.cs) .none) fv (.int .i64 i) (.ptr H.length 0) (.sl (VT.css vs) .none) (.int .i64 vs.length) (.int .i64 i) (bw H id id2 s' ++ [.cells [x, y, z]]) (Out H.length K) Kb := by
        intro s' hs'
        have hl' := congrArg List.length hs'
        simp only [List.length_append] at hl'
        have hBY : Bw (bw H id id2 s') id id2 s' := hB.next
        simp [value_writeAll_j1, List.getElem?_append]
        refine aPureX_call (.agg (ts[i]).cs) (fun J => hF i hltt _ _ (by rw [List.append_assoc]; exact rest_bw s' _) ⟨rfl, rfl⟩) ?_
        refine aDet_callC (.tup []) (bw H id id2 (s' ++ wrV data vs[i] ts[i]) ++ [.cells [x, y, z]]) ?_ ?_
        · rw [← hvx]
          refine hvi ts[i] hti hhi _ id id2 s' hBY.app (hT.bw _ _) (by omega) _ ⟨rfl, ?_⟩
          rw [hBY.bw_app, bw_bw hne]
        · try simp
          rw [wrap_in (by omega) (by omega)]
          refine hKb _ _ ⟨vs.length - (i + 1), by omega, Back.at (J := [.cells [x, y, z]]) (H2 := bw H id id2 (s' ++ wrV data vs[i] ts[i])) rfl (by simp) (hB.hsc hs) ?_ ⟨_, rfl, i + 1, s' ++ wrV data vs[i] ts[i], by omega, rfl, by simp, by simpa using hs', rfl⟩⟩
          simp [value_writeAll_fr1, AV.sc, AV.scV, AV.scA, AV.scB]
          first
            | exact ⟨by omega, hfv⟩
            | exact hfv
      by_cases h0 : i = 0
      · subst h0
        simp [value_writeAll_b1, hlt, hvx, hx, hy, hz]
        exact hnext s (by simpa using ho)
      · have hp : (0 : Int) < i := by omega
        have hz0 : (i == 0) = false := by simpa using h0
        rw [hz0] at ho hlo
        simp [value_writeAll_b1, hlt, hvx, hx, hy, hz, hp, show 0 < i by omega]
        refine Ws hBX.app (by simp at hlo ⊢; omega) ?_
        rw [hBX.bw_app, hXX]
        try simp
        exact hnext (s ++ [44, 32]) (by simpa using ho)
    · obtain rfl : i = vs.length := by omega
      rw [List.drop_length, hlen, List.drop_length] at ho
      simp only [wrL, List.append_nil] at ho
      simp [value_writeAll_b1]
      have := hO (bw H id id2 s) [] (by rw [ho])
      simpa using this
end Go.Proofs.YtfpmdpldabopjaaGreatDoor
namespace Go.Proofs.YtfpmdpldabopjaaGreatDoor
open Go Go.Abs
set_option linter.unusedSimpArgs false
set_option linter.unusedVariables false
set_option maxRecDepth 8000
theorem callW1 : callable Tryz.prog n_value_write_1 = true := by kernel_rfl
theorem callW2 : callable Tryz.prog n_value_write_2 = true := by kernel_rfl
theorem callW3 : callable Tryz.prog n_value_write_3 = true := by kernel_rfl
def boolT (b : Bool) : List UInt8 := if b then [116, 114, 117, 101] else [102, 97, 108, 115, 101]
theorem FormatBool_spec (b : Bool) (H : Heap) (K : Kt) (hK : K (.str (boolT b)) H) : ACalls Tryz.prog n_strconv_FormatBool [.bool b] H K := by
  refine strconv_FormatBool_ok fun hs => ?_
  simp [strconv_FormatBool]
  refine internal_strconv_FormatBool_ok fun hs => ?_
  cases b <;> simpa [internal_strconv_FormatBool, boolT] using hK
theorem typ1 {H : Heap} {id id2 k : Nat} {a b : AV} {ts : List VT} (hk : H[k]? = some (.cells [a, b, .sl (VT.css ts) .none])) (h1 : k ≠ id) (h2 : k ≠ id2) : TypF (.fn n_value_write_1 [.ptr k 0]) H id id2 ts := by
  intro i hi X K hR hK
  have hX : X[k]? = some (.cells [a, b, .sl (VT.css ts) .none]) := by rw [hR k (lt_get hk) h1 h2]; exact hk
  simp only [aCallV, callW1]
  refine ACalls.out (value_write_1_ok fun hs => ?_)
  obtain ⟨x, y, z, hvx, hx, hy, hz⟩ := vt3' ts[i]
  simp [value_write_1, app_get hX, hi, hvx, hx, hy, hz]
  rw [← hvx]
  exact Out.at (J := [_]) (by rw [hvx]) (Nat.le_refl _) hs .rfl' rfl (by simp [AV.scV]) hK
theorem typ2 {H : Heap} {id id2 k : Nat} {ts : List VT} (hk : H[k]? = some (.cells [.sl (VT.css ts) .none])) (h1 : k ≠ id) (h2 : k ≠ id2) : TypF (.fn n_value_write_2 [.ptr k 0]) H id id2 ts := by
  intro i hi X K hR hK
  have hX : X[k]? = some (.cells [.sl (VT.css ts) .none]) := by rw [hR k (lt_get hk) h1 h2]; exact hk
  simp only [aCallV, callW2]
  refine ACalls.out (value_write_2_ok fun hs => ?_)
  obtain ⟨x, y, z, hvx, hx, hy, hz⟩ := vt3' ts[i]
  simp [value_write_2, app_get hX, hi, hvx, hx, hy, hz]
  rw [← hvx]
  exact Out.at (J := [_]) (by rw [hvx]) (Nat.le_refl _) hs .rfl' rfl (by simp [AV.scV]) hK
theorem typ3 {H : Heap} {id id2 k n : Nat} {a b : AV} {ts : List VT} (hk : H[k]? = some (.cells [a, b, .sl (VT.css ts) .none])) (h0 : 0 < ts.length) (h1 : k ≠ id) (h2 : k ≠ id2) : TypF (.fn n_value_write_3 [.ptr k 0]) H id id2 (List.replicate n ts[0]) := by
  intro i hi X K hR hK
  have hX : X[k]? = some (.cells [a, b, .sl (VT.css ts) .none]) := by rw [hR k (lt_get hk) h1 h2]; exact hk
  rw [List.getElem_replicate] at hK
  simp only [aCallV, callW3]
  refine ACalls.out (value_write_3_ok fun hs => ?_)
  obtain ⟨x, y, z, hvx, hx, hy, hz⟩ := vt3' ts[0]
  simp [value_write_3, app_get hX, h0, hvx, hx, hy, hz]
  rw [← hvx]
  exact Out.at (J := [_]) (by rw [hvx]) (Nat.le_refl _) hs .rfl' rfl (by simp [AV.scV]) hK
theorem wrL_one {data : List Dat} : ∀ {vs ts : List VT} (h1 : vs.length = 1) (h2 : ts.length = 1), wrL data vs ts true = wrV data (vs[0]'(by omega)) (ts[0]'(by omega))
  | [v], [t], _, _ => by simp [wrL]
theorem value_write_spec {data : List Dat} (hD : DOk data) : ∀ (m : Nat) (v : VT), v.nodes ≤ m → v.nodes ≤ 10000 → WrW data v := by
  intro m
  induction m with
  | zero => intro v h; have := v.nodes_pos; omega
  | succ m ih =>
    intro v hm hb t ht hh H id id2 l hB hT hbl K hK
    have hbd := wrV_bound hD.k v t hh
    obtain ⟨vk, vn, vks⟩ := v
    obtain ⟨k, n, ks⟩ := t
    refine ACalls.out (value_write_ok fun hs => ?_)
    have hne := hB.ne
    have hl1 := hB.lt1
    have hl2 := hB.lt2
    have hO : ∀ l2 J, K (.tup []) (bw H id id2 l2) → Out H.length K (.tup []) (bw H id id2 l2 ++ J) := fun l2 J h => tupW rfl (by simp) (hB.hsc hs) h
    rw [wrV_mk] at hK hbd hbl
    have hll := VT.len_le vks
    have hnn : (VT.mk vk vn vks).nodes = VT.nodesL vks + 1 := by simp [VT.nodes]
    have hkids : ∀ x ∈ vks, WrW data x := fun x hx => ih x (by have := kids_lt (k := vk) (n := vn) x hx; omega) (by have := kids_le (k := vk) (n := vn) x hx; omega)
    have htk := tyValid_kids ht
    have hto : tyOk data 0 (.mk k n ks) = true := by rw [tyValid, Bool.and_eq_true] at ht; exact ht.2
    have htn : (VT.mk k n ks).nodes ≤ 200 := by rw [tyValid, Bool.and_eq_true] at ht; exact of_decide_eq_true ht.1
    obtain ⟨f1, f2, f3⟩ := kd_fields hD.k
    -- a text behind what is there
    have ws : ∀ (l1 s : List UInt8) (J : Heap) (K2 : Kt), l1.length + s.length ≤ 1000000000 → K2 (.tup [.int .i64 s.length, .nili]) (bw H id id2 (l1 ++ s) ++ J) → ACalls Tryz.prog n_strings_Builder_WriteString [.ptr id 0, .str s] (bw H id id2 l1 ++ J) K2 := by
      intro l1 s J K2 hl hk2
      have hB1 : Bw (bw H id id2 l1) id id2 l1 := hB.next
      refine Ws hB1.app (by omega) ?_
      rw [hB1.bw_app, bw_bw hne]
      exact hk2
    have ws0 : ∀ (s : List UInt8) (J : Heap) (K2 : Kt), l.length + s.length ≤ 1000000000 → K2 (.tup [.int .i64 s.length, .nili]) (bw H id id2 (l ++ s) ++ J) → ACalls Tryz.prog n_strings_Builder_WriteString [.ptr id 0, .str s] (H ++ J) K2 := by
      intro s J K2 hl hk2
      refine Ws hB.app (by omega) ?_
      rw [hB.bw_app]
      exact hk2
    have all : ∀ (fv : AV) (ts : List VT) (l1 : List UInt8) (J : Heap) (K2 : Kt), vks.length = ts.length → (∀ t ∈ ts, tyValid data 0 t = true) → (∀ (i : Nat) (h1 : i < vks.length) (h2 : i < ts.length), hasV data vks[i] ts[i] = true) → fv.sc (H.length + J.length) = true →
        TypF fv (bw H id id2 l1 ++ J) id id2 ts → l1.length + (wrL data vks ts true).length ≤ 1000000000 → K2 (.tup []) (bw H id id2 (l1 ++ wrL data vks ts true) ++ J) →
        ACalls Tryz.prog n_value_writeAll [.ptr id 0, .sl (data.map Dat.cs) .none, .sl (VT.css vks) .none, fv] (bw H id id2 l1 ++ J) K2 := by
      intro fv ts l1 J K2 a1 a2 a3 a4 a5 a6 hk2
      have hB1 : Bw (bw H id id2 l1) id id2 l1 := hB.next
      refine value_writeAll_spec vks (by omega) hkids ts a1 a2 a3 fv _ id id2 (by simpa using a4) a5 l1 hB1.app (hT.bw l1 J) a6 K2 ?_ ?_
      · rw [hB1.bw_app, bw_bw hne]; exact hk2
      · rw [hB1.bw_app, bw_bw hne]
    have hh0 := hh
    rw [hasV] at hh
    rcases ty_kinds hto with ⟨rfl, rfl⟩ | ⟨rfl, rfl⟩ | ⟨rfl, rfl⟩ | rfl | ⟨rfl, hk⟩ | ⟨rfl, hk⟩ | ⟨rfl, hk⟩ | ⟨rfl, hk⟩
    · simp at hh hK hbl
      obtain ⟨kf, k1, _, _, k4⟩ := hT.app [AB.cells [.int .i64 vk, .int .i64 vn, .sl (VT.css vks) .none], .cells [.int .i64 1, .int .i64 n, .sl (VT.css []) .none]]
      simp [value_write, VT.cs, Nat.add_assoc]
      refine FormatInt_all vn (by omega) (by omega) k4 ?_
      refine ws0 _ _ _ (by omega) ?_
      simp [value_write_j1]
      exact hO _ _ hK
    · simp at hK hbl
      simp [value_write, VT.cs, Nat.add_assoc]
      refine FormatBool_spec _ _ _ ?_
      have e : boolT (vn == 1) = if vn = 1 then [116, 114, 117, 101] else [102, 97, 108, 115, 101] := by simp [boolT]
      rw [e]
      refine ws0 _ _ _ (by omega) ?_
      simp [value_write_j1]
      exact hO _ _ hK
    · simp at hK hbl
      simp [value_write, VT.cs, Nat.add_assoc]
      refine ws0 _ _ _ (by simp; omega) ?_
      simp [value_write_j1]
      exact hO _ _ hK
    · -- a data type
      simp at hh hK hbd hbl
      obtain ⟨⟨⟨_, hv0⟩, hv8⟩, hL⟩ := hh
      cases hf : fields data (.mk 5 n ks) vn with
      | none => rw [hf, hasL?_none] at hL; cases hL
      | some ts =>
        rw [hf, hasL?_some] at hL
        rw [hf] at hK hbd hbl
        have hfv := fields_valid hD.ok hto hf
        obtain ⟨_, n0, c0, hn1, hc1, _⟩ := fields_some hf
        have hnm : conName data (.mk 5 n ks) vn = ((data[n.toNat]).cons[vn.toNat]).name := by simp [conName, VT.num, hn1, hc1]
        rw [hnm] at hK hbd hbl
        have hcb := con_bound hD.k (.mk 5 n ks) vn
        rw [hnm] at hcb
        obtain ⟨n, rfl⟩ : ∃ x : Nat, n = x := ⟨n.toNat, by omega⟩
        obtain ⟨vn, rfl⟩ : ∃ x : Nat, vn = x := ⟨vn.toNat, by omega⟩
        simp only [Int.toNat_natCast] at hn1 hc1 hnm hK hbd hcb hbl
        have e1 : (data.map Dat.cs)[n]? = some (data[n]).cs := by simp [hn1]
        have e2 : ((data[n]).cons.map Con.cs)[vn]? = some ((data[n]).cons[vn]).cs := by simp [hc1]
        simp [value_write, VT.cs, Nat.add_assoc, e1, e2, hn1, hc1, Dat.cs, Con.cs]
        refine aDet_call (.tup [.int .i64 ((data[n]).cons[vn]).name.length, .nili]) (bw H id id2 (l ++ ((data[n]).cons[vn]).name) ++ [.cells [.int .i64 vk, .int .i64 vn, .sl (VT.css vks) .none], .cells [.int .i64 5, .int .i64 n, .sl (VT.css ks) .none]]) ?_ ?_
        · exact ws0 _ _ _ (by omega) ⟨rfl, rfl⟩
        · by_cases hz : vks = []
          · subst hz
            simp [List.getElem?_append, value_write_j1] at hK ⊢
            exact hO _ _ hK
          · have hz' : 0 < vks.length := List.length_pos_iff.2 hz
            simp [hz] at hK hbd hbl
            simp [hz', Nat.add_assoc, List.getElem?_append]
            show ACalls Tryz.prog n_typing_Fields [.sl (data.map Dat.cs) .none, .agg (VT.mk 5 n ks).cs, .int .i64 vn] _ _
            refine typing_Fields_spec data f1 f2 f3 (.mk 5 n ks) (by omega) vn _ _ ?_
            rw [hf]
            simp [fieldsR, AV.known, List.set_append_right]
            refine ws _ _ _ _ (by simp; omega) ?_
            simp [List.getElem?_append]
            refine ⟨rfl, ?_⟩
            refine all _ ts _ _ _ (hasL_len hL) hfv (fun i h1 h2 => hasL_at hL i h1 h2) ?_ ?_ ?_ ?_
            · simp [AV.sc, AV.scV, AV.scA, AV.scB]
            · exact typ2 (by simp [List.getElem?_append]) (by omega) (by omega)
            · simp; omega
            refine ws _ _ _ _ (by simp; omega) ?_
            simp [value_write_j1]
            exact hO _ _ (by simpa using hK)
    · simp at hh hK hbd hbl
      simp [value_write, VT.cs, Nat.add_assoc]
      refine ws0 _ _ _ (by simp; omega) ?_
      simp [List.getElem?_append]
      refine ⟨rfl, ?_⟩
      refine all _ ks _ _ _ (hasL_len hh.2) htk (fun i h1 h2 => hasL_at hh.2 i h1 h2) ?_ ?_ ?_ ?_
      · simp [AV.sc, AV.scV, AV.scA, AV.scB]
      · exact typ1 (a := .int .i64 6) (b := .int .i64 n) (by simp [List.getElem?_append]) (by omega) (by omega)
      · simp; omega
      refine ws _ _ _ _ (by simp; omega) ?_
      simp [value_write_j1]
      exact hO _ _ (by simpa using hK)
    · have hk0 : 0 < ks.length := by omega
      have hg : ks.getD 0 (.mk 0 0 []) = ks[0] := getD_at hk0
      simp only [show ¬ ((7 : Int) = 1) by decide, show ¬ ((7 : Int) = 2) by decide, show ¬ ((7 : Int) = 3) by decide, show ¬ ((7 : Int) = 6) by decide, show ¬ ((7 : Int) = 5) by decide, if_false, if_true, hg] at hK hbd hh hbl
      simp only [Bool.and_eq_true] at hh
      simp only [List.length_append, List.length_cons, List.length_nil] at hbl hbd
      simp [value_write, VT.cs, Nat.add_assoc]
      refine ws0 _ _ _ (by simp; omega) ?_
      simp [List.getElem?_append]
      refine ⟨rfl, ?_⟩
      refine all _ (List.replicate vks.length ks[0]) _ _ _ (by simp) (fun t htm => by rw [List.eq_of_mem_replicate htm]; exact htk _ (List.getElem_mem hk0)) (fun i h1 h2 => hasA_rep hh.2 i h1 h2) ?_ ?_ ?_ ?_
      · simp [AV.sc, AV.scV, AV.scA, AV.scB]
      · exact typ3 (a := .int .i64 7) (b := .int .i64 n) (by simp [List.getElem?_append]) hk0 (by omega) (by omega)
      · simp; omega
      refine ws _ _ _ _ (by simp; omega) ?_
      simp [value_write_j1]
      exact hO _ _ (by simpa using hK)
    · have hk0 : 0 < ks.length := by omega
      simp only [show ¬ ((8 : Int) = 1) by decide, show ¬ ((8 : Int) = 2) by decide, show ¬ ((8 : Int) = 3) by decide, show ¬ ((8 : Int) = 6) by decide, show ¬ ((8 : Int) = 5) by decide, show ¬ ((8 : Int) = 7) by decide, if_false, if_true] at hK hbd hh hbl
      simp only [Bool.and_eq_true] at hh
      have hlv : vks.length = 1 := by rw [hasL_len hh.2, hk]
      have hv0 : 0 < vks.length := by omega
      have hh1 := hasL_at hh.2 0 hv0 hk0
      have hwl : wrL data vks ks true = wrV data vks[0] ks[0] := wrL_one hlv hk
      rw [hwl] at hK hbd hbl
      simp only [List.length_append, List.length_cons, List.length_nil] at hbl hbd
      obtain ⟨x, y, z, hvx, hx, hy, hz⟩ := vt3' vks[0]
      obtain ⟨x2, y2, z2, hvx2, hx2, hy2, hz2⟩ := vt3' ks[0]
      simp [value_write, VT.cs, Nat.add_assoc]
      refine ws0 _ _ _ (by simp; omega) ?_
      simp [List.getElem?_append, hv0, hk0]
      refine aDet_call (.tup []) (bw H id id2 (l ++ ([114, 101, 102, 40] : List UInt8) ++ wrV data vks[0] ks[0]) ++ [.cells [.int .i64 vk, .int .i64 vn, .sl (VT.css vks) .none], .cells [.int .i64 8, .int .i64 n, .sl (VT.css ks) .none]]) ?_ ?_
      · have hB1 : Bw (bw H id id2 (l ++ ([114, 101, 102, 40] : List UInt8))) id id2 (l ++ ([114, 101, 102, 40] : List UInt8)) := hB.next
        refine hkids _ (List.getElem_mem hv0) ks[0] (htk _ (List.getElem_mem hk0)) hh1 _ id id2 _ hB1.app (hT.bw _ _) (by simp; omega) _ ⟨rfl, ?_⟩
        rw [hB1.bw_app, bw_bw hne]
      · refine ws _ _ _ _ (by simp; omega) ?_
        simp [value_write_j1]
        exact hO _ _ (by simpa using hK)
    · simp at hh hK hbl
      have hi := itoa_len (n := vn) (by omega) (by omega)
      obtain ⟨kf, k1, _, _, k4⟩ := hT.app [AB.cells [.int .i64 vk, .int .i64 vn, .sl (VT.css vks) .none], .cells [.int .i64 9, .int .i64 n, .sl (VT.css ks) .none]]
      simp [value_write, VT.cs, Nat.add_assoc]
      refine FormatInt_all vn (by omega) (by omega) k4 ?_
      simp
      refine ⟨by omega, ?_⟩
      refine ws0 _ _ _ (by simp; omega) ?_
      simp [value_write_j1]
      exact hO _ _ hK
end Go.Proofs.YtfpmdpldabopjaaGreatDoor
namespace Go.Proofs.YtfpmdpldabopjaaGreatDoor
open Go Go.Abs
set_option linter.unusedSimpArgs false
set_option linter.unusedVariables false
set_option maxRecDepth 8000
def fmtT (data : List Dat) (v t : VT) : List UInt8 := if hasT data v t = true then wrV data v t else []
theorem hasT_ok {data : List Dat} (hk : KData data) {v t : VT} (h : hasT data v t = true) : DOk data ∧ tyValid data 0 t = true ∧ hasV data v t = true := by
  simp only [hasT, fineV, Bool.and_eq_true] at h
  exact ⟨⟨h.1.1, hk⟩, h.1.2, h.2⟩
theorem value_Format_spec (data : List Dat) (hk : KData data) (v t : VT) (hv : v.nodes ≤ 5000) (ht : t.nodes ≤ 1000000) (H : Heap) {k : Nat} (hf : H[k]? = some (.fact LF)) (K : Kt) (hK : K (.str (fmtT data v t)) H) :
    ACalls Tryz.prog n_value_Format [.sl (data.map Dat.cs) .none, .agg v.cs, .agg t.cs] H K := by
  refine ACalls.out (value_Format_ok fun hs => ?_)
  have hO : ∀ r X J, fmtT data v t = r → X = H ++ J → Out H.length K (.str r) X := fun r X J h hX => by subst h hX; exact Out.at rfl (Nat.le_refl _) hs .rfl' rfl rfl hK
  obtain ⟨x, y, z, hvx, hx, hy, hz⟩ := vt3' v
  obtain ⟨x2, y2, z2, hvx2, hx2, hy2, hz2⟩ := vt3' t
  simp [value_Format, hvx, hvx2, Nat.add_assoc]
  rw [← hvx, ← hvx2]
  refine value_HasType_spec data hk v t hv ht _ _ ?_
  cases hd : hasT data v t with
  | true =>
    obtain ⟨hD, htv, hh⟩ := hasT_ok hk hd
    have hfb := wrV_bound hk v t hh
    have hlt := lt_get hf
    simp [aNewB, hvx, hvx2, Nat.add_assoc]
    rw [← hvx, ← hvx2]
    refine ACalls.ownB (id := H.length + 2) (t := 73) (p := .nilp) 5 1 (by simp) ?_
    have hset : (H ++ [AB.cells v.cs, .cells t.cs, .bld 73 [.nilp, .snil]]).set (H.length + 2) (.bld 73 [.nilp, .sl [] (.own (H ++ [AB.cells v.cs, .cells t.cs, .bld 73 [.nilp, .snil]]).length)]) ++ [.perm 5 1 0] =
        H ++ [AB.cells v.cs, .cells t.cs, .bld 73 [.nilp, .sl [] (.own (H.length + 3))], .perm 5 1 0] := by simp [List.set_append_right]
    rw [hset]
    have hB : Bw (H ++ [AB.cells v.cs, .cells t.cs, .bld 73 [.nilp, .sl [] (.own (H.length + 3))], .perm 5 1 0]) (H.length + 2) (H.length + 3) [] := ⟨by omega, ⟨.nilp, .inl rfl, by simp [bcs]⟩, by simp⟩
    refine value_write_spec hD _ v (Nat.le_refl _) (by omega) t htv hh _ _ _ [] hB ⟨k, by simp; omega, by omega, by omega, app_get hf⟩ (by simp; omega) _ ?_
    have hN := hB.next (l' := [] ++ wrV data v t)
    obtain ⟨p, hp, h1⟩ := hN.h1
    refine String_spec h1 hN.h2 ?_
    refine hO _ _ [AB.cells v.cs, .cells t.cs, .bld 73 [.ptr (H.length + 2) 0, .sl (bcs (wrV data v t)) (.own (H.length + 3))], .dead] (by simp [fmtT, hd]) ?_
    simp [bw, List.set_append_right]
  | false =>
    simp
    exact hO _ _ _ (by simp [fmtT, hd]) rfl
end Go.Proofs.YtfpmdpldabopjaaGreatDoor
