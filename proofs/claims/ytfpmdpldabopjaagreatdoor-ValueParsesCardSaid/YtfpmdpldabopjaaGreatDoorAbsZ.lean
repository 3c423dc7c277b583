import Derived.Test.YtfpmdpldabopjaaGreatDoorKSH
import Derived.Test.YtfpmdpldabopjaaGreatDoorKGK
import Derived.Lib.ItoaNum
import Derived.Test.YtfpmdpldabopjaaGreatDoorA3
import Derived.Test.YtfpmdpldabopjaaGreatDoorKNum
import Derived.Test.YtfpmdpldabopjaaGreatDoorProg
import Derived.KernelRfl
import Derived.Test.YtfpmdpldabopjaaGreatDoorKGY
import Derived.Lib.ParseIntBTie
import Derived.Shelf.Small.Strs
import Derived.Shelf.Small.Utf8
import Derived.Laws.Runes
import Derived.WalkMore
import Derived.Handy
import Derived.Deep.RegionWith
import Derived.Test.YtfpmdpldabopjaaGreatDoorA2
set_option linter.unusedSimpArgs false
set_option linter.unusedVariables false
namespace Go.Proofs.YtfpmdpldabopjaaGreatDoor
open Go Go.Abs
mutual
def wrV (data : List Dat) : VT → VT → List UInt8
 | .mk vk vn vks, t =>
  if t.kind = 1 then Lib.itoa vn
  else if t.kind = 2 then (if vn = 1 then [116, 114, 117, 101] else [102, 97, 108, 115, 101])
  else if t.kind = 3 then [40, 41]
  else if t.kind = 6 then [40] ++ wrL data vks t.kids true ++ [41]
  else if t.kind = 5 then conName data t vn ++ (if vks.length = 0 then [] else match fields data t vn with
   | some ts => [40] ++ wrL data vks ts true ++ [41]
   | none => [])
  else if t.kind = 7 then [91] ++ wrL data vks (List.replicate vks.length (t.kids.getD 0 (.mk 0 0 []))) true ++ [93]
  else if t.kind = 8 then [114, 101, 102, 40] ++ wrL data vks t.kids true ++ [41]
  else [102, 110, 35] ++ Lib.itoa vn
def wrL (data : List Dat) : List VT → List VT → Bool → List UInt8
 | [], _, _ => []
 | v :: vs, ts, first => match ts with
  | t :: ts => (if first then [] else [44, 32]) ++ wrV data v t ++ wrL data vs ts false
  | [] => []
end
theorem nDigits_le : ∀ (k u : Nat), u < 10 ^ (k + 1) → Lib.nDigits u ≤ k + 1
 | 0, u, h => by rw [Lib.nDigits_small (by simpa using h)]; exact Nat.le_refl _
 | k + 1, u, h => by
  by_cases h1 : u < 10
  ·rw [Lib.nDigits_small h1]; omega
  ·rw [Lib.nDigits_big h1]
   have := nDigits_le k (u / 10) (by rw [Nat.pow_succ] at h; omega)
   omega
theorem itoa_len {n : Int} (h1 : -1099511627776 ≤ n) (h2 : n ≤ 1099511627776) : (Lib.itoa n).length ≤ 20 := by
 unfold Lib.itoa
 split
 ·rw [List.length_cons, Lib.decDigits_length]
  have := nDigits_le 12 n.natAbs (by omega)
  omega
 ·rw [Lib.decDigits_length]
  have := nDigits_le 12 n.toNat (by omega)
  omega
mutual
theorem wrV_bound {data : List Dat} (hk : KData data) : ∀ (v t : VT), hasV data v t = true → (wrV data v t).length + 28 ≤ 70 * v.nodes
 | .mk vk vn vks, t => by
  intro h
  obtain ⟨k, n, al⟩ := t
  have hL := wrL_bound hk vks
  simp only [wrV, VT.kind, VT.kids, VT.nodes]
  rw [hasV] at h
  by_cases h1 : k = 1
  ·simp [h1] at h ⊢
   have := itoa_len (n := vn) (by omega) (by omega)
   omega
  by_cases h2 : k = 2
  ·simp [h2] at h ⊢
   split <;> simp <;> omega
  by_cases h3 : k = 3
  ·simp [h3] at h ⊢
   omega
  by_cases h6 : k = 6
  ·simp [h6] at h ⊢
   have := hL al true (.inl h.2)
   omega
  by_cases h5 : k = 5
  ·simp [h5] at h ⊢
   have hc := con_bound hk (.mk 5 n al) vn
   split
   ·simp; omega
   ·cases hf : fields data (.mk 5 n al) vn with
    | none => simp; omega
    | some ts =>
     rw [hf, hasL?_some] at h
     have := hL ts true (.inl h.2)
     simp; omega
  by_cases h7 : k = 7
  ·simp [h7] at h ⊢
   have := hL (List.replicate vks.length (al.getD 0 (.mk 0 0 []))) true (.inr ⟨_, rfl, by simpa using h.2⟩)
   simp at this
   omega
  by_cases h8 : k = 8
  ·simp [h8] at h ⊢
   have := hL al true (.inl h.2)
   simp; omega
  ·simp [h1, h2, h3, h6, h5, h7, h8] at h ⊢
   have := itoa_len (n := vn) (by omega) (by omega)
   omega
theorem wrL_bound {data : List Dat} (hk : KData data) : ∀ (vs ts : List VT) (b : Bool), (hasL data vs ts = true ∨ ∃ t, ts = List.replicate vs.length t ∧ hasA data vs t = true) → (wrL data vs ts b).length ≤ 70 * VT.nodesL vs
 | [], ts, b => by intro _; simp [wrL]
 | v :: vs, [], b => by intro _; simp [wrL]
 | v :: vs, t :: ts, b => by
  intro h
  have h12 : hasV data v t = true ∧ (hasL data vs ts = true ∨ ∃ t, ts = List.replicate vs.length t ∧ hasA data vs t = true) := by
   rcases h with h | ⟨u, h, h'⟩
   ·simp only [hasL, Bool.and_eq_true] at h
    exact ⟨h.1, .inl h.2⟩
   ·simp only [List.length_cons, List.replicate_succ, List.cons.injEq] at h
    simp only [hasA, Bool.and_eq_true] at h'
    obtain ⟨rfl, h⟩ := h
    exact ⟨h'.1, .inr ⟨_, h, h'.2⟩⟩
  have h1 := wrV_bound hk v t h12.1
  have h2 := wrL_bound hk vs ts false h12.2
  have hb : (if b then ([] : List UInt8) else [44, 32]).length ≤ 2 := by cases b <;> simp
  simp only [wrL, VT.nodesL, List.length_append]
  omega
end
end Go.Proofs.YtfpmdpldabopjaaGreatDoor
namespace Go.Proofs.YtfpmdpldabopjaaGreatDoor
open Go Go.Abs
set_option maxRecDepth 8000
theorem wrV_mk (data : List Dat) (vk vn : Int) (vks : List VT) (k n : Int) (al : List VT) : wrV data (.mk vk vn vks) (.mk k n al) =
  if k = 1 then Lib.itoa vn
  else if k = 2 then (if vn = 1 then [116, 114, 117, 101] else [102, 97, 108, 115, 101])
  else if k = 3 then [40, 41]
  else if k = 6 then [40] ++ wrL data vks al true ++ [41]
  else if k = 5 then conName data (.mk k n al) vn ++ (if vks.length = 0 then [] else match fields data (.mk k n al) vn with
   | some ts => [40] ++ wrL data vks ts true ++ [41]
   | none => [])
  else if k = 7 then [91] ++ wrL data vks (List.replicate vks.length (al.getD 0 (.mk 0 0 []))) true ++ [93]
  else if k = 8 then [114, 101, 102, 40] ++ wrL data vks al true ++ [41]
  else [102, 110, 35] ++ Lib.itoa vn := by
 rw [wrV]
 rfl
theorem hasA_rep {data : List Dat} {t : VT} {vs : List VT} (h : hasA data vs t = true) (i : Nat) (h1 : i < vs.length) (h2 : i < (List.replicate vs.length t).length) : hasV data vs[i] (List.replicate vs.length t)[i] = true := by
 rw [List.getElem_replicate]
 exact hasA_at h _ (List.getElem_mem h1)
theorem tupW {n : Nat} {H2 J H' : Heap} {K : Kt} (he : H' = H2 ++ J) (hn : n ≤ H2.length) (hs : HSc H2) (h : K (.tup []) H2) : Out n K (.tup []) H' := by
 subst he
 exact ⟨.tup [], H2, J, rfl, hn, hs, .tup trivial, h⟩
def Rest (H X : Heap) (id id2 : Nat) : Prop := ∀ k, k < H.length → k ≠ id → k ≠ id2 → X[k]? = H[k]?
theorem rest_bw {H : Heap} {id id2 : Nat} (l : List UInt8) (J : Heap) : Rest H (bw H id id2 l ++ J) id id2 := by
 intro k hk h1 h2
 rw [List.getElem?_append_left (by simpa using hk)]
 unfold bw
 rw [List.getElem?_set_ne (fun h => h1 h.symm), List.getElem?_set_ne (fun h => h2 h.symm)]
def TypF (fv : AV) (H : Heap) (id id2 : Nat) (ts : List VT) : Prop := ∀ (i : Nat) (hi : i < ts.length) (X : Heap) (K : Kt), Rest H X id id2 → K (.agg (ts[i]).cs) X → aCallV Tryz.prog fv [.int .i64 i] X K
def Ft (H : Heap) (id id2 : Nat) : Prop := ∃ k, k < H.length ∧ k ≠ id ∧ k ≠ id2 ∧ H[k]? = some (.fact LF)
theorem Ft.rest {H X : Heap} {id id2 : Nat} (h : Ft H id id2) (hl : H.length ≤ X.length) (hr : Rest H X id id2) : Ft X id id2 := by
 obtain ⟨k, h1, h2, h3, h4⟩ := h
 exact ⟨k, by omega, h2, h3, by rw [hr k h1 h2 h3]; exact h4⟩
theorem Ft.bw {H : Heap} {id id2 : Nat} (h : Ft H id id2) (l : List UInt8) (J : Heap) : Ft (bw H id id2 l ++ J) id id2 := h.rest (by simp) (rest_bw l J)
theorem Ft.app {H : Heap} {id id2 : Nat} (h : Ft H id id2) (J : Heap) : Ft (H ++ J) id id2 := by
 obtain ⟨k, h1, h2, h3, h4⟩ := h
 exact ⟨k, by simp; omega, h2, h3, by rw [List.getElem?_append_left h1]; exact h4⟩
def WrW (data : List Dat) (v : VT) : Prop := ∀ t : VT, tyValid data 0 t = true → hasV data v t = true → ∀ (H : Heap) (id id2 : Nat) (l : List UInt8), Bw H id id2 l → Ft H id id2 → l.length + (wrV data v t).length ≤ 1000000000 →
 ∀ K : Kt, K (.tup []) (bw H id id2 (l ++ wrV data v t)) → ACalls Tryz.prog n_zq55 [.ptr id 0, .sl (data.map Dat.cs) .none, .agg v.cs, .agg t.cs] H K
theorem zq100_spec {data : List Dat} (vs : List VT) (hv : vs.length ≤ 1000000) (hel : ∀ v ∈ vs, WrW data v) (ts : List VT) (hlen : vs.length = ts.length) (ht : ∀ t ∈ ts, tyValid data 0 t = true)
  (hh : ∀ (i : Nat) (h1 : i < vs.length) (h2 : i < ts.length), hasV data vs[i] ts[i] = true) (fv : AV) (H : Heap) (id id2 : Nat) (hfv : fv.sc H.length = true) (hF : TypF fv H id id2 ts) (l : List UInt8) (hB : Bw H id id2 l) (hT : Ft H id id2)
  (hb : l.length + (wrL data vs ts true).length ≤ 1000000000) (K : Kt) (hK : K (.tup []) (bw H id id2 (l ++ wrL data vs ts true))) (hl0 : bw H id id2 l = H) :
  ACalls Tryz.prog n_zq100 [.ptr id 0, .sl (data.map Dat.cs) .none, .sl (VT.css vs) .none, fv] H K := by
 refine ACalls.out (zq100_ok fun hs => ?_)
 have hne := hB.ne
 have hO : ∀ X J, X = bw H id id2 (l ++ wrL data vs ts true) → Out H.length K (.tup []) (X ++ J) := fun X J h => by
  subst h; exact tupW rfl (by simp) (hB.hsc hs) hK
 have hl1 := hB.lt1
 simp [zq100]
 refine zq100_loop1 (Inv := fun q t12 H' => ∃ (i : Nat) (s : List UInt8), i ≤ vs.length ∧ q = vs.length - i ∧ t12 = .int .i64 i ∧ s ++ wrL data (vs.drop i) (ts.drop i) (i == 0) = l ++ wrL data vs ts true ∧ H' = bw H id id2 s) vs.length ?_ ?_
 ·intro _; exact ⟨0, l, by omega, by omega, rfl, by simp, hl0.symm⟩
 ·rintro q t12 H' ⟨i, s, hi, rfl, rfl, ho, rfl⟩ hsc' hlen' hsF Kb hKb
  have hlo := congrArg List.length ho
  simp only [List.length_append] at hlo
  have hBX : Bw (bw H id id2 s) id id2 s := hB.next
  have hXX : ∀ s', bw (bw H id id2 s) id id2 s' = bw H id id2 s' := fun s' => bw_bw hne
  have hXl : (bw H id id2 s).length = H.length := bw_len
  by_cases hlt : i < vs.length
  ·have hltt : i < ts.length := by omega
   rw [List.drop_eq_getElem_cons hlt, List.drop_eq_getElem_cons hltt] at ho hlo
   simp only [wrL, List.length_append] at ho hlo
   have hti := ht _ (List.getElem_mem hltt)
   have hvi := hel _ (List.getElem_mem hlt)
   have hhi := hh i hlt hltt
   obtain ⟨x, y, z, hvx, hx, hy, hz⟩ := vt3' vs[i]
   have hnext : ∀ (s' : List UInt8), s' ++ wrV data vs[i] ts[i] ++ wrL data (vs.drop (i + 1)) (ts.drop (i + 1)) false = l ++ wrL data vs ts true →
     zq100_j1 (.ptr id 0) (.sl (data.map Dat.cs) .none) fv (.int .i64 i) (.ptr H.length 0) (.sl (VT.css vs) .none) (.int .i64 vs.length) (.int .i64 i) (bw H id id2 s' ++ [.cells [x, y, z]]) (Out H.length K) Kb := by
    intro s' hs'
    have hl' := congrArg List.length hs'
    simp only [List.length_append] at hl'
    have hBY : Bw (bw H id id2 s') id id2 s' := hB.next
    simp [zq100_j1, List.getElem?_append]
    refine aPureX_call (.agg (ts[i]).cs) (fun J => hF i hltt _ _ (by rw [List.append_assoc]; exact rest_bw s' _) ⟨rfl, rfl⟩) ?_
    refine aDet_callC (.tup []) (bw H id id2 (s' ++ wrV data vs[i] ts[i]) ++ [.cells [x, y, z]]) ?_ ?_
    ·rw [← hvx]
     refine hvi ts[i] hti hhi _ id id2 s' hBY.app (hT.bw _ _) (by omega) _ ⟨rfl, ?_⟩
     rw [hBY.bw_app, bw_bw hne]
    ·try simp
     rw [wrap_in (by omega) (by omega)]
     refine hKb _ _ ⟨vs.length - (i + 1), by omega, Back.at (J := [.cells [x, y, z]]) (H2 := bw H id id2 (s' ++ wrV data vs[i] ts[i])) rfl (by simp) (hB.hsc hs) ?_ ⟨_, rfl, i + 1, s' ++ wrV data vs[i] ts[i], by omega, rfl, by simp, by simpa using hs', rfl⟩⟩
     simp [zq100_fr1, AV.sc, AV.scV, AV.scA, AV.scB]
     first
      | exact ⟨by omega, hfv⟩
      | exact hfv
   by_cases h0 : i = 0
   ·subst h0
    simp [zq100_b1, hlt, hvx, hx, hy, hz]
    exact hnext s (by simpa using ho)
   ·have hp : (0 : Int) < i := by omega
    have hz0 : (i == 0) = false := by simpa using h0
    rw [hz0] at ho hlo
    simp [zq100_b1, hlt, hvx, hx, hy, hz, hp, show 0 < i by omega]
    refine Ws hBX.app (by simp at hlo ⊢; omega) ?_
    rw [hBX.bw_app, hXX]
    try simp
    exact hnext (s ++ [44, 32]) (by simpa using ho)
  ·obtain rfl : i = vs.length := by omega
   rw [List.drop_length, hlen, List.drop_length] at ho
   simp only [wrL, List.append_nil] at ho
   simp [zq100_b1]
   have := hO (bw H id id2 s) [] (by rw [ho])
   simpa using this
theorem callW1 : callable Tryz.prog n_zq101 = true := by kernel_rfl
theorem callW2 : callable Tryz.prog n_zq102 = true := by kernel_rfl
theorem callW3 : callable Tryz.prog n_zq103 = true := by kernel_rfl
def boolT (b : Bool) : List UInt8 := if b then [116, 114, 117, 101] else [102, 97, 108, 115, 101]
theorem FormatBool_spec (b : Bool) (H : Heap) (K : Kt) (hK : K (.str (boolT b)) H) : ACalls Tryz.prog n_zq99 [.bool b] H K := by
 refine zq99_ok fun hs => ?_
 simp [zq99]
 refine zq164_ok fun hs => ?_
 cases b <;> simpa [zq164, boolT] using hK
theorem typ1 {H : Heap} {id id2 k : Nat} {a b : AV} {ts : List VT} (hk : H[k]? = some (.cells [a, b, .sl (VT.css ts) .none])) (h1 : k ≠ id) (h2 : k ≠ id2) : TypF (.fn n_zq101 [.ptr k 0]) H id id2 ts := by
 intro i hi X K hR hK
 have hX : X[k]? = some (.cells [a, b, .sl (VT.css ts) .none]) := by rw [hR k (lt_get hk) h1 h2]; exact hk
 simp only [aCallV, callW1]
 refine ACalls.out (zq101_ok fun hs => ?_)
 obtain ⟨x, y, z, hvx, hx, hy, hz⟩ := vt3' ts[i]
 simp [zq101, app_get hX, hi, hvx, hx, hy, hz]
 rw [← hvx]
 exact Out.at (J := [_]) (by rw [hvx]) (Nat.le_refl _) hs .rfl' rfl (by simp [AV.scV]) hK
theorem typ2 {H : Heap} {id id2 k : Nat} {ts : List VT} (hk : H[k]? = some (.cells [.sl (VT.css ts) .none])) (h1 : k ≠ id) (h2 : k ≠ id2) : TypF (.fn n_zq102 [.ptr k 0]) H id id2 ts := by
 intro i hi X K hR hK
 have hX : X[k]? = some (.cells [.sl (VT.css ts) .none]) := by rw [hR k (lt_get hk) h1 h2]; exact hk
 simp only [aCallV, callW2]
 refine ACalls.out (zq102_ok fun hs => ?_)
 obtain ⟨x, y, z, hvx, hx, hy, hz⟩ := vt3' ts[i]
 simp [zq102, app_get hX, hi, hvx, hx, hy, hz]
 rw [← hvx]
 exact Out.at (J := [_]) (by rw [hvx]) (Nat.le_refl _) hs .rfl' rfl (by simp [AV.scV]) hK
theorem typ3 {H : Heap} {id id2 k n : Nat} {a b : AV} {ts : List VT} (hk : H[k]? = some (.cells [a, b, .sl (VT.css ts) .none])) (h0 : 0 < ts.length) (h1 : k ≠ id) (h2 : k ≠ id2) : TypF (.fn n_zq103 [.ptr k 0]) H id id2 (List.replicate n ts[0]) := by
 intro i hi X K hR hK
 have hX : X[k]? = some (.cells [a, b, .sl (VT.css ts) .none]) := by rw [hR k (lt_get hk) h1 h2]; exact hk
 rw [List.getElem_replicate] at hK
 simp only [aCallV, callW3]
 refine ACalls.out (zq103_ok fun hs => ?_)
 obtain ⟨x, y, z, hvx, hx, hy, hz⟩ := vt3' ts[0]
 simp [zq103, app_get hX, h0, hvx, hx, hy, hz]
 rw [← hvx]
 exact Out.at (J := [_]) (by rw [hvx]) (Nat.le_refl _) hs .rfl' rfl (by simp [AV.scV]) hK
theorem wrL_one {data : List Dat} : ∀ {vs ts : List VT} (h1 : vs.length = 1) (h2 : ts.length = 1), wrL data vs ts true = wrV data (vs[0]'(by omega)) (ts[0]'(by omega))
 | [v], [t], _, _ => by simp [wrL]
theorem zq55_spec {data : List Dat} (hD : DOk data) : ∀ (m : Nat) (v : VT), v.nodes ≤ m → v.nodes ≤ 10000 → WrW data v := by
 intro m
 induction m with
 | zero => intro v h; have := v.nodes_pos; omega
 | succ m ih =>
  intro v hm hb t ht hh H id id2 l hB hT hbl K hK
  have hbd := wrV_bound hD.k v t hh
  obtain ⟨vk, vn, vks⟩ := v
  obtain ⟨k, n, ks⟩ := t
  refine ACalls.out (zq55_ok fun hs => ?_)
  have hne := hB.ne
  have hl1 := hB.lt1
  have hl2 := hB.lt2
  have hO : ∀ l2 J, K (.tup []) (bw H id id2 l2) → Out H.length K (.tup []) (bw H id id2 l2 ++ J) := fun l2 J h => tupW rfl (by simp) (hB.hsc hs) h
  rw [wrV_mk] at hK hbd hbl
  have hll := VT.len_le vks
  have hnn : (VT.mk vk vn vks).nodes = VT.nodesL vks + 1 := by simp [VT.nodes]
  have hkids : ∀ x ∈ vks, WrW data x := fun x hx => ih x (by have := kids_lt (k := vk) (n := vn) x hx; omega) (by have := kids_le (k := vk) (n := vn) x hx; omega)
  have htk := tyValid_kids ht
  have hto : tyOk data 0 (.mk k n ks) = true := by rw [tyValid, Bool.and_eq_true] at ht; exact ht.2
  have htn : (VT.mk k n ks).nodes ≤ 200 := by rw [tyValid, Bool.and_eq_true] at ht; exact of_decide_eq_true ht.1
  obtain ⟨f1, f2, f3⟩ := kd_fields hD.k
  -- a text behind what is there
  have ws : ∀ (l1 s : List UInt8) (J : Heap) (K2 : Kt), l1.length + s.length ≤ 1000000000 → K2 (.tup [.int .i64 s.length, .nili]) (bw H id id2 (l1 ++ s) ++ J) → ACalls Tryz.prog n_zq97 [.ptr id 0, .str s] (bw H id id2 l1 ++ J) K2 := by
   intro l1 s J K2 hl hk2
   have hB1 : Bw (bw H id id2 l1) id id2 l1 := hB.next
   refine Ws hB1.app (by omega) ?_
   rw [hB1.bw_app, bw_bw hne]
   exact hk2
  have ws0 : ∀ (s : List UInt8) (J : Heap) (K2 : Kt), l.length + s.length ≤ 1000000000 → K2 (.tup [.int .i64 s.length, .nili]) (bw H id id2 (l ++ s) ++ J) → ACalls Tryz.prog n_zq97 [.ptr id 0, .str s] (H ++ J) K2 := by
   intro s J K2 hl hk2
   refine Ws hB.app (by omega) ?_
   rw [hB.bw_app]
   exact hk2
  have all : ∀ (fv : AV) (ts : List VT) (l1 : List UInt8) (J : Heap) (K2 : Kt), vks.length = ts.length → (∀ t ∈ ts, tyValid data 0 t = true) → (∀ (i : Nat) (h1 : i < vks.length) (h2 : i < ts.length), hasV data vks[i] ts[i] = true) → fv.sc (H.length + J.length) = true →
    TypF fv (bw H id id2 l1 ++ J) id id2 ts → l1.length + (wrL data vks ts true).length ≤ 1000000000 → K2 (.tup []) (bw H id id2 (l1 ++ wrL data vks ts true) ++ J) →
    ACalls Tryz.prog n_zq100 [.ptr id 0, .sl (data.map Dat.cs) .none, .sl (VT.css vks) .none, fv] (bw H id id2 l1 ++ J) K2 := by
   intro fv ts l1 J K2 a1 a2 a3 a4 a5 a6 hk2
   have hB1 : Bw (bw H id id2 l1) id id2 l1 := hB.next
   refine zq100_spec vks (by omega) hkids ts a1 a2 a3 fv _ id id2 (by simpa using a4) a5 l1 hB1.app (hT.bw l1 J) a6 K2 ?_ ?_
   ·rw [hB1.bw_app, bw_bw hne]; exact hk2
   ·rw [hB1.bw_app, bw_bw hne]
  have hh0 := hh
  rw [hasV] at hh
  rcases ty_kinds hto with ⟨rfl, rfl⟩ | ⟨rfl, rfl⟩ | ⟨rfl, rfl⟩ | rfl | ⟨rfl, hk⟩ | ⟨rfl, hk⟩ | ⟨rfl, hk⟩ | ⟨rfl, hk⟩
  ·simp at hh hK hbl
   obtain ⟨kf, k1, _, _, k4⟩ := hT.app [AB.cells [.int .i64 vk, .int .i64 vn, .sl (VT.css vks) .none], .cells [.int .i64 1, .int .i64 n, .sl (VT.css []) .none]]
   simp [zq55, VT.cs, Nat.add_assoc]
   refine FormatInt_all vn (by omega) (by omega) k4 ?_
   refine ws0 _ _ _ (by omega) ?_
   simp [zq55_j1]
   exact hO _ _ hK
  ·simp at hK hbl
   simp [zq55, VT.cs, Nat.add_assoc]
   refine FormatBool_spec _ _ _ ?_
   have e : boolT (vn == 1) = if vn = 1 then [116, 114, 117, 101] else [102, 97, 108, 115, 101] := by simp [boolT]
   rw [e]
   refine ws0 _ _ _ (by omega) ?_
   simp [zq55_j1]
   exact hO _ _ hK
  ·simp at hK hbl
   simp [zq55, VT.cs, Nat.add_assoc]
   refine ws0 _ _ _ (by simp; omega) ?_
   simp [zq55_j1]
   exact hO _ _ hK
  ·-- a data type
   simp at hh hK hbd hbl
   obtain ⟨⟨⟨_, hv0⟩, hv8⟩, hL⟩ := hh
   cases hf : fields data (.mk 5 n ks) vn with
   | none => rw [hf, hasL?_none] at hL; cases hL
   | some ts =>
    rw [hf, hasL?_some] at hL
    rw [hf] at hK hbd hbl
    have hfv := fields_valid hD.ok hto hf
    obtain ⟨_, n0, c0, hn1, hc1, _⟩ := fields_some hf
    have hnm : conName data (.mk 5 n ks) vn = ((data[n.toNat]).cons[vn.toNat]).name := by simp [conName, VT.num, hn1, hc1]
    rw [hnm] at hK hbd hbl
    have hcb := con_bound hD.k (.mk 5 n ks) vn
    rw [hnm] at hcb
    obtain ⟨n, rfl⟩ : ∃ x : Nat, n = x := ⟨n.toNat, by omega⟩
    obtain ⟨vn, rfl⟩ : ∃ x : Nat, vn = x := ⟨vn.toNat, by omega⟩
    simp only [Int.toNat_natCast] at hn1 hc1 hnm hK hbd hcb hbl
    have e1 : (data.map Dat.cs)[n]? = some (data[n]).cs := by simp [hn1]
    have e2 : ((data[n]).cons.map Con.cs)[vn]? = some ((data[n]).cons[vn]).cs := by simp [hc1]
    simp [zq55, VT.cs, Nat.add_assoc, e1, e2, hn1, hc1, Dat.cs, Con.cs]
    refine aDet_call (.tup [.int .i64 ((data[n]).cons[vn]).name.length, .nili]) (bw H id id2 (l ++ ((data[n]).cons[vn]).name) ++ [.cells [.int .i64 vk, .int .i64 vn, .sl (VT.css vks) .none], .cells [.int .i64 5, .int .i64 n, .sl (VT.css ks) .none]]) ?_ ?_
    ·exact ws0 _ _ _ (by omega) ⟨rfl, rfl⟩
    ·by_cases hz : vks = []
     ·subst hz
      simp [List.getElem?_append, zq55_j1] at hK ⊢
      exact hO _ _ hK
     ·have hz' : 0 < vks.length := List.length_pos_iff.2 hz
      simp [hz] at hK hbd hbl
      simp [hz', Nat.add_assoc, List.getElem?_append]
      show ACalls Tryz.prog n_zq89 [.sl (data.map Dat.cs) .none, .agg (VT.mk 5 n ks).cs, .int .i64 vn] _ _
      refine zq89_spec data f1 f2 f3 (.mk 5 n ks) (by omega) vn _ _ ?_
      rw [hf]
      simp [fieldsR, AV.known, List.set_append_right]
      refine ws _ _ _ _ (by simp; omega) ?_
      simp [List.getElem?_append]
      refine ⟨rfl, ?_⟩
      refine all _ ts _ _ _ (hasL_len hL) hfv (fun i h1 h2 => hasL_at hL i h1 h2) ?_ ?_ ?_ ?_
      ·simp [AV.sc, AV.scV, AV.scA, AV.scB]
      ·exact typ2 (by simp [List.getElem?_append]) (by omega) (by omega)
      ·simp; omega
      refine ws _ _ _ _ (by simp; omega) ?_
      simp [zq55_j1]
      exact hO _ _ (by simpa using hK)
  ·simp at hh hK hbd hbl
   simp [zq55, VT.cs, Nat.add_assoc]
   refine ws0 _ _ _ (by simp; omega) ?_
   simp [List.getElem?_append]
   refine ⟨rfl, ?_⟩
   refine all _ ks _ _ _ (hasL_len hh.2) htk (fun i h1 h2 => hasL_at hh.2 i h1 h2) ?_ ?_ ?_ ?_
   ·simp [AV.sc, AV.scV, AV.scA, AV.scB]
   ·exact typ1 (a := .int .i64 6) (b := .int .i64 n) (by simp [List.getElem?_append]) (by omega) (by omega)
   ·simp; omega
   refine ws _ _ _ _ (by simp; omega) ?_
   simp [zq55_j1]
   exact hO _ _ (by simpa using hK)
  ·have hk0 : 0 < ks.length := by omega
   have hg : ks.getD 0 (.mk 0 0 []) = ks[0] := getD_at hk0
   simp only [show ¬ ((7 : Int) = 1) by decide, show ¬ ((7 : Int) = 2) by decide, show ¬ ((7 : Int) = 3) by decide, show ¬ ((7 : Int) = 6) by decide, show ¬ ((7 : Int) = 5) by decide, if_false, if_true, hg] at hK hbd hh hbl
   simp only [Bool.and_eq_true] at hh
   simp only [List.length_append, List.length_cons, List.length_nil] at hbl hbd
   simp [zq55, VT.cs, Nat.add_assoc]
   refine ws0 _ _ _ (by simp; omega) ?_
   simp [List.getElem?_append]
   refine ⟨rfl, ?_⟩
   refine all _ (List.replicate vks.length ks[0]) _ _ _ (by simp) (fun t htm => by rw [List.eq_of_mem_replicate htm]; exact htk _ (List.getElem_mem hk0)) (fun i h1 h2 => hasA_rep hh.2 i h1 h2) ?_ ?_ ?_ ?_
   ·simp [AV.sc, AV.scV, AV.scA, AV.scB]
   ·exact typ3 (a := .int .i64 7) (b := .int .i64 n) (by simp [List.getElem?_append]) hk0 (by omega) (by omega)
   ·simp; omega
   refine ws _ _ _ _ (by simp; omega) ?_
   simp [zq55_j1]
   exact hO _ _ (by simpa using hK)
  ·have hk0 : 0 < ks.length := by omega
   simp only [show ¬ ((8 : Int) = 1) by decide, show ¬ ((8 : Int) = 2) by decide, show ¬ ((8 : Int) = 3) by decide, show ¬ ((8 : Int) = 6) by decide, show ¬ ((8 : Int) = 5) by decide, show ¬ ((8 : Int) = 7) by decide, if_false, if_true] at hK hbd hh hbl
   simp only [Bool.and_eq_true] at hh
   have hlv : vks.length = 1 := by rw [hasL_len hh.2, hk]
   have hv0 : 0 < vks.length := by omega
   have hh1 := hasL_at hh.2 0 hv0 hk0
   have hwl : wrL data vks ks true = wrV data vks[0] ks[0] := wrL_one hlv hk
   rw [hwl] at hK hbd hbl
   simp only [List.length_append, List.length_cons, List.length_nil] at hbl hbd
   obtain ⟨x, y, z, hvx, hx, hy, hz⟩ := vt3' vks[0]
   obtain ⟨x2, y2, z2, hvx2, hx2, hy2, hz2⟩ := vt3' ks[0]
   simp [zq55, VT.cs, Nat.add_assoc]
   refine ws0 _ _ _ (by simp; omega) ?_
   simp [List.getElem?_append, hv0, hk0]
   refine aDet_call (.tup []) (bw H id id2 (l ++ ([114, 101, 102, 40] : List UInt8) ++ wrV data vks[0] ks[0]) ++ [.cells [.int .i64 vk, .int .i64 vn, .sl (VT.css vks) .none], .cells [.int .i64 8, .int .i64 n, .sl (VT.css ks) .none]]) ?_ ?_
   ·have hB1 : Bw (bw H id id2 (l ++ ([114, 101, 102, 40] : List UInt8))) id id2 (l ++ ([114, 101, 102, 40] : List UInt8)) := hB.next
    refine hkids _ (List.getElem_mem hv0) ks[0] (htk _ (List.getElem_mem hk0)) hh1 _ id id2 _ hB1.app (hT.bw _ _) (by simp; omega) _ ⟨rfl, ?_⟩
    rw [hB1.bw_app, bw_bw hne]
   ·refine ws _ _ _ _ (by simp; omega) ?_
    simp [zq55_j1]
    exact hO _ _ (by simpa using hK)
  ·simp at hh hK hbl
   have hi := itoa_len (n := vn) (by omega) (by omega)
   obtain ⟨kf, k1, _, _, k4⟩ := hT.app [AB.cells [.int .i64 vk, .int .i64 vn, .sl (VT.css vks) .none], .cells [.int .i64 9, .int .i64 n, .sl (VT.css ks) .none]]
   simp [zq55, VT.cs, Nat.add_assoc]
   refine FormatInt_all vn (by omega) (by omega) k4 ?_
   simp
   refine ⟨by omega, ?_⟩
   refine ws0 _ _ _ (by simp; omega) ?_
   simp [zq55_j1]
   exact hO _ _ hK
def fmtT (data : List Dat) (v t : VT) : List UInt8 := if hasT data v t = true then wrV data v t else []
theorem hasT_ok {data : List Dat} (hk : KData data) {v t : VT} (h : hasT data v t = true) : DOk data ∧ tyValid data 0 t = true ∧ hasV data v t = true := by
 simp only [hasT, fineV, Bool.and_eq_true] at h
 exact ⟨⟨h.1.1, hk⟩, h.1.2, h.2⟩
theorem zq19_spec (data : List Dat) (hk : KData data) (v t : VT) (hv : v.nodes ≤ 5000) (ht : t.nodes ≤ 1000000) (H : Heap) {k : Nat} (hf : H[k]? = some (.fact LF)) (K : Kt) (hK : K (.str (fmtT data v t)) H) :
  ACalls Tryz.prog n_zq19 [.sl (data.map Dat.cs) .none, .agg v.cs, .agg t.cs] H K := by
 refine ACalls.out (zq19_ok fun hs => ?_)
 have hO : ∀ r X J, fmtT data v t = r → X = H ++ J → Out H.length K (.str r) X := fun r X J h hX => by subst h hX; exact Out.at rfl (Nat.le_refl _) hs .rfl' rfl rfl hK
 obtain ⟨x, y, z, hvx, hx, hy, hz⟩ := vt3' v
 obtain ⟨x2, y2, z2, hvx2, hx2, hy2, hz2⟩ := vt3' t
 simp [zq19, hvx, hvx2, Nat.add_assoc]
 rw [← hvx, ← hvx2]
 refine zq16_spec data hk v t hv ht _ _ ?_
 cases hd : hasT data v t with
 | true =>
  obtain ⟨hD, htv, hh⟩ := hasT_ok hk hd
  have hfb := wrV_bound hk v t hh
  have hlt := lt_get hf
  simp [aNewB, hvx, hvx2, Nat.add_assoc]
  rw [← hvx, ← hvx2]
  refine ACalls.ownB (id := H.length + 2) (t := 73) (p := .nilp) 5 1 (by simp) ?_
  have hset : (H ++ [AB.cells v.cs, .cells t.cs, .bld 73 [.nilp, .snil]]).set (H.length + 2) (.bld 73 [.nilp, .sl [] (.own (H ++ [AB.cells v.cs, .cells t.cs, .bld 73 [.nilp, .snil]]).length)]) ++ [.perm 5 1 0] =
    H ++ [AB.cells v.cs, .cells t.cs, .bld 73 [.nilp, .sl [] (.own (H.length + 3))], .perm 5 1 0] := by simp [List.set_append_right]
  rw [hset]
  have hB : Bw (H ++ [AB.cells v.cs, .cells t.cs, .bld 73 [.nilp, .sl [] (.own (H.length + 3))], .perm 5 1 0]) (H.length + 2) (H.length + 3) [] := ⟨by omega, ⟨.nilp, .inl rfl, by simp [bcs]⟩, by simp⟩
  refine zq55_spec hD _ v (Nat.le_refl _) (by omega) t htv hh _ _ _ [] hB ⟨k, by simp; omega, by omega, by omega, app_get hf⟩ (by simp; omega) _ ?_
  have hN := hB.next (l' := [] ++ wrV data v t)
  obtain ⟨p, hp, h1⟩ := hN.h1
  refine String_spec h1 hN.h2 ?_
  refine hO _ _ [AB.cells v.cs, .cells t.cs, .bld 73 [.ptr (H.length + 2) 0, .sl (bcs (wrV data v t)) (.own (H.length + 3))], .dead] (by simp [fmtT, hd]) ?_
  simp [bw, List.set_append_right]
 | false =>
  simp
  exact hO _ _ _ (by simp [fmtT, hd]) rfl
end Go.Proofs.YtfpmdpldabopjaaGreatDoor
namespace Go.Proofs.YtfpmdpldabopjaaGreatDoor
open Go Go.Abs
set_option maxRecDepth 100000
def zq32_M : Nat → List Bool
 | 4 => rl false [0,2,10,2,13]
 | _ => []
noncomputable def zq32_c : Code := Tryz.f34.body.getD .skip
noncomputable def zq32_r : List ResultVar := Tryz.f34.results.toList
def zq32_fr4 (t0 t1 t12 t13 : AV) : List AV := t0 :: t1 :: ux 10 (t12 :: t13 :: ux 13 [])
def zq32_m4 : List Bool := zq32_M 4
noncomputable def zq32_c4 : Code := codeAt [1, 1, 0, 1, 0, 0] zq32_c
def zq32_Q4 (K : Kt) : AExit → List AV → Heap → Prop := contAt Tryz.prog zq32_M [1, 1, 0, 1, 0] zq32_c (retQ Tryz.prog zq32_r K)
def zq32_l4 (t0 t1 t12 t13 : AV) (H : Heap) (K : Kt) : Prop := ALoop Tryz.prog zq32_c4 (zq32_Q4 K) (zq32_fr4 t0 t1 t12 t13) H
def zq32_b4 (t0 t1 t12 t13 : AV) (H : Heap) (K : Kt) (Kb4 : Lt) : Prop :=
 aBin .lss false t13 t12 fun t14 =>
 aTest t14
 (aPure H (fun K' => K' t0 H) fun t16 =>
 aPure H (fun K' => K' t13 H) fun t17 =>
 aPure H (fun K' => aIdxA 3 t16 t17 (K' · H)) fun t18 =>
 aPure H (fun K' => aLoadC true 3 t18 H (K' · H)) fun t19 =>
 aPure H (fun K' => K' t1 H) fun t20 =>
 aPure H (fun K' => K' t13 H) fun t21 =>
 aPure H (fun K' => aIdxA 3 t20 t21 (K' · H)) fun t22 =>
 aPure H (fun K' => aLoadC true 3 t22 H (K' · H)) fun t23 =>
 aPureX H (fun H K' => ACalls Tryz.prog n_zq38 [t19, t23] H K') fun t24 =>
 aPure H (fun K' => aUn .not t24 (K' · H)) fun t25 =>
 aTest t25
 (K (.bool false) H)
 (aBin .add false t13 (.int .i64 1) fun t26 =>
 Kb4 (zq32_fr4 t0 t1 t12 t26) H))
 (K (.bool true) H)
def zq32 (t0 t1 : AV) (H : Heap) (K : Kt) : Prop :=
 aLen 1 t0 fun t7 =>
 aLen 1 t1 fun t9 =>
 aBin .neq false t7 t9 fun t10 =>
 aTest t10
 (K (.bool false) H)
 (aLen 1 t0 fun t12 =>
 zq32_l4 t0 t1 t12 (.int .i64 0) H K)
theorem zq32_b4_eq (t0 t1 t12 t13 : AV) (H : Heap) (K : Kt) (Kb4 : Lt) : awp Tryz.prog zq32_M zq32_c4 (roundQ zq32_m4 Kb4 (zq32_Q4 K)) (zq32_fr4 t0 t1 t12 t13) H = zq32_b4 t0 t1 t12 t13 H K Kb4 := by kernel_rfl
theorem zq32_loop4 {t0 t1 t12 t13 : AV} {H : Heap} {K : Kt} (Inv : Nat → AV → Heap → Prop) (n : Nat) (h0 : HSc H → Inv n t13 H)
  (round : ∀ n t13 H', Inv n t13 H' → HSc H' → H.length ≤ H'.length → (zq32_fr4 t0 t1 t12 t13).all (AV.sc H'.length) = true → ∀ Kb4 : Lt, (∀ F'' H'', (∃ n', n' < n ∧ Back H.length (fun F2 H2 => ∃ t13, F2 = zq32_fr4 t0 t1 t12 t13 ∧ Inv n' t13 H2) F'' H'') → Kb4 F'' H'') → zq32_b4 t0 t1 t12 t13 H' K Kb4) : zq32_l4 t0 t1 t12 t13 H K :=
 aloop (M := zq32_M) zq32_m4 (fun n F H => ∃ t13, F = zq32_fr4 t0 t1 t12 t13 ∧ Inv n t13 H) n (fun hs _ => ⟨t13, rfl, h0 hs⟩) (fun n F H' ⟨t13, hF, hI⟩ h1 h2 h3 => by subst hF; rw [zq32_b4_eq]; exact round n t13 H' hI h1 h2 h3 _ (fun _ _ h => h))
theorem zq32_eq (t0 t1 : AV) (H : Heap) (K : Kt) : awp Tryz.prog zq32_M zq32_c (retQ Tryz.prog zq32_r K) (t0 :: t1 :: List.replicate 25 .unk) H = zq32 t0 t1 H K := by kernel_rfl
theorem zq32_ok {t0 t1 : AV} {H : Heap} {K : Kt} (h : HSc H → zq32 t0 t1 H K) : ACalls Tryz.prog n_zq32 [t0, t1] H K :=
 acalls_body (M := zq32_M) Tryz.func34 (c := zq32_c) (by kernel_rfl) (fun hs => (zq32_eq t0 t1 H K).mpr (h hs))
def zq38_M (_ : Nat) : List Bool := []
noncomputable def zq38_c : Code := Tryz.f40.body.getD .skip
noncomputable def zq38_r : List ResultVar := Tryz.f40.results.toList
def zq38 (t0 t1 : AV) (H : Heap) (K : Kt) : Prop :=
 aBox t0 H fun t2 H =>
 aBox t1 H fun t3 H =>
 aFld 0 t2 fun t5 =>
 aLoad false 1 t5 H fun t6 =>
 aFld 0 t3 fun t7 =>
 aLoad false 1 t7 H fun t8 =>
 aBin .eql false t6 t8 fun t9 =>
 aGuardJ t9 true H (fun K' => aFld 1 t2 (K' · H)) fun t11 H =>
 aGuardJ t9 true H (fun K' => aLoad false 1 t11 H (K' · H)) fun t12 H =>
 aGuardJ t9 true H (fun K' => aFld 1 t3 (K' · H)) fun t13 H =>
 aGuardJ t9 true H (fun K' => aLoad false 1 t13 H (K' · H)) fun t14 H =>
 aGuardJ t9 true H (fun K' => aBin .eql false t12 t14 (K' · H)) fun t15 H =>
 aPick t9 t15 (.bool false) fun t16 =>
 aGuardJ t16 true H (fun K' => aFld 2 t2 (K' · H)) fun t18 H =>
 aGuardJ t16 true H (fun K' => aLoad false 1 t18 H (K' · H)) fun t19 H =>
 aGuardJ t16 true H (fun K' => aFld 2 t3 (K' · H)) fun t20 H =>
 aGuardJ t16 true H (fun K' => aLoad false 1 t20 H (K' · H)) fun t21 H =>
 aGuardJ t16 true H (fun K' => ACalls Tryz.prog n_zq32 [t19, t21] H K') fun t22 H =>
 aPick t16 t22 (.bool false) fun t23 =>
 K t23 H
theorem zq38_eq (t0 t1 : AV) (H : Heap) (K : Kt) : awp Tryz.prog zq38_M zq38_c (retQ Tryz.prog zq38_r K) (t0 :: t1 :: List.replicate 22 .unk) H = zq38 t0 t1 H K := by kernel_rfl
theorem zq38_ok {t0 t1 : AV} {H : Heap} {K : Kt} (h : HSc H → zq38 t0 t1 H K) : ACalls Tryz.prog n_zq38 [t0, t1] H K :=
 acalls_body (M := zq38_M) Tryz.func40 (c := zq38_c) (by kernel_rfl) (fun hs => (zq38_eq t0 t1 H K).mpr (h hs))
end Go.Proofs.YtfpmdpldabopjaaGreatDoor
namespace Go.Proofs.YtfpmdpldabopjaaGreatDoor
open Go Go.Abs
set_option maxRecDepth 8000
theorem keep_Same_spec : ∀ (m : Nat), (∀ (v : VT), v.nodes ≤ m → v.nodes ≤ 1000000 → ∀ (H : Heap) (K : Kt), K (.bool true) H → ACalls Tryz.prog n_zq38 [.agg v.cs, .agg v.cs] H K) := by
 intro m
 induction m with
 | zero => intro v h; have := v.nodes_pos; omega
 | succ m ih =>
  intro v hm hb H K hK
  obtain ⟨k, n, ks⟩ := v
  have hll := VT.len_le ks
  have hnn : (VT.mk k n ks).nodes = VT.nodesL ks + 1 := by simp [VT.nodes]
  refine ACalls.out (zq38_ok fun hs => ?_)
  simp [zq38, VT.cs, Nat.add_assoc]
  refine ACalls.out (zq32_ok fun hs2 => ?_)
  simp [zq32]
  refine zq32_loop4 (Inv := fun q t13 H' => ∃ i : Nat, i ≤ ks.length ∧ q = ks.length - i ∧ t13 = .int .i64 i ∧ H' = H ++ [.cells [.int .i64 k, .int .i64 n, .sl (VT.css ks) .none], .cells [.int .i64 k, .int .i64 n, .sl (VT.css ks) .none]]) ks.length ?_ ?_
  ·intro _; exact ⟨0, by omega, by omega, rfl, rfl⟩
  ·rintro q t13 H' ⟨i, hi, rfl, rfl, rfl⟩ hsc' hlen hsF Kb hKb
   by_cases hlt : i < ks.length
   ·have hkn := VT.kid_lt (k := k) (n := n) hlt
    simp [zq32_b4, hlt]
    refine aPureX_call (.bool true) (fun J => ih ks[i] (by omega) (by omega) _ _ ⟨rfl, rfl⟩) ?_
    simp
    rw [wrap_in (by omega) (by omega)]
    refine hKb _ _ ⟨ks.length - (i + 1), by omega, Back.here (by simp) hsc' ?_ ⟨_, rfl, i + 1, by omega, rfl, by simp, rfl⟩⟩
    simp [zq32_fr4, AV.sc, AV.scV, AV.scA, AV.scB]
   ·simp [zq32_b4, hlt]
    refine Out.bool (J := []) (by simp) (by simp) hs2 ?_
    try simp
    exact Out.bool rfl (Nat.le_refl _) hs hK
def vrB (data : List Dat) (s : List UInt8) (left : Int) : AB := .cells [.sl (data.map Dat.cs) .none, .str s, .int .i64 left, .bool false]
theorem vrB_sc (data : List Dat) (s : List UInt8) (l : Int) (n : Nat) : (vrB data s l).sc n = true := by simp [vrB, AB.sc, AV.scA, AV.scB]
theorem accept_yes {data : List Dat} {left : Int} (p t : List UInt8) (hs : (p ++ t).length ≤ 1000000000) {H : Heap} {id : Nat} (hid : H[id]? = some (vrB data (p ++ t) left)) (K : Kt) (hK : K (.bool true) (H.set id (vrB data t left))) : ACalls Tryz.prog n_zq127 [.ptr id 0, .str p] H K := by
 refine zq127_ok fun hsc => ?_
 have h0 : H[id]? = some (.cells [.sl (data.map Dat.cs) .none, .str (p ++ t), .int .i64 left, .bool false]) := hid
 simp [zq127, h0]
 refine CutPrefix_yes p t hs _ _ ?_
 simp [h0, AV.known, zq127_j1]
 exact hK
theorem accept_no {data : List Dat} {left : Int} (p s : List UInt8) (hs : s.length ≤ 1000000000) (hp : p.length ≤ 1000000000) (hn : ¬ p <+: s) {H : Heap} {id : Nat} (hid : H[id]? = some (vrB data s left)) (K : Kt) (hK : K (.bool false) H) : ACalls Tryz.prog n_zq127 [.ptr id 0, .str p] H K := by
 refine zq127_ok fun hsc => ?_
 have h0 : H[id]? = some (.cells [.sl (data.map Dat.cs) .none, .str s, .int .i64 left, .bool false]) := hid
 simp [zq127, h0]
 refine CutPrefix_no p s hs hp hn _ _ ?_
 simp [zq127_j1]
 exact hK
theorem expect_yes {data : List Dat} {left : Int} (p t : List UInt8) (hs : (p ++ t).length ≤ 1000000000) {H : Heap} {id : Nat} (hid : H[id]? = some (vrB data (p ++ t) left)) (K : Kt) (hK : K (.tup []) (H.set id (vrB data t left))) : ACalls Tryz.prog n_zq128 [.ptr id 0, .str p] H K := by
 refine zq128_ok fun hsc => ?_
 simp [zq128]
 refine accept_yes p t hs hid _ ?_
 simp
 exact hK
def StopW (tail : List UInt8) : Prop := ∀ b, tail.head? = some b → b = 41 ∨ b = 44 ∨ b = 93
def RdW (data : List Dat) (v : VT) : Prop := ∀ t : VT, tyValid data 0 t = true → hasV data v t = true → ∀ (H : Heap) (id : Nat) (tail : List UInt8) (left : Int), H[id]? = some (vrB data (wrV data v t ++ tail) left) → (wrV data v t ++ tail).length ≤ 1000000000 → (v.nodes : Int) ≤ left → left ≤ 1000000 → StopW tail →
 ∀ K : Kt, K (.agg v.cs) (H.set id (vrB data tail (left - v.nodes))) → ACalls Tryz.prog n_zq71 [.ptr id 0, .agg t.cs] H K
theorem value_list_spec {data : List Dat} (vs : List VT) (hv : vs.length ≤ 1000000) (hel : ∀ v ∈ vs, RdW data v) (ts : List VT) (hlen : vs.length = ts.length) (ht : ∀ t ∈ ts, tyValid data 0 t = true)
  (hh : ∀ (i : Nat) (h1 : i < vs.length) (h2 : i < ts.length), hasV data vs[i] ts[i] = true)
  (H : Heap) (id : Nat) (tail : List UInt8) (left : Int) (hid : H[id]? = some (vrB data ([40] ++ wrL data vs ts true ++ [41] ++ tail) left)) (hb : ([40] ++ wrL data vs ts true ++ [41] ++ tail).length ≤ 1000000000) (hlo : (VT.nodesL vs : Int) ≤ left) (hhi : left ≤ 1000000)
  (K : Kt) (hK : K (.sl (VT.css vs) .none) (H.set id (vrB data tail (left - VT.nodesL vs)))) :
  ACalls Tryz.prog n_zq129 [.ptr id 0, .sl (VT.css ts) .none] H K := by
 refine ACalls.out (zq129_ok fun hs => ?_)
 have hl1 := lt_get hid
 simp only [List.length_append, List.length_cons, List.length_nil] at hb
 simp [zq129]
 refine expect_yes [40] (wrL data vs ts true ++ ([41] ++ tail)) (by simp; omega) (by simpa using hid) _ ?_
 simp
 unfold zq129_l4
 refine ALoop.own 5 e_api_Value 3 rfl ?_
 have hl2 : (H.set id (vrB data (wrL data vs ts true ++ 41 :: tail) left)).length = H.length := by simp
 rw [hl2]
 show zq129_l4 (.ptr id 0) (.sl [] (.own H.length)) (.sl (VT.css ts) .none) (.int .i64 ts.length) (.int .i64 0) _ (Out H.length K)
 have hO : ∀ X J, X = H.set id (vrB data tail (left - VT.nodesL vs)) ++ J → Out H.length K (.sl (VT.css vs) (.own H.length)) X := fun X J h2 => by
  subst h2
  exact Out.at rfl (by simp) (hs.set (vrB_sc _ _ _ _)) (slV (n := 0)).1 rfl rfl hK
 refine zq129_loop4 (Inv := fun q t5 t12 H' => ∃ (i : Nat), i ≤ ts.length ∧ q = ts.length - i ∧ t12 = .int .i64 i ∧ t5 = .sl (VT.css (vs.take i)) (.own H.length) ∧ (wrL data (vs.drop i) (ts.drop i) (i == 0)).length ≤ (wrL data vs ts true).length ∧
  H' = H.set id (vrB data (wrL data (vs.drop i) (ts.drop i) (i == 0) ++ ([41] ++ tail)) (left - VT.nodesL (vs.take i))) ++ [.perm e_api_Value 3 i]) ts.length ?_ ?_
 ·intro _; exact ⟨0, by omega, by omega, rfl, by simp [VT.css], by simp, by simp [VT.nodesL]⟩
 ·rintro q t5 t12 H' ⟨i, hi, rfl, rfl, rfl, hdl, rfl⟩ hsc' hlen' hsF Kb hKb
  have hcl : (VT.css (vs.take i)).length = i := by rw [VT.css_map]; simp; omega
  by_cases hlt : i < ts.length
  ·have hltv : i < vs.length := by omega
   have hri := hh i hltv hlt
   have hti := ht _ (List.getElem_mem hlt)
   have hvi := hel _ (List.getElem_mem hltv)
   have hn1 := VT.nodesL_take hltv
   have hn2 := VT.nodesL_take_le vs (i + 1)
   obtain ⟨x, y, z, hvx, hx, hy, hz⟩ := vt3' ts[i]
   rw [List.drop_eq_getElem_cons hlt, List.drop_eq_getElem_cons hltv] at hdl ⊢
   simp only [wrL, List.length_append] at hdl ⊢
   have hnext : ∀ X : Heap, X[id]? = some (vrB data (wrV data vs[i] ts[i] ++ (wrL data (vs.drop (i + 1)) (ts.drop (i + 1)) false ++ ([41] ++ tail))) (left - VT.nodesL (vs.take i))) → X[H.length + 1]? = some (.cells [x, y, z]) → (∀ s' l', X.set id (vrB data s' l') = H.set id (vrB data s' l') ++ [.perm e_api_Value 3 i, .cells [x, y, z]]) →
     zq129_j1 (.ptr id 0) (.sl (VT.css (vs.take i)) (.own H.length)) (.ptr (H.length + 1) 0) (.sl (VT.css ts) .none) (.int .i64 ts.length) (.int .i64 i) X (Out H.length K) Kb := by
    intro X hX hX1 hXs
    simp [zq129_j1, hX1]
    rw [← hvx]
    refine hvi ts[i] hti hri _ id (wrL data (vs.drop (i + 1)) (ts.drop (i + 1)) false ++ ([41] ++ tail)) _ hX (by simp; omega) (by omega) (by omega) ?_ _ ?_
    ·intro b hb
     cases hvd : vs.drop (i + 1) with
     | nil => rw [hvd] at hb; simp [wrL] at hb; subst hb; decide
     | cons v vs' =>
      cases htd : ts.drop (i + 1) with
      | nil => rw [hvd, htd] at hb; simp [wrL] at hb; subst hb; decide
      | cons t ts' => rw [hvd, htd] at hb; simp [wrL] at hb; subst hb; decide
    ·rw [buildS_vt, hXs]
     have hc2 : (vs[i]).cs.length = 3 := by obtain ⟨k, n, ks⟩ := vs[i]; rfl
     simp [aAppend, aSrc, aAppTo, hcl, hc2, List.set_append_right, List.set_append]
     refine ⟨⟨by omega, by omega⟩, ?_⟩
     rw [wrap_in (by omega) (by omega)]
     have hle : left - (VT.nodesL (vs.take i) : Int) - ((vs[i]).nodes : Int) = left - (VT.nodesL (vs.take (i + 1)) : Int) := by omega
     rw [hle]
     refine hKb _ _ ⟨ts.length - (i + 1), by omega, Back.at (J := [.cells [x, y, z]]) (H2 := H.set id (vrB data (wrL data (vs.drop (i + 1)) (ts.drop (i + 1)) false ++ ([41] ++ tail)) (left - VT.nodesL (vs.take (i + 1)))) ++ [.perm e_api_Value 3 (i + 1)]) (by simp) (by simp) ((hs.set (vrB_sc _ _ _ _)).append (by simp [AB.sc, AV.scA, AV.scB])) ?_ ⟨_, _, rfl, i + 1, by omega, rfl, by simp, by rw [css_take_succ hltv], by simp; omega, by simp⟩⟩
     simp [zq129_fr4, AV.sc, AV.scV, AV.scA, AV.scB]
     try omega
   by_cases h0 : i = 0
   ·subst h0
    simp [zq129_b4, hlt, hvx, hx, hy, hz]
    refine hnext _ ?_ ?_ ?_
    ·simp [List.getElem?_append, hl1]
    ·simp [List.getElem?_append]
    ·intro s' l'; simp [List.set_append, hl1]
   ·have hp : (0 : Int) < i := by omega
    have hz0 : (i == 0) = false := by simpa using h0
    rw [hz0] at hdl ⊢
    simp [zq129_b4, hlt, hvx, hx, hy, hz, hp, show 0 < i by omega]
    refine expect_yes (data := data) [44, 32] (wrV data vs[i] ts[i] ++ (wrL data (vs.drop (i + 1)) (ts.drop (i + 1)) false ++ ([41] ++ tail))) ?_ (left := left - VT.nodesL (vs.take i)) ?_ _ ?_
    ·simp at hdl ⊢; omega
    ·simp [List.getElem?_append, hl1]
    ·refine hnext _ ?_ ?_ ?_
     ·simp [List.getElem?_append, hl1]
     ·simp [List.getElem?_append, hl1]
     ·intro s' l'; simp [List.set_append, hl1]
  ·obtain rfl : i = ts.length := by omega
   have e1 : vs.drop ts.length = [] := by rw [← hlen]; exact List.drop_length
   have e2 : vs.take ts.length = vs := by rw [← hlen]; exact List.take_length
   rw [e1, e2]
   simp [zq129_b4, wrL]
   refine expect_yes (data := data) (left := left - VT.nodesL vs) [41] tail (by simp; omega) (by simp [List.getElem?_append, hl1]) _ ?_
   refine hO _ [.perm e_api_Value 3 ts.length] ?_
   simp [List.set_append, hl1]
def numB (b : UInt8) : Bool := b == 45 || bDig b
theorem dig_byte (k : Nat) (hk : k < 10) : (UInt8.ofNat (48 + k)).toNat = 48 + k := by
 simp only [UInt8.toNat_ofNat']; omega
theorem decDigits_spec : ∀ (m u : Nat), u ≤ m → u < 1844674407370955161 → Lib.decDigits u ≠ [] ∧ (∀ b ∈ Lib.decDigits u, 48 ≤ b.toNat ∧ b.toNat ≤ 57) ∧ Lib.parseUint10 0 (Lib.decDigits u) = .ok u := by
 intro m
 induction m with
 | zero =>
  intro u hu hb
  obtain rfl : u = 0 := by omega
  rw [Lib.decDigits_one (by omega)]
  refine ⟨by simp, by simp, by decide⟩
 | succ m ih =>
  intro u hu hb
  by_cases h : u < 10
  ·rw [Lib.decDigits_one h]
   have hd := dig_byte u h
   refine ⟨by simp, fun b hb => ?_, ?_⟩
   ·simp only [List.mem_singleton] at hb; subst hb; omega
   ·have := parse_snoc (UInt8.ofNat (48 + u)) (by omega) [] 0 0 rfl (by omega)
    rw [hd] at this
    simpa using this
  ·rw [Lib.decDigits, dif_neg h]
   obtain ⟨h1, h2, h3⟩ := ih (u / 10) (by omega) (by omega)
   have hd := dig_byte (u % 10) (by omega)
   refine ⟨by simp, fun b hb => ?_, ?_⟩
   ·rcases List.mem_append.1 hb with hb | hb
    ·exact h2 b hb
    ·simp only [List.mem_singleton] at hb; subst hb; omega
   ·have := parse_snoc (UInt8.ofNat (48 + u % 10)) (by omega) _ 0 (u / 10) h3 (by omega)
    rw [hd] at this
    rw [this]
    congr 1
    omega
theorem itoa_num {n : Int} (h1 : -1099511627776 ≤ n) (h2 : n ≤ 1099511627776) : (∀ b ∈ Lib.itoa n, numB b = true) ∧ Lib.parseIntB 64 (Lib.itoa n) = .ok n := by
 rw [Lib.parseIntB_64]
 have hdig : ∀ b : UInt8, 48 ≤ b.toNat ∧ b.toNat ≤ 57 → numB b = true := fun b hb => by
  simp [numB, bDig]
  right
  constructor <;> (first | exact_mod_cast hb.1 | exact_mod_cast hb.2 | (rw [UInt8.le_iff_toNat_le]; simp; omega))
 unfold Lib.itoa
 by_cases hn : n < 0
 ·rw [if_pos hn]
  obtain ⟨k1, k2, k3⟩ := decDigits_spec _ n.natAbs (Nat.le_refl _) (by omega)
  refine ⟨fun b hb => ?_, ?_⟩
  ·rcases List.mem_cons.1 hb with rfl | hb
   ·decide
   ·exact hdig b (k2 b hb)
  ·simp only [Lib.atoiAll]
   rw [if_pos (Or.inr (by decide))]
   simp only [Lib.parseMag, k1, if_false, k3]
   rw [if_neg (by simp), if_neg (by omega)]
   simp
   omega
 ·rw [if_neg hn]
  obtain ⟨k1, k2, k3⟩ := decDigits_spec _ n.toNat (Nat.le_refl _) (by omega)
  refine ⟨fun b hb => hdig b (k2 b hb), ?_⟩
  obtain ⟨c, r, hcr⟩ := List.exists_cons_of_ne_nil k1
  have hc := k2 c (by rw [hcr]; simp)
  rw [hcr] at k3 ⊢
  simp only [Lib.atoiAll]
  rw [if_neg (by omega)]
  simp only [Lib.parseMag, reduceCtorEq, if_false, k3]
  rw [if_neg (by omega), if_neg (by omega), if_neg (by omega)]
  congr 1
  omega
theorem number_spec {data : List Dat} {left : Int} (n : Int) (h1 : -1099511627776 ≤ n) (h2 : n ≤ 1099511627776) (t : List UInt8) (ht : StopW t) (hl : (Lib.itoa n ++ t).length ≤ 1000000000) {H : Heap} {id : Nat} (hid : H[id]? = some (vrB data (Lib.itoa n ++ t) left)) (K : Kt) (hK : K (.int .i64 n) (H.set id (vrB data t left))) :
  ACalls Tryz.prog n_zq126 [.ptr id 0] H K := by
 refine ACalls.out (zq126_ok fun hs => ?_)
 obtain ⟨hw, hp⟩ := itoa_num h1 h2
 generalize Lib.itoa n = w at *
 have h0 : H[id]? = some (.cells [.sl (data.map Dat.cs) .none, .str (w ++ t), .int .i64 left, .bool false]) := hid
 simp only [List.length_append] at hl
 have hlt0 := lt_get hid
 simp [zq126]
 refine zq126_loop2 (Inv := fun q t5 H' => ∃ i : Nat, i ≤ w.length ∧ q = w.length - i ∧ t5 = .int .i64 i ∧ H' = H) w.length ?_ ?_
 ·intro _; exact ⟨0, by omega, by omega, rfl, rfl⟩
 ·rintro q t5 H' ⟨i, hi, rfl, rfl, rfl⟩ hsc hlen hsF Kb hKb
  by_cases hlt : i < w.length
  ·have hgi := hw _ (List.getElem_mem hlt)
   have h1 : (i : Int) < (w.length : Int) + t.length := by omega
   have e1 : ((w[i].toNat : Int) == 45) = (w[i] == 45) := u8_eq w[i] 45
   have hgo : Kb (zq126_fr2 (.ptr id 0) (.int .i64 (IntKind.i64.wrap ((i : Int) + 1)))) H' := by
    rw [wrap_in (by omega) (by omega)]
    refine hKb _ _ ⟨w.length - (i + 1), by omega, Back.here (by simp) hsc ?_ ⟨_, rfl, i + 1, by omega, rfl, by simp, rfl⟩⟩
    simp [zq126_fr2, AV.sc, AV.scV, AV.scA, AV.scB]
    try omega
   unfold numB bDig at hgi
   have hget : (w ++ t)[i]?.getD 0 = w[i] := by simp [List.getElem?_append_left hlt, hlt]
   simp [zq126_b2, hget, h0, h1, show i < w.length + t.length by omega, List.getElem?_append_left hlt, hlt, e1]
   cases h2 : (w[i] == 45) <;> cases h3 : decide (48 ≤ (w[i].toNat : Int)) <;> cases h4 : decide ((w[i].toNat : Int) ≤ 57) <;> simp [h2, h3, h4] at hgi ⊢ <;> first | exact hgo | (simp [h1, h0, hlt, hget, e1, h2, h3, h4, show i < w.length + t.length by omega] ; exact hgo)
  ·obtain rfl : i = w.length := by omega
   have fin : ∀ X, X = H'.set id (vrB data t left) → Out H'.length K (.int .i64 n) X := fun X hX => by
    subst hX
    exact Out.at (J := []) (by simp) (by simp) (hs.set (vrB_sc _ _ _ _)) .rfl' rfl rfl hK
   have hPI : ∀ K' : AV → Heap → Prop, K' (.tup [.int .i64 n, .nili]) H' → ACalls Tryz.prog n_zq170 [.str w, .int .i64 10, .int .i64 64] H' K' := fun K' hK' => ParseInt_ok w n (by omega) hp H' K' hK'
   cases t with
   | nil =>
    simp [zq126_b2, h0, aSlice, aBound, AV.known]
    refine hPI _ ?_
    simp [h0, aSlice, aBound, AV.known]
    exact fin _ (by simp [vrB])
   | cons b t =>
    have h1 : (w.length : Int) < (w.length : Int) + ((t.length : Int) + 1) := by omega
    have hb := ht b rfl
    have e1 : ((b.toNat : Int) == 45) = false := by rcases hb with rfl | rfl | rfl <;> decide
    have e2 : (decide (48 ≤ (b.toNat : Int)) && decide ((b.toNat : Int) ≤ 57)) = false := by rcases hb with rfl | rfl | rfl <;> decide
    cases h3 : decide (48 ≤ (b.toNat : Int)) <;> cases h4 : decide ((b.toNat : Int) ≤ 57) <;> simp [h3, h4] at e2 <;>
     (simp [zq126_b2, h0, h1, aSlice, aBound, AV.known, e1, h3, h4]
      first
       | (refine hPI _ ?_
          simp [h0, aSlice, aBound, AV.known]
          exact fin _ (by simp [vrB]))
       | (refine ⟨by omega, hPI _ ?_⟩
          simp [h0, aSlice, aBound, AV.known]
          exact fin _ (by simp [vrB])))
def stopL : List UInt8 := [40, 41, 44, 32, 91, 93]
theorem in_small {b : UInt8} (h : bIn b = true) : b.toNat < 128 := by
 unfold bIn bLow bUp bDig at h
 simp only [Bool.or_eq_true, Bool.and_eq_true, decide_eq_true_eq, beq_iff_eq] at h
 rcases h with ((h | h) | h) | rfl
 ·omega
 ·omega
 ·omega
 ·decide
theorem in_idx : ∀ k : Nat, k < 128 → bIn (UInt8.ofNat k) = true → decide (0 ≤ Lib.indexByte stopL (UInt8.ofNat k)) = false := by decide
theorem in_stop {b : UInt8} (h : bIn b = true) : decide (0 ≤ Lib.indexByte stopL b) = false := by
 have h1 := in_small h
 have h2 := in_idx b.toNat h1
 rw [UInt8.ofNat_toNat] at h2
 exact h2 h
theorem wrap_rune (b : UInt8) : IntKind.i32.wrap (b.toNat : Int) = b.toNat := by
 have := b.toNat_lt
 simp only [IntKind.wrap]
 first | omega | (simp [IntKind.bits, IntKind.signed]; omega)
theorem value_cons_spec {data : List Dat} (hk : KData data) (hD : dataOk data = true) (n : Int) (ks : List VT) (ht : tyValid data 0 (.mk 5 n ks) = true) (c : Int) (vks : List VT) (hv : vks.length ≤ 1000000) (hel : ∀ v ∈ vks, RdW data v) (ts : List VT)
  (hf : fields data (.mk 5 n ks) c = some ts) (hL : hasL data vks ts = true)
  (H : Heap) (id : Nat) (tail : List UInt8) (left : Int) (hid : H[id]? = some (vrB data (conName data (.mk 5 n ks) c ++ ((if vks.length = 0 then [] else [40] ++ wrL data vks ts true ++ [41]) ++ tail)) left))
  (hb : (conName data (.mk 5 n ks) c ++ ((if vks.length = 0 then [] else [40] ++ wrL data vks ts true ++ [41]) ++ tail)).length ≤ 1000000000) (hlo : (VT.nodesL vks : Int) ≤ left) (hhi : left ≤ 1000000) (hst : StopW tail) (K : Kt)
  (hK : K (.agg (VT.mk 5 c vks).cs) (H.set id (vrB data tail (left - VT.nodesL vks)))) :
  ACalls Tryz.prog n_zq130 [.ptr id 0, .agg (VT.mk 5 n ks).cs] H K := by
 refine ACalls.out (zq130_ok fun hs => ?_)
 have hl1 := lt_get hid
 have hto : tyOk data 0 (.mk 5 n ks) = true := by rw [tyValid, Bool.and_eq_true] at ht; exact ht.2
 have htn : (VT.mk 5 n ks).nodes ≤ 200 := by rw [tyValid, Bool.and_eq_true] at ht; exact of_decide_eq_true ht.1
 have hfv := fields_valid hD hto hf
 obtain ⟨_, n0, c0, hn1, hc1, _⟩ := fields_some hf
 have hnm : conName data (.mk 5 n ks) c = ((data[n.toNat]).cons[c.toNat]).name := by simp [conName, VT.num, hn1, hc1]
 obtain ⟨n, rfl⟩ : ∃ x : Nat, n = x := ⟨n.toNat, by omega⟩
 obtain ⟨c, rfl⟩ : ∃ x : Nat, c = x := ⟨c.toNat, by omega⟩
 simp only [Int.toNat_natCast] at hn1 hc1 hnm
 obtain ⟨f1, f2, f3⟩ := kd_fields hk
 have hT' : (VT.mk 5 (n : Int) ks).cs = [.int .i64 5, .int .i64 n, .sl (VT.css ks) .none] := rfl
 have e1 : (data.map Dat.cs)[n]? = some (data[n]).cs := by simp [hn1]
 have hcl := f3 _ (List.getElem_mem hn1)
 rw [hnm] at hid hb
 have hnw := (con_name hD hn1 hc1).2
 have hll := hasL_len hL
 generalize hmid : (if vks.length = 0 then [] else [40] ++ wrL data vks ts true ++ [41]) = mid at *
 have hstop : ∀ b, (mid ++ tail).head? = some b → b = 40 ∨ b = 41 ∨ b = 44 ∨ b = 93 := by
  intro b hb
  by_cases hz : vks.length = 0
  ·rw [if_pos hz] at hmid; subst hmid; exact Or.inr (hst b (by simpa using hb))
  ·rw [if_neg hz] at hmid; subst hmid; simp at hb; exact Or.inl hb.symm
 simp only [List.length_append] at hb
 generalize hnam : ((data[n]).cons[c]).name = w at *
 have hX0 : ∀ s l J, (H.set id (vrB data s l) ++ J)[id]? = some (.cells [.sl (data.map Dat.cs) .none, .str s, .int .i64 l, .bool false]) := fun s l J => by simp [List.getElem?_append, hl1, vrB]
 have h0 : ∀ J : Heap, (H ++ J)[id]? = some (.cells [.sl (data.map Dat.cs) .none, .str (w ++ (mid ++ tail)), .int .i64 left, .bool false]) := fun J => by rw [List.getElem?_append_left hl1]; exact hid
 have hset : ∀ b J, (H ++ J).set id b = H.set id b ++ J := fun b J => List.set_append_left _ _ hl1
 have hscA : ∀ s l, HSc (H.set id (vrB data s l) ++ [.cells [.int .i64 5, .int .i64 n, .sl (VT.css ks) .none], .cells [.int .i64 0, .int .i64 0, .snil]]) := fun s l => (hs.set (vrB_sc _ _ _ _)).append (by simp [AB.sc, AV.scA, AV.scB])
 -- behind the name
 have hafter : zq130_l7 (.ptr id 0) (.ptr H.length 0) (.ptr (H.length + 1) 0) (.str w) (.sl ((data[n]).cons.map Con.cs) .none) (.int .i64 (data[n]).cons.length) (.int .i64 0)
   (H.set id (vrB data (mid ++ tail) left) ++ [.cells [.int .i64 5, .int .i64 n, .sl (VT.css ks) .none], .cells [.int .i64 0, .int .i64 0, .snil]]) (Out H.length K) := by
  refine zq130_loop7 (Inv := fun q t23 H' => ∃ (i : Nat), i ≤ c ∧ q = c - i ∧ t23 = .int .i64 i ∧
   H' = H.set id (vrB data (mid ++ tail) left) ++ [.cells [.int .i64 5, .int .i64 n, .sl (VT.css ks) .none], .cells [.int .i64 0, .int .i64 0, .snil]]) c ?_ ?_
  ·intro _; exact ⟨0, by omega, by omega, rfl, rfl⟩
  ·rintro q t23 H' ⟨i, hi, rfl, rfl, rfl⟩ hsc' hlen' hsF Kb hKb
   have hlt : i < (data[n]).cons.length := by omega
   by_cases hic : i < c
   ·have hdf := con_diff hD hn1 hc1 hic
    rw [hnam] at hdf
    have hdf' : (((data[n]).cons[i]).name == w) = false := by simpa using hdf
    simp [zq130_b7, hlt, Con.cs, hdf']
    rw [wrap_in (by omega) (by omega)]
    refine hKb _ _ ⟨c - (i + 1), by omega, Back.at (J := [.cells [.str ((data[n]).cons[i]).name, .sl (VT.css ((data[n]).cons[i]).args) .none]]) (H2 := H.set id (vrB data (mid ++ tail) left) ++ [.cells [.int .i64 5, .int .i64 n, .sl (VT.css ks) .none], .cells [.int .i64 0, .int .i64 0, .snil]]) (by simp) (by simp) (hscA _ _) ?_ ⟨_, rfl, i + 1, by omega, rfl, by simp, rfl⟩⟩
    simp [zq130_fr7, AV.sc, AV.scV, AV.scA, AV.scB]
    try omega
   ·obtain rfl : i = c := by omega
    simp [zq130_b7, hlt, Con.cs, hX0, hnam]
    rw [← hT']
    refine aPureX_call (fieldsR (fields data (.mk 5 n ks) i)) (fun J => zq89_spec data f1 f2 f3 (.mk 5 n ks) (by omega) i _ _ ⟨rfl, rfl⟩) ?_
    rw [hf]
    simp [fieldsR, hT']
    by_cases hz : vks.length = 0
    ·have : ¬ 0 < ts.length := by omega
     rw [if_pos hz] at hmid
     subst hmid
     obtain rfl : vks = [] := List.eq_nil_of_length_eq_zero hz
     simp [this, aBuild, fillA, zq130_j3, AV.known, List.set_append, List.getElem?_append]
     simp [VT.nodesL] at hK
     exact Out.at (H2 := H.set id (vrB data tail left)) (b := .agg [.int .i64 5, .int .i64 i, .sl (VT.css []) .none]) rfl (by simp) (hs.set (vrB_sc _ _ _ _)) (.agg ⟨.refl _, .refl _, .snil, trivial⟩) rfl (by simp [AV.scV, AV.scA, AV.scB]) (by simpa [VT.cs] using hK)
    ·have : 0 < ts.length := by omega
     rw [if_neg hz] at hmid
     subst hmid
     simp [this, aBuild, fillA, AV.known, List.set_append, List.getElem?_append]
     refine value_list_spec vks hv hel ts hll hfv (fun i h1 h2 => hasL_at hL i h1 h2) _ id tail left ?_ ?_ hlo hhi _ ?_
     ·simp [List.getElem?_append, hl1]
     ·simp at hb ⊢; omega
     ·simp [zq130_j3, AV.known, List.set_append, hl1, List.getElem?_append, Nat.add_assoc]
      exact Out.at (H2 := H.set id (vrB data tail (left - VT.nodesL vks))) (b := .agg [.int .i64 5, .int .i64 i, .sl (VT.css vks) .none]) rfl (by simp) (hs.set (vrB_sc _ _ _ _)) .rfl' rfl (by simp [AV.scV, AV.scA, AV.scB]) (by simpa [VT.cs] using hK)
 simp [zq130, VT.cs, Nat.add_assoc]
 refine zq130_loop2 (Inv := fun q t5 H' => ∃ i : Nat, i ≤ w.length ∧ q = w.length - i ∧ t5 = .int .i64 i ∧ H' = H ++ [.cells [.int .i64 5, .int .i64 n, .sl (VT.css ks) .none], .cells [.int .i64 0, .int .i64 0, .snil]]) w.length ?_ ?_
 ·intro _; exact ⟨0, by omega, by omega, rfl, rfl⟩
 ·rintro q t5 H' ⟨i, hi, rfl, rfl, rfl⟩ hsc hlen hsF Kb hKb
  by_cases hlt : i < w.length
  ·have hgi := hnw _ (List.getElem_mem hlt)
   have h1 : (i : Int) < (w.length : Int) + ((mid.length : Int) + tail.length) := by omega
   have hget : (w ++ (mid ++ tail))[i]?.getD 0 = w[i] := by simp [List.getElem?_append_left hlt, hlt]
   simp [zq130_b2, h0, h1, show i < w.length + (mid.length + tail.length) by omega, hget, wrap_rune]
   rw [List.getElem_append_left hlt]
   refine ContainsRune_ok stopL w[i] (in_small hgi) _ _ ?_
   rw [in_stop hgi]
   simp
   rw [wrap_in (by omega) (by omega)]
   refine hKb _ _ ⟨w.length - (i + 1), by omega, Back.here (by simp) hsc ?_ ⟨_, rfl, i + 1, by omega, rfl, by simp, rfl⟩⟩
   simp [zq130_fr2, AV.sc, AV.scV, AV.scA, AV.scB]
   try omega
  ·obtain rfl : i = w.length := by omega
   have hafter2 := hafter
   unfold vrB at hafter2
   cases hmt : mid ++ tail with
   | nil =>
    rw [hmt] at hafter2
    have h0' := fun J => h0 J
    rw [hmt] at h0'
    have hm0 : mid = [] ∧ tail = [] := List.append_eq_nil_iff.1 hmt
    obtain ⟨rfl, rfl⟩ := hm0
    simp [zq130_b2, h0', aSlice, aBound, AV.known, hset]
    simp [e1, hn1, Dat.cs, Nat.add_assoc, List.getElem?_append, hl1]
    simpa using hafter2
   | cons b t =>
    rw [hmt] at hafter2
    have h0' := fun J => h0 J
    rw [hmt] at h0'
    have hbs := hstop b (by rw [hmt]; rfl)
    have h1 : (w.length : Int) < (w.length : Int) + ((t.length : Int) + 1) := by omega
    have hb128 : b.toNat < 128 := by rcases hbs with rfl | rfl | rfl | rfl <;> decide
    have hidx : decide (0 ≤ Lib.indexByte stopL b) = true := by rcases hbs with rfl | rfl | rfl | rfl <;> decide
    simp [zq130_b2, h0', h1, aSlice, aBound, AV.known, hset, wrap_rune]
    refine ContainsRune_ok stopL b hb128 _ _ ?_
    rw [hidx]
    simp [h0', aSlice, aBound, AV.known, hset]
    simp [e1, hn1, Dat.cs, Nat.add_assoc, List.getElem?_append, hl1]
    simpa using hafter2
end Go.Proofs.YtfpmdpldabopjaaGreatDoor
namespace Go.Proofs.YtfpmdpldabopjaaGreatDoor
open Go Go.Shelf Go.RowKit Go.Lib
theorem zlayC2 : Go.Proofs.Lays.n152 Tryz.prog zlayC_ren := { zlayC with }
set_option maxHeartbeats 2000000 in
set_option maxRecDepth 1000000 in
theorem IndexRune_two (r : Int) (w : World) (h0 : 128 ≤ r) (h1 : r ≤ 255) :
  Calls Tryz.prog 217 #[.string ⟨#[40, 41, 44, 32, 91, 93]⟩, .int .i32 r] w fun e w' => e = .returned (.int .i64 (-1)) ∧ Below w.heap.size w w' := by
 have t3 := Tryz.underlying3; have a3 := Tryz.isAgg3; have z3 := Tryz.sizeOf3; have v3 := Tryz.zeroValue3
 have t4 := Tryz.underlying4; have a4 := Tryz.isAgg4; have z4 := Tryz.sizeOf4; have v4 := Tryz.zeroValue4
 have t5 := Tryz.underlying5; have a5 := Tryz.isAgg5; have z5 := Tryz.sizeOf5; have v5 := Tryz.zeroValue5
 have t9 := Tryz.underlying9; have a9 := Tryz.isAgg9; have z9 := Tryz.sizeOf9; have v9 := Tryz.zeroValue9
 have t21 := Tryz.underlying21; have a21 := Tryz.isAgg21; have z21 := Tryz.sizeOf21; have v21 := Tryz.zeroValue21
 have u3 := run_underlying t3; have u4 := run_underlying t4; have u5 := run_underlying t5; have u9 := run_underlying t9; have u21 := run_underlying t21
 have e244 : ∀ args w, (callFunc 244 args).run Tryz.prog w = .ok (.enter 244 args) w := enters_of Tryz.func244 (by kernel_rfl) rfl
 have e245 : ∀ args w, (callFunc 245 args).run Tryz.prog w = .ok (.enter 245 args) w := enters_of Tryz.func245 (by kernel_rfl) rfl
 obtain ⟨c0, c1, he, hc⟩ : ∃ c0 c1 : UInt8, Utf8.encode r = ⟨#[c0, c1]⟩ ∧ 128 ≤ c1.toNat := by
  obtain ⟨n, rfl⟩ : ∃ n : Nat, r = n := ⟨r.toNat, by omega⟩
  refine ⟨UInt8.ofNat (192 + n / 64), UInt8.ofNat (128 + n % 64), ?_, by simp; omega⟩
  unfold Utf8.encode
  have hv : Utf8.valid (n : Int) = true := by rw [validRune_eq]; unfold validRune; exact decide_eq_true (by omega)
  simp only [hv, if_true, Int.toNat_natCast]
  rw [if_neg (by omega), if_pos (by omega)]
 have hcv : ∀ w, (convert 21 9 (.int .i32 r)).run Tryz.prog w = .ok (.string ⟨#[c0, c1]⟩) w := fun w => by
  rw [← he]
  exact run_convert_int_string w _ _ _ _ (by rw [t21]; rfl) t9
 go_enter Tryz.func217, Tryz.ntmps217
 go_wp2_with (go_at_call 245; refine (Any.utf8_ValidRune (ρ := zlayC_ren) { zlayC2 with } _ _).mono ?_; rintro e w' ⟨rfl, hw⟩; rw [hw])
 all_goals first | (exfalso; rename_i hx; revert hx; unfold Lib.validRune; rw [decide_eq_true (by omega)]; simp; done) | skip
 go_step3
 go_wp2
 refine wp_loop_rounds 1 ?_
 rw [rounds_succ]
 go_wp2
 go_step3
 go_wp2
 have g1 : ∀ h, (({ data := #[c0, c1] } : ByteArray)[1]'h) = c1 := fun _ => rfl
 have g2 : ∀ h, (({ data := #[40, 41, 44, 32, 91, 93] } : ByteArray)[1]'h) = 41 := fun _ => rfl
 have hix : indexByte [44, 32, 91, 93] c1 = -1 := by
  have hne : ∀ b : UInt8, b.toNat < 128 → (b == c1) = false := fun b hb => by
   simp only [beq_eq_false_iff_ne, ne_eq]
   rintro rfl
   omega
  simp [indexByte, hne]
 go_region
 all_goals (try go_wp2)
 all_goals (try go_region_with (go_at_call 244; refine (Any.strings_IndexByte (ρ := zlayC_ren) { zlayC2 with } _ _ _).mono ?_; rintro e w' ⟨rfl, hw⟩; rw [hw]))
 all_goals first | (exfalso; rename_i hx; revert hx; simp only [g1, g2]; simp; omega) | skip
 all_goals (try simp only [g1, hix])
 all_goals go_wp2
 all_goals (rw [Exit.noGoto_ret]; simp only [Exit.inBlock, Exit.then]; rw [Exit.noGoto_ret]; try simp only [Exit.inBlock, Exit.then])
 all_goals go_ret
 all_goals exact ⟨rfl, Below.drew (Below.drew (Below.refl _ _))⟩
set_option maxHeartbeats 2000000 in
set_option maxRecDepth 1000000 in
theorem ContainsRune_two (r : Int) (w : World) (h0 : 128 ≤ r) (h1 : r ≤ 255) :
  Calls Tryz.prog 173 #[.string ⟨#[40, 41, 44, 32, 91, 93]⟩, .int .i32 r] w fun e w' => e = .returned (.bool false) ∧ Below w.heap.size w w' := by
 have t3 := Tryz.underlying3; have a3 := Tryz.isAgg3; have z3 := Tryz.sizeOf3; have v3 := Tryz.zeroValue3
 have t4 := Tryz.underlying4; have a4 := Tryz.isAgg4; have z4 := Tryz.sizeOf4; have v4 := Tryz.zeroValue4
 have t9 := Tryz.underlying9; have a9 := Tryz.isAgg9; have z9 := Tryz.sizeOf9; have v9 := Tryz.zeroValue9
 have t21 := Tryz.underlying21; have a21 := Tryz.isAgg21; have z21 := Tryz.sizeOf21; have v21 := Tryz.zeroValue21
 have e217 : ∀ args w, (callFunc 217 args).run Tryz.prog w = .ok (.enter 217 args) w := enters_of Tryz.func217 (by kernel_rfl) rfl
 go_enter Tryz.func173, Tryz.ntmps173
 go_wp2_with (go_at_call 217; refine (IndexRune_two _ _ h0 h1).mono ?_; rintro e w' ⟨rfl, hb⟩)
 go_ret
 exact ⟨rfl, hb⟩
end Go.Proofs.YtfpmdpldabopjaaGreatDoor
namespace Go.Proofs.YtfpmdpldabopjaaGreatDoor
open Go Go.Shelf Go.Abs Go.RowKit
theorem ContainsRune_any (b : UInt8) (H : Heap) (K : AV → Heap → Prop) (hK : K (.bool (decide (0 ≤ Lib.indexByte stopL b))) H) : ACalls Tryz.prog n_zq171 [.str stopL, .int .i32 b.toNat] H K := by
 by_cases hb : b.toNat < 128
 ·exact ContainsRune_ok stopL b hb H K hK
 ·have hlt := b.toNat_lt
  have hix : Lib.indexByte stopL b = -1 := by
   have hne : ∀ c : UInt8, c.toNat < 128 → (c == b) = false := fun c hc => by
    simp only [beq_eq_false_iff_ne, ne_eq]
    rintro rfl
    omega
   simp [Lib.indexByte, stopL, hne]
  rw [hix] at hK
  intro B w G ⟨vs⟩ hH hv
  match vs, hv with
  | [v0, v1], ⟨e0, e1, _⟩ =>
   have e0 : v0 = .string ⟨stopL.toArray⟩ := e0
   have e1 : v1 = .int .i32 b.toNat := e1
   subst e0 e1
   refine ((ContainsRune_two b.toNat w (by omega) (by omega) : Calls Tryz.prog 173 _ _ _)).mono ?_
   rintro e w' ⟨rfl, hbl⟩
   obtain ⟨h1, h2⟩ := hrel_below hH hbl
   exact ⟨_, .bool false, H, G, rfl, h1, h2, rfl, hK⟩
theorem ParseInt_any (s : List UInt8) (hl : s.length ≤ 1000000000) (H : Heap) (i : Nat) (hf : H[i]? = some (.fact EF)) (K : AV → Heap → Prop) (hK : s ≠ [] → ∀ n, K (.tup [.int .i64 n, .nili]) H) (hK2 : ∀ n, K (.tup [.int .i64 n, .ifc]) H) :
  ACalls Tryz.prog n_zq170 [.str s, .int .i64 10, .int .i64 64] H K := by
 intro B w G ⟨vs⟩ hH hv
 match vs, hv with
 | [v0, v1, v2], ⟨e0, e1, e2, _⟩ =>
  have e0 : v0 = .string ⟨s.toArray⟩ := e0
  have e1 : v1 = .int .i64 10 := e1
  have e2 : v2 = .int .i64 64 := e2
  subst e0 e1 e2
  obtain ⟨x1, x2, ⟨c1, i1⟩, c2, i2⟩ := fact_use hH hf
  have hsz : (⟨s.toArray⟩ : ByteArray).size = s.length := by simp [ByteArray.size]
  rcases ha : Lib.parseIntB 64 s with n | _ | _
  ·refine ((Any.strconv_ParseInt_10_at64_ok zlayB ⟨s.toArray⟩ (by rw [hsz]; omega) n (by simpa using ha) w : Calls Tryz.prog 172 _ _ _)).mono ?_
   rintro e w' ⟨rfl, hW⟩
   have hb : Below w.heap.size w w' := by
    rcases hW with rfl | ⟨t, rfl⟩
    ·exact Below.refl _ _
    ·exact Lib.bytesWorld_below _ _ _
   obtain ⟨h1, h2⟩ := hrel_below hH hb
   exact ⟨_, .tup [.int .i64 n, .nili], H, G, rfl, h1, h2, ⟨_, rfl, rfl, rfl, trivial⟩, hK (fun h => by subst h; revert ha; simp [Lib.parseIntB]) n⟩
  ·refine ((Any.strconv_ParseInt_10_at64_syntax zlayB ⟨s.toArray⟩ (by rw [hsz]; omega) (by simpa using ha) x1 w c1 i1 : Calls Tryz.prog 172 _ _ _)).mono ?_
   rintro e w' ⟨N, rfl, _, _, hb⟩
   obtain ⟨h1, h2⟩ := hrel_below hH hb
   exact ⟨_, .tup [.int .i64 0, .ifc], H, G, rfl, h1, h2, ⟨_, rfl, rfl, ⟨_, _, rfl⟩, trivial⟩, hK2 0⟩
  ·refine ((Any.strconv_ParseInt_10_at64_range zlayB ⟨s.toArray⟩ (by rw [hsz]; omega) (by simpa using ha) x2 w c2 i2 : Calls Tryz.prog 172 _ _ _)).mono ?_
   rintro e w' ⟨N, rfl, _, _, hb⟩
   obtain ⟨h1, h2⟩ := hrel_below hH hb
   exact ⟨_, .tup [.int .i64 _, .ifc], H, G, rfl, h1, h2, ⟨_, rfl, rfl, ⟨_, _, rfl⟩, trivial⟩, hK2 _⟩
end Go.Proofs.YtfpmdpldabopjaaGreatDoor
namespace Go.Proofs.YtfpmdpldabopjaaGreatDoor
open Go Go.Abs
set_option maxRecDepth 8000
theorem set_same {H : Heap} {id : Nat} {x : AB} (h : H[id]? = some x) : H.set id x = H := by
 obtain ⟨h1, h2⟩ := List.getElem?_eq_some_iff.1 h
 rw [← h2]
 exact List.set_getElem_self h1
def Fa (H : Heap) (id : Nat) : Prop := ∃ i, i ≠ id ∧ H[i]? = some (.fact EF)
theorem Fa.next {H J : Heap} {id : Nat} (h : Fa H id) (x : AB) : Fa (H.set id x ++ J) id := by
 obtain ⟨i, hne, hi⟩ := h
 have hl := lt_get hi
 refine ⟨i, hne, ?_⟩
 rw [List.getElem?_append_left (by simpa using hl), List.getElem?_set_ne (fun h => hne h.symm)]
 exact hi
theorem Fa.app {H J : Heap} {id : Nat} (h : Fa H id) : Fa (H ++ J) id := by
 obtain ⟨i, hne, hi⟩ := h
 exact ⟨i, hne, by rw [List.getElem?_append_left (lt_get hi)]; exact hi⟩
theorem tyValid_ok {data : List Dat} {t : VT} (ht : tyValid data 0 t = true) : tyOk data 0 t = true := by
 unfold tyValid at ht
 simp only [Bool.and_eq_true] at ht
 exact ht.2
theorem tyValid_nodes {data : List Dat} {t : VT} (ht : tyValid data 0 t = true) : t.nodes ≤ 1000 := by
 unfold tyValid at ht
 simp only [Bool.and_eq_true, decide_eq_true_eq] at ht
 omega
theorem tyValid_data {data : List Dat} {tn : Int} {tks : List VT} (ht : tyValid data 0 (.mk 5 tn tks) = true) : 0 ≤ tn ∧ tn.toNat < data.length := by
 have h := tyValid_ok ht
 simp only [tyOk, shapeOk, Bool.and_eq_true] at h
 have h1 := h.1
 simp at h1
 refine ⟨h1.1, ?_⟩
 have h2 := h1.2
 split at h2
 ·rename_i d hd
  exact (List.getElem?_eq_some_iff.1 hd).1
 ·simp at h2
theorem take_drop_while (g : UInt8 → Bool) (s : List UInt8) : (∀ b ∈ s.takeWhile g, g b = true) ∧ ∀ b, (s.dropWhile g).head? = some b → g b = false := by
 induction s with
 | nil => simp
 | cons b s ih =>
  cases h : g b with
  | true =>
   simp only [List.takeWhile_cons, List.dropWhile_cons, h, if_true]
   refine ⟨fun x hx => ?_, ih.2⟩
   rcases List.mem_cons.1 hx with rfl | hx
   ·exact h
   ·exact ih.1 x hx
  | false =>
   simp only [List.takeWhile_cons, List.dropWhile_cons, h]
   refine ⟨by simp, fun x hx => ?_⟩
   simp at hx
   subst hx
   exact h
theorem ACalls.ownC {P : Program} {f : FuncId} {args : List AV} {H : Heap} {K : AV → Heap → Prop} {id j : Nat} {cs : List AV} (e size : Nat) (hid : H[id]? = some (.cells cs)) (hj : cs[j]? = some .snil)
  (h : ACalls P f args (H.set id (.cells (cs.set j (.sl [] (.own H.length)))) ++ [.perm e size 0]) K) : ACalls P f args H K := by
 intro B w G vs hH hv
 obtain ⟨G', hE, hH'⟩ := hH.ownCell e size hid hj
 refine (h B w G' vs hH' (hv.mono fun _ _ => hE.trel)).mono fun e' w' hp => ?_
 obtain ⟨v, r, H', G'', h1, h2, h3⟩ := hp
 exact ⟨v, r, H', G'', h1, hE.trans h2, h3⟩
theorem value_array_spec {data : List Dat} (t : VT) (ht : tyValid data 0 t = true) (vks : List VT) (hv : vks.length ≤ 1000000) (hel : ∀ v ∈ vks, RdW data v) (hA : hasA data vks t = true) (h93 : ∀ v ∈ vks, ∀ s b, (wrV data v t ++ s).head? = some b → b ≠ 93)
  (H : Heap) (id : Nat) (tail : List UInt8) (left : Int) (hid : H[id]? = some (vrB data ([91] ++ wrL data vks (List.replicate vks.length t) true ++ [93] ++ tail) left)) (hb : ([91] ++ wrL data vks (List.replicate vks.length t) true ++ [93] ++ tail).length ≤ 1000000000)
  (hlo : (VT.nodesL vks : Int) ≤ left) (hhi : left ≤ 1000000) (K : Kt) (hK : K (.agg (VT.mk 6 0 vks).cs) (H.set id (vrB data tail (left - VT.nodesL vks)))) :
  ACalls Tryz.prog n_zq131 [.ptr id 0, .agg t.cs] H K := by
 refine ACalls.out (zq131_ok fun hs => ?_)
 have hl1 := lt_get hid
 obtain ⟨x, y, z, hvx, hx, hy, hz⟩ := vt3' t
 generalize hts : List.replicate vks.length t = ts at *
 have hlt : ts.length = vks.length := by subst hts; simp
 have hti : ∀ (i : Nat) (h : i < ts.length), ts[i] = t := fun i h => by subst hts; simp
 simp only [List.length_append, List.length_cons, List.length_nil] at hb
 have hX : ∀ s l (J : Heap), (H.set id (vrB data s l) ++ J)[id]? = some (vrB data s l) := fun s l J => by simp [List.getElem?_append, hl1]
 have hset : ∀ b b' J, (H.set id b ++ J).set id b' = H.set id b' ++ J := fun b b' J => by rw [List.set_append_left _ _ (by simpa using hl1), List.set_set]
 have hset0 : ∀ b' J, (H ++ J).set id b' = H.set id b' ++ J := fun b' J => List.set_append_left _ _ hl1
 have hdl : ∀ i, i ≤ vks.length → (wrL data (vks.drop i) (ts.drop i) (i == 0)).length ≤ (wrL data vks ts true).length := by
  intro i
  induction i with
  | zero => intro _; simp
  | succ i ih =>
   intro h
   have := ih (by omega)
   rw [List.drop_eq_getElem_cons (by omega : i < vks.length), List.drop_eq_getElem_cons (by omega : i < ts.length)] at this
   simp only [wrL, List.length_append] at this
   have e : (i + 1 == 0) = false := by simp
   rw [e]
   omega
 have hV : ∀ (i : Nat) (hi : i < vks.length) (J : Heap) (K' : Kt), K' (.agg (vks[i]).cs) (H.set id (vrB data (wrL data (vks.drop (i + 1)) (ts.drop (i + 1)) false ++ ([93] ++ tail)) (left - VT.nodesL (vks.take (i + 1)))) ++ J) →
   ACalls Tryz.prog n_zq71 [.ptr id 0, .agg t.cs] (H.set id (vrB data (wrV data vks[i] t ++ (wrL data (vks.drop (i + 1)) (ts.drop (i + 1)) false ++ ([93] ++ tail))) (left - VT.nodesL (vks.take i))) ++ J) K' := by
  intro i hi J K' hK'
  have hn1 := VT.nodesL_take hi
  have hn2 := VT.nodesL_take_le vks (i + 1)
  have hd := hdl i (by omega)
  rw [List.drop_eq_getElem_cons hi, List.drop_eq_getElem_cons (by omega : i < ts.length)] at hd
  simp only [wrL, List.length_append, hti] at hd
  refine hel _ (List.getElem_mem hi) t ht (hasA_at hA _ (List.getElem_mem hi)) _ id _ _ (hX _ _ _) (by simp; omega) (by omega) (by omega) ?_ _ ?_
  ·intro b hb
   cases hvd : vks.drop (i + 1) with
   | nil => rw [hvd] at hb; simp [wrL] at hb; subst hb; decide
   | cons v vs' =>
    cases htd : ts.drop (i + 1) with
    | nil => rw [hvd, htd] at hb; simp [wrL] at hb; subst hb; decide
    | cons t ts' => rw [hvd, htd] at hb; simp [wrL] at hb; subst hb; decide
  ·rw [hset]
   have hle : left - (VT.nodesL (vks.take i) : Int) - ((vks[i]).nodes : Int) = left - (VT.nodesL (vks.take (i + 1)) : Int) := by omega
   rw [hle]
   exact hK'
 have hc3 : ∀ v : VT, v.cs.length = 3 := fun v => by cases v; rfl
 have hcl : ∀ i, i ≤ vks.length → (VT.css (vks.take i)).length = i := fun i h => by rw [VT.css_map]; simp; omega
 have hscA : ∀ s l i, HSc (H.set id (vrB data s l) ++ [.cells [x, y, z], .cells [.int .i64 0, .int .i64 0, .snil], .cells [.int .i64 6, .int .i64 0, .sl (VT.css (vks.take i)) (.own (H.length + 3))], .perm e_api_Value 3 i]) := fun s l i => (hs.set (vrB_sc _ _ _ _)).append (by
  have := vt3' t
  obtain ⟨k, n, ks⟩ := t
  simp [VT.cs] at hvx
  obtain ⟨rfl, rfl, rfl⟩ := hvx
  simp [AB.sc, AV.scA, AV.scB])
 simp [zq131, hvx, aBuild, fillA, AV.known, Nat.add_assoc]
 refine ACalls.ownC (id := H.length + 2) (j := 2) (cs := [.int .i64 6, .int .i64 0, .snil]) e_api_Value 3 (by simp [List.set_append, List.getElem?_append]) rfl ?_
 simp [List.set_append]
 refine expect_yes (data := data) (left := left) [91] (wrL data vks ts true ++ ([93] ++ tail)) (by simp; omega) (by simp [List.getElem?_append, hl1]; have := (List.getElem?_eq_some_iff.1 hid).2; simpa using this) _ ?_
 simp only [hset0]
 by_cases hz0 : vks.length = 0
 ·obtain rfl : vks = [] := List.eq_nil_of_length_eq_zero hz0
  simp [wrL]
  refine accept_yes (data := data) (left := left) [93] tail (by simp; omega) (hX _ _ _) _ ?_
  simp [hset, AV.known, List.getElem?_append, List.set_append]
  simp [VT.nodesL] at hK
  exact Out.at (H2 := H.set id (vrB data tail left)) (b := .agg [.int .i64 6, .int .i64 0, .sl (VT.css []) .none]) rfl (by simp) (hs.set (vrB_sc _ _ _ _)) (.agg ⟨.refl _, .refl _, .sl _ _, trivial⟩) rfl (by simp [AV.scV, AV.scA, AV.scB]) (by simpa [VT.cs] using hK)
 ·have h0 : 0 < vks.length := by omega
  have hw : wrL data vks ts true = wrV data vks[0] t ++ wrL data (vks.drop 1) (ts.drop 1) false := by
   have := hti 0 (by omega)
   conv => lhs; rw [← List.drop_zero (l := vks), ← List.drop_zero (l := ts), List.drop_eq_getElem_cons h0, List.drop_eq_getElem_cons (by omega : 0 < ts.length)]
   simp [wrL, this]
  rw [hw, List.append_assoc]
  have hll : (wrV data vks[0] t ++ (wrL data (vks.drop 1) (ts.drop 1) false ++ ([93] ++ tail))).length ≤ 1000000000 := by
   rw [hw] at hb; simp at hb ⊢; omega
  refine accept_no (data := data) (left := left) [93] _ hll (by simp) ?_ (hX _ _ _) _ ?_
  ·rintro ⟨r, hr⟩
   exact h93 _ (List.getElem_mem h0) _ 93 (by rw [← hr]; rfl) rfl
  have hst : ∀ (i : Nat) (hi : i < vks.length) (C : Heap → Prop), C (H.set id (vrB data (wrL data (vks.drop (i + 1)) (ts.drop (i + 1)) false ++ ([93] ++ tail)) (left - VT.nodesL (vks.take (i + 1)))) ++ [.cells [x, y, z], .cells [.int .i64 0, .int .i64 0, .snil], .cells [.int .i64 6, .int .i64 0, .sl (VT.css (vks.take (i + 1))) (.own (H.length + 3))], .perm e_api_Value 3 (i + 1)]) →
    (ACalls Tryz.prog n_zq71 [.ptr id 0, .agg [x, y, z]] (H.set id (vrB data (wrV data vks[i] t ++ (wrL data (vks.drop (i + 1)) (ts.drop (i + 1)) false ++ ([93] ++ tail))) (left - VT.nodesL (vks.take i))) ++ [.cells [x, y, z], .cells [.int .i64 0, .int .i64 0, .snil], .cells [.int .i64 6, .int .i64 0, .sl (VT.css (vks.take i)) (.own (H.length + 3))], .perm e_api_Value 3 i]) fun t16 H_1 =>
     aBuildS 3 [.int .i64 0, .int .i64 0, .snil] 1 [(0, t16)] fun t17 => aAppend e_api_Value 3 40 (.sl (VT.css (vks.take i)) (.own (H.length + 3))) t17 H_1 fun t18 H_2 => aStoreB 1 2 (H.length + 2) t18.cs? H_2[H.length + 2]? H_2 C) ∧
    (ACalls Tryz.prog n_zq71 [.ptr id 0, .agg [x, y, z]] (H.set id (vrB data (wrV data vks[i] t ++ (wrL data (vks.drop (i + 1)) (ts.drop (i + 1)) false ++ ([93] ++ tail))) (left - VT.nodesL (vks.take i))) ++ [.cells [x, y, z], .cells [.int .i64 0, .int .i64 0, .snil], .cells [.int .i64 6, .int .i64 0, .sl (VT.css (vks.take i)) (.own (H.length + 3))], .perm e_api_Value 3 i]) fun t16 H_1 =>
     (aLoadB false 1 2 H_1[H.length + 2]? fun t13 => aBuildS 3 [.int .i64 0, .int .i64 0, .snil] 1 [(0, t16)] fun t17 => aAppend e_api_Value 3 40 t13 t17 H_1 fun t18 H_2 => aStoreB 1 2 (H.length + 2) t18.cs? H_2[H.length + 2]? H_2 C) ∧
     aBuildS 3 [.int .i64 0, .int .i64 0, .snil] 1 [(0, t16)] fun t17 => aLoadB false 1 2 H_1[H.length + 2]? fun t13 => aAppend e_api_Value 3 40 t13 t17 H_1 fun t18 H_2 => aStoreB 1 2 (H.length + 2) t18.cs? H_2[H.length + 2]? H_2 C) := by
   intro i hi C hC
   have hci := hcl i (by omega)
   rw [css_take_succ hi] at hC
   rw [← hvx] at hC ⊢
   have hgo : ((i + 1) * 40 ≤ 140737488355328 ∧ i ≤ 9223372036854775806) := ⟨by omega, by omega⟩
   refine ⟨hV i hi _ _ ?_, hV i hi _ _ ⟨?_, ?_⟩⟩
   ·rw [buildS_vt]
    simp [aAppend, aSrc, aAppTo, hci, hc3, List.set_append, List.getElem?_append, show ¬ H.length + 3 < H.length by omega, show ¬ H.length + 2 < H.length by omega]
    exact ⟨hgo, by simpa using hC⟩
   ·simp [List.getElem?_append]
    rw [buildS_vt]
    simp [aAppend, aSrc, aAppTo, hci, hc3, List.set_append, List.getElem?_append, show ¬ H.length + 3 < H.length by omega, show ¬ H.length + 2 < H.length by omega]
    exact ⟨hgo, by simpa using hC⟩
   ·rw [buildS_vt]
    simp [aAppend, aSrc, aAppTo, hci, hc3, List.set_append, List.getElem?_append, show ¬ H.length + 3 < H.length by omega, show ¬ H.length + 2 < H.length by omega]
    exact ⟨hgo, by simpa using hC⟩
  have hloop : zq131_l6 (.ptr id 0) (.ptr H.length 0) (.ptr (H.length + 1) 0) (.ptr (H.length + 2) 0) (H.set id (vrB data (wrL data (vks.drop 1) (ts.drop 1) false ++ ([93] ++ tail)) (left - VT.nodesL (vks.take 1))) ++ [.cells [x, y, z], .cells [.int .i64 0, .int .i64 0, .snil], .cells [.int .i64 6, .int .i64 0, .sl (VT.css (vks.take 1)) (.own (H.length + 3))], .perm e_api_Value 3 1]) (Out H.length K) := by
   refine zq131_loop6 (Inv := fun q H' => ∃ (i : Nat), 1 ≤ i ∧ i ≤ vks.length ∧ q = vks.length - i ∧
    H' = H.set id (vrB data (wrL data (vks.drop i) (ts.drop i) false ++ ([93] ++ tail)) (left - VT.nodesL (vks.take i))) ++ [.cells [x, y, z], .cells [.int .i64 0, .int .i64 0, .snil], .cells [.int .i64 6, .int .i64 0, .sl (VT.css (vks.take i)) (.own (H.length + 3))], .perm e_api_Value 3 i]) (vks.length - 1) ?_ ?_
   ·intro _; exact ⟨1, by omega, by omega, rfl, rfl⟩
   ·rintro q H' ⟨i, hi1, hi, rfl, rfl⟩ hsc' hlen hsF Kb hKb
    have hd := hdl i hi
    have e0 : (i == 0) = false := by simp; omega
    rw [e0] at hd
    by_cases hlti : i < vks.length
    ·rw [List.drop_eq_getElem_cons hlti, List.drop_eq_getElem_cons (by omega : i < ts.length)] at hd ⊢
     simp only [wrL, hti, Bool.false_eq_true, if_false, List.append_assoc, List.length_append] at hd ⊢
     simp only [zq131_b6]
     refine accept_yes (data := data) (left := left - VT.nodesL (vks.take i)) [44, 32] (wrV data vks[i] t ++ (wrL data (vks.drop (i + 1)) (ts.drop (i + 1)) false ++ ([93] ++ tail))) (by simp at hd ⊢; omega) (hX _ _ _) _ ?_
     rw [hset]
     have h1 := hst i hlti (fun X => zq131_j2 (.ptr id 0) (.ptr H.length 0) (.ptr (H.length + 1) 0) (.ptr (H.length + 2) 0) X (Out H.length K) Kb) (by
      simp only [zq131_j2]
      refine hKb _ _ ⟨vks.length - (i + 1), by omega, Back.here (by simp) (hscA _ _ _) ?_ ⟨rfl, i + 1, by omega, by omega, rfl, rfl⟩⟩
      simp [zq131_fr6, AV.sc, AV.scV, AV.scA, AV.scB]
      try omega)
     simp [hX, List.getElem?_append, List.set_append]
     simpa using h1
    ·obtain rfl : i = vks.length := by omega
     have e1 : vks.drop vks.length = [] := List.drop_length
     have e2 : vks.take vks.length = vks := List.take_length
     rw [e1, e2]
     simp only [wrL, List.nil_append, zq131_b6]
     refine accept_no (data := data) (left := left - VT.nodesL vks) [44, 32] _ (by simp; omega) (by simp) ?_ (hX _ _ _) _ ?_
     ·rintro ⟨r, hr⟩
      have := congrArg List.head? hr
      simp at this
     simp
     refine expect_yes (data := data) (left := left - VT.nodesL vks) [93] tail (by simp; omega) (hX _ _ _) _ ?_
     rw [hset]
     simp [AV.known, List.getElem?_append, List.set_append]
     exact Out.at (H2 := H.set id (vrB data tail (left - VT.nodesL vks))) (b := .agg [.int .i64 6, .int .i64 0, .sl (VT.css vks) .none]) rfl (by simp) (hs.set (vrB_sc _ _ _ _)) (.agg ⟨.refl _, .refl _, .sl _ _, trivial⟩) rfl (by simp [AV.scV, AV.scA, AV.scB]) (by simpa [VT.cs] using hK)
  have h1 := hst 0 h0 (fun X => zq131_j1 (.ptr id 0) (.ptr H.length 0) (.ptr (H.length + 1) 0) (.ptr (H.length + 2) 0) X (Out H.length K)) hloop
  simp [hX, List.getElem?_append, List.set_append]
  simpa [VT.css, VT.nodesL] using h1
theorem wrV_93 {data : List Dat} (hD : dataOk data = true) {v t : VT} (ht : tyOk data 0 t = true) (hh : hasV data v t = true) : ∀ s b, (wrV data v t ++ s).head? = some b → b ≠ 93 := by
 obtain ⟨vk, vn, vks⟩ := v
 obtain ⟨k, n, ks⟩ := t
 intro s b hb
 rw [wrV_mk] at hb
 rw [hasV] at hh
 rcases ty_kinds ht with ⟨rfl, rfl⟩ | ⟨rfl, rfl⟩ | ⟨rfl, rfl⟩ | rfl | ⟨rfl, hk⟩ | ⟨rfl, hk⟩ | ⟨rfl, hk⟩ | ⟨rfl, hk⟩
 ·simp at hh hb
  unfold Lib.itoa at hb
  split at hb
  ·simp at hb; subst hb; decide
  ·obtain ⟨k1, k2, k3⟩ := decDigits_spec _ vn.toNat (Nat.le_refl _) (by omega)
   obtain ⟨c, r, hcr⟩ := List.exists_cons_of_ne_nil k1
   have := k2 c (by rw [hcr]; simp)
   rw [hcr] at hb
   simp at hb
   subst hb
   rintro rfl
   revert this; decide
 ·simp at hb
  split at hb <;> (simp at hb; subst hb; decide)
 ·simp at hb; subst hb; decide
 ·simp at hh hb
  cases hf : fields data (.mk 5 n ks) vn with
  | none => rw [hf, hasL?_none] at hh; exact absurd hh.2 (by simp)
  | some ts =>
   obtain ⟨_, n0, c0, hn1, hc1, _⟩ := fields_some hf
   have hcn := con_name hD hn1 hc1
   have hnm : conName data (.mk 5 n ks) vn = ((data[n.toNat]).cons[vn.toNat]).name := by simp [conName, VT.num, hn1, hc1]
   rw [hnm] at hb
   obtain ⟨c, r, hcr⟩ := List.exists_cons_of_ne_nil hcn.1
   have := hcn.2 c (by rw [hcr]; simp)
   rw [hcr] at hb
   simp at hb
   subst hb
   rintro rfl
   revert this; decide
 ·simp at hb; subst hb; decide
 ·simp at hb; subst hb; decide
 ·simp at hb; subst hb; decide
 ·simp at hb; subst hb; decide
theorem value_value_spec {data : List Dat} (hk : KData data) (hD : dataOk data = true) : ∀ (m : Nat) (v : VT), v.nodes ≤ m → v.nodes ≤ 10000 → RdW data v := by
 intro m
 induction m with
 | zero => intro v h; have := v.nodes_pos; omega
 | succ m ih =>
  intro v hm hbn t ht hh H id tail left hid hb hlo hhi hst K hK
  obtain ⟨vk, vn, vks⟩ := v
  obtain ⟨k, n, ks⟩ := t
  refine ACalls.out (zq71_ok fun hs => ?_)
  have hl1 := lt_get hid
  rw [wrV_mk] at hid hb
  have hll := VT.len_le vks
  have hnn : (VT.mk vk vn vks).nodes = VT.nodesL vks + 1 := by simp [VT.nodes]
  have hkids : ∀ x ∈ vks, RdW data x := fun x hx => ih x (by have := kids_lt (k := vk) (n := vn) x hx; omega) (by have := kids_le (k := vk) (n := vn) x hx; omega)
  have htk := tyValid_kids ht
  have hto : tyOk data 0 (.mk k n ks) = true := by rw [tyValid, Bool.and_eq_true] at ht; exact ht.2
  have hh0 := hh
  rw [hasV] at hh
  have hX : ∀ s l (J : Heap), (H.set id (vrB data s l) ++ J)[id]? = some (vrB data s l) := fun s l J => by simp [List.getElem?_append, hl1]
  have hset : ∀ b b' J, (H.set id b ++ J).set id b' = H.set id b' ++ J := fun b b' J => by rw [List.set_append_left _ _ (by simpa using hl1), List.set_set]
  have hset0 : ∀ b' J, (H ++ J).set id b' = H.set id b' ++ J := fun b' J => List.set_append_left _ _ hl1
  have hw : IntKind.i64.wrap (left - 1) = left - 1 := wrap_in (by omega) (by omega)
  have hneg : ¬ left - 1 < 0 := by omega
  generalize htx : (if k = 1 then Lib.itoa vn
   else if k = 2 then (if vn = 1 then [116, 114, 117, 101] else [102, 97, 108, 115, 101])
   else if k = 3 then [40, 41]
   else if k = 6 then [40] ++ wrL data vks ks true ++ [41]
   else if k = 5 then conName data (.mk k n ks) vn ++ (if vks.length = 0 then [] else match fields data (.mk k n ks) vn with
    | some ts => [40] ++ wrL data vks ts true ++ [41]
    | none => [])
   else if k = 7 then [91] ++ wrL data vks (List.replicate vks.length (ks.getD 0 (.mk 0 0 []))) true ++ [93]
   else if k = 8 then [114, 101, 102, 40] ++ wrL data vks ks true ++ [41]
   else [102, 110, 35] ++ Lib.itoa vn : List UInt8) = tx at *
  have h0 : ∀ J : Heap, (H ++ J)[id]? = some (.cells [.sl (data.map Dat.cs) .none, .str (tx ++ tail), .int .i64 left, .bool false]) := fun J => by rw [List.getElem?_append_left hl1]; exact hid
  have hidE : H[id]'hl1 = .cells [.sl (data.map Dat.cs) .none, .str (tx ++ tail), .int .i64 left, .bool false] := (List.getElem?_eq_some_iff.1 hid).2
  have hX' : ∀ s l (J : Heap), (H.set id (.cells [.sl (data.map Dat.cs) .none, .str s, .int .i64 l, .bool false]) ++ J)[id]? = some (.cells [.sl (data.map Dat.cs) .none, .str s, .int .i64 l, .bool false]) := hX
  have hO : ∀ (cs : List AV) (J : Heap), WkV (.agg cs) (.agg (VT.mk vk vn vks).cs) → Out H.length K (.agg cs) (H.set id (vrB data tail (left - 1 - VT.nodesL vks)) ++ J) := fun cs J hw => by
   have e : left - ((VT.mk vk vn vks).nodes : Int) = left - 1 - VT.nodesL vks := by rw [hnn]; omega
   rw [e] at hK
   exact Out.at rfl (by simp) (hs.set (vrB_sc _ _ _ _)) hw rfl (by simp [VT.cs, AV.scV, AV.scA, AV.scB]) hK
  simp [zq71, VT.cs, h0, hidE, List.set_append, hset0, hX', hw, hneg, AV.known, Nat.add_assoc, List.getElem?_append, hl1, show id < H.length + 1 by omega]
  rcases ty_kinds hto with ⟨rfl, rfl⟩ | ⟨rfl, rfl⟩ | ⟨rfl, rfl⟩ | rfl | ⟨rfl, hk1⟩ | ⟨rfl, hk1⟩ | ⟨rfl, hk1⟩ | ⟨rfl, hk1⟩
  ·simp at hh htx
   obtain ⟨⟨⟨rfl, g1⟩, g2⟩, rfl⟩ := hh
   subst htx
   simp
   refine number_spec (data := data) (left := left - 1) vn g1 g2 tail hst hb (hX _ _ _) _ ?_
   simp [aBuild, fillA, AV.known, hset, List.getElem?_append, List.set_append, hl1]
   have := hO [.int .i64 3, .int .i64 vn, .snil] [.cells [.int .i64 1, .int .i64 n, .sl (VT.css []) .none], .cells [.int .i64 3, .int .i64 vn, .snil]] (.agg ⟨.refl _, .refl _, .snil, trivial⟩)
   simpa [VT.nodesL] using this
  ·simp at hh htx
   obtain ⟨⟨rfl, g1⟩, rfl⟩ := hh
   simp
   rcases g1 with rfl | rfl
   ·simp at htx
    subst htx
    refine accept_no (data := data) (left := left - 1) [116, 114, 117, 101] _ hb (by simp) (by rintro ⟨r, hr⟩; have := congrArg List.head? hr; simp at this) (hX _ _ _) _ ?_
    simp
    refine expect_yes (data := data) (left := left - 1) [102, 97, 108, 115, 101] tail hb (hX _ _ _) _ ?_
    simp [aBuild, fillA, AV.known, hset, List.getElem?_append, List.set_append, hl1]
    have := hO [.int .i64 2, .int .i64 0, .snil] [.cells [.int .i64 2, .int .i64 n, .sl (VT.css []) .none], .cells [.int .i64 2, .int .i64 0, .snil]] (.agg ⟨.refl _, .refl _, .snil, trivial⟩)
    simpa [VT.nodesL] using this
   ·simp at htx
    subst htx
    refine accept_yes (data := data) (left := left - 1) [116, 114, 117, 101] tail hb (hX _ _ _) _ ?_
    simp [aBuild, fillA, AV.known, hset, List.getElem?_append, List.set_append, hl1]
    have := hO [.int .i64 2, .int .i64 1, .snil] [.cells [.int .i64 2, .int .i64 n, .sl (VT.css []) .none], .cells [.int .i64 2, .int .i64 1, .snil]] (.agg ⟨.refl _, .refl _, .snil, trivial⟩)
    simpa [VT.nodesL] using this
  ·simp at hh htx
   obtain ⟨⟨rfl, rfl⟩, rfl⟩ := hh
   subst htx
   simp
   refine expect_yes (data := data) (left := left - 1) [40, 41] tail hb (hX _ _ _) _ ?_
   simp [aBuild, fillA, AV.known, hset, List.getElem?_append, List.set_append, hl1]
   have := hO [.int .i64 1, .int .i64 0, .snil] [.cells [.int .i64 3, .int .i64 n, .sl (VT.css []) .none], .cells [.int .i64 1, .int .i64 0, .snil]] (.agg ⟨.refl _, .refl _, .snil, trivial⟩)
   simpa [VT.nodesL] using this
  ·simp at hh htx
   obtain ⟨⟨⟨rfl, g1⟩, g2⟩, hL⟩ := hh
   cases hf : fields data (.mk 5 n ks) vn with
   | none => rw [hf, hasL?_none] at hL; cases hL
   | some ts =>
    rw [hf, hasL?_some] at hL
    rw [hf] at htx
    simp
    have hT' : (VT.mk 5 n ks).cs = [.int .i64 5, .int .i64 n, .sl (VT.css ks) .none] := rfl
    rw [← hT']
    refine value_cons_spec hk hD n ks ht vn vks (by omega) hkids ts hf hL _ id tail (left - 1) ?_ ?_ (by omega) (by omega) hst _ ?_
    ·have e : conName data (.mk 5 n ks) vn ++ ((if vks.length = 0 then [] else [40] ++ wrL data vks ts true ++ [41]) ++ tail) = tx ++ tail := by
      rw [← htx]; by_cases hz : vks = [] <;> simp [hz]
     rw [e]
     exact hX _ _ _
    ·have e : conName data (.mk 5 n ks) vn ++ ((if vks.length = 0 then [] else [40] ++ wrL data vks ts true ++ [41]) ++ tail) = tx ++ tail := by
      rw [← htx]; by_cases hz : vks = [] <;> simp [hz]
     rw [e]
     exact hb
    ·rw [show (AB.cells [.sl (data.map Dat.cs) .none, .str (tx ++ tail), .int .i64 (left - 1), .bool false]) = vrB data (tx ++ tail) (left - 1) from rfl, hset]
     simp [VT.cs, AV.known, List.getElem?_append, List.set_append]
     exact hO [.int .i64 5, .int .i64 vn, .sl (VT.css vks) .none] _ .rfl'
  ·simp at hh htx
   obtain ⟨⟨rfl, rfl⟩, hL⟩ := hh
   simp
   refine value_list_spec vks (by omega) hkids ks (hasL_len hL) htk (fun i h1 h2 => hasL_at hL i h1 h2) _ id tail (left - 1) ?_ ?_ (by omega) (by omega) _ ?_
   ·have e : [40] ++ wrL data vks ks true ++ [41] ++ tail = tx ++ tail := by rw [← htx]; simp
    rw [e]
    exact hX _ _ _
   ·rw [← htx] at hb; simpa using hb
   ·rw [show (AB.cells [.sl (data.map Dat.cs) .none, .str (tx ++ tail), .int .i64 (left - 1), .bool false]) = vrB data (tx ++ tail) (left - 1) from rfl, hset]
    simp [aBuild, fillA, AV.known, hset, List.getElem?_append, List.set_append, hl1]
    exact hO [.int .i64 4, .int .i64 0, .sl (VT.css vks) .none] _ .rfl'
  ·simp at hh htx
   obtain ⟨⟨⟨rfl, rfl⟩, g1⟩, hA⟩ := hh
   obtain ⟨t1, rfl⟩ : ∃ t1, ks = [t1] := by match ks, hk1 with | [t1], _ => exact ⟨t1, rfl⟩
   obtain ⟨x, y, z, hvx, hx, hy, hz⟩ := vt3' t1
   simp at hA htx
   have ht1 := htk t1 (by simp)
   have hto1 : tyOk data 0 t1 = true := by obtain ⟨a, b, c⟩ := t1; rw [tyValid, Bool.and_eq_true] at ht1; exact ht1.2
   simp [VT.css, hvx, hx, hy, hz]
   rw [← hvx]
   refine value_array_spec t1 ht1 vks (by omega) hkids hA (fun v hv => wrV_93 hD hto1 (hasA_at hA v hv)) _ id tail (left - 1) ?_ ?_ (by omega) (by omega) _ ?_
   ·have e : [91] ++ wrL data vks (List.replicate vks.length t1) true ++ [93] ++ tail = tx ++ tail := by rw [← htx]; simp
    rw [e]
    exact hX _ _ _
   ·rw [← htx] at hb; simpa using hb
   ·rw [show (AB.cells [.sl (data.map Dat.cs) .none, .str (tx ++ tail), .int .i64 (left - 1), .bool false]) = vrB data (tx ++ tail) (left - 1) from rfl, hset]
    simp [VT.cs, AV.known, List.getElem?_append, List.set_append]
    exact hO [.int .i64 6, .int .i64 0, .sl (VT.css vks) .none] _ .rfl'
  ·simp at hh htx
   obtain ⟨⟨rfl, rfl⟩, hL⟩ := hh
   simp
   have e : tx ++ tail = [114, 101, 102] ++ ([40] ++ wrL data vks ks true ++ [41] ++ tail) := by rw [← htx]; simp
   rw [e] at hb ⊢
   refine expect_yes (data := data) (left := left - 1) [114, 101, 102] _ hb (hX _ _ _) _ ?_
   rw [hset]
   simp only [List.getElem?_append, List.length_set]
   simp
   refine value_list_spec vks (by omega) hkids ks (hasL_len hL) htk (fun i h1 h2 => hasL_at hL i h1 h2) _ id tail (left - 1) ?_ ?_ (by omega) (by omega) _ ?_
   ·have := hX ([40] ++ wrL data vks ks true ++ [41] ++ tail) (left - 1) [.cells [.int .i64 8, .int .i64 n, .sl (VT.css ks) .none], .cells [.int .i64 0, .int .i64 0, .snil]]
    simpa using this
   ·simp at hb ⊢; omega
   ·simp [aBuild, fillA, AV.known, hset, List.getElem?_append, List.set_append, hl1]
    exact hO [.int .i64 7, .int .i64 0, .sl (VT.css vks) .none] _ .rfl'
  ·simp at hh htx
   obtain ⟨⟨⟨rfl, g1⟩, g2⟩, rfl⟩ := hh
   simp
   have e : tx ++ tail = [102, 110, 35] ++ (Lib.itoa vn ++ tail) := by rw [← htx]; simp
   rw [e] at hb ⊢
   refine expect_yes (data := data) (left := left - 1) [102, 110, 35] _ hb (hX _ _ _) _ ?_
   rw [hset]
   refine number_spec (data := data) (left := left - 1) vn (by omega) (by omega) tail hst (by simp at hb ⊢; omega) (hX _ _ _) _ ?_
   simp [aBuild, fillA, AV.known, hset, List.getElem?_append, List.set_append, hl1]
   have := hO [.int .i64 8, .int .i64 vn, .snil] [.cells [.int .i64 9, .int .i64 n, .sl (VT.css ks) .none], .cells [.int .i64 8, .int .i64 vn, .snil]] (.agg ⟨.refl _, .refl _, .snil, trivial⟩)
   simpa [VT.nodesL] using this
theorem zq36_back (data : List Dat) (hk : KData data) (v t : VT) (hv : v.nodes ≤ 5000) (ht : t.nodes ≤ 1000000) (hd : hasT data v t = true) (H : Heap) {k : Nat} (hf : H[k]? = some (.fact LF)) (K : Kt) (hK : K (.tup [.agg v.cs, .bool true]) H) :
  ACalls Tryz.prog n_zq36 [.sl (data.map Dat.cs) .none, .agg t.cs, .str (wrV data v t)] H K := by
 refine ACalls.out (zq36_ok fun hs => ?_)
 obtain ⟨hDk, hty, hhv⟩ := hasT_ok hk hd
 have hD := hDk.ok
 obtain ⟨x, y, z, hvx, hx, hy, hz⟩ := vt3' t
 obtain ⟨x2, y2, z2, hvx2, hx2, hy2, hz2⟩ := vt3' v
 have hfb := wrV_bound hk v t hhv
 have hfine : fineV data t = true := by simp [fineV, hD, hty]
 simp [zq36, hvx, hvx2, Nat.add_assoc]
 rw [← hvx]
 refine zq48_spec data hDk.small (by have := hk.1; omega) t ht ?_
 rw [hfine]
 simp [aBuild, fillA, AV.known, hvx, hx, hy, hz, List.getElem?_append, Nat.add_assoc]
 rw [← hvx]
 refine value_value_spec hk hD _ v (Nat.le_refl _) (by omega) t hty hhv _ (H.length + 2) [] 5000 (by simp [vrB]) (by simp; omega) (by omega) (by omega) (by intro b hb; cases hb) _ ?_
 simp [vrB, hvx2, hx2, hy2, hz2, hx, hy, hz, List.getElem?_append, List.set_append, Nat.add_assoc]
 rw [← hvx2]
 refine zq19_spec data hk v t hv ht _ (k := k) (app_get hf) _ ?_
 have hfi : fmtT data v t = wrV data v t := by simp [fmtT, hd]
 rw [hfi]
 simp [hvx2, hx2, hy2, hz2, List.getElem?_append, List.set_append, Nat.add_assoc]
 rw [← hvx2]
 have hvc : (AV.agg v.cs).scV H.length = true := by obtain ⟨n, ks⟩ := v; simp [VT.cs, AV.scV, AV.scA, AV.scB]
 refine ⟨⟨rfl, rfl⟩, ?_⟩
 exact Out.tup (bs := [.agg v.cs, .bool true]) hs hK ⟨keepV rfl hvc, keepV rfl rfl, trivial⟩
end Go.Proofs.YtfpmdpldabopjaaGreatDoor
namespace Go.Abs
open Go Go.RowKit
variable {P : Program}
def opsIn : Code → Array Oper
 | .region _ ops _ => ops
 | .seq a _ => opsIn a
 | _ => #[]
def opS : Op → Bool
 | .move _ => true
 | .fieldAddr _ _ _ => true
 | _ => false
def opT : Op → Bool
 | .move _ => true
 | .fieldAddr _ _ _ => true
 | .indexAddr _ _ _ => true
 | .load _ _ => true
 | .store _ _ _ => true
 | .buildSlice _ _ _ => true
 | .call c => (match c.callee with
  | .builtin .append => true
  | .value (.func _) => true
  | _ => false)
 | _ => false
theorem ACalls.monoZ {H : Heap} {f : FuncId} {args : List AV} {K K' : AV → Heap → Prop} (h : ACalls P f args H K) (hk : ∀ r H', K r H' → K' r H') : ACalls P f args H K' :=
 fun B w G vs hH hv => (h B w G vs hH hv).mono fun _ _ ⟨v, r, H', G', h1, h2, h3, h4, h5⟩ => ⟨v, r, H', G', h1, h2, h3, h4, hk _ _ h5⟩
theorem aop_mono {o : Oper} {F : List AV} {H : Heap} {K K' : AV → Heap → Prop} (hT : opT o.op = true) (hk : ∀ v H', K v H' → K' v H') (h : aop P o F H K) : aop P o F H K' := by
 obtain ⟨dst, op, type, pos, after, guard⟩ := o
 cases op <;> simp only [opT] at hT <;> first | exact absurd hT (by decide) | skip
 case move x => exact hk _ _ h
 case fieldAddr s x i =>
  simp only [aop, isM, aop0] at h ⊢
  split at h
  ·split at h
   ·unfold aFld at h ⊢
    split at h
    ·exact hk _ _ h
    ·exact h
   ·exact h
  ·exact h
 case indexAddr t x i =>
  simp only [aop, isM, aop0] at h ⊢
  split at h
  ·unfold aIdxA at h ⊢
   split at h
   ·exact hk _ _ h
   ·exact h
  ·exact h
 case load t a =>
  simp only [aop, isM, aop0] at h ⊢
  split at h
  ·unfold aLoad at h ⊢
   split at h
   ·unfold aCells at h ⊢
    split at h
    ·exact ⟨h.1, hk _ _ h.2⟩
    ·split at h
     ·exact hk _ _ h
     ·exact h
   ·exact h
  ·exact h
 case store t a x =>
  simp only [aop, isM, aop0] at h ⊢
  split at h
  ·unfold aStore at h ⊢
   split at h
   ·exact hk _ _ h
   ·exact h
  ·exact h
 case buildSlice t n ps =>
  simp only [aop, isM, aop0] at h ⊢
  split at h
  ·split at h
   ·unfold aBuildS at h ⊢
    split at h
    ·split at h
     ·exact hk _ _ h
     ·exact h
    ·exact h
   ·exact h
  ·exact h
 case call c =>
  obtain ⟨callee, args, ats⟩ := c
  simp only [aop, isM, aop0] at h ⊢
  cases callee with
  | invoke _ _ => exact absurd hT (by simp)
  | value f =>
   cases f with
   | func g =>
    simp only [ev, aCallV] at h ⊢
    split at h
    ·exact ACalls.monoZ h hk
    ·exact h
   | _ => exact absurd hT (by simp)
  | builtin b =>
   cases b <;> (try (simp at hT; done))
   case append =>
    simp only [aBuiltin] at h ⊢
    split at h
    ·split at h
     ·split at h
      ·unfold aAppend aSrc at h ⊢
       split at h
       ·refine ⟨h.1, ?_⟩
        have h2 := h.2
        clear h
        unfold aAppTo at h2 ⊢
        split at h2
        ·exact ⟨h2.1, hk _ _ h2.2⟩
        ·exact ⟨h2.1, h2.2.1, hk _ _ h2.2.2⟩
        ·split at h2
         ·exact ⟨h2.1, hk _ _ h2.2⟩
         ·exact h2
        ·exact ⟨h2.1, hk _ _ h2.2⟩
        ·exact h2
       ·refine ⟨h.1, ?_⟩
        have h2 := h.2
        clear h
        unfold aAppTo at h2 ⊢
        split at h2
        ·exact ⟨h2.1, hk _ _ h2.2⟩
        ·exact ⟨h2.1, h2.2.1, hk _ _ h2.2.2⟩
        ·split at h2
         ·exact ⟨h2.1, hk _ _ h2.2⟩
         ·exact h2
        ·exact ⟨h2.1, hk _ _ h2.2⟩
        ·exact h2
       ·exact h
      ·exact h
     ·exact h
    ·exact h
theorem sil {o : Oper} {F : List AV} {H : Heap} {K : AV → Heap → Prop} (hS : opS o.op = true) (h : aop P o F H K) :
  ∃ v, K v H ∧ ∀ (F' : List AV) (H' : Heap) (K' : AV → Heap → Prop), (∀ x ∈ o.op.operands, ev F x = ev F' x) → K' v H' → aop P o F' H' K' := by
 have hc := fun (F' : List AV) (H' : Heap) (K' : AV → Heap → Prop) (hx : ∀ x ∈ o.op.operands, ev F x = ev F' x) => (aop_congr (P := P) (H := H') (K := K') hx)
 obtain ⟨dst, op, type, pos, after, guard⟩ := o
 cases op <;> simp only [opS] at hS <;> first | exact absurd hS (by decide) | skip
 case move x =>
  refine ⟨ev F x, h, fun F' H' K' hx hk => ?_⟩
  rw [← hc F' H' K' hx]
  exact hk
 case fieldAddr s x i =>
  simp only [aop, isM, aop0] at h
  split at h
  ·rename_i f hf
   split at h
   ·rename_i n hn
    unfold aFld at h
    split at h
    ·rename_i v hv
     refine ⟨v, h, fun F' H' K' hx hk => ?_⟩
     rw [← hc F' H' K' hx]
     simp only [aop, isM, aop0, hf, hn, aFld, hv]
     exact hk
    ·exact h.elim
   ·exact h.elim
  ·exact h.elim
def silent (ops : Array Oper) (i : Nat) : Bool := match ops[i]? with
 | some o => opS o.op
 | none => false
def runS (P : Program) (ops : Array Oper) (K : List AV → Heap → Prop) : Nat → Array Bool → List AV → Heap → Prop
 | 0, listed, F, H => (match Region.ready .any ops listed with
  | [] => K F H
  | _ => False)
 | n + 1, listed, F, H => (match Region.ready .any ops listed with
  | [] => K F H
  | i :: is => (match (i :: is).find? (silent ops) with
   | some j => (match ops[j]? with
    | some o => aop P o F H fun v H' => runS P ops K n (listed.setIfInBounds j true) (putF F o.dst v) H'
    | none => False)
   | none => andAll (i :: is) fun i => (match ops[i]? with
    | some o => aop P o F H fun v H' => runS P ops K n (listed.setIfInBounds i true) (putF F o.dst v) H'
    | none => False)))
theorem andAll_of {α : Type} {p : α → Prop} : ∀ {l : List α}, (∀ i ∈ l, p i) → andAll l p
 | [], _ => trivial
 | [i], h => h i (by simp)
 | i :: j :: l, h => ⟨h i (by simp), andAll_of fun k hk => h k (by simp [List.mem_cons.1 hk])⟩
theorem ready_next {ops : Array Oper} {listed : Array Bool} {i j : Nat} (hj : j ∈ Region.ready .any ops listed) (hne : j ≠ i) : j ∈ Region.ready .any ops (listed.setIfInBounds i true) := by
 obtain ⟨h1, o, ho, he⟩ := mem_ready.1 hj
 refine mem_ready.2 ⟨?_, o, ho, fun e hem hb => ?_⟩
 ·have : (listed.setIfInBounds i true)[j]? = listed[j]? := by rw [Array.getElem?_setIfInBounds]; rw [if_neg (fun h => hne h.symm)]
  rw [Array.getD_eq_getD_getElem?] at h1 ⊢
  rw [this]
  exact h1
 ·have h2 := he e hem hb
  rw [Array.getD_eq_getD_getElem?] at h2 ⊢
  rw [Array.getElem?_setIfInBounds]
  split
  ·rename_i h
   have hl : e.on < listed.size := by
    by_cases hl : e.on < listed.size
    ·exact hl
    ·rw [Array.getElem?_eq_none (by omega)] at h2
     cases h2
   subst h
   simp [hl]
  ·exact h2
theorem not_ready {ops : Array Oper} {listed : Array Bool} {i j : Nat} {o : Oper} (hi : i ∈ Region.ready .any ops listed) (hj : j ∈ Region.ready .any ops listed) (ho : ops[i]? = some o) : ¬ ∃ e ∈ o.after, Region.binds .any e = true ∧ e.on = j := by
 rintro ⟨e, he, hb, rfl⟩
 obtain ⟨_, o', ho', h1⟩ := mem_ready.1 hi
 obtain ⟨h2, _⟩ := mem_ready.1 hj
 rw [ho] at ho'
 obtain rfl := Option.some.inj ho'
 have h3 := h1 e he hb
 rw [Array.getD_eq_getD_getElem?] at h2 h3
 cases hx : listed[e.on]? with
 | none => rw [hx] at h3; cases h3
 | some b => rw [hx] at h2 h3; simp at h2 h3; rw [h2] at h3; cases h3
theorem ev_put {ops : Array Oper} {listed : Array Bool} {i j : Nat} {oi oj : Oper} (hO : Ord ops) (hi : i ∈ Region.ready .any ops listed) (hj : j ∈ Region.ready .any ops listed) (hne : i ≠ j) (hoi : ops[i]? = some oi) (hoj : ops[j]? = some oj) (F : List AV) (v : AV) :
  ∀ x ∈ oi.op.operands, ev F x = ev (putF F oj.dst v) x := by
 intro x hx
 cases x with
 | tmp t =>
  cases hd : oj.dst with
  | none => rfl
  | some d =>
   by_cases htd : t = d
   ·exfalso
    subst htd
    have hr : t ∈ opReads ops oi := by
     simp only [opReads, List.mem_append, List.mem_filterMap]
     exact .inl ⟨.tmp t, by simpa using hx, rfl⟩
    by_cases hlt : j < i
    ·exact not_ready hi hj hoi (hO.before i j oi oj t hoi hoj hlt hd hr)
    ·exact not_ready hj hi hoj (hO.behind i j oi oj t hoi hoj (by omega) hd hr)
   ·simp only [ev, putF, List.getD_eq_getElem?_getD, List.getElem?_set]
    rw [if_neg (fun h => htd h.symm)]
 | _ => rfl
theorem put_comm {ops : Array Oper} {i j : Nat} {oi oj : Oper} (hO : Ord ops) (hne : i ≠ j) (hoi : ops[i]? = some oi) (hoj : ops[j]? = some oj) (F : List AV) (v u : AV) : putF (putF F oi.dst v) oj.dst u = putF (putF F oj.dst u) oi.dst v := by
 cases h1 : oi.dst with
 | none => rfl
 | some d =>
  cases h2 : oj.dst with
  | none => rfl
  | some e =>
   have hde : d ≠ e := fun h => hO.dst i j oi oj e hoi hoj hne h2 (by rw [h1, h])
   exact List.set_comm _ _ hde
theorem runT_first {ops : Array Oper} {K : List AV → Heap → Prop} (hO : Ord ops) (hN : ∀ (i : Nat) o, ops[i]? = some o → o.guard = none) (hT : ∀ (i : Nat) o, ops[i]? = some o → opT o.op = true) :
  ∀ (n : Nat) (listed : Array Bool) (F : List AV) (H : Heap) (i : Nat) (o : Oper), i ∈ Region.ready .any ops listed → ops[i]? = some o → opS o.op = true →
   aop P o F H (fun v H' => runT P ops K n (listed.setIfInBounds i true) (putF F o.dst v) H') → runT P ops K (n + 1) listed F H := by
 intro n
 induction n with
 | zero =>
  intro listed F H i o hi ho hS h
  obtain ⟨v, hv, _⟩ := sil hS h
  have key : ∀ j ∈ Region.ready .any ops listed, j = i := fun j hj => by
   by_cases hne : j = i
   ·exact hne
   ·exfalso
    have hr := ready_next hj hne
    unfold runT at hv
    split at hv
    ·rename_i hnil; rw [hnil] at hr; cases hr
    ·exact hv
  unfold runT
  split
  ·rename_i hnil; rw [hnil] at hi; cases hi
  ·rename_i i0 is hr
   refine andAll_of fun j hj => ?_
   obtain rfl := key j (by rw [hr]; exact hj)
   simp only [ho, hN _ _ ho]
   exact h
 | succ n ih =>
  intro listed F H i o hi ho hS h
  obtain ⟨v, hv, hsil⟩ := sil hS h
  unfold runT
  split
  ·rename_i hnil; rw [hnil] at hi; cases hi
  ·rename_i i0 is hr
   refine andAll_of fun j hj => ?_
   have hj : j ∈ Region.ready .any ops listed := by rw [hr]; exact hj
   by_cases hne : j = i
   ·subst hne
    simp only [ho, hN _ _ ho]
    exact h
   ·obtain ⟨_, oj, hoj, _⟩ := mem_ready.1 hj
    simp only [hoj, hN _ _ hoj]
    have hr2 := ready_next hj hne
    unfold runT at hv
    split at hv
    ·rename_i hnil; rw [hnil] at hr2; cases hr2
    ·rename_i k0 ks hk
     have h1 := andAll_mem hv j (by rw [← hk]; exact hr2)
     simp only [hoj, hN _ _ hoj] at h1
     rw [← aop_congr (ev_put hO hj hi hne hoj ho F v)] at h1
     refine aop_mono (hT _ _ hoj) (fun u H' h2 => ?_) h1
     refine ih _ _ _ i o (ready_next hi (fun h => hne h.symm)) ho hS ?_
     refine hsil _ _ _ (ev_put hO hi hj (fun h => hne h.symm) ho hoj F u) ?_
     rw [put_comm hO (fun h => hne h.symm) ho hoj F v u] at h2
     have e2 : (listed.setIfInBounds i true).setIfInBounds j true = (listed.setIfInBounds j true).setIfInBounds i true := Array.setIfInBounds_comm _ _ (fun h => hne h.symm)
     rw [e2] at h2
     exact h2
theorem runS_T {ops : Array Oper} {K : List AV → Heap → Prop} (hO : Ord ops) (hN : ∀ (i : Nat) o, ops[i]? = some o → o.guard = none) (hT : ∀ (i : Nat) o, ops[i]? = some o → opT o.op = true) :
  ∀ (n : Nat) (listed : Array Bool) (F : List AV) (H : Heap), runS P ops K n listed F H → runT P ops K n listed F H := by
 intro n
 induction n with
 | zero => intro listed F H h; exact h
 | succ n ih =>
  intro listed F H h
  unfold runS at h
  split at h
  ·rename_i hr
   unfold runT
   split
   ·exact h
   ·rename_i hr2; rw [hr] at hr2; cases hr2
  ·rename_i i0 is hr
   split at h
   ·rename_i j hj
    have hjm : j ∈ Region.ready .any ops listed := by rw [hr]; exact List.mem_of_find?_eq_some hj
    have hjs : silent ops j = true := List.find?_some hj
    split at h
    ·rename_i o ho
     unfold silent at hjs
     rw [ho] at hjs
     exact runT_first hO hN hT n listed F H j o hjm ho hjs (aop_mono (hT _ _ ho) (fun v H' h => ih _ _ _ h) h)
    ·exact h.elim
   ·unfold runT
    split
    ·rename_i hr2; rw [hr] at hr2; cases hr2
    ·rename_i k0 ks hr2
     rw [hr] at hr2
     obtain ⟨rfl, rfl⟩ := List.cons.inj hr2
     refine andAll_of fun j hj => ?_
     have h1 := andAll_mem h j hj
     split at h1
     ·rename_i o ho
      simp only [ho, hN _ _ ho]
      exact aop_mono (hT _ _ ho) (fun v H' h => ih _ _ _ h) h1
     ·exact h1.elim
def okS (ops : Array Oper) : Bool := ordOk ops && ops.toList.all fun o => o.guard.isNone && opT o.op
theorem runS_any {ops : Array Oper} {K : List AV → Heap → Prop} (h : okS ops = true) {n : Nat} {listed : Array Bool} {F : List AV} {H : Heap} (hs : runS P ops K n listed F H) : runT P ops K n listed F H := by
 unfold okS at h
 rw [Bool.and_eq_true, List.all_eq_true] at h
 have mem : ∀ (i : Nat) o, ops[i]? = some o → o ∈ ops.toList := fun i o ho => List.mem_iff_getElem?.2 ⟨i, by simpa using ho⟩
 have h2 : ∀ (i : Nat) o, ops[i]? = some o → o.guard.isNone = true ∧ opT o.op = true := fun i o ho => by
  have := h.2 o (mem i o ho)
  simpa using this
 exact runS_T (ord_of h.1) (fun i o ho => by simpa using (h2 i o ho).1) (fun i o ho => (h2 i o ho).2) n listed F H hs
end Go.Abs
