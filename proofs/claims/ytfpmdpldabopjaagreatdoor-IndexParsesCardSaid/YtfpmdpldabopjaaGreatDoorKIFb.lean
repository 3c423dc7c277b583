/- A builder that holds a text: its state, and how it goes on. -/
import Derived.Test.YtfpmdpldabopjaaGreatDoorKBa
import Derived.Test.YtfpmdpldabopjaaGreatDoorKIFa
import Derived.Test.YtfpmdpldabopjaaGreatDoorKIb
namespace Go.Proofs.YtfpmdpldabopjaaGreatDoor
open Go Go.Abs
set_option linter.unusedSimpArgs false
set_option linter.unusedVariables false
@[congr] theorem aDet_cg {m : WM} {g : Bool} {H : Heap} {p : (AV → Heap → Prop) → Prop} {k : AV → Heap → Prop} : aDet m g H p k = aDet m g H p k := rfl
theorem aDet_call {H : Heap} {p : (AV → Heap → Prop) → Prop} {k : AV → Heap → Prop} (r : AV) (H' : Heap) (h : p fun v H2 => v = r ∧ H2 = H') (hk : k r H') : aDet .w false H p k := ⟨r, H', h, (fun h => by cases h), hk⟩
@[simp] theorem aRet_nil (k : AV → Prop) : aRet [] k = k (.tup []) := by simp [aRet]
def bw (H : Heap) (id id2 : Nat) (l : List UInt8) : Heap := (H.set id2 (.perm 5 1 l.length)).set id (.bld 73 [.ptr id 0, .sl (bcs l) (.own id2)])
structure Bw (H : Heap) (id id2 : Nat) (l : List UInt8) : Prop where
  ne : id ≠ id2
  h1 : ∃ p, (p = .nilp ∨ p = .ptr id 0) ∧ H[id]? = some (.bld 73 [p, .sl (bcs l) (.own id2)])
  h2 : H[id2]? = some (.perm 5 1 l.length)
section
variable {H J : Heap} {id id2 : Nat} {l l' s : List UInt8}
theorem Bw.lt1 (h : Bw H id id2 l) : id < H.length := by obtain ⟨p, _, h⟩ := h.h1; exact (List.getElem?_eq_some_iff.1 h).1
theorem Bw.lt2 (h : Bw H id id2 l) : id2 < H.length := (List.getElem?_eq_some_iff.1 h.h2).1
@[simp] theorem bw_len : (bw H id id2 l).length = H.length := by simp [bw]
theorem bw_bw (hne : id ≠ id2) : bw (bw H id id2 l) id id2 l' = bw H id id2 l' := by
  unfold bw
  rw [List.set_comm _ _ hne, List.set_set, List.set_set]
theorem Bw.app (h : Bw H id id2 l) : Bw (H ++ J) id id2 l := by
  obtain ⟨p, hp, h1⟩ := h.h1
  exact ⟨h.ne, ⟨p, hp, by rw [List.getElem?_append_left h.lt1]; exact h1⟩, by rw [List.getElem?_append_left h.lt2]; exact h.h2⟩
theorem Bw.bw_app (h : Bw H id id2 l) : bw (H ++ J) id id2 l' = bw H id id2 l' ++ J := by
  unfold bw
  rw [List.set_append_left _ _ h.lt2, List.set_append_left _ _ (by simpa using h.lt1)]
theorem Bw.next (h : Bw H id id2 l) : Bw (bw H id id2 l') id id2 l' := by
  refine ⟨h.ne, ⟨_, .inr rfl, ?_⟩, ?_⟩
  · unfold bw; rw [List.getElem?_set_self (by simpa using h.lt1)]
  · unfold bw; rw [List.getElem?_set_ne h.ne, List.getElem?_set_self h.lt2]
theorem Bw.hsc (h : Bw H id id2 l) (hs : HSc H) : HSc (bw H id id2 l') := by
  refine HSc.set (HSc.set hs rfl) ?_
  have := h.lt1
  have := h.lt2
  simp [AB.sc, AV.scA, AV.scB]
  try omega
theorem Ws (h : Bw H id id2 l) (hn : l.length + s.length ≤ 140737488355328) {K : AV → Heap → Prop} (hK : K (.tup [.int .i64 s.length, .nili]) (bw H id id2 (l ++ s))) :
    ACalls Tryz.prog n_zq97 [.ptr id 0, .str s] H K := by
  obtain ⟨p, hp, h1⟩ := h.h1
  refine WriteString_spec hp h1 h.h2 hn ?_
  unfold bw at hK
  rwa [List.length_append] at hK
theorem Ws2 (h : Bw H id id2 l) (hn : l.length + s.length ≤ 1000000000) {K : AV → Heap → Prop} (hK : ∀ Y, Y.length = H.length → Y = bw H id id2 (l ++ s) → Bw Y id id2 (l ++ s) → K (.tup [.int .i64 s.length, .nili]) (Y ++ J)) :
    ACalls Tryz.prog n_zq97 [.ptr id 0, .str s] (H ++ J) K :=
  Ws h.app (by omega) (by rw [h.bw_app]; exact hK _ bw_len rfl h.next)
theorem Ws3 (h : Bw H id id2 l) (hn : l.length + s.length ≤ 1000000000) {K : AV → Heap → Prop} (hK : ∀ Y, Y.length = H.length → Y = bw H id id2 (l ++ s) → Bw Y id id2 (l ++ s) → K (.tup [.int .i64 s.length, .nili]) Y) :
    ACalls Tryz.prog n_zq97 [.ptr id 0, .str s] H K :=
  Ws h (by omega) (hK _ bw_len rfl h.next)
end
end Go.Proofs.YtfpmdpldabopjaaGreatDoor
namespace Go.Proofs.YtfpmdpldabopjaaGreatDoor
open Go Go.Abs
set_option linter.unusedSimpArgs false
set_option linter.unusedVariables false
set_option maxRecDepth 8000
def WrOk (data : List Dat) (v : IT) : Prop := ∀ t : VT, t.nodes ≤ 1000 → 0 ≤ rdV data v t → ∀ (H : Heap) (id id2 : Nat) (l : List UInt8), Bw H id id2 l → l.length + (fmtV data v t).length ≤ 1000000000 →
  ∀ K : Kt, K (.tup []) (bw H id id2 (l ++ fmtV data v t)) → ACalls Tryz.prog n_zq63 [.ptr id 0, .sl (data.map Dat.cs) .none, .agg t.cs, .agg v.cs] H K
theorem tupO {n : Nat} {H2 J H' : Heap} {K : Kt} (he : H' = H2 ++ J) (hn : n ≤ H2.length) (hs : HSc H2) (h : K (.tup []) H2) : Out n K (.tup []) H' := by
  subst he
  exact ⟨.tup [], H2, J, rfl, hn, hs, .tup trivial, h⟩
theorem zq109_spec {data : List Dat} (vs : List IT) (hv : vs.length ≤ 1000) (hel : ∀ v ∈ vs, WrOk data v) (ts : List VT) (hlen : ts.length = vs.length) (ht : ∀ t ∈ ts, t.nodes ≤ 1000) {a0 : Int} (hok : 0 ≤ rdA data vs ts a0)
    (H : Heap) (id id2 : Nat) (l : List UInt8) (hB : Bw H id id2 l) (hb : l.length + (fmtA data vs ts true).length ≤ 999999998) (K : Kt) (hK : K (.tup []) (bw H id id2 (l ++ ([40] ++ fmtA data vs ts true ++ [41])))) :
    ACalls Tryz.prog n_zq109 [.ptr id 0, .sl (data.map Dat.cs) .none, .sl (VT.css ts) .none, .sl (IT.css vs) .none] H K := by
  refine ACalls.out (zq109_ok fun hs => ?_)
  have hne := hB.ne
  have hO : ∀ X J, X = bw H id id2 (l ++ ([40] ++ fmtA data vs ts true ++ [41])) → Out H.length K (.tup []) (X ++ J) := fun X J h => by
    subst h; exact tupO rfl (by simp) (hB.hsc hs) hK
  simp [zq109]
  refine Ws3 hB (by simp; omega) fun Y hYl hYe hBY => ?_
  try simp
  refine zq109_loop2 (Inv := fun q t14 H' => ∃ (i : Nat) (s : List UInt8), i ≤ ts.length ∧ q = ts.length - i ∧ t14 = .int .i64 i ∧ s ++ fmtA data (vs.drop i) (ts.drop i) (i == 0) = l ++ ([40] ++ fmtA data vs ts true) ∧ H' = bw H id id2 s) ts.length ?_ ?_
  · intro _; exact ⟨0, l ++ [40], by omega, by omega, rfl, by simp, hYe⟩
  · rintro q t14 H' ⟨i, s, hi, rfl, rfl, ho, rfl⟩ hsc' hlen' hsF Kb hKb
    have hlo := congrArg List.length ho
    simp only [List.length_append, List.length_cons, List.length_nil] at hlo
    have hBX : Bw (bw H id id2 s) id id2 s := hB.next
    have hXX : ∀ s', bw (bw H id id2 s) id id2 s' = bw H id id2 s' := fun s' => bw_bw hne
    have hXl : (bw H id id2 s).length = H.length := bw_len
    generalize bw H id id2 s = X at *
    by_cases hlt : i < ts.length
    · have hltv : i < vs.length := by omega
      obtain ⟨_, hri⟩ := rdA_el hok i hltv
      rw [List.drop_eq_getElem_cons hlt, List.drop_eq_getElem_cons hltv] at ho hlo
      simp only [fmtA, List.length_append] at ho hlo
      have hti := ht _ (List.getElem_mem hlt)
      have hvi := hel _ (List.getElem_mem hltv)
      obtain ⟨x, y, z, hvx, hx, hy, hz⟩ := vt3' ts[i]
      have hnext : ∀ (s' : List UInt8) (Y : Heap), Y.length = X.length → Bw Y id id2 s' → (∀ s2, bw Y id id2 s2 = bw H id id2 s2) → s' ++ fmtV data vs[i] ts[i] ++ fmtA data (vs.drop (i + 1)) (ts.drop (i + 1)) false = l ++ ([40] ++ fmtA data vs ts true) →
          zq109_j1 (.ptr id 0) (.sl (data.map Dat.cs) .none) (.sl (IT.css vs) .none) (.int .i64 i) (.ptr Y.length 0) (.sl (VT.css ts) .none) (.int .i64 ts.length) (.int .i64 i) (Y ++ [.cells [x, y, z]]) (Out H.length K) Kb := by
        intro s' Y hYl hBY hYY hs'
        have hl' := congrArg List.length hs'
        simp only [List.length_append, List.length_cons, List.length_nil] at hl'
        simp [zq109_j1, hltv]
        refine aDet_call (.tup []) (bw H id id2 (s' ++ fmtV data vs[i] ts[i]) ++ [.cells [x, y, z]]) ?_ ?_
        · rw [← hvx]
          refine hvi ts[i] hti hri _ id id2 s' hBY.app (by omega) _ ⟨rfl, ?_⟩
          rw [hBY.bw_app, hYY]
        · try simp
          rw [wrap_in (by omega) (by omega)]
          refine hKb _ _ ⟨ts.length - (i + 1), by omega, Back.at (J := [.cells [x, y, z]]) (H2 := bw H id id2 (s' ++ fmtV data vs[i] ts[i])) rfl (by simp; omega) (hB.hsc hs) ?_ ⟨_, rfl, i + 1, s' ++ fmtV data vs[i] ts[i], by omega, rfl, by simp, by simpa using hs', rfl⟩⟩
          have := hB.lt1
          simp [zq109_fr2, AV.sc, AV.scV, AV.scA, AV.scB]
          try omega
      by_cases h0 : i = 0
      · subst h0
        simp [zq109_b2, hlt, hvx, hx, hy, hz]
        exact hnext s X rfl hBX hXX (by simpa using ho)
      · have hp : (0 : Int) < i := by omega
        have hz0 : (i == 0) = false := by simpa using h0
        rw [hz0] at ho hlo
        simp [zq109_b2, hlt, hvx, hx, hy, hz, hp, show 0 < i by omega]
        refine Ws2 hBX (by simp at hlo ⊢; omega) fun Y hYl hYe hBY => ?_
        try simp
        rw [← hYl]
        refine hnext (s ++ [44, 32]) Y hYl hBY (fun s2 => ?_) (by simpa using ho)
        rw [hYe, bw_bw hne, hXX]
    · obtain rfl : i = ts.length := by omega
      rw [List.drop_length, hlen, List.drop_length] at ho
      simp only [fmtA, List.append_nil] at ho
      simp [zq109_b2]
      refine Ws3 hBX (by simp; omega) fun Y hYl hYe hBY => ?_
      try simp
      have := hO Y [] (by rw [hYe, hXX, ho]; simp)
      simpa using this
end Go.Proofs.YtfpmdpldabopjaaGreatDoor
namespace Go.Proofs.YtfpmdpldabopjaaGreatDoor
open Go Go.Abs
set_option linter.unusedSimpArgs false
set_option linter.unusedVariables false
set_option maxRecDepth 8000
theorem zq63_easy {data : List Dat} (hk : KData data) (n : Int) (ks : List IT) (hkids : ∀ v ∈ ks, WrOk data v) (hks : ks.length ≤ 1000) (tk tn : Int) (tks : List VT) (h5 : tk ≠ 5) (ht : (VT.mk tk tn tks).nodes ≤ 1000)
    (hok : 0 ≤ rdV data (.mk n ks) (.mk tk tn tks)) (H : Heap) (id id2 : Nat) (l : List UInt8) (hB : Bw H id id2 l) (hb : l.length + (fmtV data (.mk n ks) (.mk tk tn tks)).length ≤ 1000000000) (K : Kt)
    (hK : K (.tup []) (bw H id id2 (l ++ fmtV data (.mk n ks) (.mk tk tn tks)))) :
    ACalls Tryz.prog n_zq63 [.ptr id 0, .sl (data.map Dat.cs) .none, .agg (VT.mk tk tn tks).cs, .agg (IT.mk n ks).cs] H K := by
  refine ACalls.out (zq63_ok fun hs => ?_)
  rw [fmtV_mk] at hK hb
  rw [rdV_mk] at hok
  have hO : ∀ r J, K (.tup []) (bw H id id2 (l ++ r)) → Out H.length K (.tup []) (bw H id id2 (l ++ r) ++ J) := fun r J h => tupO rfl (by simp) (hB.hsc hs) h
  by_cases h6 : tk = 6
  · subst h6
    rw [if_pos rfl] at hK hok hb
    by_cases hn : n = 0
    · subst hn
      rw [if_pos rfl] at hok
      by_cases hl : tks.length = ks.length
      · rw [if_pos hl] at hok
        simp only [List.length_append, List.length_cons, List.length_nil] at hb
        simp [zq63, VT.cs, IT.cs, Nat.add_assoc]
        have htk : ∀ t ∈ tks, t.nodes ≤ 1000 := fun t htm => by
          obtain ⟨i, hi, rfl⟩ := List.getElem_of_mem htm
          have := VT.kid_lt (k := 6) (n := tn) hi
          omega
        refine zq109_spec ks hks hkids tks hl htk hok _ id id2 l hB.app (by omega) _ ?_
        rw [hB.bw_app]
        simp [zq63_j1]
        exact hO _ _ (by simpa using hK)
      · rw [if_neg hl] at hok; omega
    · rw [if_neg hn] at hok; omega
  have h6' : (tk == 6) = false := by simp [h6]
  rw [if_neg h6] at hK hok hb
  by_cases h7 : tk = 7
  · subst h7
    rw [if_pos rfl] at hK hok hb
    by_cases g : 0 ≤ n ∧ n ≤ 6 ∧ ks.length = 0
    · obtain ⟨m, rfl⟩ : ∃ m : Nat, n = m := ⟨n.toNat, by omega⟩
      simp only [Int.toNat_natCast] at hK hb
      simp [zq63, VT.cs, IT.cs, Nat.add_assoc]
      refine Itoa_spec m (by omega) _ _ ?_
      refine Ws hB.app (by omega) ?_
      rw [hB.bw_app]
      simp [zq63_j1]
      exact hO _ _ hK
    · rw [if_neg g] at hok; omega
  have h7' : (tk == 7) = false := by simp [h7]
  have h5' : (tk == 5) = false := by simp [h5]
  rw [if_neg h7, if_neg h5] at hK hb
  simp [zq63, VT.cs, IT.cs, Nat.add_assoc, h6', h7', h5']
  refine Ws hB.app (by omega) ?_
  rw [hB.bw_app]
  simp [zq63_j1]
  exact hO _ _ hK
theorem zq63_spec {data : List Dat} (hk : KData data) : ∀ (m : Nat) (v : IT), v.nodes ≤ m → v.nodes ≤ 900 → WrOk data v := by
  intro m
  induction m with
  | zero => intro v h; have := v.nodes_pos; omega
  | succ m ih =>
    intro v hv hvb t ht hok H id id2 l hB hb K hK
    obtain ⟨n, ks⟩ := v
    obtain ⟨tk, tn, tks⟩ := t
    have hnl : IT.nodesL ks + 1 ≤ 900 := by simpa [IT.nodes] using hvb
    have hll := IT.len_le ks
    have hkids : ∀ v ∈ ks, WrOk data v := fun v hvm => by
      obtain ⟨i, hi, rfl⟩ := List.getElem_of_mem hvm
      have := IT.kid_lt (n := n) hi
      exact ih _ (by omega) (by omega)
    by_cases h5 : tk = 5
    case neg => exact zq63_easy hk n ks hkids (by omega) tk tn tks h5 ht hok H id id2 l hB hb K hK
    subst h5
    refine ACalls.out (zq63_ok fun hs => ?_)
    rw [fmtV_mk, if_neg (by decide), if_neg (by decide), if_pos rfl] at hK hb
    rw [rdV_mk, if_neg (by decide), if_neg (by decide), if_pos rfl] at hok
    by_cases hn : n = 0 ∧ ks.length ≤ 6
    case neg => rw [if_neg hn] at hok; omega
    rw [if_pos hn] at hok
    obtain ⟨rfl, hl6⟩ := hn
    have hne := hB.ne
    have hT' : (VT.mk 5 tn tks).cs = [.int .i64 5, .int .i64 tn, .sl (VT.css tks) .none] := rfl
    have hO : ∀ r J, K (.tup []) (bw H id id2 (l ++ r)) → Out H.length K (.tup []) (bw H id id2 (l ++ r) ++ J) := fun r J h => tupO rfl (by simp) (hB.hsc hs) h
    simp only [List.length_append, List.length_cons, List.length_nil] at hb
    have hl1 := hB.lt1
    simp [zq63, VT.cs, IT.cs, Nat.add_assoc]
    refine Ws2 hB (by simp; omega) fun Y hYl hYe hBY => ?_
    simp [hYl, List.getElem?_append]
    refine zq63_loop10 (Inv := fun q t39 H' => ∃ (i : Nat) (s : List UInt8), i ≤ ks.length ∧ q = ks.length - i ∧ t39 = .int .i64 i ∧ s ++ fmtE data (ks.drop i) (.mk 5 tn tks) (i == 0) = l ++ ([91] ++ fmtE data ks (.mk 5 tn tks) true) ∧
      H' = bw H id id2 s ++ [.cells [.int .i64 5, .int .i64 tn, .sl (VT.css tks) .none], .cells [.int .i64 0, .sl (IT.css ks) .none]]) ks.length ?_ ?_
    · intro _; exact ⟨0, l ++ [91], by omega, by omega, rfl, by simp, by rw [hYe]⟩
    · rintro q t39 H' ⟨i, s, hi, rfl, rfl, ho, rfl⟩ hsc' hlen hsF Kb hKb
      have hlo := congrArg List.length ho
      simp only [List.length_append, List.length_cons, List.length_nil] at hlo
      have hBX : Bw (bw H id id2 s) id id2 s := hB.next
      have hXX : ∀ s', bw (bw H id id2 s) id id2 s' = bw H id id2 s' := fun s' => bw_bw hne
      have hXl : (bw H id id2 s).length = H.length := bw_len
      generalize bw H id id2 s = X at *
      by_cases hlt : i < ks.length
      · obtain ⟨c, es, ps, hx, hp, hpl, hra⟩ := rdE_el hok i hlt
        have hkn := IT.kid_lt (n := 0) hlt
        rw [List.drop_eq_getElem_cons hlt, hx, fmtE_cons data c es _ _ _ ps hp] at ho hlo
        rw [hx] at hkn
        obtain ⟨_, n0, c0, hn1, hc1, hnm⟩ := payT_con hp
        simp only [List.length_append] at hlo
        obtain ⟨tn, rfl⟩ : ∃ x : Nat, tn = x := ⟨tn.toNat, by omega⟩
        obtain ⟨c, rfl⟩ : ∃ x : Nat, c = x := ⟨c.toNat, by omega⟩
        simp only [Int.toNat_natCast] at hn1 hc1 hnm
        have hesl := IT.len_le es
        have hen : IT.nodesL es + 1 ≤ 900 := by
          have : (IT.mk c es).nodes = IT.nodesL es + 1 := by simp [IT.nodes]
          have : (IT.mk 0 ks).nodes = IT.nodesL ks + 1 := by simp [IT.nodes]
          omega
        have hes : ∀ v ∈ es, WrOk data v := fun v hvm => by
          obtain ⟨j, hj, rfl⟩ := List.getElem_of_mem hvm
          have := IT.kid_lt (n := c) hj
          exact ih _ (by omega) (by omega)
        have e1 : (data.map Dat.cs)[tn]? = some (data[tn]).cs := by simp [hn1]
        have e2 : ((data[tn]).cons.map Con.cs)[c]? = some ((data[tn]).cons[c]).cs := by simp [hc1]
        have hback : ∀ s' J, s' ++ fmtE data (ks.drop (i + 1)) (.mk 5 tn tks) false = l ++ ([91] ++ fmtE data ks (.mk 5 tn tks) true) →
            Kb (zq63_fr10 (.ptr id 0) (.sl (data.map Dat.cs) .none) (.ptr H.length 0) (.sl (IT.css ks) .none) (.int .i64 ks.length) (.int .i64 (IntKind.i64.wrap (i + 1))))
              (bw H id id2 s' ++ ([.cells [.int .i64 5, .int .i64 tn, .sl (VT.css tks) .none], .cells [.int .i64 0, .sl (IT.css ks) .none]] ++ J)) := by
          intro s' J hs'
          rw [wrap_in (by omega) (by omega)]
          refine hKb _ _ ⟨ks.length - (i + 1), by omega, Back.at (J := J) (H2 := bw H id id2 s' ++ [.cells [.int .i64 5, .int .i64 tn, .sl (VT.css tks) .none], .cells [.int .i64 0, .sl (IT.css ks) .none]]) (by simp) (by simp; omega) ((hB.hsc hs).append (by simp [AB.sc, AV.scA, AV.scB])) ?_ ⟨_, rfl, i + 1, s', by omega, rfl, by simp, by simpa using hs', rfl⟩⟩
          simp [zq63_fr10, AV.sc, AV.scV, AV.scA, AV.scB]
          try omega
        have hnext : ∀ (s' : List UInt8) (Y : Heap), Y.length = H.length → Bw Y id id2 s' → (∀ s2, bw Y id id2 s2 = bw H id id2 s2) →
            s' ++ conName data (.mk 5 tn tks) c ++ (if es.length = 0 then [] else [40] ++ fmtA data es ps true ++ [41]) ++ fmtE data (ks.drop (i + 1)) (.mk 5 tn tks) false = l ++ ([91] ++ fmtE data ks (.mk 5 tn tks) true) →
            zq63_j2 (.ptr id 0) (.sl (data.map Dat.cs) .none) (.ptr H.length 0) (.ptr (H.length + 2) 0) (.sl (IT.css ks) .none) (.int .i64 ks.length) (.int .i64 i)
              (Y ++ [.cells [.int .i64 5, .int .i64 tn, .sl (VT.css tks) .none], .cells [.int .i64 0, .sl (IT.css ks) .none], .cells [.int .i64 c, .sl (IT.css es) .none]]) (Out H.length K) Kb := by
          intro s' Y hYl hBY hYY hs'
          have hl' := congrArg List.length hs'
          simp only [List.length_append, List.length_cons, List.length_nil] at hl'
          rw [hnm] at hs' hl'
          simp [zq63_j2, e1, e2, hn1, hc1, Dat.cs, Con.cs, Nat.add_assoc, hYl, List.getElem?_append]
          refine aDet_call (.tup [.int .i64 ((data[tn]).cons[c]).name.length, .nili]) (bw H id id2 (s' ++ ((data[tn]).cons[c]).name) ++ [.cells [.int .i64 5, .int .i64 tn, .sl (VT.css tks) .none], .cells [.int .i64 0, .sl (IT.css ks) .none], .cells [.int .i64 c, .sl (IT.css es) .none]]) ?_ ?_
          · refine Ws hBY.app (by omega) ⟨rfl, ?_⟩
            rw [hBY.bw_app, hYY]
          · have hBZ : Bw (bw H id id2 (s' ++ ((data[tn]).cons[c]).name)) id id2 (s' ++ ((data[tn]).cons[c]).name) := hB.next
            simp [Nat.add_assoc, List.getElem?_append]
            rw [← hT']
            refine zq107_spec data hk (.mk 5 tn tks) ht c _ _ ?_
            rw [hp]
            simp [fieldsR]
            by_cases hz : es.length = 0
            · have : ¬ 0 < ps.length := by omega
              rw [if_pos hz] at hs' hl'
              simp [this, zq63_j3, zq63_j4]
              have := hback (s' ++ ((data[tn]).cons[c]).name) [.cells [.int .i64 c, .sl (IT.css es) .none]] (by simpa using hs')
              simpa [hT'] using this
            · have : 0 < ps.length := by omega
              rw [if_neg hz] at hs' hl'
              simp only [List.length_append, List.length_cons, List.length_nil] at hl'
              simp [this, Nat.add_assoc, List.getElem?_append]
              have hpn : ∀ t ∈ ps, t.nodes ≤ 1000 := payT_nodes hp
              refine zq109_spec es (by omega) hes ps hpl hpn hra _ id id2 (s' ++ ((data[tn]).cons[c]).name) hBZ.app (by simp; omega) _ ?_
              rw [hBZ.bw_app, bw_bw hne]
              simp [zq63_j3, zq63_j4]
              have := hback (s' ++ (((data[tn]).cons[c]).name ++ (40 :: (fmtA data es ps true ++ [41])))) [.cells [.int .i64 c, .sl (IT.css es) .none]] (by simpa using hs')
              simpa [hT'] using this
        by_cases h0 : i = 0
        · subst h0
          simp [zq63_b10, hlt, hx, IT.cs, Nat.add_assoc, hXl, List.getElem?_append]
          exact hnext s X hXl hBX hXX (by simpa using ho)
        · have hp0 : (0 : Int) < i := by omega
          have hz : (i == 0) = false := by simpa using h0
          rw [hz] at ho hlo
          simp [zq63_b10, hlt, hx, IT.cs, Nat.add_assoc, hp0, show 0 < i by omega, hXl, List.getElem?_append]
          refine Ws2 hBX (by simp at hlo ⊢; omega) fun Y hYl hYe hBY => ?_
          try simp
          refine hnext (s ++ [44, 32]) Y (hYl.trans hXl) hBY (fun s2 => ?_) (by simpa using ho)
          rw [hYe, bw_bw hne, hXX]
      · obtain rfl : i = ks.length := by omega
        rw [List.drop_length] at ho
        simp only [fmtE, List.append_nil] at ho
        simp [zq63_b10]
        refine Ws2 hBX (by simp; omega) fun Y hYl hYe hBY => ?_
        rw [hXX] at hYe
        simp [zq63_j1]
        have := hO ([91] ++ fmtE data ks (.mk 5 tn tks) true ++ [93]) [.cells [.int .i64 5, .int .i64 tn, .sl (VT.css tks) .none], .cells [.int .i64 0, .sl (IT.css ks) .none]] hK
        rw [hYe, ho]
        simpa using this
end Go.Proofs.YtfpmdpldabopjaaGreatDoor
namespace Go.Proofs.YtfpmdpldabopjaaGreatDoor
open Go Go.Abs
set_option linter.unusedSimpArgs false
set_option linter.unusedVariables false
set_option maxRecDepth 8000
theorem small_len (n : Nat) : (small n).length ≤ 2 := by unfold small; split <;> simp
mutual
theorem fmtV_bound {data : List Dat} (hk : KData data) : ∀ (v : IT) (t : VT), (fmtV data v t).length + 44 ≤ 46 * v.nodes
  | .mk n ks, t => by
    have hA := fmtA_bound hk ks t.kids true
    have hE := fmtE_bound hk ks t true
    have hs := small_len n.toNat
    rw [fmtV, IT.nodes]
    split
    · simp only [List.length_append, List.length_cons, List.length_nil]; omega
    · split
      · omega
      · split
        · simp only [List.length_append, List.length_cons, List.length_nil]; omega
        · simp; omega
theorem fmtA_bound {data : List Dat} (hk : KData data) : ∀ (vs : List IT) (ts : List VT) (b : Bool), (fmtA data vs ts b).length ≤ 46 * IT.nodesL vs
  | [], ts, b => by simp [fmtA]
  | v :: vs, [], b => by simp [fmtA]
  | v :: vs, t :: ts, b => by
    have h1 := fmtV_bound hk v t
    have h2 := fmtA_bound hk vs ts false
    have hb : (if b then ([] : List UInt8) else [44, 32]).length ≤ 2 := by cases b <;> simp
    simp only [fmtA, IT.nodesL, List.length_append]
    omega
theorem fmtE_bound {data : List Dat} (hk : KData data) : ∀ (es : List IT) (t : VT) (b : Bool), (fmtE data es t b).length ≤ 46 * IT.nodesL es
  | [], t, b => by simp [fmtE]
  | .mk c ks :: es, t, b => by
    have h2 := fmtE_bound hk es t false
    have h3 := con_bound hk t c
    have hb : (if b then ([] : List UInt8) else [44, 32]).length ≤ 2 := by cases b <;> simp
    simp only [fmtE, IT.nodesL, IT.nodes, List.length_append]
    cases hp : payT data t c with
    | none => simp; omega
    | some ps =>
      have h1 := fmtA_bound hk ks ps true
      by_cases hz : ks.length = 0
      · simp only [hz, if_true, List.length_nil]; omega
      · simp only [hz, if_false, List.length_append, List.length_cons, List.length_nil]; omega
end
def fmtI (data : List Dat) (t : VT) (v : IT) : List UInt8 := if 0 ≤ degI data t v then fmtV data v t else []
theorem degI_pos {data : List Dat} {t : VT} {v : IT} (h : 0 ≤ degI data t v) : fineV data t = true ∧ 0 ≤ rdV data v t := by
  unfold degI at h
  cases hf : fineV data t with
  | false => rw [hf] at h; simp at h
  | true => rw [hf, if_pos rfl] at h; exact ⟨rfl, h⟩
theorem zq28_spec (data : List Dat) (hk : KData data) (t : VT) (ht : t.nodes ≤ 1000) (v : IT) (hv : v.nodes ≤ 900) (H : Heap) (K : Kt) (hK : K (.str (fmtI data t v)) H) : ACalls Tryz.prog n_zq28 [.sl (data.map Dat.cs) .none, .agg t.cs, .agg v.cs] H K := by
  refine ACalls.out (zq28_ok fun hs => ?_)
  have hO : ∀ r X J, fmtI data t v = r → X = H ++ J → Out H.length K (.str r) X := fun r X J h hX => by subst h hX; exact Out.at rfl (Nat.le_refl _) hs .rfl' rfl rfl hK
  obtain ⟨x, y, z, hvx, hx, hy, hz⟩ := vt3' t
  obtain ⟨x2, y2, hvx2, hx2, hy2⟩ := it2 v
  simp [zq28, hvx, hvx2, Nat.add_assoc]
  rw [← hvx, ← hvx2]
  refine zq23_spec data hk t ht v hv _ _ ?_
  have hfb := fmtV_bound hk v t
  by_cases hd : 0 ≤ degI data t v
  · obtain ⟨hf, hr⟩ := degI_pos hd
    simp [hd, aNewB, hvx, hvx2, Nat.add_assoc]
    rw [← hvx, ← hvx2]
    refine ACalls.ownB (id := H.length + 2) (t := 73) (p := .nilp) 5 1 (by simp) ?_
    have hset : (H ++ [AB.cells t.cs, .cells v.cs, .bld 73 [.nilp, .snil]]).set (H.length + 2) (.bld 73 [.nilp, .sl [] (.own (H ++ [AB.cells t.cs, .cells v.cs, .bld 73 [.nilp, .snil]]).length)]) ++ [.perm 5 1 0] =
        H ++ [AB.cells t.cs, .cells v.cs, .bld 73 [.nilp, .sl [] (.own (H.length + 3))], .perm 5 1 0] := by simp [List.set_append_right]
    rw [hset]
    have hB : Bw (H ++ [AB.cells t.cs, .cells v.cs, .bld 73 [.nilp, .sl [] (.own (H.length + 3))], .perm 5 1 0]) (H.length + 2) (H.length + 3) [] := ⟨by omega, ⟨.nilp, .inl rfl, by simp [bcs]⟩, by simp⟩
    refine zq63_spec hk _ v (Nat.le_refl _) hv t ht hr _ _ _ [] hB (by simp; omega) _ ?_
    have hN := hB.next (l' := [] ++ fmtV data v t)
    obtain ⟨p, hp, h1⟩ := hN.h1
    refine String_spec h1 hN.h2 ?_
    refine hO _ _ [AB.cells t.cs, .cells v.cs, .bld 73 [.ptr (H.length + 2) 0, .sl (bcs (fmtV data v t)) (.own (H.length + 3))], .dead] (by simp [fmtI, hd]) ?_
    simp [bw, List.set_append_right]
  · simp [hd]
    exact hO _ _ _ (by simp [fmtI, hd]) rfl
end Go.Proofs.YtfpmdpldabopjaaGreatDoor
