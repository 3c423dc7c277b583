import Derived.Test.YtjkkonpjecoieaaGreatKI5
import Derived.Test.YtjkkonpjecoieaaGreatKUA
import Derived.Test.YtjkkonpjecoieaaGreatIT
import Derived.Test.YtjkkonpjecoieaaGreatKY11
import Derived.Test.YtjkkonpjecoieaaGreatKN6
import Derived.Shelf.SlSortCmp.NoneTotal
set_option linter.unusedSimpArgs false
set_option linter.unusedVariables false
namespace Go.Proofs.YtjkkonpjecoieaaGreat
open Go Go.Abs
set_option maxRecDepth 8000
theorem it2 (v : IT) : ∃ a b, v.cs = [a, b] ∧ a.known = true ∧ b.known = true := by
 obtain ⟨n, ks⟩ := v; exact ⟨_, _, rfl, rfl, rfl⟩
theorem zsM {data : List Dat} (h8 : ∀ D ∈ data, D.cons.length ≤ 8) (v : IT) (t : VT) (h : (zb1 data v t).2 = true) : 0 ≤ (zb1 data v t).1 ∧ (zb1 data v t).1 ≤ 6 := by
 obtain ⟨e1, e2, e3⟩ := (zfI h8 v t).1 h
 omega
theorem zsL {data : List Dat} (h8 : ∀ D ∈ data, D.cons.length ≤ 8) : ∀ (vs : List IT) (ts : List VT) (a : Int), 0 ≤ a → 0 ≤ (zbC data vs ts a).1 ∧ (zbC data vs ts a).1 ≤ a + 6 * vs.length
 | [], ts, a, h => by simp [zbC]; omega
 | v :: vs, [], a, h => by simp [zbC]; omega
 | v :: vs, t :: ts, a, h => by
  simp only [zbC]
  split
  ·rename_i hb
   have := zsM h8 v t hb
   have := zsL h8 vs ts (a + (zb1 data v t).1) (by omega)
   simp only [List.length_cons]
   omega
  ·simp; omega
theorem zeB {x : VT} : ∀ {l : List VT} {bs : List Bool}, x ∈ pick l bs → x ∈ l
 | [], _, h => by simp [pick] at h
 | _ :: _, [], h => by simp [pick] at h
 | c :: l, b :: bs, h => by
  cases b with
  | true => simp [pick] at h; exact List.mem_cons_of_mem _ (zeB h)
  | false =>
   simp [pick] at h
   rcases h with rfl | h
   ·exact List.mem_cons_self
   ·exact List.mem_cons_of_mem _ (zeB h)
theorem ztd {data : List Dat} {t : VT} {c : Int} {ps : List VT} (h : zbn data t c = some ps) : ∀ x ∈ ps, x.nodes ≤ 1000 := by
 unfold zbn at h
 obtain ⟨k, n, ks⟩ := t
 cases hf : zaR data (.mk k n ks) c with
 | none => rw [hf] at h; cases h
 | some l =>
  rw [hf] at h
  obtain ⟨_, _, _, _, _, _, _, h2⟩ := ze3 hf
  simp at h
  subst h
  exact fun x hx => by have := h2 x (zeB hx); omega
theorem zAg (data : List Dat) (n : Int) (ks : List IT) (tk tn : Int) (tks : List VT) : zb1 data (.mk n ks) (.mk tk tn tks) =
  if tk = 6 then (if n = 0 then (if tks.length = ks.length then zbC data ks tks 0 else (0, false)) else (0, false))
  else if tk = 7 then (n, decide (0 ≤ n) && decide (n ≤ 6) && decide (ks.length = 0))
  else if tk = 5 then (if n = 0 then zck data ks (.mk tk tn tks) 0 else (0, false))
  else (0, decide (n = 0) && decide (ks.length = 0)) := by
 rw [zb1]
 rfl
def zcp (data : List Dat) (vs : List IT) (ts : List VT) : Int × Bool := if ts.length = vs.length then zbC data vs ts 0 else (0, false)
def zg9 (data : List Dat) (v : IT) : Prop := ∀ t : VT, t.nodes ≤ 1000 → ∀ (H : zaa) (K : Kt), K (.tup [.int .i64 (zb1 data v t).1, .bool (zb1 data v t).2]) H → ACalls tP zhD [.sl (data.map Dat.cs) .none, .agg t.cs, .agg v.cs] H K
theorem zcy {H : zaa} {K : Kt} {a : Int} {b : Bool} (hs : HSc H) (h : K (.tup [.int .i64 a, .bool b]) H) (J : zaa) : Out H.length K (.tup [.int .i64 a, .bool b]) (H ++ J) := Out.tup hs h ⟨zaZ rfl rfl, zaZ rfl rfl, trivial⟩
theorem zwq {data : List Dat} (h8 : ∀ D ∈ data, D.cons.length ≤ 8) (vs : List IT) (hv : vs.length ≤ 1000) (hel : ∀ v ∈ vs, zg9 data v) (ts : List VT) (ht : ∀ t ∈ ts, t.nodes ≤ 1000) (H : zaa) (K : Kt)
  (hK : K (.tup [.int .i64 (zcp data vs ts).1, .bool (zcp data vs ts).2]) H) : ACalls tP zhM [.sl (data.map Dat.cs) .none, .sl (VT.css ts) .none, .sl (IT.css vs) .none] H K := by
 refine ACalls.out (zGH fun hs => ?_)
 have h0 : ∀ b J, zcp data vs ts = (0, b) → Out H.length K (.tup [.int .i64 0, .bool b]) (H ++ J) := fun b J h => by rw [h] at hK; exact zcy hs hK J
 by_cases hl : ts.length = vs.length
 case neg =>
  have : ((ts.length : Int) != (vs.length : Int)) = true := by simp [bne]; omega
  simp [zo3, this]
  refine ⟨⟨rfl, rfl⟩, ?_⟩
  simpa using h0 false [] (by simp [zcp, hl])
 have htot : zcp data vs ts = zbC data vs ts 0 := by simp [zcp, hl]
 rw [htot] at hK h0
 simp [zo3, hl]
 refine zGF (Inv := fun q t8 t20 H' => ∃ (i : Nat) (a : Int), i ≤ vs.length ∧ q = vs.length - i ∧ t20 = .int .i64 i ∧ t8 = .int .i64 a ∧ 0 ≤ a ∧ a ≤ 6 * i ∧ zbC data (vs.drop i) (ts.drop i) a = zbC data vs ts 0 ∧ H' = H) vs.length ?_ ?_
 ·intro _; exact ⟨0, 0, by omega, by omega, rfl, rfl, by omega, by omega, by simp, rfl⟩
 ·rintro q t8 t20 H' ⟨i, a, hi, rfl, rfl, rfl, ha0, ha6, ho, rfl⟩ hsc' hlen hsF Kb hKb
  by_cases hlt : i < vs.length
  ·have hlt' : i < ts.length := by omega
   rw [List.drop_eq_getElem_cons hlt, List.drop_eq_getElem_cons hlt'] at ho
   simp only [zbC] at ho
   obtain ⟨x, y, z, hvx, hx, hy, hz⟩ := zaM ts[i]
   obtain ⟨x2, y2, hvx2, hx2, hy2⟩ := it2 vs[i]
   have hti := ht _ (List.getElem_mem hlt')
   have hvi := hel _ (List.getElem_mem hlt)
   simp [zo4, hl, hlt, hlt', hvx, hvx2, Nat.add_assoc]
   refine ⟨⟨hx, hy, hz⟩, ?_⟩
   rw [← hvx, ← hvx2]
   refine zaF (.tup [.int .i64 (zb1 data vs[i] ts[i]).1, .bool (zb1 data vs[i] ts[i]).2]) (fun J => hvi _ hti _ _ ⟨rfl, rfl⟩) ?_
   cases hb : (zb1 data vs[i] ts[i]).2 with
   | false =>
    rw [hb] at ho
    simp at ho
    simp
    exact ⟨⟨rfl, rfl⟩, h0 _ _ ho.symm⟩
   | true =>
    rw [hb] at ho
    simp at ho
    have hbd := zsM h8 _ _ hb
    simp
    rw [zas (by omega) (by omega), zas (by omega) (by omega)]
    refine hKb _ _ ⟨vs.length - (i + 1), by omega, Back.at (J := [_]) rfl (Nat.le_refl _) hs ?_ ⟨_, _, rfl, i + 1, _, by omega, rfl, by simp, rfl, by omega, by simp; omega, ho, rfl⟩⟩
    simp [zjF, AV.sc, AV.scV, AV.scA, AV.scB]
  ·obtain rfl : i = vs.length := by omega
   rw [List.drop_length] at ho
   simp only [zbC] at ho
   rw [← ho] at hK
   simp [zo4, hl]
   refine ⟨⟨rfl, rfl⟩, ?_⟩
   have := zcy hs hK []
   simpa using this
theorem zD0 {data : List Dat} (hk : za8 data) (h8 : ∀ D ∈ data, D.cons.length ≤ 8) : ∀ (m : Nat) (v : IT), v.nodes ≤ m → v.nodes ≤ 900 → zg9 data v := by
 intro m
 induction m with
 | zero => intro v h; have := v.nodes_pos; omega
 | succ m ih =>
  intro v hv hb t ht H K hK
  obtain ⟨n, ks⟩ := v
  obtain ⟨tk, tn, tks⟩ := t
  have hnl : IT.nodesL ks + 1 ≤ 900 := by simpa [IT.nodes] using hb
  have hll := IT.len_le ks
  have hkids : ∀ v ∈ ks, zg9 data v := fun v hvm => by
   obtain ⟨i, hi, rfl⟩ := List.getElem_of_mem hvm
   have := IT.kid_lt (n := n) hi
   exact ih _ (by omega) (by omega)
  refine ACalls.out (zDY fun hs => ?_)
  rw [zAg] at hK
  by_cases h6 : tk = 6
  ·subst h6
   by_cases hn : n = 0
   ·subst hn
    simp [zc0, VT.cs, IT.cs, Nat.add_assoc]
    have htk : ∀ t ∈ tks, t.nodes ≤ 1000 := fun t htm => by
     obtain ⟨i, hi, rfl⟩ := List.getElem_of_mem htm
     have := VT.kid_lt (k := 6) (n := tn) hi
     omega
    refine zwq h8 ks (by omega) hkids tks htk _ _ ?_
    simp
    refine ⟨⟨rfl, rfl⟩, ?_⟩
    exact zcy hs (by simpa [zcp] using hK) _
   ·have : (n != 0) = true := by simp [bne, hn]
    simp [zc0, VT.cs, IT.cs, Nat.add_assoc, this]
    simp [hn] at hK
    exact ⟨⟨rfl, rfl⟩, zcy hs hK _⟩
  have h6' : (tk == 6) = false := by simp [h6]
  rw [if_neg h6] at hK
  by_cases h7 : tk = 7
  ·subst h7
   simp only [if_true] at hK
   by_cases g1 : 0 ≤ n
   ·by_cases g2 : n ≤ 6
    ·by_cases g3 : ks.length = 0
     ·simp [zc0, VT.cs, IT.cs, Nat.add_assoc, g1, g2, g3]
      simp [g1, g2, g3] at hK
      exact ⟨⟨rfl, rfl⟩, zcy hs hK _⟩
     ·have g3' : ((ks.length : Int) == 0) = false := by simp; exact fun h => g3 (by simp [h])
      simp [zc0, VT.cs, IT.cs, Nat.add_assoc, g1, g2, g3, g3']
      simp [g1, g2, g3] at hK
      exact ⟨⟨rfl, rfl⟩, zcy hs hK _⟩
    ·simp [zc0, VT.cs, IT.cs, Nat.add_assoc, g1, g2]
     simp [g1, g2] at hK
     exact ⟨⟨rfl, rfl⟩, zcy hs hK _⟩
   ·simp [zc0, VT.cs, IT.cs, Nat.add_assoc, g1]
    simp [g1] at hK
    exact ⟨⟨rfl, rfl⟩, zcy hs hK _⟩
  have h7' : (tk == 7) = false := by simp [h7]
  rw [if_neg h7] at hK
  by_cases h5 : tk = 5
  case neg =>
   have h5' : (tk == 5) = false := by simp [h5]
   rw [if_neg h5] at hK
   by_cases g1 : n = 0
   ·by_cases g2 : ks.length = 0
    ·simp [zc0, VT.cs, IT.cs, Nat.add_assoc, h6', h7', h5', g1, g2, zae]
     simp [g1, g2] at hK
     exact ⟨⟨rfl, rfl⟩, zcy hs hK _⟩
    ·have g2' : ((ks.length : Int) == 0) = false := by simp; exact fun h => g2 (by simp [h])
     simp [zc0, VT.cs, IT.cs, Nat.add_assoc, h6', h7', h5', g1, g2, g2', zae]
     simp [g1, g2] at hK
     exact ⟨⟨rfl, rfl⟩, zcy hs hK _⟩
   ·have g1' : (n == 0) = false := by simp [g1]
    simp [zc0, VT.cs, IT.cs, Nat.add_assoc, h6', h7', h5', g1, g1', zae]
    simp [g1] at hK
    exact ⟨⟨rfl, rfl⟩, zcy hs hK _⟩
  subst h5
  simp only [if_true] at hK
  by_cases hn : n = 0
  case neg =>
   have : (n != 0) = true := by simp [bne, hn]
   simp [zc0, VT.cs, IT.cs, Nat.add_assoc, this]
   simp [hn] at hK
   exact ⟨⟨rfl, rfl⟩, zcy hs hK _⟩
  subst hn
  simp only [if_true] at hK
  simp [zc0, VT.cs, IT.cs, Nat.add_assoc]
  have hT : (VT.mk 5 tn tks).nodes ≤ 1000 := ht
  have hT' : (VT.mk 5 tn tks).cs = [.int .i64 5, .int .i64 tn, .sl (VT.css tks) .none] := rfl
  generalize hTg : VT.mk 5 tn tks = T at *
  have hsc2 : HSc (H ++ [.cells [.int .i64 5, .int .i64 tn, .sl (VT.css tks) .none], .cells [.int .i64 0, .sl (IT.css ks) .none]]) := hs.append (by simp [AB.sc, AV.scA, AV.scB])
  have hF : zck data ks T 0 = (0, false) → ∀ J, Out H.length K (.tup [.int .i64 0, .bool false]) (H ++ J) := fun h J => zcy hs (by rw [h] at hK; exact hK) J
  refine zDW (Inv := fun q t8 t55 H' => ∃ (i : Nat) (a : Int), i ≤ ks.length ∧ q = ks.length - i ∧ t55 = .int .i64 i ∧ t8 = .int .i64 a ∧ 0 ≤ a ∧ a ≤ 6 ∧ zck data (ks.drop i) T a = zck data ks T 0 ∧
   H' = H ++ [.cells [.int .i64 5, .int .i64 tn, .sl (VT.css tks) .none], .cells [.int .i64 0, .sl (IT.css ks) .none]]) ks.length ?_ ?_
  ·intro _; exact ⟨0, 0, by omega, by omega, rfl, rfl, by omega, by omega, by simp, rfl⟩
  ·rintro q t8 t55 H' ⟨i, a, hi, rfl, rfl, rfl, ha0, ha6, ho, rfl⟩ hsc' hlen hsF Kb hKb
   by_cases hlt : i < ks.length
   ·rw [List.drop_eq_getElem_cons hlt] at ho
    have hkn := IT.kid_lt (n := 0) hlt
    obtain ⟨c, es, hx⟩ : ∃ c es, ks[i] = IT.mk c es := by cases h : ks[i] with | mk a b => exact ⟨a, b, rfl⟩
    rw [hx] at ho hkn
    have hesl := IT.len_le es
    have hen : IT.nodesL es + 1 ≤ 900 := by
     have : (IT.mk c es).nodes = IT.nodesL es + 1 := by simp [IT.nodes]
     have : (IT.mk 0 ks).nodes = IT.nodesL ks + 1 := by simp [IT.nodes]
     omega
    have hes : ∀ v ∈ es, zg9 data v := fun v hvm => by
     obtain ⟨j, hj, rfl⟩ := List.getElem_of_mem hvm
     have := IT.kid_lt (n := c) hj
     exact ih _ (by omega) (by omega)
    simp only [zck] at ho
    simp [zok, hlt, hx, IT.cs, Nat.add_assoc]
    rw [← hT']
    refine zGP data hk T hT c _ _ ?_
    cases hp : zbn data T c with
    | none =>
     rw [hp] at ho
     simp only at ho
     simp [zbL]
     exact ⟨⟨rfl, rfl⟩, hF ho.symm _⟩
    | some ps =>
     rw [hp] at ho
     simp only at ho
     simp [zbL]
     have hpn : ∀ t ∈ ps, t.nodes ≤ 1000 := ztd hp
     refine zwq h8 es (by omega) hes ps hpn _ _ ?_
     have htb : 0 ≤ (zcp data es ps).1 ∧ (zcp data es ps).1 ≤ 6 * es.length := by
      unfold zcp
      split
      ·have := zsL h8 es ps 0 (by omega); omega
      ·simp; omega
     have ho' : (if (zcp data es ps).2 && decide (a + (1 + (zcp data es ps).1) ≤ 6) then zck data (ks.drop (i + 1)) T (a + (1 + (zcp data es ps).1)) else (0, false)) = zck data ks T 0 := by
      rw [← ho]
      unfold zcp
      by_cases hl : ps.length = es.length
      ·simp only [hl, if_true]
      ·simp only [hl, if_false]; rfl
     generalize zcp data es ps = w at *
     obtain ⟨w1, w2⟩ := w
     simp only at htb ho'
     simp
     have q1 : IntKind.i64.wrap (1 + w1) = 1 + w1 := zas (by omega) (by omega)
     have q2 : IntKind.i64.wrap (a + (1 + w1)) = a + (1 + w1) := zas (by omega) (by omega)
     rw [q1, q2]
     cases w2 with
     | false =>
      simp at ho' ⊢
      exact ⟨⟨rfl, rfl⟩, hF ho'.symm _⟩
     | true =>
      by_cases hh : a + (1 + w1) ≤ 6
      ·have hh' : ¬ (6 : Int) < a + (1 + w1) := by omega
       simp [hh] at ho'
       simp [hh']
       rw [zas (by omega) (by omega)]
       refine hKb _ _ ⟨ks.length - (i + 1), by omega, Back.at (J := [.cells [.int .i64 c, .sl (IT.css es) .none]]) (H2 := H ++ [.cells [.int .i64 5, .int .i64 tn, .sl (VT.css tks) .none], .cells [.int .i64 0, .sl (IT.css ks) .none]]) (by simp [hT']) (by simp) hsc2 ?_ ⟨_, _, rfl, i + 1, _, by omega, rfl, by simp, rfl, by omega, by omega, ho', rfl⟩⟩
       simp [zi5, AV.sc, AV.scV, AV.scA, AV.scB]
      ·have hh' : (6 : Int) < a + (1 + w1) := by omega
       simp [hh] at ho'
       simp [hh']
       exact ⟨⟨rfl, rfl⟩, hF ho'.symm _⟩
   ·obtain rfl : i = ks.length := by omega
    rw [List.drop_length] at ho
    simp only [zck] at ho
    rw [← ho] at hK
    simp [zok]
    exact ⟨⟨rfl, rfl⟩, zcy hs hK _⟩
theorem zAT (data : List Dat) (n : Int) (ks : List IT) (tk tn : Int) (tks : List VT) : rdV data (.mk n ks) (.mk tk tn tks) =
  if tk = 6 then (if n = 0 then (if tks.length = ks.length then rdA data ks tks 0 else -1) else -1)
  else if tk = 7 then (if 0 ≤ n ∧ n ≤ 6 ∧ ks.length = 0 then n else -1)
  else if tk = 5 then (if n = 0 ∧ ks.length ≤ 6 then rdE data ks (.mk tk tn tks) 0 else -1)
  else (if n = 0 ∧ ks.length = 0 then 0 else -1) := by
 rw [rdV]
 rfl
theorem zrw {m : Int × Bool} {r : Int} (h : agr m r) : -1 ≤ r ∧ r ≤ 6 := by
 obtain ⟨h1, h2⟩ := h
 cases hb : m.2 with
 | true => have := h1 hb; omega
 | false => have := h2 hb; omega
def zco (data : List Dat) (vs : List IT) (ts : List VT) : Int := if ts.length = vs.length then rdA data vs ts 0 else -1
theorem zCd {data : List Dat} (h8 : ∀ D ∈ data, D.cons.length ≤ 8) (vs : List IT) (ts : List VT) : -1 ≤ zco data vs ts ∧ zco data vs ts ≤ 6 := by
 unfold zco
 split
 ·exact zrw ((zhc h8 vs ts 0 (by omega)).1 (by omega))
 ·omega
def zg7 (data : List Dat) (v : IT) : Prop := ∀ t : VT, t.nodes ≤ 1000 → ∀ (H : zaa) (K : Kt), K (.int .i64 (rdV data v t)) H → ACalls tP zh9 [.sl (data.map Dat.cs) .none, .agg t.cs, .agg v.cs] H K
theorem zvb {data : List Dat} (h8 : ∀ D ∈ data, D.cons.length ≤ 8) (vs : List IT) (hv : vs.length ≤ 1000) (hel : ∀ v ∈ vs, zg7 data v) (ts : List VT) (ht : ∀ t ∈ ts, t.nodes ≤ 1000) (H : zaa) (K : Kt)
  (hK : K (.int .i64 (zco data vs ts)) H) : ACalls tP zhC [.sl (data.map Dat.cs) .none, .sl (VT.css ts) .none, .sl (IT.css vs) .none] H K := by
 refine ACalls.out (zDS fun hs => ?_)
 have hO : ∀ r J, zco data vs ts = r → Out H.length K (.int .i64 r) (H ++ J) := fun r J h => by subst h; exact Out.int rfl (Nat.le_refl _) hs hK
 have hO0 : ∀ r, zco data vs ts = r → Out H.length K (.int .i64 r) H := fun r h => by simpa using hO r [] h
 by_cases hl : ts.length = vs.length
 case neg =>
  have : ((ts.length : Int) != (vs.length : Int)) = true := by simp [bne]; omega
  simp [zoh, this]
  exact hO0 _ (by simp [zco, hl])
 have htot : zco data vs ts = rdA data vs ts 0 := by simp [zco, hl]
 simp [zoh, hl]
 refine zDQ (Inv := fun q t7 t17 H' => ∃ (i : Nat) (a : Int), i ≤ vs.length ∧ q = vs.length - i ∧ t17 = .int .i64 i ∧ t7 = .int .i64 a ∧ 0 ≤ a ∧ a ≤ 6 ∧ rdA data (vs.drop i) (ts.drop i) a = zco data vs ts ∧ H' = H) vs.length ?_ ?_
 ·intro _; exact ⟨0, 0, by omega, by omega, rfl, rfl, by omega, by omega, by simp [htot], rfl⟩
 ·rintro q t7 t17 H' ⟨i, a, hi, rfl, rfl, rfl, ha0, ha6, ho, rfl⟩ hsc' hlen hsF Kb hKb
  by_cases hlt : i < vs.length
  ·have hlt' : i < ts.length := by omega
   rw [List.drop_eq_getElem_cons hlt, List.drop_eq_getElem_cons hlt'] at ho
   simp only [rdA] at ho
   have hti := ht _ (List.getElem_mem hlt')
   have hvi := hel _ (List.getElem_mem hlt)
   have hbd := zrw (zfI h8 vs[i] ts[i])
   simp [zoi, hl, hlt, hlt', Nat.add_assoc]
   refine zaF (.int .i64 (rdV data vs[i] ts[i])) (fun J => hvi _ hti _ _ ⟨rfl, rfl⟩) ?_
   generalize rdV data vs[i] ts[i] = r at *
   by_cases hr : r < 0
   ·rw [if_pos (.inl hr)] at ho
    simp [hr]
    exact hO0 _ ho.symm
   ·have q1 : IntKind.i64.wrap (a + r) = a + r := zas (by omega) (by omega)
    by_cases h6 : a + r > 6
    ·rw [if_pos (.inr h6)] at ho
     simp [hr, q1, h6]
     exact hO0 _ ho.symm
    ·rw [if_neg (by omega)] at ho
     simp [hr, q1, h6]
     rw [zas (by omega) (by omega)]
     refine hKb _ _ ⟨vs.length - (i + 1), by omega, Back.at (J := []) (by simp) (Nat.le_refl _) hs ?_ ⟨_, _, rfl, i + 1, _, by omega, rfl, by simp, rfl, by omega, by omega, ho, rfl⟩⟩
     simp [zi3, AV.sc, AV.scV, AV.scA, AV.scB]
  ·obtain rfl : i = vs.length := by omega
   rw [List.drop_length] at ho
   simp only [rdA] at ho
   simp [zoi, hl]
   exact hO0 _ ho.symm
theorem zIU : ∀ (m : Nat) (v : IT), v.nodes ≤ m → ∀ (left : Int), left ≤ 1000000 → -1 ≤ left → ∀ (H : zaa) (id : Nat), H[id]? = some (.cells [.int .i64 left]) → ∀ (K : AV → zaa → Prop),
  ((v.nodes : Int) ≤ left → K (.bool true) (H.set id (.cells [.int .i64 (left - v.nodes)]))) → (¬ (v.nodes : Int) ≤ left → ∀ l', K (.bool false) (H.set id (.cells [.int .i64 l']))) →
  ACalls tP zhT [.agg v.cs, .ptr id 0] H K := by
 intro m
 induction m with
 | zero => intro v h; have := v.nodes_pos; omega
 | succ m ih =>
  intro v hv left hl1 hl0 H id hid K hK hF
  obtain ⟨n, ks⟩ := v
  have hlt := zcF hid
  have hnn : (IT.mk n ks).nodes = IT.nodesL ks + 1 := by simp [IT.nodes]
  refine ACalls.out (zIS fun hs => ?_)
  have hget : (H ++ [AB.cells [.int .i64 n, .sl (IT.css ks) .none]])[id]? = some (.cells [.int .i64 left]) := zbB hid
  have bad : (¬ ((IT.mk n ks).nodes : Int) ≤ left) → ∀ l' H', H' = H.set id (.cells [.int .i64 l']) ++ [.cells [.int .i64 n, .sl (IT.css ks) .none]] → Out H.length K (.bool false) H' := by
   intro h l' H' he
   exact Out.bool he (by simp) (hs.set rfl) (hF h l')
  simp [zxb, IT.cs, hget, AV.known]
  rw [zas (by omega) (by omega), zb5 _ hid, zbB (zbN _ hid)]
  by_cases h0 : left - 1 < 0
  ·simp [h0]
   exact bad (by omega) _ _ rfl
  ·simp [h0]
   refine zIQ (Inv := fun q t5 H' => ∃ i : Nat, i ≤ ks.length ∧ q = ks.length - i ∧ t5 = .int .i64 i ∧ ((IT.nodesL (ks.take i) : Int) + 1 ≤ left) ∧ H' = H.set id (.cells [.int .i64 (left - 1 - IT.nodesL (ks.take i))]) ++ [.cells [.int .i64 n, .sl (IT.css ks) .none]]) ks.length ?_ ?_
   ·intro _; exact ⟨0, by omega, by omega, rfl, by simp [IT.nodesL]; omega, by simp [IT.nodesL]⟩
   ·rintro q t5 H' ⟨i, hi, rfl, rfl, hb, rfl⟩ hsc hlen hsF Kb hKb
    by_cases hil : i < ks.length
    ·have hki := IT.kid_lt (n := n) hil
     have h1 := IT.nodesL_take hil
     have h2 := IT.nodesL_take_le ks (i + 1)
     have hll := IT.len_le (ks.take i)
     simp only [List.length_take] at hll
     have hge : (H.set id (.cells [.int .i64 (left - 1 - IT.nodesL (ks.take i))]) ++ [AB.cells [.int .i64 n, .sl (IT.css ks) .none]])[id]? = some (.cells [.int .i64 (left - 1 - IT.nodesL (ks.take i))]) := zbB (zbN _ hid)
     simp [zpA, hil]
     refine ih ks[i] (by omega) (left - 1 - IT.nodesL (ks.take i)) (by omega) (by omega) _ id hge _ ?_ ?_
     ·intro hle
      rw [zb5 _ (zbN _ hid), List.set_set]
      simp
      rw [zas (by omega) (by omega)]
      refine hKb _ _ ⟨ks.length - (i + 1), by omega, Back.here (by simp) ((hs.set rfl).snoc rfl) ?_ ⟨_, rfl, i + 1, by omega, rfl, by simp, by omega, ?_⟩⟩
      ·simp [zj6, AV.sc, AV.scV, AV.scA, AV.scB]; omega
      ·rw [h1]; congr 5; omega
     ·intro hle l'
      rw [zb5 _ (zbN _ hid), List.set_set]
      simp
      exact bad (by omega) _ _ rfl
    ·obtain rfl : i = ks.length := by omega
     rw [List.take_length] at hb ⊢
     simp [zpA]
     refine Out.bool rfl (by simp) (hs.set rfl) ?_
     have := hK (by omega)
     rw [hnn] at this
     rw [show left - 1 - (IT.nodesL ks : Int) = left - ((IT.nodesL ks + 1 : Nat) : Int) by omega]
     exact this
theorem zC4 (v : IT) (H : zaa) (K : Kt) (hK : ∀ b, (b = true → v.nodes ≤ 40) → K (.bool b) H) : ACalls tP zmq [.agg v.cs] H K := by
 refine ACalls.out (zC3 fun hs => ?_)
 simp [zuO, AV.known]
 refine zIU _ v (Nat.le_refl _) 40 (by omega) (by omega) _ (H.length + 1) (by simp) _ ?_ ?_
 ·intro h
  exact Out.bool (J := [_, _]) (by simp; exact ⟨rfl, rfl⟩) (Nat.le_refl _) hs (hK true fun _ => by omega)
 ·intro h l'
  exact Out.bool (J := [_, _]) (by simp; exact ⟨rfl, rfl⟩) (Nat.le_refl _) hs (hK false fun h => by cases h)
theorem zMF {data : List Dat} (hk : za8 data) (h8 : ∀ D ∈ data, D.cons.length ≤ 8) : ∀ (m : Nat) (v : IT), v.nodes ≤ m → v.nodes ≤ 900 → zg7 data v := by
 intro m
 induction m with
 | zero => intro v h; have := v.nodes_pos; omega
 | succ m ih =>
  intro v hv hb t ht H K hK
  obtain ⟨n, ks⟩ := v
  obtain ⟨tk, tn, tks⟩ := t
  have hnl : IT.nodesL ks + 1 ≤ 900 := by simpa [IT.nodes] using hb
  have hll := IT.len_le ks
  have hkids : ∀ v ∈ ks, zg7 data v := fun v hvm => by
   obtain ⟨i, hi, rfl⟩ := List.getElem_of_mem hvm
   have := IT.kid_lt (n := n) hi
   exact ih _ (by omega) (by omega)
  refine ACalls.out (zMD fun hs => ?_)
  rw [zAT] at hK
  have hO : ∀ r J, K (.int .i64 r) H → Out H.length K (.int .i64 r) (H ++ J) := fun r J h => Out.int rfl (Nat.le_refl _) hs h
  by_cases h6 : tk = 6
  ·subst h6
   rw [if_pos rfl] at hK
   by_cases hn : n = 0
   ·subst hn
    rw [if_pos rfl] at hK
    simp [zcO, VT.cs, IT.cs, Nat.add_assoc]
    have htk : ∀ t ∈ tks, t.nodes ≤ 1000 := fun t htm => by
     obtain ⟨i, hi, rfl⟩ := List.getElem_of_mem htm
     have := VT.kid_lt (k := 6) (n := tn) hi
     omega
    refine zvb h8 ks (by omega) hkids tks htk _ _ ?_
    exact hO _ _ hK
   ·have : (n != 0) = true := by simp [bne, hn]
    rw [if_neg hn] at hK
    simp [zcO, VT.cs, IT.cs, Nat.add_assoc, this]
    exact hO _ _ hK
  have h6' : (tk == 6) = false := by simp [h6]
  rw [if_neg h6] at hK
  by_cases h7 : tk = 7
  ·subst h7
   rw [if_pos rfl] at hK
   by_cases g1 : n < 0
   ·rw [if_neg (by omega)] at hK
    simp [zcO, VT.cs, IT.cs, Nat.add_assoc, g1]
    exact hO _ _ hK
   ·by_cases g2 : n > 6
    ·rw [if_neg (by omega)] at hK
     simp [zcO, VT.cs, IT.cs, Nat.add_assoc, g1, g2]
     exact hO _ _ hK
    ·by_cases g3 : 0 < ks.length
     ·rw [if_neg (by omega)] at hK
      have g3' : (0 : Int) < ks.length := by omega
      simp [zcO, VT.cs, IT.cs, Nat.add_assoc, g1, g2, g3, g3']
      exact hO _ _ hK
     ·rw [if_pos (by omega)] at hK
      have g3' : ¬ (0 : Int) < ks.length := by omega
      simp [zcO, VT.cs, IT.cs, Nat.add_assoc, g1, g2, g3, g3']
      exact hO _ _ hK
  have h7' : (tk == 7) = false := by simp [h7]
  rw [if_neg h7] at hK
  by_cases h5 : tk = 5
  case neg =>
   have h5' : (tk == 5) = false := by simp [h5]
   rw [if_neg h5] at hK
   by_cases g1 : n = 0
   ·subst g1
    by_cases g2 : 0 < ks.length
    ·have g2' : (0 : Int) < ks.length := by omega
     rw [if_neg (by omega)] at hK
     simp [zcO, VT.cs, IT.cs, Nat.add_assoc, h6', h7', h5', g2, g2']
     exact hO _ _ hK
    ·have g2' : ¬ (0 : Int) < ks.length := by omega
     rw [if_pos (by omega)] at hK
     simp [zcO, VT.cs, IT.cs, Nat.add_assoc, h6', h7', h5', g2, g2']
     exact hO _ _ hK
   ·have g1' : (n != 0) = true := by simp [bne, g1]
    rw [if_neg (by omega)] at hK
    simp [zcO, VT.cs, IT.cs, Nat.add_assoc, h6', h7', h5', g1, g1']
    exact hO _ _ hK
  subst h5
  rw [if_pos rfl] at hK
  by_cases hn : n = 0
  case neg =>
   have : (n != 0) = true := by simp [bne, hn]
   rw [if_neg (by omega)] at hK
   simp [zcO, VT.cs, IT.cs, Nat.add_assoc, this]
   exact hO _ _ hK
  subst hn
  by_cases hl6 : ks.length > 6
  ·rw [if_neg (by omega)] at hK
   have : (6 : Int) < ks.length := by omega
   simp [zcO, VT.cs, IT.cs, Nat.add_assoc, this]
   exact hO _ _ hK
  have hl6' : ¬ (6 : Int) < ks.length := by omega
  rw [if_pos (by omega)] at hK
  simp [zcO, VT.cs, IT.cs, Nat.add_assoc, hl6']
  have hT : (VT.mk 5 tn tks).nodes ≤ 1000 := ht
  have hT' : (VT.mk 5 tn tks).cs = [.int .i64 5, .int .i64 tn, .sl (VT.css tks) .none] := rfl
  generalize hTg : VT.mk 5 tn tks = T at *
  have hsc2 : HSc (H ++ [.cells [.int .i64 5, .int .i64 tn, .sl (VT.css tks) .none], .cells [.int .i64 0, .sl (IT.css ks) .none]]) := hs.append (by simp [AB.sc, AV.scA, AV.scB])
  have hF : ∀ r, r = rdE data ks T 0 → ∀ J, Out H.length K (.int .i64 r) (H ++ J) := fun r h J => hO _ _ (by rw [h]; exact hK)
  refine zMB (Inv := fun q t7 t58 H' => ∃ (i : Nat) (a : Int), i ≤ ks.length ∧ q = ks.length - i ∧ t58 = .int .i64 i ∧ t7 = .int .i64 a ∧ 0 ≤ a ∧ a ≤ 6 ∧ rdE data (ks.drop i) T a = rdE data ks T 0 ∧
   H' = H ++ [.cells [.int .i64 5, .int .i64 tn, .sl (VT.css tks) .none], .cells [.int .i64 0, .sl (IT.css ks) .none]]) ks.length ?_ ?_
  ·intro _; exact ⟨0, 0, by omega, by omega, rfl, rfl, by omega, by omega, by simp, rfl⟩
  ·rintro q t7 t58 H' ⟨i, a, hi, rfl, rfl, rfl, ha0, ha6, ho, rfl⟩ hsc' hlen hsF Kb hKb
   by_cases hlt : i < ks.length
   ·rw [List.drop_eq_getElem_cons hlt] at ho
    have hkn := IT.kid_lt (n := 0) hlt
    obtain ⟨c, es, hx⟩ : ∃ c es, ks[i] = IT.mk c es := by cases h : ks[i] with | mk a b => exact ⟨a, b, rfl⟩
    rw [hx] at ho hkn
    have hesl := IT.len_le es
    have hen : IT.nodesL es + 1 ≤ 900 := by
     have : (IT.mk c es).nodes = IT.nodesL es + 1 := by simp [IT.nodes]
     have : (IT.mk 0 ks).nodes = IT.nodesL ks + 1 := by simp [IT.nodes]
     omega
    have hes : ∀ v ∈ es, zg7 data v := fun v hvm => by
     obtain ⟨j, hj, rfl⟩ := List.getElem_of_mem hvm
     have := IT.kid_lt (n := c) hj
     exact ih _ (by omega) (by omega)
    simp only [rdE] at ho
    by_cases c1 : c < 0
    ·rw [if_pos (.inl c1)] at ho
     simp [zg5, hlt, hx, IT.cs, Nat.add_assoc, c1]
     exact hF _ ho _
    by_cases c2 : 8 ≤ c
    ·rw [if_pos (.inr c2)] at ho
     simp [zg5, hlt, hx, IT.cs, Nat.add_assoc, c1, c2]
     exact hF _ ho _
    rw [if_neg (by omega)] at ho
    simp [zg5, hlt, hx, IT.cs, Nat.add_assoc, c1, c2]
    rw [← hT']
    refine zyJ data hk T hT c _ _ ?_
    cases hp : zbn data T c with
    | none =>
     rw [hp] at ho
     simp only at ho
     simp [zbL]
     exact hF _ ho _
    | some ps =>
     rw [hp] at ho
     simp only at ho
     simp [zbL]
     have hpn : ∀ t ∈ ps, t.nodes ≤ 1000 := ztd hp
     refine zvb h8 es (by omega) hes ps hpn _ _ ?_
     have htb := zCd h8 es ps
     have ho' : (if zco data es ps < 0 ∨ a + 1 + zco data es ps > 6 then -1 else rdE data (ks.drop (i + 1)) T (a + (1 + zco data es ps))) = rdE data ks T 0 := by
      rw [← ho]
      unfold zco
      by_cases hl : ps.length = es.length
      ·simp only [hl, if_true]
      ·simp only [hl, if_false]; rfl
     generalize zco data es ps = w at *
     by_cases w0 : w < 0
     ·rw [if_pos (.inl w0)] at ho'
      simp [w0]
      exact hF _ ho' _
     ·have q1 : IntKind.i64.wrap (a + 1) = a + 1 := zas (by omega) (by omega)
      have q2 : IntKind.i64.wrap (a + 1 + w) = a + 1 + w := zas (by omega) (by omega)
      have q3 : IntKind.i64.wrap (1 + w) = 1 + w := zas (by omega) (by omega)
      have q4 : IntKind.i64.wrap (a + (1 + w)) = a + (1 + w) := zas (by omega) (by omega)
      by_cases hh : a + 1 + w > 6
      ·rw [if_pos (.inr hh)] at ho'
       simp [w0, q1, q2, hh]
       exact hF _ ho' _
      ·rw [if_neg (by omega)] at ho'
       simp [w0, q1, q2, hh, q3, q4]
       rw [zas (by omega) (by omega)]
       refine hKb _ _ ⟨ks.length - (i + 1), by omega, Back.at (J := [.cells [.int .i64 c, .sl (IT.css es) .none]]) (H2 := H ++ [.cells [.int .i64 5, .int .i64 tn, .sl (VT.css tks) .none], .cells [.int .i64 0, .sl (IT.css ks) .none]]) (by simp [hT']) (by simp) hsc2 ?_ ⟨_, _, rfl, i + 1, _, by omega, rfl, by simp, rfl, by omega, by omega, ho', rfl⟩⟩
       simp [zlo, AV.sc, AV.scV, AV.scA, AV.scB]
   ·obtain rfl : i = ks.length := by omega
    rw [List.drop_length] at ho
    simp only [rdE] at ho
    simp [zg5]
    exact hF _ ho _
section
variable {data : List Dat} (hD : DOk data)
def zlF (data : List Dat) (v : VT) : Prop := ∀ (t : VT), zaO data 0 t = true → ∀ (H : zaa) (K : AV → zaa → Prop), K (.bool (zau data v t)) H → ACalls tP zgm [.sl (data.map Dat.cs) .none, .agg v.cs, .agg t.cs] H K
theorem zzO {f : VT → VT → Bool} {x y : List VT} {i : Nat} (h : i < x.length) (h' : i < y.length) : zbR f (x.drop i) (y.drop i) = (f x[i] y[i] && zbR f (x.drop (i + 1)) (y.drop (i + 1))) := by
 rw [List.drop_eq_getElem_cons h, List.drop_eq_getElem_cons h', zbR]
theorem zyv (vs ts : List VT) (hl : vs.length ≤ 1000000) (hv : ∀ v ∈ vs, zlF data v) (ht : ∀ t ∈ ts, zaO data 0 t = true) (H : zaa) (K : AV → zaa → Prop) (hK : K (.bool (zbv data vs ts)) H) :
  ACalls tP zh8 [.sl (data.map Dat.cs) .none, .sl (VT.css vs) .none, .sl (VT.css ts) .none] H K := by
 refine ACalls.out (zMx fun hs => ?_)
 rw [zhr] at hK
 have hO : ∀ b, zbR (zau data) vs ts = b → Out H.length K (.bool b) H := fun b h => by
  have := Out.bool (J := []) rfl (Nat.le_refl _) hs (h ▸ hK)
  simpa using this
 by_cases hlen : vs.length = ts.length
 case neg =>
  have hl' : ((vs.length : Int) != ts.length) = true := by simp; omega
  simp [zqO, hl']
  exact hO _ (zhm hlen)
 simp [zqO, hlen]
 refine zMv (Inv := fun q t H' => ∃ i : Nat, i ≤ vs.length ∧ q = vs.length - i ∧ t = .int .i64 i ∧ zbR (zau data) (vs.drop i) (ts.drop i) = zbR (zau data) vs ts ∧ H = H') vs.length ?_ ?_
 ·intro _; exact ⟨0, by omega, by omega, rfl, by simp, rfl⟩
 rintro q t H' ⟨i, hi, rfl, rfl, ho, rfl⟩ hsc hle hsF Kb hKb
 by_cases hlt : i < vs.length
 ·have hlt' : i < ts.length := by omega
  have hlt2 : (i : Int) < ts.length := by omega
  rw [zzO hlt hlt'] at ho
  obtain ⟨x, y, z, hvx, hx, hy, hz⟩ := zaM vs[i]
  obtain ⟨x2, y2, z2, hvx2, hx2, hy2, hz2⟩ := zaM ts[i]
  simp [zqP, hlt, hlt', hlt2, hvx, hvx2]
  rw [← hvx, ← hvx2]
  refine zaF (.bool (zau data vs[i] ts[i])) (fun J => hv _ (List.getElem_mem hlt) _ (ht _ (List.getElem_mem hlt')) _ _ ⟨rfl, rfl⟩) ?_
  cases hb : zau data vs[i] ts[i] with
  | false =>
   rw [hb, Bool.false_and] at ho
   simp
   exact hO _ ho.symm
  | true =>
   rw [hb, Bool.true_and] at ho
   simp
   rw [zas (by omega) (by omega)]
   refine hKb _ _ ⟨vs.length - (i + 1), by omega, Back.here (Nat.le_refl _) hs ?_ ⟨_, rfl, i + 1, by omega, rfl, by simp, ho, rfl⟩⟩
   simp [zlm, AV.sc, AV.scV, AV.scA, AV.scB]
 ·obtain rfl : i = vs.length := by omega
  rw [List.drop_length, hlen, List.drop_length, zbR] at ho
  simp [zqP, hlen]
  exact hO _ ho.symm
theorem zzY {data : List Dat} {vks ks : List VT} (h1 : vks.length = 1) (h2 : ks.length = 1) : zbv data vks ks = zci data vks (ks[0]'(by omega)) := by
 match vks, ks, h1, h2 with
 | [v], [k], _, _ => simp [zbv, zci]
include hD in
theorem zJq : ∀ (m : Nat) (v : VT), v.nodes ≤ m → v.nodes ≤ 1000000 → zlF data v := by
 intro m
 induction m with
 | zero => intro v h; have := v.nodes_pos; omega
 | succ m ih =>
  intro v hm hb t ht H K hK
  obtain ⟨vk, vn, vks⟩ := v
  obtain ⟨k, n, ks⟩ := t
  refine ACalls.out (zJo fun hs => ?_)
  have hO : ∀ b J, zau data (.mk vk vn vks) (.mk k n ks) = b → Out H.length K (.bool b) (H ++ J) := fun b J h => Out.bool rfl (Nat.le_refl _) hs (h ▸ hK)
  have hll := VT.len_le vks
  have hnn : (VT.mk vk vn vks).nodes = VT.nodesL vks + 1 := by simp [VT.nodes]
  have hkids : ∀ x ∈ vks, zlF data x := fun x hx => ih x (by have := zeu (k := vk) (n := vn) x hx; omega) (by have := ze7 (k := vk) (n := vn) x hx; omega)
  have htk := znP ht
  have hto : zaQ data 0 (.mk k n ks) = true := by rw [zaO, Bool.and_eq_true] at ht; exact ht.2
  have htn : (VT.mk k n ks).nodes ≤ 200 := by rw [zaO, Bool.and_eq_true] at ht; exact of_decide_eq_true ht.1
  obtain ⟨f1, f2, f3⟩ := zc4 hD.k
  have loop : ∀ (hk : ks.length = 1) , zau data (.mk vk vn vks) (.mk k n ks) = zci data vks (ks[0]'(by omega)) →
    zpP (.sl (data.map Dat.cs) .none) (.ptr H.length 0) (.ptr (H.length + 1) 0) (.int .i64 vks.length) (.int .i64 0) (H ++ [.cells [.int .i64 vk, .int .i64 vn, .sl (VT.css vks) .none], .cells [.int .i64 k, .int .i64 n, .sl (VT.css ks) .none]]) (Out H.length K) := by
   intro hk e
   have hk0 : 0 < ks.length := by omega
   refine zJm (Inv := fun q t10 H' => ∃ i : Nat, i ≤ vks.length ∧ q = vks.length - i ∧ t10 = .int .i64 i ∧ zci data (vks.drop i) ks[0] = zci data vks ks[0] ∧ H' = H ++ [.cells [.int .i64 vk, .int .i64 vn, .sl (VT.css vks) .none], .cells [.int .i64 k, .int .i64 n, .sl (VT.css ks) .none]]) vks.length ?_ ?_
   ·intro _; exact ⟨0, by omega, by omega, rfl, by simp, rfl⟩
   rintro q t10 H' ⟨i, hi, rfl, rfl, ho, rfl⟩ hsc hle hsF Kb hKb
   by_cases hlt : i < vks.length
   ·rw [zst hlt] at ho
    obtain ⟨x, y, z, hvx, hx, hy, hz⟩ := zaM vks[i]
    obtain ⟨x2, y2, z2, hvx2, hx2, hy2, hz2⟩ := zaM ks[0]
    simp [zpN, hlt, hvx, hk0, hvx2]
    rw [← hvx, ← hvx2]
    refine zaF (.bool (zau data vks[i] ks[0])) (fun J => hkids _ (List.getElem_mem hlt) ks[0] (htk _ (List.getElem_mem hk0)) _ _ ⟨rfl, rfl⟩) ?_
    cases hb2 : zau data vks[i] ks[0] with
    | false =>
     rw [hb2, Bool.false_and] at ho
     simp
     exact hO _ _ (e.trans ho.symm)
    | true =>
     rw [hb2, Bool.true_and] at ho
     simp
     rw [zas (by omega) (by omega)]
     refine hKb _ _ ⟨vks.length - (i + 1), by omega, Back.here (by simp) hsc ?_ ⟨_, rfl, i + 1, by omega, rfl, by simp, ho, rfl⟩⟩
     simp [zkh, AV.sc, AV.scV, AV.scA, AV.scB]
   ·obtain rfl : i = vks.length := by omega
    rw [List.drop_length, zci] at ho
    simp [zpN]
    exact hO _ _ (e.trans ho.symm)
  rcases zux hto with ⟨rfl, rfl⟩ | ⟨rfl, rfl⟩ | ⟨rfl, rfl⟩ | rfl | ⟨rfl, hk⟩ | ⟨rfl, hk⟩ | ⟨rfl, hk⟩ | ⟨rfl, hk⟩
  ·simp [zdK, VT.cs, Nat.add_assoc]
   cases h1 : (vk == 3) <;> simp
   ·exact hO _ _ (by simp [zau, h1])
   by_cases h2 : -1099511627776 ≤ vn <;> simp [h2]
   ·by_cases h3 : vn ≤ 1099511627776 <;> simp [h3]
    ·exact hO _ _ (by simp [zau, h1, h2, h3, i0])
    ·exact hO _ _ (by simp [zau, h1, h2, h3])
   ·exact hO _ _ (by simp [zau, h1, h2])
  ·simp [zdK, VT.cs, Nat.add_assoc]
   cases h1 : (vk == 2) <;> simp
   ·exact hO _ _ (by simp [zau, h1])
   cases h2 : (vn == 0) <;> simp
   ·cases h3 : (vn == 1) <;> simp
    ·exact hO _ _ (by simp [zau, h1, h2, h3])
    ·exact hO _ _ (by simp [zau, h1, h2, h3, i0])
   ·exact hO _ _ (by simp [zau, h1, h2, i0])
  ·simp [zdK, VT.cs, Nat.add_assoc]
   cases h1 : (vk == 1) <;> simp
   ·exact hO _ _ (by simp [zau, h1])
   cases h2 : (vn == 0) <;> simp
   ·exact hO _ _ (by simp [zau, h1, h2])
   ·exact hO _ _ (by simp [zau, h1, h2, i0])
  ·-- a data type
   simp [zdK, VT.cs, Nat.add_assoc]
   cases h1 : (vk == 5) with
   | false =>
    have : (vk != 5) = true := by simp [bne, h1]
    simp [this]
    exact hO _ _ (by simp [zau, h1])
   | true =>
   have h1' : (vk != 5) = false := by simp [bne, h1]
   by_cases h2 : vn < 0
   ·simp [h1', h2]
    exact hO _ _ (by simp [zau, h1]; omega)
   by_cases h3 : 8 ≤ vn
   ·simp [h1', h2, h3]
    exact hO _ _ (by simp [zau, h1]; omega)
   simp [h1', h2, h3, Nat.add_assoc]
   have e : ∀ o, zaR data (.mk 5 n ks) vn = o → zau data (.mk vk vn vks) (.mk 5 n ks) = zdY data vks o := fun o ho => by
    have q1 : 0 ≤ vn := by omega
    have q2 : vn < 8 := by omega
    simp [zau, h1, q1, q2, ho]
   have hcs : (VT.mk 5 n ks).cs = [.int .i64 5, .int .i64 n, .sl (VT.css ks) .none] := rfl
   rw [← hcs]
   refine zjN data f1 f2 f3 (.mk 5 n ks) (by omega) vn _ _ ?_
   cases hf : zaR data (.mk 5 n ks) vn with
   | none =>
    simp [zbL]
    exact hO _ _ (by rw [e _ hf, zhq])
   | some l =>
    simp [zbL, hcs]
    refine zyv vks l (by omega) hkids (zfZ hD.ok hto hf) _ _ ?_
    exact hO _ _ (by rw [e _ hf, zf3])
  ·simp [zdK, VT.cs, Nat.add_assoc]
   cases h1 : (vk == 4) <;> simp
   ·exact hO _ _ (by simp [zau, h1])
   cases h2 : (vn == 0) <;> simp
   ·exact hO _ _ (by simp [zau, h1, h2])
   refine zyv vks ks (by omega) hkids htk _ _ ?_
   exact hO _ _ (by simp [zau, h1, h2])
  ·-- an array
   simp [zdK, zgV, VT.cs, Nat.add_assoc]
   have hk0 : 0 < ks.length := by omega
   cases h1 : (vk == 6) with
   | false =>
    have : (vk != 6) = true := by simp [bne, h1]
    simp [this]
    exact hO _ _ (by simp [zau, h1])
   | true =>
   have h1' : (vk != 6) = false := by simp [bne, h1]
   by_cases h3 : vks.length ≤ 4096
   case neg =>
    have h3' : (4096 : Int) < vks.length := by omega
    simp [h1', h3']
    exact hO _ _ (by simp [zau, h1, h3])
   have h3' : ¬ (4096 : Int) < vks.length := by omega
   cases h2 : (vn == 0) with
   | false =>
    have : (vn != 0) = true := by simp [bne, h2]
    simp [h1', h3', this]
    exact hO _ _ (by simp [zau, h1, h2])
   | true =>
   have h2' : (vn != 0) = false := by simp [bne, h2]
   simp [h1', h3', h2']
   exact loop hk (by have := zsq hk0; simp [zau, h1, h2, h3, this, hk0])
  ·simp [zdK, zgV, VT.cs, Nat.add_assoc]
   have hk0 : 0 < ks.length := by omega
   cases h1 : (vk == 7) with
   | false =>
    have : (vk != 7) = true := by simp [bne, h1]
    simp [this]
    exact hO _ _ (by simp [zau, h1])
   | true =>
   have h1' : (vk != 7) = false := by simp [bne, h1]
   by_cases h3 : vks.length = 1
   case neg =>
    have h3' : ((vks.length : Int) != 1) = true := by simp; omega
    simp [h1', h3']
    refine hO _ _ ?_
    have : zbv data vks ks = false := by rw [zhr]; exact zhm (by omega)
    simp [zau, h1, this]
   have h3' : ((vks.length : Int) != 1) = false := by simp; omega
   cases h2 : (vn == 0) with
   | false =>
    have : (vn != 0) = true := by simp [bne, h2]
    simp [h1', h3', this]
    exact hO _ _ (by simp [zau, h1, h2])
   | true =>
   have h2' : (vn != 0) = false := by simp [bne, h2]
   simp [h1', h3', h2']
   exact loop hk (by rw [← zzY h3 hk]; simp [zau, h1, h2])
  ·simp [zdK, zgV, VT.cs, Nat.add_assoc]
   cases h1 : (vk == 8) <;> simp
   ·exact hO _ _ (by simp [zau, h1])
   by_cases h2 : 0 ≤ vn <;> simp [h2]
   ·by_cases h3 : vn < 64 <;> simp [h3]
    ·exact hO _ _ (by simp [zau, h1, h2, h3, i0])
    ·exact hO _ _ (by simp [zau, h1, h2, h3])
   ·exact hO _ _ (by simp [zau, h1, h2])
end
def zcV (data : List Dat) (v t : VT) : Bool := zbi data t && zau data v t
theorem zz8 {data : List Dat} (h : za8 data) : zlI data := fun D hD => by
 obtain ⟨_, h2⟩ := h
 obtain ⟨_, h3, h4⟩ := h2 D hD
 refine ⟨by omega, fun c hc => ?_⟩
 obtain ⟨_, h5, h6⟩ := h4 c hc
 exact ⟨by omega, fun x hx => by have := h6 x hx; omega⟩
theorem zr6 {data : List Dat} : ∀ {l : List Dat} {d : Nat}, zcs data l d = true → ∀ D ∈ l, D.cons.length ≤ 8
 | [], _, _, D, h => by cases h
 | E :: l, d, h, D, hD => by
  simp only [zcs, Bool.and_eq_true] at h
  rcases List.mem_cons.1 hD with rfl | hD
  ·have := h.1
   simp only [zch, Bool.and_eq_true, decide_eq_true_eq] at this
   exact this.1.2
  ·exact zr6 h.2 D hD
theorem zhp {data : List Dat} {t : VT} (h : zbi data t = true) : ∀ D ∈ data, D.cons.length ≤ 8 := by
 simp only [zbi, zbf, Bool.and_eq_true] at h
 exact zr6 h.1.1.1.2
def za2 (data : List Dat) (t : VT) (v : IT) : Int := if zbi data t then rdV data v t else -1
theorem zqv (data : List Dat) (hk : za8 data) (t : VT) (ht : t.nodes ≤ 1000000) (H : zaa) (K : Kt) (hK : K (.bool (zbi data t)) H) : ACalls tP zgr [.sl (data.map Dat.cs) .none, .agg t.cs] H K := by
 refine ACalls.out (zLG fun hs => ?_)
 obtain ⟨x, y, z, hvx, hx, hy, hz⟩ := zaM t
 simp [zyd, zaC, za6, hvx, Nat.add_assoc]
 refine zDb data (zz8 hk) (by have := hk.1; omega) ?_
 unfold zbi at hK
 cases hd : zbf data with
 | false =>
  rw [hd] at hK
  simp
  exact Out.bool rfl (Nat.le_refl _) hs hK
 | true =>
  rw [hd, Bool.true_and] at hK
  simp
  rw [← hvx]
  refine zu3 data 0 t (by omega) _ _ ?_
  exact Out.bool rfl (Nat.le_refl _) hs hK
theorem zIN (data : List Dat) (hk : za8 data) (t : VT) (ht : t.nodes ≤ 1000000) (H : zaa) (K : Kt) (hK : K (.bool (zbi data t)) H) : ACalls tP zm0 [.sl (data.map Dat.cs) .none, .agg t.cs] H K := by
 refine ACalls.out (zIM fun hs => ?_)
 obtain ⟨x, y, z, hvx, hx, hy, hz⟩ := zaM t
 simp [zxa, hvx, Nat.add_assoc]
 refine zxm data hk _ _ fun b hb => ?_
 have hbd : b = zbf data := by rw [Bool.eq_iff_iff, hb, zr5]
 subst hbd
 unfold zbi at hK
 cases hd : zbf data with
 | false =>
  rw [hd] at hK
  simp
  exact Out.bool rfl (Nat.le_refl _) hs hK
 | true =>
  rw [hd, Bool.true_and] at hK
  simp
  rw [← hvx]
  refine zpK data (by have := hk.1; omega) 0 t (by omega) _ _ ?_
  exact Out.bool rfl (Nat.le_refl _) hs hK
theorem zMJ (data : List Dat) (hk : za8 data) (t : VT) (ht : t.nodes ≤ 1000) (v : IT) (hv : v.nodes ≤ 900) (H : zaa) (K : Kt) (hK : K (.int .i64 (za2 data t v)) H) : ACalls tP zm8 [.sl (data.map Dat.cs) .none, .agg t.cs, .agg v.cs] H K := by
 refine ACalls.out (zMI fun hs => ?_)
 have hO : ∀ r J, za2 data t v = r → Out H.length K (.int .i64 r) (H ++ J) := fun r J h => by subst h; exact Out.int rfl (Nat.le_refl _) hs hK
 obtain ⟨x, y, z, hvx, hx, hy, hz⟩ := zaM t
 obtain ⟨x2, y2, hvx2, hx2, hy2⟩ := it2 v
 simp [zyx, hvx, hvx2, Nat.add_assoc]
 rw [← hvx]
 refine zqv data hk t (by omega) _ _ ?_
 cases hf : zbi data t with
 | false =>
  simp
  exact hO _ _ (by simp [za2, hf])
 | true =>
  have h8 := zhp hf
  obtain ⟨g1, g2⟩ := zfI h8 v t
  simp [Nat.add_assoc]
  rw [← hvx2]
  refine zD0 hk h8 _ v (Nat.le_refl _) hv t ht _ _ ?_
  cases hb : (zb1 data v t).2 with
  | false =>
   simp
   exact hO _ _ (by simp [za2, hf, g2 hb])
  | true =>
   simp
   exact hO _ _ (by simp [za2, hf, (g1 hb).1])
theorem zJu (data : List Dat) (hk : za8 data) (t : VT) (ht : t.nodes ≤ 1000) (v : IT) (hv : v.nodes ≤ 900) (H : zaa) (K : Kt) (hK : K (.int .i64 (za2 data t v)) H) : ACalls tP zm1 [.sl (data.map Dat.cs) .none, .agg t.cs, .agg v.cs] H K := by
 refine ACalls.out (zJt fun hs => ?_)
 have hO : ∀ r J, za2 data t v = r → Out H.length K (.int .i64 r) (H ++ J) := fun r J h => by subst h; exact Out.int rfl (Nat.le_refl _) hs hK
 obtain ⟨x, y, z, hvx, hx, hy, hz⟩ := zaM t
 obtain ⟨x2, y2, hvx2, hx2, hy2⟩ := it2 v
 simp [zxq, hvx, hvx2, Nat.add_assoc]
 rw [← hvx]
 refine zIN data hk t (by omega) _ _ ?_
 cases hf : zbi data t with
 | false =>
  simp
  exact hO _ _ (by simp [za2, hf])
 | true =>
  have h8 := zhp hf
  simp [Nat.add_assoc]
  rw [← hvx2]
  refine zMF hk h8 _ v (Nat.le_refl _) hv t ht _ _ ?_
  exact hO _ _ (by simp [za2, hf])
theorem zJy (data : List Dat) (hk : za8 data) (t : VT) (ht : t.nodes ≤ 1000) (v : IT) (hv : v.nodes ≤ 900) (H : zaa) (K : Kt) (hK : K (.bool (decide (0 ≤ za2 data t v))) H) : ACalls tP zm2 [.sl (data.map Dat.cs) .none, .agg t.cs, .agg v.cs] H K := by
 refine ACalls.out (zJx fun hs => ?_)
 obtain ⟨x, y, z, hvx, hx, hy, hz⟩ := zaM t
 obtain ⟨x2, y2, hvx2, hx2, hy2⟩ := it2 v
 simp [zxr, hvx, hvx2, Nat.add_assoc]
 rw [← hvx, ← hvx2]
 refine zMJ data hk t ht v hv _ _ ?_
 simp
 exact Out.bool rfl (Nat.le_refl _) hs (by simpa using hK)
theorem zvq (data : List Dat) (hk : za8 data) (t : VT) (ht : t.nodes ≤ 1000) (v : IT) (hv : v.nodes ≤ 900) (H : zaa) (K : Kt) (hK : K (.bool (decide (0 ≤ za2 data t v))) H) : ACalls tP zhF [.sl (data.map Dat.cs) .none, .agg t.cs, .agg v.cs] H K := by
 refine ACalls.out (zEE fun hs => ?_)
 obtain ⟨x, y, z, hvx, hx, hy, hz⟩ := zaM t
 obtain ⟨x2, y2, hvx2, hx2, hy2⟩ := it2 v
 simp [zvg, hvx, hvx2, Nat.add_assoc]
 rw [← hvx, ← hvx2]
 refine zJu data hk t ht v hv _ _ ?_
 simp
 exact Out.bool rfl (Nat.le_refl _) hs (by simpa using hK)
theorem zJS (data : List Dat) (hk : za8 data) (k n : Int) (ks : List VT) (ht : (VT.mk k n ks).nodes ≤ 1000) (c : Int) {l : List VT} {bs : List Bool} (hf : zaR data (.mk k n ks) c = some l)
  (hlb : l.length = bs.length) (hl8 : l.length ≤ 8) (hfine : zbi data (.mk k n ks) = true) (hrec : ∀ H K, K (.sl (zbj bs) .none) H → ACalls tP zdz [.sl (data.map Dat.cs) .none, .int .i64 n, .int .i64 c] H K) (H : zaa) (K : Kt)
  (hK : K (.tup [.sl (zaG (pos false bs bs.length)) .none, .sl (zaG (pos true bs bs.length)) .none, .bool true]) H) :
  ACalls tP zm3 [.sl (data.map Dat.cs) .none, .agg (VT.mk k n ks).cs, .int .i64 c] H K := by
 refine ACalls.out (zJQ fun hs => ?_)
 obtain ⟨f1, f2, f3⟩ := zc4 hk
 simp [zxv, VT.cs, Nat.add_assoc]
 refine zqv data hk (.mk k n ks) (by omega) _ _ ?_
 simp [hfine]
 refine zkm data f1 f2 f3 (.mk k n ks) ht c _ _ ?_
 rw [hf]
 simp [zbL]
 refine hrec _ _ ?_
 simp [zdT]
 unfold zkr
 refine ALoop.own 6 zbg 1 rfl ?_
 refine ALoop.own 7 zbg 1 rfl ?_
 have hl1 : (H ++ [AB.cells [AV.int IntKind.i64 k, AV.int IntKind.i64 n, AV.sl (VT.css ks) Tok.none]]).length = H.length + 1 := by simp
 have hl2 : (H ++ [AB.cells [AV.int IntKind.i64 k, AV.int IntKind.i64 n, AV.sl (VT.css ks) Tok.none]] ++ [AB.perm zbg 1 0]).length = H.length + 2 := by simp
 rw [hl1, hl2]
 show zkr (.sl [] (.own (H.length + 1))) (.sl [] (.own (H.length + 2))) (.sl (zbj bs) .none) (.int .i64 bs.length) (.int .i64 0) (H ++ [.cells [.int .i64 k, .int .i64 n, .sl (VT.css ks) .none]] ++ [.perm zbg 1 0] ++ [.perm zbg 1 0]) (Out H.length K)
 have hperm : ∀ m m2, HSc (H ++ [.cells [.int .i64 k, .int .i64 n, .sl (VT.css ks) .none], .perm zbg 1 m, .perm zbg 1 m2]) := fun m m2 => hs.append (by simp [AB.sc, AV.scA, AV.scB])
 refine zJO (Inv := fun q t6 t7 t32 H' => ∃ i : Nat, i ≤ bs.length ∧ q = bs.length - i ∧ t32 = .int .i64 i ∧ t6 = .sl (zaG (pos false bs i)) (.own (H.length + 1)) ∧ t7 = .sl (zaG (pos true bs i)) (.own (H.length + 2)) ∧
  H' = H ++ [.cells [.int .i64 k, .int .i64 n, .sl (VT.css ks) .none], .perm zbg 1 (pos false bs i).length, .perm zbg 1 (pos true bs i).length]) bs.length ?_ ?_
 ·intro _; exact ⟨0, by omega, by omega, rfl, by simp [pos, zaG], by simp [pos, zaG], by simp [pos]⟩
 ·rintro q t6 t7 t32 H' ⟨i, hi, rfl, rfl, rfl, rfl, rfl⟩ hsc' hlen hsF Kb hKb
  by_cases hlt : i < bs.length
  ·have hp1 := zgy false bs i hlt
   have hp2 := zgy true bs i hlt
   have hn1 := zdB false bs i
   have hn2 := zdB true bs i
   have hnext : zkq (.sl (zaG (pos false bs (i + 1))) (.own (H.length + 1))) (.sl (zaG (pos true bs (i + 1))) (.own (H.length + 2))) (.sl (zbj bs) .none) (.int .i64 bs.length) (.int .i64 i)
     (H ++ [.cells [.int .i64 k, .int .i64 n, .sl (VT.css ks) .none], .perm zbg 1 (pos false bs (i + 1)).length, .perm zbg 1 (pos true bs (i + 1)).length]) (Out H.length K) Kb := by
    simp [zkq, zxw]
    rw [zas (by omega) (by omega)]
    refine hKb _ _ ⟨bs.length - (i + 1), by omega, Back.at (J := []) (H2 := H ++ [.cells [.int .i64 k, .int .i64 n, .sl (VT.css ks) .none], .perm zbg 1 (pos false bs (i + 1)).length, .perm zbg 1 (pos true bs (i + 1)).length]) (by simp) (by simp) (hperm _ _) ?_ ⟨_, _, _, rfl, i + 1, by omega, rfl, by simp, rfl, rfl, rfl⟩⟩
    simp [zkp, AV.sc, AV.scV, AV.scA, AV.scB]
   cases hbi : bs[i] with
   | true =>
    rw [hbi] at hp1 hp2
    simp at hp1 hp2
    rw [hp1, hp2] at hnext
    simp [zko, zdT, hlt, zfN, hbi, zaz, zbq, zaD, AV.pd, zax, zaW, zaN, zcf]
    refine ⟨⟨by omega, by omega⟩, ?_⟩
    simpa [zif, zaG] using hnext
   | false =>
    rw [hbi] at hp1 hp2
    simp at hp1 hp2
    rw [hp1, hp2] at hnext
    simp [zko, zdT, hlt, zfN, hbi, zaz, zbq, zaD, AV.pd, zax, zaW, zaN, zcf]
    refine ⟨⟨by omega, by omega⟩, ?_⟩
    simpa [zif, zaG] using hnext
  ·obtain rfl : i = bs.length := by omega
   simp [zko]
   refine ⟨⟨rfl, rfl, rfl⟩, ?_⟩
   exact Out.tup (bs := [.sl (zaG (pos false bs bs.length)) .none, .sl (zaG (pos true bs bs.length)) .none, .bool true]) hs hK ⟨slV, slV, zaZ rfl rfl, trivial⟩
theorem zIC (data : List Dat) (hk : za8 data) (t : VT) (ht : t.nodes ≤ 1000) (H : zaa) (K : Kt) (hK : zbi data t = true → K (.tup [.agg (za7 t).cs, .bool true]) H) (hf : zbi data t = true) :
  ACalls tP zmZ [.sl (data.map Dat.cs) .none, .agg t.cs] H K := by
 refine ACalls.out (zIB fun hs => ?_)
 obtain ⟨x, y, z, hvx, hx, hy, hz⟩ := zaM t
 simp [zw5, hvx, hx, hy, hz]
 rw [← hvx]
 refine zqv data hk t (by omega) _ _ ?_
 simp [hf, hvx, hx, hy, hz]
 rw [← hvx]
 refine zLN _ t (Nat.le_refl _) (by omega) _ _ ?_
 obtain ⟨p, q, hzz, hp, hq⟩ := zc3 (za7 t)
 have hK := hK hf
 rw [hzz] at hK ⊢
 simp [hp, hq]
 refine ⟨⟨rfl, rfl⟩, ?_⟩
 exact Out.tup (bs := [.agg [p, q], .bool true]) hs hK ⟨zaZ rfl (by have := (za7 t).cs_scA H.length; rw [hzz] at this; simpa [AV.scV] using this), zaZ rfl rfl, trivial⟩
theorem zNE (data : List Dat) (hk : za8 data) (k n : Int) (ks : List VT) (ht : (VT.mk k n ks).nodes ≤ 1000) (c : Int) {l : List VT} {bs : List Bool} (hf : zaR data (.mk k n ks) c = some l)
  (hlb : l.length = bs.length) (hl8 : l.length ≤ 8) (hrec : ∀ H K, K (.sl (zbj bs) .none) H → ACalls tP zd5 [.sl (data.map Dat.cs) .none, .int .i64 n, .int .i64 c] H K) (H : zaa) (K : Kt)
  (hK : K (.tup [.sl (zaG (pos false bs bs.length)) .none, .sl (zaG (pos true bs bs.length)) .none]) H) :
  ACalls tP znd [.sl (data.map Dat.cs) .none, .agg (VT.mk k n ks).cs, .int .i64 c] H K := by
 refine ACalls.out (zND fun hs => ?_)
 simp [zyK, VT.cs]
 refine zvm data hk k n ks ht c hf hlb hl8 hrec _ _ ?_
 simp
 refine ⟨⟨rfl, rfl⟩, ?_⟩
 exact Out.tup (bs := [.sl (zaG (pos false bs bs.length)) .none, .sl (zaG (pos true bs bs.length)) .none]) hs hK ⟨slV, slV, trivial⟩
theorem zfh {H : zaa} {K : AV → zaa → Prop} {r : AV} (hsc : HSc H) (hv : r.isV = true) (hr : r.scV H.length = true) (h : K r H) : Out H.length K r H := by
 have := Out.same (J := []) rfl hsc hv hr h
 simpa using this
theorem zsT (a : Int) (H : zaa) (K : AV → zaa → Prop) (hK : K (.bool false) H) : ACalls tP zhG [.int .i64 a] H K := by
 refine ACalls.out (zEd fun hs => ?_)
 simp [zvh]
 exact zfh hs rfl rfl hK
theorem zrT (a b : Int) (H : zaa) (K : AV → zaa → Prop) (hK : K (.int .i64 (icmp a b)) H) : ACalls tP zid [.int .i64 a, .int .i64 b] H K := by
 refine ACalls.out (zNg fun hs => ?_)
 unfold zyC
 refine zsT _ _ _ (zsT _ _ _ ?_)
 have hO := zfh (K := K) (H := H) (r := .int .i64 (icmp a b)) hs rfl rfl hK
 by_cases h1 : a < b
 ·simp [h1]; simpa [icmp, h1] using hO
 ·by_cases h2 : b < a
  ·simp [h1, h2]; simpa [icmp, h1, h2] using hO
  ·simp [h1, h2]; simpa [icmp, h1, h2] using hO
def orL : List Int → Int
 | [] => 0
 | a :: l => cor a (orL l)
theorem zAF (l : List Int) (tok : Tok) (hl : l.length ≤ 1000000) (H : zaa) (K : AV → zaa → Prop) (hK : K (.int .i64 (orL l)) H) : ACalls tP zna [.sl (l.map fun x => [.int .i64 x]) tok] H K := by
 refine ACalls.out (zNc fun hs => ?_)
 simp [zyA]
 refine zNa (Inv := fun q t8 H' => ∃ i : Nat, i ≤ l.length ∧ q = l.length - i ∧ t8 = .int .i64 i ∧ orL (l.drop i) = orL l ∧ H' = H) l.length ?_ ?_
 ·intro _; exact ⟨0, by omega, by omega, rfl, by simp, rfl⟩
 ·rintro q t8 H' ⟨i, hi, rfl, rfl, ho, rfl⟩ hsc hlen hsF Kb hKb
  by_cases hlt : i < l.length
  ·rw [List.drop_eq_getElem_cons hlt, orL] at ho
   by_cases hz : l[i] = 0
   ·rw [zrX hz] at ho
    simp [zly, hlt, hz]
    rw [zas (by omega) (by omega)]
    refine hKb _ _ ⟨l.length - (i + 1), by omega, Back.here (Nat.le_refl _) hs ?_ ⟨_, rfl, i + 1, by omega, rfl, by simp, ho, rfl⟩⟩
    simpa [zlz, AV.sc, AV.scV, AV.scA, AV.scB] using hsF
   ·rw [zrW hz] at ho
    have hz : (l[i] != 0) = true := by simpa using hz
    simp [zly, hlt, hz]
    rw [← ho] at hK
    exact zfh hs rfl rfl hK
  ·simp [zly, hlt]
   obtain rfl : i = l.length := by omega
   rw [List.drop_length] at ho
   rw [← ho] at hK
   exact zfh hs rfl rfl hK
theorem zrU (ks ks' : List IT) (he : ks.length = ks'.length) (hb : ks.length ≤ 1000000)
  (hc : ∀ (i : Nat) (h : i < ks.length) (h' : i < ks'.length) (H : zaa) (K : AV → zaa → Prop), K (.int .i64 (IT.cmp ks[i] ks'[i])) H → ACalls tP zfd [.agg ks[i].cs, .agg ks'[i].cs] H K)
  (H : zaa) (K : AV → zaa → Prop) (hK : K (.int .i64 (IT.cmpL ks ks')) H) : ACalls tP zhX [.sl (IT.css ks) .none, .sl (IT.css ks') .none, .fn zfd []] H K := by
 refine ACalls.out (zJ6 fun hs => ?_)
 simp [zxD]
 refine zJ4 (Inv := fun q t13 H' => ∃ i : Nat, i ≤ ks.length ∧ q = ks.length - i ∧ t13 = .int .i64 i ∧ IT.cmpL (ks.drop i) (ks'.drop i) = IT.cmpL ks ks' ∧ H' = H) ks.length ?_ ?_
 ·intro _; exact ⟨0, by omega, by omega, rfl, by simp, rfl⟩
 ·rintro q t8 H' ⟨i, hi, rfl, rfl, ho, rfl⟩ hsc hlen hsF Kb hKb
  by_cases hlt : i < ks.length
  ·have hlt' : i < ks'.length := by omega
   have hle : ¬ ks'.length ≤ i := by omega
   rw [IT.cmpL_drop hlt hlt'] at ho
   simp [zp0, hlt, hlt', hle]
   refine hc i hlt hlt' _ _ ?_
   by_cases hz : IT.cmp ks[i] ks'[i] = 0
   ·rw [zrX hz] at ho
    simp [hz]
    rw [zas (by omega) (by omega)]
    refine hKb _ _ ⟨ks.length - (i + 1), by omega, Back.same (Nat.le_refl _) hs ?_ ⟨_, rfl, i + 1, by omega, rfl, by simp, ho, rfl⟩⟩
    simp [zkx, AV.sc, AV.scV, AV.scA, AV.scB]
   ·rw [zrW hz] at ho
    have hz : (IT.cmp ks[i] ks'[i] != 0) = true := by simpa using hz
    simp [hz]
    rw [← ho] at hK
    exact Out.same rfl hs rfl rfl hK
  ·have hnl : ¬ ks.length < ks'.length := by omega
   simp [zp0, hlt, hnl]
   obtain rfl : i = ks.length := by omega
   rw [List.drop_length, he, List.drop_length] at ho
   rw [← ho] at hK
   exact zfh hs rfl rfl hK
theorem zz0 : ∀ (m : Nat) (v w : IT), v.nodes ≤ m → v.nodes ≤ 1000000 → ∀ (H : zaa) (K : AV → zaa → Prop), K (.int .i64 (IT.cmp v w)) H → ACalls tP zfd [.agg v.cs, .agg w.cs] H K := by
 intro m
 induction m with
 | zero => intro v w h; have := v.nodes_pos; omega
 | succ m ih =>
  intro v w hv hb H K hK
  obtain ⟨n, ks⟩ := v
  obtain ⟨n', ks'⟩ := w
  have hnl : IT.nodesL ks + 1 ≤ 1000000 := by simpa [IT.nodes] using hb
  have hll := IT.len_le ks
  refine ACalls.out (zKa fun hs => ?_)
  simp [IT.cs, zxF]
  refine zaF _ (fun J => zrT _ _ _ _ ⟨rfl, rfl⟩) ?_
  refine zaF _ (fun J => zrT _ _ _ _ ⟨rfl, rfl⟩) ?_
  simp [zaz, zbq, zaD, List.replicate]
  refine zaF _ (fun J => zAF [icmp n n', icmp ks.length ks'.length] _ (by simp) _ _ ⟨rfl, rfl⟩) ?_
  by_cases hz : orL [icmp n n', icmp ks.length ks'.length] = 0
  ·have hz' := hz
   simp only [orL, zfS] at hz
   have hlen : ks.length = ks'.length := by have := (zmh _ _).mp hz.2.1; omega
   simp [hz']
   refine zrU ks ks' hlen (by omega) (fun i h h' H K hK => ?_) _ _ ?_
   ·have := IT.kid_lt (n := n) h
    exact ih _ _ (by omega) (by omega) H K hK
   ·refine Out.same rfl hs rfl rfl ?_
    simpa [IT.cmp, hz, cor] using hK
  ·have hzb : (orL [icmp n n', icmp ks.length ks'.length] != 0) = true := by simpa using hz
   simp [hzb]
   refine Out.same rfl hs rfl rfl ?_
   have e : IT.cmp (.mk n ks) (.mk n' ks') = orL [icmp n n', icmp ks.length ks'.length] := by
    simp only [IT.cmp, orL, cor] at hz ⊢
    split <;> (try split) <;> (try split) <;> simp_all
   rwa [e] at hK
end Go.Proofs.YtjkkonpjecoieaaGreat
namespace Go.Abs
open Go Go.RowKit
open Go.Sort (grow putRow putCells mapBlock onCells ahead SWO PermIn SortedIn Holds)
open Go.Proofs (sortWorld ltOf CmpLays1)
variable {P : Program} {B : Nat} {w : World} {G : Gh} {H : zaa}
theorem zzX {W w' : World} (hd : W.drawn ≤ w'.drawn) (hb : Below W.heap.size W w') : ∃ q os, w' = grow (W.drewN q) os := by
 refine ⟨w'.drawn - W.drawn, w'.heap.extract W.heap.size w'.heap.size, ?_⟩
 obtain ⟨h1, h2, h3, h4, h5⟩ := hb
 obtain ⟨heap, tape, drawn, os, output⟩ := W
 obtain ⟨heap', tape', drawn', os', output'⟩ := w'
 simp only at *
 subst h1 h2 h3
 have e1 : heap' = heap ++ heap'.extract heap.size heap'.size := by
  refine Array.ext_getElem? fun i => ?_
  by_cases hi : i < heap.size
  ·rw [Array.getElem?_append_left hi, h5 i hi]
  ·rw [Array.getElem?_append_right (by omega), Array.getElem?_extract]
   by_cases h : i < heap'.size
   ·rw [if_pos (by omega), show heap.size + (i - heap.size) = i by omega]
   ·rw [if_neg (by omega), Array.getElem?_eq_none (by omega)]
 have e2 : drawn' = drawn + (drawn' - drawn) := by omega
 simp only [grow, World.drewN]
 rw [← e1, ← e2]
theorem HRel.alone (h : HRel B w G H) (o : Obj) : Ext B w G (w.alloc o) G ∧ HRel B (w.alloc o) G H := by
 have he := Ext.alloc h o G.L (fun _ _ => rfl) []
 simp only [List.append_nil] at he
 refine ⟨he, h.keep he rfl (fun id gi b h1 h2 => ⟨zdf (h.lt id gi b h1 h2), rfl⟩) (fun b hb => ?_)⟩
 rw [zcS] at hb
 exact h.fresh b (by omega)
theorem HRel.grown : ∀ (os : List Obj) {w : World}, HRel B w G H → Ext B w G (grow w os.toArray) G ∧ HRel B (grow w os.toArray) G H
 | [], w, h => by
  have : grow w #[] = w := by simp [grow]
  rw [show ([] : List Obj).toArray = #[] from rfl, this]
  exact ⟨Ext.refl _ _ _, h⟩
 | o :: l, w, h => by
  obtain ⟨h1, h2⟩ := h.alone o
  obtain ⟨h3, h4⟩ := HRel.grown l h2
  have : grow w (o :: l).toArray = grow (w.alloc o) l.toArray := by
   rw [Go.Sort.alloc_eq_grow, Go.Sort.grow_grow]
   simp
  rw [this]
  exact ⟨h1.trans h3, h4⟩
theorem zAP {α : Type} [Inhabited α] (vals : α → Value) (d : Array α) (cur : Array Value) (h : d.size ≤ cur.size) : (putCells vals 0 d cur).toList.take d.size = d.toList.map vals := by
 refine List.ext_getElem (by simp [putCells]; omega) fun i h1 h2 => ?_
 simp at h2
 simp [putCells, h2]
theorem HRel.sorted {α : Type} [Inhabited α] (h : HRel B w G H) {id e n g cap : Nat} {cs cs' : List AV} (hH : H[id]? = some (.vec e 1 n cs)) (hμ : G.μ[id]? = some (.own (.slice (some ⟨g, 0, none⟩) n cap) 1 n))
  (vals : α → Value) (d : Array α) (hd : d.size = n) (hc : All2 (ARel w G) (d.toList.map vals) cs') (m : Nat) (os : Array Obj) :
  Ext B w G (sortWorld vals w g 0 m d os) G ∧ HRel B (sortWorld vals w g 0 m d os) G (H.set id (.vec e 1 n cs')) := by
 obtain ⟨_, _, ⟨xs, ⟨hxl, ho⟩, hxc⟩, hL0⟩ := h.ok id _ _ hH hμ
 rcases ho with ⟨h1, _⟩ | ⟨g', cap', cur, h1, hB, hw, hcap, hcm, hsz, htk⟩
 ·cases h1
 cases h1
 have h1 := h.storeV (cur' := putCells vals 0 d cur) (xs' := d.toList.map vals) hH hμ hw hB hcap hcm (by simp [putCells, hsz]) (by rw [Nat.mul_one, ← hd]; exact zAP vals d cur (by omega)) (by simp [hd]) hc
 obtain ⟨hE1, hR1⟩ := h1
 have hE2 := Ext.drew B (w.setRow g (putCells vals 0 d cur)) G ((w.setRow g (putCells vals 0 d cur)).drawn + m) (Nat.le_add_right _ _)
 have hR2 := hR1.drew ((w.setRow g (putCells vals 0 d cur)).drawn + m) (Nat.le_add_right _ _)
 obtain ⟨hE3, hR3⟩ := HRel.grown os.toList hR2
 have heq : sortWorld vals w g 0 m d os = grow { w.setRow g (putCells vals 0 d cur) with drawn := (w.setRow g (putCells vals 0 d cur)).drawn + m } os.toList.toArray := by
  have hh : w.heap.modify g (onCells (putCells vals 0 d)) = (w.setRow g (putCells vals 0 d cur)).heap := by
   unfold World.setRow
   refine Array.ext_getElem? fun i => ?_
   simp only [Array.getElem?_modify]
   by_cases hi : g = i
   ·subst hi
    simp [hw, onCells]
   ·simp [hi]
  have e : sortWorld vals w g 0 m d os = grow { w with heap := w.heap.modify g (onCells (putCells vals 0 d)), drawn := w.drawn + m } os := rfl
  rw [e, hh, Array.toArray_toList]
  rfl
 rw [heq]
 exact ⟨(hE1.trans hE2).trans hE3, hR3⟩
def Lx (w : World) (G : Gh) (blk b : Nat) : Nat := if b = blk then 0 else max (G.L b) (zbW w b)
def Rd (H : zaa) (id0 : Nat) (a : AV) (row : List (List AV)) : Prop :=
 a = .sl row .none ∨
 (∃ id off len cap size cs, a = .ms id off len cap ∧ H[id]? = some (.cells cs) ∧ off + len * size ≤ cs.length ∧ zaD ((cs.drop off).take (len * size)) = some row.flatten ∧ row.length = len ∧ (∀ c ∈ row, c.length = size) ∧ len ≤ cap) ∨
 (∃ id e size m cs, a = .ov id m ∧ id ≠ id0 ∧ H[id]? = some (.vec e size m cs) ∧ zaD cs = some row.flatten ∧ row.length = m ∧ ∀ c ∈ row, c.length = size)
theorem Rd.rel (h : HRel B w G H) {id e n g cap : Nat} {cs : List AV} (hH : H[id]? = some (.vec e 1 n cs)) (hμ : G.μ[id]? = some (.own (.slice (some ⟨g, 0, none⟩) n cap) 1 n)) {a : AV} {row : List (List AV)} (hr : Rd H id a row) {v : Value} (hv : ARel w G v a) :
  DRel w (Lx w G g) v (.sl row .none) := by
 obtain ⟨_, _, _, hL0⟩ := h.ok id _ _ hH hμ
 have hLg : G.L g = 0 := hL0 g rfl
 have hlev : ∀ b, G.L b ≤ Lx w G g b := fun b => by
  unfold Lx
  split
  ·rename_i hb; rw [hb, hLg]; exact Nat.le_refl _
  ·exact Nat.le_max_left _ _
 have hmono : ∀ {v : Value} {a : AV}, DRel w G.L v a → DRel w (Lx w G g) v a := fun h => h.mono hlev fun _ _ _ => rfl
 rcases hr with rfl | ⟨i2, off, len, cap2, size, cs2, rfl, hH2, hfit, hp, hlen, hsz, hcap⟩ | ⟨i2, e2, size, m, cs2, rfl, hne, hH2, hp, hlen, hsz⟩
 ·exact hmono hv
 ·obtain ⟨b, hb, rfl⟩ := hv
  obtain ⟨_, _, vs, _, hw, hcs⟩ := h.ok i2 _ _ hH2 hb
  have hbg : b ≠ g := fun hbg => by
   have := h.dist i2 id _ _ b hb hμ rfl (by rw [hbg]; rfl)
   subst this
   rw [hH] at hH2
   cases hH2
  subst hlen
  by_cases hes : row = []
  ·subst hes; exact .slE _ _
  ·have hl := hcs.length
   refine DRel.of_flat_at (zs := (vs.toList.drop off).take (row.length * size)) hsz hes hcap ?_ ((zc8 ((hcs.drop off).take _) hp).mono fun _ _ => hmono) ?_
   ·unfold Lx
    rw [if_neg hbg]
    refine Nat.le_trans ?_ (Nat.le_max_right _ _)
    simp [zbW, hw]
    simp at hl
    omega
   ·intro j u hj
    rw [List.getElem?_take] at hj
    split at hj
    ·simp only [World.cell?, hw]
     simpa using hj
    ·cases hj
 ·obtain ⟨⟨a, cap0, rfl, _⟩, v', s0, n', hμ2, _, heq⟩ := hv
  obtain ⟨rfl, rfl, ⟨xs, hown, hcs⟩, _⟩ := h.ok i2 _ _ hH2 hμ2
  obtain rfl := heq rfl
  subst hlen
  by_cases hes : row = []
  ·subst hes; exact .slE _ _
  ·have hown2 := hown
   obtain ⟨hl, hrow⟩ := hown2
   rcases hrow with ⟨h1, h2⟩ | ⟨g2, cap2, cur, h1, h2, h3, h4, h5, h6, h7⟩
   ·cases row <;> simp_all
   ·simp at h1
    obtain ⟨rfl, rfl⟩ := h1
    obtain ⟨_, _, _, hcell⟩ := zc7 hown
    have hbg : g2 ≠ g := fun hbg => hne (h.dist i2 id _ _ g2 hμ2 hμ rfl (by rw [hbg]; rfl))
    refine DRel.of_flat_at (zs := xs) hsz hes h4 ?_ ((zc8 hcs hp).mono fun _ _ => hmono) ?_
    ·unfold Lx
     rw [if_neg hbg]
     refine Nat.le_trans ?_ (Nat.le_max_right _ _)
     simp only [zbW, h3, h6, Nat.zero_add]
     exact Nat.mul_le_mul_right _ h4
    ·intro j u hj
     rw [Nat.zero_add, hcell j (by rw [← hl]; exact (List.getElem?_eq_some_iff.1 hj).1)]
     exact hj
theorem zse {α : Type} (d : Array α) {k : Nat} (h : d.size = k) : d.extract 0 k = d := by subst h; exact Array.extract_size
theorem zAu (n : Nat) : ((Array.ofFn fun i : Fin n => i).toList.map Fin.val) = List.range n :=
 List.ext_getElem (by simp) fun i h1 h2 => by simp only [List.getElem_map, Array.getElem_toList, Array.getElem_ofFn, List.getElem_range]
theorem zBv {α : Type} [Inhabited α] (vals : α → Value) (w : World) (g m : Nat) (d : Array α) (os : Array Obj) : w.heap.size ≤ (sortWorld vals w g 0 m d os).heap.size := by
 unfold sortWorld
 simp [grow]
theorem zBu {α : Type} [Inhabited α] (vals : α → Value) (w : World) (g m : Nat) (d : Array α) (os : Array Obj) (a : Addr) (h1 : a.block ≠ g) (h2 : a.block < w.heap.size) : (sortWorld vals w g 0 m d os).cell? a = w.cell? a := by
 unfold sortWorld
 rw [Go.Sort.cell?_grow _ _ _ (by rw [Go.Sort.size_putRow]; exact h2), Go.Sort.cell?_putRow_other vals _ g 0 d a (Or.inl h1)]
 rfl
theorem zBw (h : HRel B w G H) {n g f : Nat} {vals : Fin n → Value} [Inhabited (Fin n)] {rows : Nat → List (List AV)} {cf : Nat → Nat → Int} (hd : ∀ i : Fin n, DRel w (Lx w G g) (vals i) (.sl (rows i) .none))
  (hcmp : ∀ i j, i < n → j < n → ACalls P f [.sl (rows i) .none, .sl (rows j) .none] [] fun r _ => r = .int .i64 (cf i j)) : CmpLays1 P f #[] vals (fun i j => cf i j) g 0 n w := by
 intro m os dk hdk x y
 have hL : ∀ b, (sortWorld vals w g 0 m dk os).heap.size ≤ b → Lx w G g b = 0 := fun b hb => by
  have := zBv vals w g m dk os
  unfold Lx
  split
  ·rfl
  ·rw [h.fresh b (by omega)]
   simp only [zbW]
   rw [Array.getElem?_eq_none (by omega)]
   rfl
 have hmono : ∀ {v : Value} {a : AV}, DRel w (Lx w G g) v a → DRel (sortWorld vals w g 0 m dk os) (Lx w G g) v a := fun hx => hx.mono (fun _ => Nat.le_refl _) fun b off ho => by
  refine zBu vals w g m dk os ⟨b, off, none⟩ ?_ ?_
  ·intro hb
   have hb : b = g := hb
   simp [Lx, hb] at ho
  ·show b < w.heap.size
   refine Nat.lt_of_not_le fun hb => ?_
   unfold Lx at ho
   split at ho
   ·omega
   ·rw [h.fresh b (by omega)] at ho
    simp only [zbW] at ho
    rw [Array.getElem?_eq_none (by omega)] at ho
    simp at ho
 refine (hcmp x y x.2 y.2 (sortWorld vals w g 0 m dk os).heap.size (sortWorld vals w g 0 m dk os) ⟨Lx w G g, []⟩ #[vals x, vals y]
  ⟨rfl, fun _ _ _ h => by simp at h, fun _ _ _ _ _ h => by simp at h, hL, fun _ _ _ h => by simp at h, Nat.le_refl _⟩ ⟨hmono (hd x), hmono (hd y), trivial⟩).mono ?_
 rintro e w' ⟨v, r, H', G', rfl, h2, _, h4, rfl⟩
 have h4 : v = .int .i64 (cf x y) := h4
 subst h4
 exact ⟨rfl, zzX h2.dr h2.below⟩
theorem ACalls.sortFunc {ρ : Go.Shelf.Ren} (L : Go.Proofs.SlLaysF.n6 P ρ) {id e n f : Nat} {cs : List AV} (hH : H[id]? = some (.vec e 1 n cs)) (hn : n < 4611686018427387904) (rows : Nat → List (List AV)) (cf : Nat → Nat → Int)
  (hrd : ∀ i (h : i < cs.length), Rd H id cs[i] (rows i)) (eg : ∀ args w, (callFunc f args).run P w = .ok (.enter f args) w)
  (hcmp : ∀ i j, i < n → j < n → ACalls P f [.sl (rows i) .none, .sl (rows j) .none] [] fun r _ => r = .int .i64 (cf i j))
  (hO1 : ∀ i, i < n → ¬ cf i i < 0) (hO2 : ∀ i j k, i < n → j < n → k < n → cf i j < 0 → cf j k < 0 → cf i k < 0) (hO3 : ∀ i j k, i < n → j < n → k < n → ¬ cf i j < 0 → ¬ cf j k < 0 → ¬ cf i k < 0)
  {K : Kt} (hK : ∀ p : List Nat, p.Perm (List.range n) → (∀ a b (ha : a < p.length) (hb : b < p.length), a < b → ¬ cf p[b] p[a] < 0) → K (.tup []) (H.set id (.vec e 1 n (p.map fun i => cs.getD i .unk)))) :
  ACalls P (ρ.f 6) [.ov id n, .fn f []] H K := by
 rintro B w G ⟨vs⟩ hR hv
 match vs, hv with
 | [v1, v2], ⟨h1, h2, _⟩ =>
 obtain ⟨⟨a0, cap0, rfl, _⟩, v', s0, n', hμ, hle, heq⟩ := h1
 obtain ⟨ws, rfl, hws⟩ := h2
 have hws : ws = #[] := by
  cases hwl : ws.toList with
  | nil => exact Array.toList_inj.1 hwl
  | cons x l => rw [hwl] at hws; exact hws.elim
 subst hws
 obtain ⟨rfl, rfl, ⟨xs, hown, hcs⟩, hL0⟩ := hR.ok id _ _ hH hμ
 obtain rfl := heq rfl
 have hxl := hown.1
 have hcl := hcs.length
 rw [Nat.mul_one] at hxl
 match n, hxl, hH, hn, hcmp, hO1, hO2, hO3, hK, hμ, hown with
 | 0, hxl, hH, hn, hcmp, hO1, hO2, hO3, hK, hμ, hown =>
  refine (Go.Proofs.AnyF.slices_SortFunc_none (P := P) (ρ := ρ) { L with } a0 cap0 _ w).mono ?_
  rintro e' w' ⟨rfl, rfl⟩
  have hc : cs = [] := by
   cases cs with
   | nil => rfl
   | cons x l => simp at hcl; omega
  subst hc
  have := hK [] (by simp) (by simp)
  refine ⟨_, .tup [], _, G, rfl, Ext.refl _ _ _, ?_, ⟨#[], rfl, trivial⟩, this⟩
  have hs : H.set id (.vec e 1 0 []) = H := by
   refine List.ext_getElem? fun i => ?_
   rw [List.getElem?_set]
   split
   ·rename_i hi; subst hi; rw [if_pos (List.getElem?_eq_some_iff.1 hH).1, hH]
   ·rfl
  simpa [hs] using hR
 | n + 1, hxl, hH, hn, hcmp, hO1, hO2, hO3, hK, hμ, hown =>
  obtain ⟨_, ho⟩ := hown
  rcases ho with ⟨h1, h0⟩ | ⟨g, cap, cur, h1, hB, hw, hcap, hcm, hsz, htk⟩
  ·omega
  cases h1
  have hwl : g < w.heap.size := (Array.getElem?_eq_some_iff.1 hw).1
  let vals : Fin (n + 1) → Value := fun i => xs[i.1]'(by rw [hxl]; exact i.2)
  have hval : ∀ i : Fin (n + 1), ARel w G (vals i) (cs[i.1]'(by rw [← hcl, hxl]; exact i.2)) := fun i => by
   obtain ⟨x, hx, hr⟩ := All2.get hcs (List.getElem?_eq_getElem (by rw [← hcl, hxl]; exact i.2 : i.1 < cs.length))
   rw [List.getElem?_eq_getElem (by rw [hxl]; exact i.2)] at hx
   cases hx
   exact hr
  have hdr : ∀ i : Fin (n + 1), DRel w (Lx w G g) (vals i) (.sl (rows i) .none) := fun i => (hrd i.1 (by rw [← hcl, hxl]; exact i.2)).rel hR hH hμ (hval i)
  have hone : Go.Proofs.OneCell vals := fun i => by
   have := hdr i
   generalize vals i = v at *
   generalize rows i.1 = r at *
   cases this <;> rfl
  have hlays := zBw (P := P) (f := f) (n := n + 1) hR hdr hcmp
  let d : Array (Fin (n + 1)) := Array.ofFn fun i => i
  have hds : d.size = n + 1 := by simp [d]
  have hholds : Holds vals w g 0 d := by
   intro j hj
   rw [hds] at hj
   have hc : cur[j]? = some (vals ⟨j, hj⟩) := by
    have : xs[j]? = some (vals ⟨j, hj⟩) := List.getElem?_eq_getElem _
    rw [← htk, Nat.mul_one, List.getElem?_take, if_pos hj] at this
    simpa using this
   refine ⟨?_, ?_⟩
   ·rw [Nat.zero_add]
    have hdj : d[j]! = ⟨j, hj⟩ := by
     rw [getElem!_pos d j (by rw [hds]; exact hj)]
     simp [d]
    rw [hdj]
    simp [World.cell?, hw, hc]
   ·simp [World.frozen?, hw]
  have hO : SWO (ltOf fun i j : Fin (n + 1) => cf i j) := ⟨fun x => by simp only [ltOf, decide_eq_false_iff_not]; exact hO1 x x.2,
   fun x y z h1 h2 => by simp only [ltOf, decide_eq_true_eq] at *; exact hO2 x y z x.2 y.2 z.2 h1 h2,
   fun x y z h1 h2 => by simp only [ltOf, decide_eq_false_iff_not] at *; exact hO3 x y z x.2 y.2 z.2 h1 h2⟩
  have hmain := Go.Proofs.Any.slices_SortFunc (P := P) (ρ := ρ) L vals hone (fun i j => cf i j) hO f #[] g 0 cap0 d w eg (by rw [hds]; exact hlays) hholds hwl (by rw [hds]; exact hn)
  rw [hds] at hmain
  refine hmain.mono ?_
  rintro e' w' ⟨rfl, d', m, os, hp, hsrt, rfl⟩
  obtain ⟨hp1, _, hp3⟩ := hp
  have hds' : d'.size = n + 1 := hp1.trans hds
  have hpm : (d'.toList.map Fin.val).Perm (List.range (n + 1)) := by
   have h1 : d'.toList.Perm d.toList := by
    have e1 : (d'.extract 0 (n + 1)) = d' := zse d' hds'
    have e2 : (d.extract 0 (n + 1)) = d := zse d hds
    rwa [e1, e2] at hp3
   exact (h1.map Fin.val).trans (List.Perm.of_eq (zAu _))
  have hS := hR.sorted hH hμ vals d' hds' (cs' := (d'.toList.map Fin.val).map fun i => cs.getD i .unk) (All2.of_get (by simp) fun i x y hx hy => by
   simp only [List.map_map, List.getElem?_map, Option.map_eq_some_iff] at hx hy
   obtain ⟨k, hk, rfl⟩ := hx
   obtain ⟨k', hk', rfl⟩ := hy
   rw [hk] at hk'
   cases hk'
   have hlt : k.1 < cs.length := by rw [← hcl, hxl]; exact k.2
   have := hval k
   simp only [Function.comp_def, List.getD_eq_getElem?_getD, List.getElem?_eq_getElem hlt, Option.getD_some]
   exact this) m os
  refine ⟨_, .tup [], _, G, rfl, hS.1, hS.2, ⟨#[], rfl, trivial⟩, hK _ hpm fun a b ha hb hab => ?_⟩
  simp only [List.length_map, Array.length_toList] at ha hb
  have := hsrt a b (Nat.zero_le _) hab (by omega)
  rw [getElem!_pos d' a ha, getElem!_pos d' b hb] at this
  simp only [ltOf, decide_eq_false_iff_not] at this
  simpa using this
end Go.Abs
