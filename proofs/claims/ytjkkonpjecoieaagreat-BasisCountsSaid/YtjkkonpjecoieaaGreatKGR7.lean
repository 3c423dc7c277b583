import Derived.Test.YtjkkonpjecoieaaGreatKI5
import Derived.Test.YtjkkonpjecoieaaGreatKV5
import Derived.Test.YtjkkonpjecoieaaGreatAbsY
import Derived.Test.YtjkkonpjecoieaaGreatKNum
import Derived.Test.YtjkkonpjecoieaaGreatProg
import Derived.KernelRfl
import Derived.Test.YtjkkonpjecoieaaGreatIT
import Derived.Test.YtjkkonpjecoieaaGreatKY11
import Derived.Test.YtjkkonpjecoieaaGreatAbsQ1
import Derived.Test.YtjkkonpjecoieaaGreatKGB7
set_option linter.unusedSimpArgs false
set_option linter.unusedVariables false
namespace Go.Proofs.YtjkkonpjecoieaaGreat
open Go Go.Abs
set_option maxRecDepth 8000
theorem it2 (v : IT) : ∃ a b, v.cs = [a, b] ∧ a.known = true ∧ b.known = true := by
 obtain ⟨n, ks⟩ := v; exact ⟨_, _, rfl, rfl, rfl⟩
theorem zqg {data : List Dat} (h8 : ∀ D ∈ data, D.cons.length ≤ 8) (v : IT) (t : VT) (h : (zbW data v t).2 = true) : 0 ≤ (zbW data v t).1 ∧ (zbW data v t).1 ≤ 6 := by
 obtain ⟨e1, e2, e3⟩ := (zgb h8 v t).1 h
 omega
theorem zqf {data : List Dat} (h8 : ∀ D ∈ data, D.cons.length ≤ 8) : ∀ (vs : List IT) (ts : List VT) (a : Int), 0 ≤ a → 0 ≤ (zbu data vs ts a).1 ∧ (zbu data vs ts a).1 ≤ a + 6 * vs.length
 | [], ts, a, h => by simp [zbu]; omega
 | v :: vs, [], a, h => by simp [zbu]; omega
 | v :: vs, t :: ts, a, h => by
  simp only [zbu]
  split
  ·rename_i hb
   have := zqg h8 v t hb
   have := zqf h8 vs ts (a + (zbW data v t).1) (by omega)
   simp only [List.length_cons]
   omega
  ·simp; omega
theorem zhc {x : VT} : ∀ {l : List VT} {bs : List Bool}, x ∈ pick l bs → x ∈ l
 | [], _, h => by simp [pick] at h
 | _ :: _, [], h => by simp [pick] at h
 | c :: l, b :: bs, h => by
  cases b with
  | true => simp [pick] at h; exact List.mem_cons_of_mem _ (zhc h)
  | false =>
   simp [pick] at h
   rcases h with rfl | h
   ·exact List.mem_cons_self
   ·exact List.mem_cons_of_mem _ (zhc h)
theorem zxI {data : List Dat} {t : VT} {c : Int} {ps : List VT} (h : zb3 data t c = some ps) : ∀ x ∈ ps, x.nodes ≤ 1000 := by
 unfold zb3 at h
 obtain ⟨k, n, ks⟩ := t
 cases hf : za7 data (.mk k n ks) c with
 | none => rw [hf] at h; cases h
 | some l =>
  rw [hf] at h
  obtain ⟨_, _, _, _, _, _, _, h2⟩ := zff hf
  simp at h
  subst h
  exact fun x hx => by have := h2 x (zhc hx); omega
theorem zxh (data : List Dat) (n : Int) (ks : List IT) (tk tn : Int) (tks : List VT) : zbW data (.mk n ks) (.mk tk tn tks) =
  if tk = 6 then (if n = 0 then (if tks.length = ks.length then zbu data ks tks 0 else (0, false)) else (0, false))
  else if tk = 7 then (n, decide (0 ≤ n) && decide (n ≤ 6) && decide (ks.length = 0))
  else if tk = 5 then (if n = 0 then zcj data ks (.mk tk tn tks) 0 else (0, false))
  else (0, decide (n = 0) && decide (ks.length = 0)) := by
 rw [zbW]
 rfl
def zcf (data : List Dat) (vs : List IT) (ts : List VT) : Int × Bool := if ts.length = vs.length then zbu data vs ts 0 else (0, false)
def zf7 (data : List Dat) (v : IT) : Prop := ∀ t : VT, t.nodes ≤ 1000 → ∀ (H : zaa) (K : Kt), K (.tup [.int .i64 (zbW data v t).1, .bool (zbW data v t).2]) H → ACalls tP zgC [.sl (data.map Dat.cs) .none, .agg t.cs, .agg v.cs] H K
theorem zco {H : zaa} {K : Kt} {a : Int} {b : Bool} (hs : HSc H) (h : K (.tup [.int .i64 a, .bool b]) H) (J : zaa) : Out H.length K (.tup [.int .i64 a, .bool b]) (H ++ J) := Out.tup hs h ⟨zaQ rfl rfl, zaQ rfl rfl, trivial⟩
theorem ztG {data : List Dat} (h8 : ∀ D ∈ data, D.cons.length ≤ 8) (vs : List IT) (hv : vs.length ≤ 1000) (hel : ∀ v ∈ vs, zf7 data v) (ts : List VT) (ht : ∀ t ∈ ts, t.nodes ≤ 1000) (H : zaa) (K : Kt)
  (hK : K (.tup [.int .i64 (zcf data vs ts).1, .bool (zcf data vs ts).2]) H) : ACalls tP zgJ [.sl (data.map Dat.cs) .none, .sl (VT.css ts) .none, .sl (IT.css vs) .none] H K := by
 refine ACalls.out (zDo fun hs => ?_)
 have h0 : ∀ b J, zcf data vs ts = (0, b) → Out H.length K (.tup [.int .i64 0, .bool b]) (H ++ J) := fun b J h => by rw [h] at hK; exact zco hs hK J
 by_cases hl : ts.length = vs.length
 case neg =>
  have : ((ts.length : Int) != (vs.length : Int)) = true := by simp [bne]; omega
  simp [zm3, this]
  refine ⟨⟨rfl, rfl⟩, ?_⟩
  simpa using h0 false [] (by simp [zcf, hl])
 have htot : zcf data vs ts = zbu data vs ts 0 := by simp [zcf, hl]
 rw [htot] at hK h0
 simp [zm3, hl]
 refine zDm (Inv := fun q t8 t20 H' => ∃ (i : Nat) (a : Int), i ≤ vs.length ∧ q = vs.length - i ∧ t20 = .int .i64 i ∧ t8 = .int .i64 a ∧ 0 ≤ a ∧ a ≤ 6 * i ∧ zbu data (vs.drop i) (ts.drop i) a = zbu data vs ts 0 ∧ H' = H) vs.length ?_ ?_
 ·intro _; exact ⟨0, 0, by omega, by omega, rfl, rfl, by omega, by omega, by simp, rfl⟩
 ·rintro q t8 t20 H' ⟨i, a, hi, rfl, rfl, rfl, ha0, ha6, ho, rfl⟩ hsc' hlen hsF Kb hKb
  by_cases hlt : i < vs.length
  ·have hlt' : i < ts.length := by omega
   rw [List.drop_eq_getElem_cons hlt, List.drop_eq_getElem_cons hlt'] at ho
   simp only [zbu] at ho
   obtain ⟨x, y, z, hvx, hx, hy, hz⟩ := zaE ts[i]
   obtain ⟨x2, y2, hvx2, hx2, hy2⟩ := it2 vs[i]
   have hti := ht _ (List.getElem_mem hlt')
   have hvi := hel _ (List.getElem_mem hlt)
   simp [zm4, hl, hlt, hlt', hvx, hvx2, Nat.add_assoc]
   refine ⟨⟨hx, hy, hz⟩, ?_⟩
   rw [← hvx, ← hvx2]
   refine zbq (.tup [.int .i64 (zbW data vs[i] ts[i]).1, .bool (zbW data vs[i] ts[i]).2]) (fun J => hvi _ hti _ _ ⟨rfl, rfl⟩) ?_
   cases hb : (zbW data vs[i] ts[i]).2 with
   | false =>
    rw [hb] at ho
    simp at ho
    simp
    exact ⟨⟨rfl, rfl⟩, h0 _ _ ho.symm⟩
   | true =>
    rw [hb] at ho
    simp at ho
    have hbd := zqg h8 _ _ hb
    simp
    rw [zaq (by omega) (by omega), zaq (by omega) (by omega)]
    refine hKb _ _ ⟨vs.length - (i + 1), by omega, Back.at (J := [_]) rfl (Nat.le_refl _) hs ?_ ⟨_, _, rfl, i + 1, _, by omega, rfl, by simp, rfl, by omega, by simp; omega, ho, rfl⟩⟩
    simp [ziy, AV.sc, AV.scV, AV.scA, AV.scB]
  ·obtain rfl : i = vs.length := by omega
   rw [List.drop_length] at ho
   simp only [zbu] at ho
   rw [← ho] at hK
   simp [zm4, hl]
   refine ⟨⟨rfl, rfl⟩, ?_⟩
   have := zco hs hK []
   simpa using this
theorem zAV {data : List Dat} (hk : zbp data) (h8 : ∀ D ∈ data, D.cons.length ≤ 8) : ∀ (m : Nat) (v : IT), v.nodes ≤ m → v.nodes ≤ 900 → zf7 data v := by
 intro m
 induction m with
 | zero => intro v h; have := v.nodes_pos; omega
 | succ m ih =>
  intro v hv hb t ht H K hK
  obtain ⟨n, ks⟩ := v
  obtain ⟨tk, tn, tks⟩ := t
  have hnl : IT.nodesL ks + 1 ≤ 900 := by simpa [IT.nodes] using hb
  have hll := IT.len_le ks
  have hkids : ∀ v ∈ ks, zf7 data v := fun v hvm => by
   obtain ⟨i, hi, rfl⟩ := List.getElem_of_mem hvm
   have := IT.kid_lt (n := n) hi
   exact ih _ (by omega) (by omega)
  refine ACalls.out (zAT fun hs => ?_)
  rw [zxh] at hK
  by_cases h6 : tk = 6
  ·subst h6
   by_cases hn : n = 0
   ·subst hn
    simp [zcI, VT.cs, IT.cs, Nat.add_assoc]
    have htk : ∀ t ∈ tks, t.nodes ≤ 1000 := fun t htm => by
     obtain ⟨i, hi, rfl⟩ := List.getElem_of_mem htm
     have := VT.kid_lt (k := 6) (n := tn) hi
     omega
    refine ztG h8 ks (by omega) hkids tks htk _ _ ?_
    simp
    refine ⟨⟨rfl, rfl⟩, ?_⟩
    exact zco hs (by simpa [zcf] using hK) _
   ·have : (n != 0) = true := by simp [bne, hn]
    simp [zcI, VT.cs, IT.cs, Nat.add_assoc, this]
    simp [hn] at hK
    exact ⟨⟨rfl, rfl⟩, zco hs hK _⟩
  have h6' : (tk == 6) = false := by simp [h6]
  rw [if_neg h6] at hK
  by_cases h7 : tk = 7
  ·subst h7
   simp only [if_true] at hK
   by_cases g1 : 0 ≤ n
   ·by_cases g2 : n ≤ 6
    ·by_cases g3 : ks.length = 0
     ·simp [zcI, VT.cs, IT.cs, Nat.add_assoc, g1, g2, g3]
      simp [g1, g2, g3] at hK
      exact ⟨⟨rfl, rfl⟩, zco hs hK _⟩
     ·have g3' : ((ks.length : Int) == 0) = false := by simp; exact fun h => g3 (by simp [h])
      simp [zcI, VT.cs, IT.cs, Nat.add_assoc, g1, g2, g3, g3']
      simp [g1, g2, g3] at hK
      exact ⟨⟨rfl, rfl⟩, zco hs hK _⟩
    ·simp [zcI, VT.cs, IT.cs, Nat.add_assoc, g1, g2]
     simp [g1, g2] at hK
     exact ⟨⟨rfl, rfl⟩, zco hs hK _⟩
   ·simp [zcI, VT.cs, IT.cs, Nat.add_assoc, g1]
    simp [g1] at hK
    exact ⟨⟨rfl, rfl⟩, zco hs hK _⟩
  have h7' : (tk == 7) = false := by simp [h7]
  rw [if_neg h7] at hK
  by_cases h5 : tk = 5
  case neg =>
   have h5' : (tk == 5) = false := by simp [h5]
   rw [if_neg h5] at hK
   by_cases g1 : n = 0
   ·by_cases g2 : ks.length = 0
    ·simp [zcI, VT.cs, IT.cs, Nat.add_assoc, h6', h7', h5', g1, g2, zae]
     simp [g1, g2] at hK
     exact ⟨⟨rfl, rfl⟩, zco hs hK _⟩
    ·have g2' : ((ks.length : Int) == 0) = false := by simp; exact fun h => g2 (by simp [h])
     simp [zcI, VT.cs, IT.cs, Nat.add_assoc, h6', h7', h5', g1, g2, g2', zae]
     simp [g1, g2] at hK
     exact ⟨⟨rfl, rfl⟩, zco hs hK _⟩
   ·have g1' : (n == 0) = false := by simp [g1]
    simp [zcI, VT.cs, IT.cs, Nat.add_assoc, h6', h7', h5', g1, g1', zae]
    simp [g1] at hK
    exact ⟨⟨rfl, rfl⟩, zco hs hK _⟩
  subst h5
  simp only [if_true] at hK
  by_cases hn : n = 0
  case neg =>
   have : (n != 0) = true := by simp [bne, hn]
   simp [zcI, VT.cs, IT.cs, Nat.add_assoc, this]
   simp [hn] at hK
   exact ⟨⟨rfl, rfl⟩, zco hs hK _⟩
  subst hn
  simp only [if_true] at hK
  simp [zcI, VT.cs, IT.cs, Nat.add_assoc]
  have hT : (VT.mk 5 tn tks).nodes ≤ 1000 := ht
  have hT' : (VT.mk 5 tn tks).cs = [.int .i64 5, .int .i64 tn, .sl (VT.css tks) .none] := rfl
  generalize hTg : VT.mk 5 tn tks = T at *
  have hsc2 : HSc (H ++ [.cells [.int .i64 5, .int .i64 tn, .sl (VT.css tks) .none], .cells [.int .i64 0, .sl (IT.css ks) .none]]) := hs.append (by simp [AB.sc, AV.scA, AV.scB])
  have hF : zcj data ks T 0 = (0, false) → ∀ J, Out H.length K (.tup [.int .i64 0, .bool false]) (H ++ J) := fun h J => zco hs (by rw [h] at hK; exact hK) J
  refine zAR (Inv := fun q t8 t55 H' => ∃ (i : Nat) (a : Int), i ≤ ks.length ∧ q = ks.length - i ∧ t55 = .int .i64 i ∧ t8 = .int .i64 a ∧ 0 ≤ a ∧ a ≤ 6 ∧ zcj data (ks.drop i) T a = zcj data ks T 0 ∧
   H' = H ++ [.cells [.int .i64 5, .int .i64 tn, .sl (VT.css tks) .none], .cells [.int .i64 0, .sl (IT.css ks) .none]]) ks.length ?_ ?_
  ·intro _; exact ⟨0, 0, by omega, by omega, rfl, rfl, by omega, by omega, by simp, rfl⟩
  ·rintro q t8 t55 H' ⟨i, a, hi, rfl, rfl, rfl, ha0, ha6, ho, rfl⟩ hsc' hlen hsF Kb hKb
   by_cases hlt : i < ks.length
   ·rw [List.drop_eq_getElem_cons hlt] at ho
    have hkn := IT.kid_lt (n := 0) hlt
    obtain ⟨c, es, hx⟩ : ∃ c es, ks[i] = IT.mk c es := by cases h : ks[i] with | mk a b => exact ⟨a, b, rfl⟩
    rw [hx] at ho hkn
    have hesl := IT.len_le es
    have hen : IT.nodesL es + 1 ≤ 900 := by
     have : (IT.mk c es).nodes = IT.nodesL es + 1 := by simp [IT.nodes]
     have : (IT.mk 0 ks).nodes = IT.nodesL ks + 1 := by simp [IT.nodes]
     omega
    have hes : ∀ v ∈ es, zf7 data v := fun v hvm => by
     obtain ⟨j, hj, rfl⟩ := List.getElem_of_mem hvm
     have := IT.kid_lt (n := c) hj
     exact ih _ (by omega) (by omega)
    simp only [zcj] at ho
    simp [zmo, hlt, hx, IT.cs, Nat.add_assoc]
    rw [← hT']
    refine zDw data hk T hT c _ _ ?_
    cases hp : zb3 data T c with
    | none =>
     rw [hp] at ho
     simp only at ho
     simp [zcL]
     exact ⟨⟨rfl, rfl⟩, hF ho.symm _⟩
    | some ps =>
     rw [hp] at ho
     simp only at ho
     simp [zcL]
     have hpn : ∀ t ∈ ps, t.nodes ≤ 1000 := zxI hp
     refine ztG h8 es (by omega) hes ps hpn _ _ ?_
     have htb : 0 ≤ (zcf data es ps).1 ∧ (zcf data es ps).1 ≤ 6 * es.length := by
      unfold zcf
      split
      ·have := zqf h8 es ps 0 (by omega); omega
      ·simp; omega
     have ho' : (if (zcf data es ps).2 && decide (a + (1 + (zcf data es ps).1) ≤ 6) then zcj data (ks.drop (i + 1)) T (a + (1 + (zcf data es ps).1)) else (0, false)) = zcj data ks T 0 := by
      rw [← ho]
      unfold zcf
      by_cases hl : ps.length = es.length
      ·simp only [hl, if_true]
      ·simp only [hl, if_false]; rfl
     generalize zcf data es ps = w at *
     obtain ⟨w1, w2⟩ := w
     simp only at htb ho'
     simp
     have q1 : IntKind.i64.wrap (1 + w1) = 1 + w1 := zaq (by omega) (by omega)
     have q2 : IntKind.i64.wrap (a + (1 + w1)) = a + (1 + w1) := zaq (by omega) (by omega)
     rw [q1, q2]
     cases w2 with
     | false =>
      simp at ho' ⊢
      exact ⟨⟨rfl, rfl⟩, hF ho'.symm _⟩
     | true =>
      by_cases hh : a + (1 + w1) ≤ 6
      ·have hh' : ¬ (6 : Int) < a + (1 + w1) := by omega
       simp [hh] at ho'
       simp [hh']
       rw [zaq (by omega) (by omega)]
       refine hKb _ _ ⟨ks.length - (i + 1), by omega, Back.at (J := [.cells [.int .i64 c, .sl (IT.css es) .none]]) (H2 := H ++ [.cells [.int .i64 5, .int .i64 tn, .sl (VT.css tks) .none], .cells [.int .i64 0, .sl (IT.css ks) .none]]) (by simp [hT']) (by simp) hsc2 ?_ ⟨_, _, rfl, i + 1, _, by omega, rfl, by simp, rfl, by omega, by omega, ho', rfl⟩⟩
       simp [zhV, AV.sc, AV.scV, AV.scA, AV.scB]
      ·have hh' : (6 : Int) < a + (1 + w1) := by omega
       simp [hh] at ho'
       simp [hh']
       exact ⟨⟨rfl, rfl⟩, hF ho'.symm _⟩
   ·obtain rfl : i = ks.length := by omega
    rw [List.drop_length] at ho
    simp only [zcj] at ho
    rw [← ho] at hK
    simp [zmo]
    exact ⟨⟨rfl, rfl⟩, zco hs hK _⟩
theorem zpE {data : List Dat} : ∀ {l : List Dat} {d : Nat}, zci data l d = true → ∀ D ∈ l, D.cons.length ≤ 8
 | [], _, _, D, h => by cases h
 | E :: l, d, h, D, hD => by
  simp only [zci, Bool.and_eq_true] at h
  rcases List.mem_cons.1 hD with rfl | hD
  ·have := h.1
   simp only [zcb, Bool.and_eq_true, decide_eq_true_eq] at this
   exact this.1.2
  ·exact zpE h.2 D hD
theorem zwV {data : List Dat} {t : VT} (h : zbf data t = true) : ∀ D ∈ data, D.cons.length ≤ 8 := by
 simp only [zbf, za4, Bool.and_eq_true] at h
 exact zpE h.1.1.1.2
def zdT (data : List Dat) (t : VT) (v : IT) : Int := if zbf data t then rdV data v t else -1
theorem zoh (data : List Dat) (hk : zbp data) (t : VT) (ht : t.nodes ≤ 1000000) (H : zaa) (K : Kt) (hK : K (.bool (zbf data t)) H) : ACalls tP zg0 [.sl (data.map Dat.cs) .none, .agg t.cs] H K := by
 refine ACalls.out (zHT fun hs => ?_)
 obtain ⟨x, y, z, hvx, hx, hy, hz⟩ := zaE t
 simp [zva, zav, zaO, hvx, Nat.add_assoc]
 refine zsr data (zp8 hk) (by have := hk.1; omega) ?_
 unfold zbf at hK
 cases hd : za4 data with
 | false =>
  rw [hd] at hK
  simp
  exact Out.bool rfl (Nat.le_refl _) hs hK
 | true =>
  rw [hd, Bool.true_and] at hK
  simp
  rw [← hvx]
  refine zmd data 0 t (by omega) _ _ ?_
  exact Out.bool rfl (Nat.le_refl _) hs hK
theorem zuz (data : List Dat) (hk : zbp data) (t : VT) (ht : t.nodes ≤ 1000000) (H : zaa) (K : Kt) (hK : K (.bool (zbf data t)) H) : ACalls tP zll [.sl (data.map Dat.cs) .none, .agg t.cs] H K := by
 refine ACalls.out (zFY fun hs => ?_)
 obtain ⟨x, y, z, hvx, hx, hy, hz⟩ := zaE t
 simp [zuy, hvx, Nat.add_assoc]
 refine zuK data hk _ _ fun b hb => ?_
 have hbd : b = za4 data := by rw [Bool.eq_iff_iff, hb, zpD]
 subst hbd
 unfold zbf at hK
 cases hd : za4 data with
 | false =>
  rw [hd] at hK
  simp
  exact Out.bool rfl (Nat.le_refl _) hs hK
 | true =>
  rw [hd, Bool.true_and] at hK
  simp
  rw [← hvx]
  refine znR data (by have := hk.1; omega) 0 t (by omega) _ _ ?_
  exact Out.bool rfl (Nat.le_refl _) hs hK
theorem zJi (data : List Dat) (hk : zbp data) (t : VT) (ht : t.nodes ≤ 1000) (v : IT) (hv : v.nodes ≤ 900) (H : zaa) (K : Kt) (hK : K (.int .i64 (zdT data t v)) H) : ACalls tP zlx [.sl (data.map Dat.cs) .none, .agg t.cs, .agg v.cs] H K := by
 refine ACalls.out (zJh fun hs => ?_)
 have hO : ∀ r J, zdT data t v = r → Out H.length K (.int .i64 r) (H ++ J) := fun r J h => by subst h; exact Out.int rfl (Nat.le_refl _) hs hK
 obtain ⟨x, y, z, hvx, hx, hy, hz⟩ := zaE t
 obtain ⟨x2, y2, hvx2, hx2, hy2⟩ := it2 v
 simp [zvD, hvx, hvx2, Nat.add_assoc]
 rw [← hvx]
 refine zoh data hk t (by omega) _ _ ?_
 cases hf : zbf data t with
 | false =>
  simp
  exact hO _ _ (by simp [zdT, hf])
 | true =>
  have h8 := zwV hf
  obtain ⟨g1, g2⟩ := zgb h8 v t
  simp [Nat.add_assoc]
  rw [← hvx2]
  refine zAV hk h8 _ v (Nat.le_refl _) hv t ht _ _ ?_
  cases hb : (zbW data v t).2 with
  | false =>
   simp
   exact hO _ _ (by simp [zdT, hf, g2 hb])
  | true =>
   simp
   exact hO _ _ (by simp [zdT, hf, (g1 hb).1])
theorem zGG (data : List Dat) (hk : zbp data) (t : VT) (ht : t.nodes ≤ 1000) (v : IT) (hv : v.nodes ≤ 900) (H : zaa) (K : Kt) (hK : K (.bool (decide (0 ≤ zdT data t v))) H) : ACalls tP zlo [.sl (data.map Dat.cs) .none, .agg t.cs, .agg v.cs] H K := by
 refine ACalls.out (zGF fun hs => ?_)
 obtain ⟨x, y, z, hvx, hx, hy, hz⟩ := zaE t
 obtain ⟨x2, y2, hvx2, hx2, hy2⟩ := it2 v
 simp [zuO, hvx, hvx2, Nat.add_assoc]
 rw [← hvx, ← hvx2]
 refine zJi data hk t ht v hv _ _ ?_
 simp
 exact Out.bool rfl (Nat.le_refl _) hs (by simpa using hK)
end Go.Proofs.YtjkkonpjecoieaaGreat
namespace Go.Abs
open Go Go.RowKit
variable {P : Program}
end Go.Abs
namespace Go.Proofs.YtjkkonpjecoieaaGreat
open Go Go.Abs
set_option maxRecDepth 100000
end Go.Proofs.YtjkkonpjecoieaaGreat
namespace Go.Proofs.YtjkkonpjecoieaaGreat
open Go Go.Abs
set_option maxRecDepth 100000
def zjA : Nat → List Bool
 | 4 => rl false [2,2,6,3,12]
 | _ => []
noncomputable def zoj : Code := Tryz.f74.body.getD .skip
noncomputable def zHZ : List ResultVar := Tryz.f74.results.toList
def zjB (t2 t3 t10 t11 t12 : AV) : List AV := ux 2 (t2 :: t3 :: ux 6 (t10 :: t11 :: t12 :: ux 12 []))
def zHX : List Bool := zjA 4
noncomputable def zHV : Code := zar [1, 1, 0, 1, 0, 1, 0, 0] zoj
def zHU (K : Kt) : AExit → List AV → zaa → Prop := zas tP zjA [1, 1, 0, 1, 0, 1, 0] zoj (zaw tP zHZ K)
def zjD (t2 t3 t10 t11 t12 : AV) (H : zaa) (K : Kt) : Prop := ALoop tP zHV (zHU K) (zjB t2 t3 t10 t11 t12) H
def zjC (t2 t3 : AV) (H : zaa) (K : Kt) : Prop :=
 zad true 2 t3 H fun t24 =>
 zak 2 t2 t24 H fun H =>
 zad true 2 t2 H fun r0 =>
 K r0 H
def zoi (t2 t3 t10 t11 t12 : AV) (H : zaa) (K : Kt) (Kb4 : Lt) : Prop :=
 zac .lss false t12 t11 fun t13 =>
 zag t13
 (zaj 3 t10 t12 fun t14 =>
 zad true 3 t14 H fun t15 =>
 zau [(.int .i64 0), (.int .i64 0), .snil] H fun t5 H =>
 zak 3 t5 t15 H fun H =>
 zae H (fun K' => zaf 1 t3 (K' · H)) fun t16 =>
 zae H (fun K' => zan false 1 t16 H (K' · H)) fun t17 =>
 zae H (fun K' => zan true 3 t5 H (K' · H)) fun t18 =>
 za6 H (fun H K' => ACalls tP zg1 [t18] H K') fun t19 =>
 zae H (fun K' => zaB 2 [(.int .i64 0), .snil] 1 [(0, t19)] (K' · H)) fun t20 =>
 zaA zdr 2 32 t17 t20 H fun t21 H =>
 zae H (fun K' => zaf 1 t3 (K' · H)) fun t22 =>
 zak 1 t22 t21 H fun H =>
 zac .add false t12 (.int .i64 1) fun t23 =>
 Kb4 (zjB t2 t3 t10 t11 t23) H)
 (zjC t2 t3 H K)
def zvb (t0 : AV) (H : zaa) (K : Kt) : Prop :=
 zap t0 H fun t1 H =>
 zau [(.int .i64 0), .snil] H fun t2 H =>
 zau [(.int .i64 0), .snil] H fun t3 H =>
 zaf 0 t1 fun t6 =>
 zad false 1 t6 H fun t7 =>
 zac .eql false t7 (.int .i64 6) fun t8 =>
 zag t8
 (zaf 2 t1 fun t9 =>
 zad false 1 t9 H fun t10 =>
 zah 1 t10 fun t11 =>
 zjD t2 t3 t10 t11 (.int .i64 0) H K)
 (zjC t2 t3 H K)
theorem zHW {t2 t3 t10 t11 t12 : AV} {H : zaa} {K : Kt} (Inv : Nat → AV → zaa → Prop) (n : Nat) (h0 : HSc H → Inv n t12 H)
  (round : Rd1 (fun t12 => zjB t2 t3 t10 t11 t12) (fun t12 => fun H Kb4 => zoi t2 t3 t10 t11 t12 H K Kb4) H Inv) : zjD t2 t3 t10 t11 t12 H K :=
 lp1 (M := zjA) zHX t12 (by kernel_rfl) Inv n h0 round
theorem zHY {t0 : AV} {H : zaa} {K : Kt} (h : HSc H → zvb t0 H K) : ACalls tP zg1 [t0] H K :=
 zam (M := zjA) Tryz.func74 (c := zoj) (by kernel_rfl) (fun hs => Eq.mpr (by kernel_rfl) (h hs))
def zFI (_ : Nat) : List Bool := []
noncomputable def zFJ : Code := Tryz.f31.body.getD .skip
def znF (t0 t1 : AV) (H : zaa) (K : Kt) : Prop :=
 zap t1 H fun t3 H =>
 zau [(.int .i64 0), .snil] H fun t4 H =>
 zad true 3 t3 H fun t7 =>
 ACalls tP zg0 [t0, t7] H fun t8 H =>
 aUn .not t8 fun t9 =>
 zag t9
 (zav [(.int .i64 0), .snil] [(0, 1), (1, 1)] [] fun t10 =>
 zak 2 t4 t10 H fun H =>
 zad true 2 t4 H fun r0 =>
 zay [r0, (.bool false)] (K · H))
 (zad true 3 t3 H fun t11 =>
 ACalls tP zg1 [t11] H fun t12 H =>
 zak 2 t4 t12 H fun H =>
 zad true 2 t4 H fun r0 =>
 zay [r0, (.bool true)] (K · H))
theorem zuu {t0 t1 : AV} {H : zaa} {K : Kt} (h : HSc H → znF t0 t1 H K) : ACalls tP zgS [t0, t1] H K :=
 zam (M := zFI) Tryz.func31 (c := zFJ) (by kernel_rfl) (fun hs => Eq.mpr (by kernel_rfl) (h hs))
end Go.Proofs.YtjkkonpjecoieaaGreat
namespace Go.Abs
open Go
def fill : List IT → List Nat → List IT → List IT
 | row, p :: ps, x :: xs => fill (row.set p x) ps xs
 | row, _, _ => row
@[simp] theorem zMz (row xs : List IT) : fill row [] xs = row := by cases xs <;> rfl
@[simp] theorem zwU : ∀ (row : List IT) (ps : List Nat) (xs : List IT), (fill row ps xs).length = row.length
 | row, p :: ps, x :: xs => by rw [fill, zwU]; simp
 | row, [], _ => by simp [fill]
 | row, _ :: _, [] => by simp [fill]
mutual
theorem IT.same_eq : ∀ v w : IT, IT.same v w = true → v = w
 | .mk n ks, .mk n' ks', h => by
  simp only [IT.same, Bool.and_eq_true, beq_iff_eq] at h
  rw [h.1, IT.sameL_eq ks ks' h.2]
theorem IT.sameL_eq : ∀ v w : List IT, IT.sameL v w = true → v = w
 | [], [], _ => rfl
 | v :: vs, w :: ws, h => by
  simp only [IT.sameL, Bool.and_eq_true] at h
  rw [IT.same_eq v w h.1, IT.sameL_eq vs ws h.2]
 | [], _ :: _, h => by simp [IT.sameL] at h
 | _ :: _, [], h => by simp [IT.sameL] at h
end
end Go.Abs
namespace Go.Proofs.YtjkkonpjecoieaaGreat
open Go Go.Abs
set_option maxRecDepth 8000
theorem zp7 (v : IT) : ∃ a b, v.cs = [a, b] ∧ a.known = true ∧ b.known = true := by
 obtain ⟨n, ks⟩ := v; exact ⟨_, _, rfl, rfl, rfl⟩
theorem zwk {v : IT} {k : AV → Prop} : zaB 2 [.int .i64 0, .snil] 1 [(0, .agg v.cs)] k = k (.sl [v.cs] .full) := by
 cases v
 exact propext Iff.rfl
mutual
def zbF : VT → IT
 | .mk k _ ks => .mk 0 (if k = 6 then zbo ks else [])
def zbo : List VT → List IT
 | [] => []
 | t :: ts => zbF t :: zbo ts
end
theorem zfQ : ∀ ts : List VT, zbo ts = ts.map zbF
 | [] => by simp [zbo]
 | t :: ts => by simp [zbo, zfQ ts]
theorem zH0 : ∀ (m : Nat) (v : VT), v.nodes ≤ m → v.nodes ≤ 1000000 → ∀ (H : zaa) (K : Kt), K (.agg (zbF v).cs) H → ACalls tP zg1 [.agg v.cs] H K := by
 intro m
 induction m with
 | zero => intro v h; have := v.nodes_pos; omega
 | succ m ih =>
  intro v hm hb H K hK
  obtain ⟨k, n, ks⟩ := v
  have hll := VT.len_le ks
  have hnn : (VT.mk k n ks).nodes = VT.nodesL ks + 1 := by simp [VT.nodes]
  refine ACalls.out (zHY fun hs => ?_)
  simp [zvb, VT.cs, zav, zaO, AV.known, Nat.add_assoc]
  by_cases hk6 : k = 6
  ·have hK : K (.agg [.int .i64 0, .sl (IT.css (zbo ks)) .none]) H := by simpa [zbF, hk6, IT.cs] using hK
   simp [hk6]
   subst hk6
   unfold zjD
   refine ALoop.ownC (H.length + 2) 1 zdr 2 (cs := [.int .i64 0, .snil]) (by simp) rfl ?_
   have hset : (H ++ [AB.cells [.int .i64 6, .int .i64 n, .sl (VT.css ks) .none], .cells [.int .i64 0, .snil], .cells [.int .i64 0, .snil]]).set (H.length + 2) (.cells ([AV.int .i64 0, .snil].set 1 (.sl [] (.own (H ++ [AB.cells [.int .i64 6, .int .i64 n, .sl (VT.css ks) .none], .cells [.int .i64 0, .snil], .cells [.int .i64 0, .snil]]).length)))) ++ [.perm zdr 2 0] =
     H ++ [.cells [.int .i64 6, .int .i64 n, .sl (VT.css ks) .none], .cells [.int .i64 0, .snil], .cells [.int .i64 0, .sl [] (.own (H.length + 3))], .perm zdr 2 0] := by simp [List.set_append_right]
   rw [hset]
   show zjD (.ptr (H.length + 1) 0) (.ptr (H.length + 2) 0) (.sl (VT.css ks) .none) (.int .i64 ks.length) (.int .i64 0) _ (Out H.length K)
   have hsc : ∀ i, HSc (H ++ [.cells [.int .i64 6, .int .i64 n, .sl (VT.css ks) .none], .cells [.int .i64 0, .snil], .cells [.int .i64 0, .sl (IT.css (zbo (ks.take i))) (.own (H.length + 3))], .perm zdr 2 i]) := fun i => hs.append (by simp [AB.sc, AV.scA, AV.scB])
   refine zHW (Inv := fun q t12 H' => ∃ i : Nat, i ≤ ks.length ∧ q = ks.length - i ∧ t12 = .int .i64 i ∧
    H' = H ++ [.cells [.int .i64 6, .int .i64 n, .sl (VT.css ks) .none], .cells [.int .i64 0, .snil], .cells [.int .i64 0, .sl (IT.css (zbo (ks.take i))) (.own (H.length + 3))], .perm zdr 2 i]) ks.length ?_ ?_
   ·intro _; exact ⟨0, by omega, by omega, rfl, by simp [zbo, IT.css]⟩
   ·rintro q t12 H' ⟨i, hi, rfl, rfl, rfl⟩ hsc' hlen hsF Kb hKb
    by_cases hlt : i < ks.length
    ·obtain ⟨x, y, z, hvx, hx, hy, hz⟩ := zaE ks[i]
     have hkn := VT.kid_lt (k := 6) (n := n) hlt
     have hzl : (zbo (ks.take i)).length = i := by simp [zfQ, Nat.min_eq_left hi]
     simp [zoi, hlt, hvx, hx, hy, hz]
     rw [← hvx]
     refine zbq (.agg (zbF ks[i]).cs) (fun J => ih ks[i] (by omega) (by omega) _ _ ⟨rfl, rfl⟩) ?_
     rw [zwk]
     simp [zaA, zaV, zaN, hzl, AV.known, List.set_append_right]
     refine ⟨⟨by omega, by omega⟩, ?_⟩
     rw [zaq (by omega) (by omega)]
     have hst : IT.css (zbo (ks.take i)) ++ [(zbF ks[i]).cs] = IT.css (zbo (ks.take (i + 1))) := by
      rw [zfQ, zfQ, List.take_succ_eq_append_getElem hlt, IT.css_map, IT.css_map, List.map_append, List.map_append]
      rfl
     rw [hst]
     refine hKb _ _ ⟨ks.length - (i + 1), by omega, Back.at (J := [.cells (ks[i]).cs]) (H2 := H ++ [.cells [.int .i64 6, .int .i64 n, .sl (VT.css ks) .none], .cells [.int .i64 0, .snil], .cells [.int .i64 0, .sl (IT.css (zbo (ks.take (i + 1)))) (.own (H.length + 3))], .perm zdr 2 (i + 1)]) (by simp) (by simp) (hsc _) ?_ ⟨_, rfl, i + 1, by omega, rfl, by simp, rfl⟩⟩
     simp [zjB, AV.sc, AV.scV, AV.scA, AV.scB]
    ·obtain rfl : i = ks.length := by omega
     rw [List.take_length] at *
     simp [zoi, zjC, AV.known, List.set_append_right]
     exact Out.at rfl (Nat.le_refl _) hs (WkV.agg (ds := [.int .i64 0, .sl (IT.css (zbo ks)) .none]) ⟨.refl _, .sl _ _, trivial⟩) rfl (by simp [AV.scV, AV.scA, AV.scB]) hK
  ·have hK : K (.agg [.int .i64 0, .sl [] .none]) H := by simpa [zbF, hk6, IT.cs, IT.css] using hK
   have hb : (k == 6) = false := by simpa using hk6
   simp [hb, zjC, AV.known, List.set_append_right]
   exact Out.at rfl (Nat.le_refl _) hs (WkV.agg (ds := [.int .i64 0, .sl [] .none]) ⟨.refl _, .snil, trivial⟩) rfl (by simp [AV.scV, AV.scA, AV.scB]) hK
end Go.Proofs.YtjkkonpjecoieaaGreat
namespace Go.Proofs.YtjkkonpjecoieaaGreat
open Go Go.Abs
set_option maxRecDepth 8000
theorem zFL (data : List Dat) (hk : zbp data) (t : VT) (ht : t.nodes ≤ 1000) (H : zaa) (K : Kt) (hK : zbf data t = true → K (.tup [.agg (zbF t).cs, .bool true]) H) (hf : zbf data t = true) :
  ACalls tP zgS [.sl (data.map Dat.cs) .none, .agg t.cs] H K := by
 refine ACalls.out (zuu fun hs => ?_)
 obtain ⟨x, y, z, hvx, hx, hy, hz⟩ := zaE t
 simp [znF, hvx, hx, hy, hz]
 rw [← hvx]
 refine zoh data hk t (by omega) _ _ ?_
 simp [hf, hvx, hx, hy, hz]
 rw [← hvx]
 refine zH0 _ t (Nat.le_refl _) (by omega) _ _ ?_
 obtain ⟨p, q, hzz, hp, hq⟩ := zp7 (zbF t)
 have hK := hK hf
 rw [hzz] at hK ⊢
 simp [hp, hq]
 refine ⟨⟨rfl, rfl⟩, ?_⟩
 exact Out.tup (bs := [.agg [p, q], .bool true]) hs hK ⟨zaQ rfl (by have := (zbF t).cs_scA H.length; rw [hzz] at this; simpa [AV.scV] using this), zaQ rfl rfl, trivial⟩
end Go.Proofs.YtjkkonpjecoieaaGreat
namespace Go.Proofs.YtjkkonpjecoieaaGreat
open Go Go.Abs Go.RowKit
set_option maxRecDepth 8000
theorem zFK (data : List Dat) (hk : zbp data) (t : VT) (ht : t.nodes ≤ 1000) (H : zaa) (K : Kt) (hK : K (.tup [.agg [.int .i64 0, .sl [] .none], .bool false]) H) (hf : zbf data t = false) :
  ACalls tP zgS [.sl (data.map Dat.cs) .none, .agg t.cs] H K := by
 refine ACalls.out (zuu fun hs => ?_)
 obtain ⟨x, y, z, hvx, hx, hy, hz⟩ := zaE t
 simp [znF, hvx, hx, hy, hz]
 rw [← hvx]
 refine zoh data hk t (by omega) _ _ ?_
 simp [hf, zav, zaO, Nat.add_assoc]
 refine ⟨⟨rfl, rfl⟩, ?_⟩
 exact Out.tup (bs := [.agg [.int .i64 0, .sl [] .none], .bool false]) hs hK ⟨⟨.agg ⟨.refl _, .snil, trivial⟩, rfl, rfl⟩, zaQ rfl rfl, trivial⟩
theorem zrO {data : List Dat} {tn : Int} {tks : List VT} (ht : zaH data 0 (.mk 5 tn tks) = true) : 0 ≤ tn ∧ tn.toNat < data.length := by
 rw [zaH, Bool.and_eq_true] at ht
 have h := ht.2
 simp only [zaJ, zaR, Bool.and_eq_true] at h
 have h1 := h.1
 simp at h1
 refine ⟨h1.1, ?_⟩
 have h2 := h1.2
 split at h2
 ·rename_i d hd
  exact (List.getElem?_eq_some_iff.1 hd).1
 ·simp at h2
def zcr (l : List VT) (c : Int) : Nat := (l.filter fun x => decide (x.num = c)).length
theorem zpv (l : List VT) (c : Int) (i : Nat) (h : i < l.length) : zcr (l.take (i + 1)) c = if l[i].num = c then zcr (l.take i) c + 1 else zcr (l.take i) c := by
 rw [List.take_add_one, List.getElem?_eq_getElem h]
 simp only [zcr, Option.toList, List.filter_append, List.length_append]
 by_cases hc : l[i].num = c
 ·simp [hc]
 ·simp [hc]
theorem zpu (l : List VT) (c : Int) : zcr l c ≤ l.length := List.length_filter_le _ _
def ze9 (data : List Dat) (v t : VT) (c : Int) : AV :=
 if zbf data t = true ∧ t.kind = 5 ∧ 0 ≤ c ∧ c.toNat < (data.map fun D => D.cons.length).getD t.num.toNat 0 then
  (if zbN data v t = true then .tup [.int .i64 (zcr (za2 (za8 data t.num.toNat) v) c), .int .i64 0] else .tup [.int .i64 0, .int .i64 11]) else .tup [.int .i64 0, .int .i64 1]
theorem zpw (data : List Dat) (v : VT) (k n : Int) (al : List VT) (c : Int) : ze9 data v (.mk k n al) c = if zbf data (.mk k n al) = true ∧ k = 5 ∧ 0 ≤ c ∧ c.toNat < (data.map fun D => D.cons.length).getD n.toNat 0 then
  (if zbN data v (.mk k n al) = true then .tup [.int .i64 (zcr (za2 (za8 data n.toNat) v) c), .int .i64 0] else .tup [.int .i64 0, .int .i64 11]) else .tup [.int .i64 0, .int .i64 1] := rfl
theorem zHK (data : List Dat) (hk : zbp data) (v t : VT) (hv : v.nodes ≤ 5000) (ht : t.nodes ≤ 1000) (c : Int) (H : zaa) (K : Kt) (hK : K (ze9 data v t c) H) :
  ACalls tP zlr [.sl (data.map Dat.cs) .none, .agg t.cs, .agg v.cs, .int .i64 c] H K := by
 obtain ⟨k, n, al⟩ := t
 rw [zpw] at hK
 have hTc : (VT.mk k n al).cs = [.int .i64 k, .int .i64 n, .sl (VT.css al) .none] := rfl
 obtain ⟨x, y, z, hvx, hx, hy, hz⟩ := zaE v
 have hO : ∀ (a b : Int) J, K (.tup [.int .i64 a, .int .i64 b]) H → HSc H → Out H.length K (.tup [.int .i64 a, .int .i64 b]) (H ++ J) := fun a b J h hs => Out.tup (bs := [.int .i64 a, .int .i64 b]) hs h ⟨zaQ rfl rfl, zaQ rfl rfl, trivial⟩
 refine ACalls.out (zHI fun hs => ?_)
 simp [zq6, hTc, hvx, Nat.add_assoc]
 rw [← hTc]
 cases hf : zbf data (.mk k n al) with
 | false =>
  rw [if_neg (by simp [hf])] at hK
  refine zFK data hk (.mk k n al) ht _ _ ?_ hf
  simp [Nat.add_assoc]
  refine ⟨⟨rfl, rfl⟩, ?_⟩
  exact hO _ _ _ hK hs
 | true =>
  refine zFL data hk (.mk k n al) ht _ _ (fun _ => ?_) hf
  obtain ⟨p, q, hzz, hp, hq⟩ := zp7 (zbF (.mk k n al))
  simp [hzz, hp, hq, Nat.add_assoc, hTc]
  by_cases h5 : k = 5
  ·subst h5
   have htv : zaH data 0 (.mk 5 n al) = true := by simp only [zbf, Bool.and_eq_true] at hf; exact hf.2
   obtain ⟨n0, hnl⟩ := zrO htv
   obtain ⟨n, rfl⟩ : ∃ x : Nat, n = x := ⟨n.toNat, by omega⟩
   simp only [Int.toNat_natCast] at hnl hK
   have e1 : (data.map Dat.cs)[n]? = some (data[n]).cs := by simp [hnl]
   have hgd : (data.map fun D => D.cons.length).getD n 0 = data[n].cons.length := by simp [List.getD_eq_getElem?_getD, hnl]
   rw [hgd] at hK
   by_cases hc0 : c < 0
   ·rw [if_neg (by omega)] at hK
    simp [hc0]
    refine ⟨⟨rfl, rfl⟩, ?_⟩
    exact hO _ _ _ hK hs
   ·have hc0' : ¬ c < 0 := hc0
    simp [hc0, e1, hnl, Dat.cs]
    by_cases hcl : c.toNat < data[n].cons.length
    ·have : ¬ ((data[n].cons.length : Int) ≤ c) := by omega
     rw [if_pos ⟨by trivial, by trivial, by omega, hcl⟩] at hK
     simp [this, Nat.add_assoc]
     rw [← hTc, ← hvx]
     refine zuw data hk v (.mk 5 n al) hv (by omega) _ _ ?_
     cases hh : zbN data v (.mk 5 n al) with
     | false =>
      rw [hh] at hK
      simp
      refine ⟨⟨rfl, rfl⟩, ?_⟩
      exact hO _ _ _ (by simpa using hK) hs
     | true =>
      rw [hh, if_pos rfl] at hK
      obtain ⟨hd, hty, hhv⟩ := zky hh
      have hpl := zeF (za8 data n) v
      simp [Nat.add_assoc]
      refine zFV data hk v n al hv hhv _ _ ?_
      simp only [Int.toNat_natCast]
      generalize hl : za2 (za8 data n) v = l at *
      simp
      refine zHG (Inv := fun q0 t12 t51 H' => ∃ i : Nat, i ≤ l.length ∧ q0 = l.length - i ∧ t12 = .int .i64 (zcr (l.take i) c) ∧ t51 = .int .i64 i ∧
       H' = H ++ [.cells (VT.mk 5 (n : Int) al).cs, .cells v.cs, .cells [p, q]]) l.length ?_ ?_
      ·intro _
       exact ⟨0, by omega, by omega, by simp [zcr], rfl, by simp⟩
      ·rintro q0 t12 t51 H' ⟨i, hi, rfl, rfl, rfl, rfl⟩ hsc' hlen hsF Kb hKb
       have hcn := zpu (l.take i) c
       rw [List.length_take, Nat.min_eq_left hi] at hcn
       by_cases hlt : i < l.length
       ·obtain ⟨x2, y2, z2, hvx2, hx2, hy2, hz2⟩ := zaE l[i]
        have hsucc := zpv l c i hlt
        have hy3 : y2 = .int .i64 l[i].num := by
         generalize hli : l[i] = w at *
         obtain ⟨a, b, d⟩ := w
         simp only [VT.cs, List.cons.injEq] at hvx2
         exact hvx2.2.1.symm
        have hback : ∀ J, zjx (.int .i64 c) (.int .i64 (zcr (l.take (i + 1)) c)) (.sl (VT.css l) .none) (.int .i64 l.length) (.int .i64 i) (H ++ [.cells (VT.mk 5 (n : Int) al).cs, .cells v.cs, .cells [p, q]] ++ J) (Out H.length K) Kb := by
         intro J
         simp [zjx, zu5]
         rw [zaq (by omega) (by omega)]
         refine hKb _ _ ⟨l.length - (i + 1), by omega, Back.at (J := J) (H2 := H ++ [.cells (VT.mk 5 (n : Int) al).cs, .cells v.cs, .cells [p, q]]) (by simp) (by simp) hsc' ?_ ⟨_, _, rfl, i + 1, by omega, rfl, rfl, by simp, rfl⟩⟩
         simp [zjw, AV.sc, AV.scV, AV.scA, AV.scB]
        have h0 := hback [.cells l[i].cs]
        simp [zod, hlt, hvx2, Nat.add_assoc]
        by_cases hq : l[i].num = c
        ·rw [if_pos hq] at hsucc
         rw [hsucc] at h0
         simp [hy3, hq, hx2, hz2]
         rw [zaq (by omega) (by omega)]
         simpa [hvx2, hy3, hq] using h0
        ·rw [if_neg hq] at hsucc
         rw [hsucc] at h0
         have hq2 : (l[i].num == c) = false := by simp [hq]
         simp [hy3, hq2, hx2, hz2]
         simpa [hvx2, hy3, hq] using h0
       ·obtain rfl : i = l.length := by omega
        rw [List.take_length]
        simp [zod]
        refine ⟨⟨rfl, rfl⟩, ?_⟩
        exact hO _ _ _ hK hs
    ·rw [if_neg (by omega)] at hK
     have : ((data[n].cons.length : Int) ≤ c) := by omega
     simp [this]
     refine ⟨⟨rfl, rfl⟩, ?_⟩
     exact hO _ _ _ hK hs
  ·rw [if_neg (by simp [h5])] at hK
   have : (k != 5) = true := by simp [bne, h5]
   simp [this]
   refine ⟨⟨rfl, rfl⟩, ?_⟩
   exact hO _ _ _ hK hs
end Go.Proofs.YtjkkonpjecoieaaGreat
namespace Go.Proofs.YtjkkonpjecoieaaGreat
open Go Go.Abs
set_option maxRecDepth 100000
def zHy (_ : Nat) : List Bool := []
noncomputable def zHz : Code := Tryz.f68.body.getD .skip
def zu3 (t0 : AV) (H : zaa) (K : Kt) : Prop :=
 zau [(.bool false), .snil, .snil] H fun t2 H =>
 zac .lss false t0 (.int .i64 0) fun t4 =>
 ACalls tP zfs [t0] H fun t6 H =>
 zaB 1 [(.int .u32 0)] 1 [(0, (.int .u32 1))] fun t7 =>
 zav [(.bool false), .snil, .snil] [(0, 1), (1, 1), (2, 1)] [(0, t4), (1, t6), (2, t7)] fun t8 =>
 ACalls tP zev [t8] H fun t9 H =>
 zak 3 t2 t9 H fun H =>
 zad true 3 t2 H fun r0 =>
 K r0 H
theorem zHA {t0 : AV} {H : zaa} {K : Kt} (h : HSc H → zu3 t0 H K) : ACalls tP zd0 [t0] H K :=
 zam (M := zHy) Tryz.func68 (c := zHz) (by kernel_rfl) (fun hs => Eq.mpr (by kernel_rfl) (h hs))
def zHB (_ : Nat) : List Bool := []
noncomputable def zHC : Code := Tryz.f69.body.getD .skip
def zu4 (t0 t1 : AV) (H : zaa) (K : Kt) : Prop :=
 zap t0 H fun t2 H =>
 zap t1 H fun t3 H =>
 zau [(.bool false), .snil, .snil] H fun t4 H =>
 zae H (fun K' => zan true 3 t2 H (K' · H)) fun t7 =>
 za6 H (fun H K' => ACalls tP zgx [t7] H K') fun t8 =>
 zae H (fun K' => zan true 3 t3 H (K' · H)) fun t9 =>
 za6 H (fun H K' => ACalls tP zgx [t9] H K') fun t10 =>
 zau [(.bool false), .snil, .snil] H fun t5 H =>
 zau [(.bool false), .snil, .snil] H fun t6 H =>
 zak 3 t5 t8 H fun H =>
 zak 3 t6 t10 H fun H =>
 zae H (fun K' => zaf 0 t5 (K' · H)) fun t11 =>
 zae H (fun K' => zan false 1 t11 H (K' · H)) fun t12 =>
 zae H (fun K' => zaf 0 t6 (K' · H)) fun t13 =>
 zae H (fun K' => zan false 1 t13 H (K' · H)) fun t14 =>
 zae H (fun K' => zac .neq true t12 t14 (K' · H)) fun t15 =>
 zae H (fun K' => zaf 1 t5 (K' · H)) fun t16 =>
 zae H (fun K' => zan false 1 t16 H (K' · H)) fun t17 =>
 zae H (fun K' => zaf 1 t6 (K' · H)) fun t18 =>
 zae H (fun K' => zan false 1 t18 H (K' · H)) fun t19 =>
 za6 H (fun H K' => ACalls tP zew [t17, t19] H K') fun t20 =>
 zae H (fun K' => zaf 2 t5 (K' · H)) fun t21 =>
 zae H (fun K' => zan false 1 t21 H (K' · H)) fun t22 =>
 zae H (fun K' => zaf 2 t6 (K' · H)) fun t23 =>
 zae H (fun K' => zan false 1 t23 H (K' · H)) fun t24 =>
 za6 H (fun H K' => ACalls tP zew [t22, t24] H K') fun t25 =>
 zae H (fun K' => zav [(.bool false), .snil, .snil] [(0, 1), (1, 1), (2, 1)] [(0, t15), (1, t20), (2, t25)] (K' · H)) fun t26 =>
 za6 H (fun H K' => ACalls tP zev [t26] H K') fun t27 =>
 zak 3 t4 t27 H fun H =>
 zad true 3 t4 H fun r0 =>
 K r0 H
theorem zHD {t0 t1 : AV} {H : zaa} {K : Kt} (h : HSc H → zu4 t0 t1 H K) : ACalls tP zls [t0, t1] H K :=
 zam (M := zHB) Tryz.func69 (c := zHC) (by kernel_rfl) (fun hs => Eq.mpr (by kernel_rfl) (h hs))
def zzK (_ : Nat) : List Bool := []
noncomputable def zzL : Code := Tryz.f113.body.getD .skip
def zsi (t0 : AV) (H : zaa) (K : Kt) : Prop :=
 zac .lss false t0 (.int .i64 0) fun t4 =>
 zag t4
 (zaP .u64 t0 fun t6 =>
 aUn .neg t6 fun t7 =>
 ACalls tP zey [t7] H fun t8 H =>
 K t8 H)
 (zaP .u64 t0 fun t10 =>
 ACalls tP zey [t10] H fun t11 H =>
 K t11 H)
theorem zzM {t0 : AV} {H : zaa} {K : Kt} (h : HSc H → zsi t0 H K) : ACalls tP zfs [t0] H K :=
 zam (M := zzK) Tryz.func113 (c := zzL) (by kernel_rfl) (fun hs => Eq.mpr (by kernel_rfl) (h hs))
def zzN (_ : Nat) : List Bool := []
noncomputable def zzO : Code := Tryz.f114.body.getD .skip
def zl7 (t0 : AV) (H : zaa) (K : Kt) : Prop :=
 zap t0 H fun t1 H =>
 zau [(.bool false), .snil, .snil] H fun t2 H =>
 zad true 3 t1 H fun t4 =>
 ACalls tP zgE [t4] H fun t5 H =>
 zau [(.bool false), .snil, .snil] H fun t3 H =>
 zak 3 t3 t5 H fun H =>
 zaf 0 t3 fun t6 =>
 zad false 1 t6 H fun t7 =>
 zaf 1 t3 fun t8 =>
 zad false 1 t8 H fun t9 =>
 zaf 2 t3 fun t10 =>
 zad false 1 t10 H fun t11 =>
 zav [(.bool false), .snil, .snil] [(0, 1), (1, 1), (2, 1)] [(0, t7), (1, t9), (2, t11)] fun t12 =>
 zak 3 t2 t12 H fun H =>
 zad true 3 t2 H fun r0 =>
 K r0 H
theorem zsj {t0 : AV} {H : zaa} {K : Kt} (h : HSc H → zl7 t0 H K) : ACalls tP zev [t0] H K :=
 zam (M := zzN) Tryz.func114 (c := zzO) (by kernel_rfl) (fun hs => Eq.mpr (by kernel_rfl) (h hs))
def zzP (_ : Nat) : List Bool := []
noncomputable def zzQ : Code := Tryz.f115.body.getD .skip
def zsk (t0 : AV) (H : zaa) (K : Kt) : Prop :=
 zap t0 H fun t1 H =>
 zau [(.bool false), .snil, .snil] H fun t2 H =>
 zae H (fun K' => zaf 1 t1 (K' · H)) fun t5 =>
 zae H (fun K' => zan false 1 t5 H (K' · H)) fun t6 =>
 za6 H (fun H K' => ACalls tP zgF [t6] H K') fun t7 =>
 zae H (fun K' => zaf 2 t1 (K' · H)) fun t8 =>
 zae H (fun K' => zan false 1 t8 H (K' · H)) fun t9 =>
 za6 H (fun H K' => ACalls tP zgF [t9] H K') fun t10 =>
 zae H (fun K' => K' t7 H) fun t3 =>
 zae H (fun K' => K' t10 H) fun t4 =>
 zah 1 t3 fun t12 =>
 zac .eql false t12 (.int .i64 0) fun t13 =>
 zab t13 false H (fun K' => K' t4 H) fun t15 H =>
 zab t13 false H (fun K' => zah 1 t15 (K' · H)) fun t16 H =>
 zab t13 false H (fun K' => zac .eql false t16 (.int .i64 0) (K' · H)) fun t17 H =>
 zai t13 (.bool true) t17 fun t18 =>
 zag t18
 (zaB 1 [(.int .u32 0)] 1 [(0, (.int .u32 1))] fun t19 =>
 zav [(.bool false), .snil, .snil] [(0, 1), (1, 1), (2, 1)] [(2, t19)] fun t20 =>
 zak 3 t2 t20 H fun H =>
 zad true 3 t2 H fun r0 =>
 K r0 H)
 (zaf 0 t1 fun t21 =>
 zad false 1 t21 H fun t22 =>
 zav [(.bool false), .snil, .snil] [(0, 1), (1, 1), (2, 1)] [(0, t22), (1, t3), (2, t4)] fun t25 =>
 zak 3 t2 t25 H fun H =>
 zad true 3 t2 H fun r0 =>
 K r0 H)
theorem zzR {t0 : AV} {H : zaa} {K : Kt} (h : HSc H → zsk t0 H K) : ACalls tP zgx [t0] H K :=
 zam (M := zzP) Tryz.func115 (c := zzQ) (by kernel_rfl) (fun hs => Eq.mpr (by kernel_rfl) (h hs))
def zd7 : Nat → List Bool
 | 5 => rl false [0,2,3,1,19,2,50]
 | 9 => rl false [0,2,3,3,17,2,3,2,45]
 | _ => []
noncomputable def zma : Code := Tryz.f116.body.getD .skip
noncomputable def zzY : List ResultVar := Tryz.f116.results.toList
def zhG (t0 t1 t5 t25 t26 : AV) : List AV := t0 :: t1 :: ux 3 (t5 :: ux 19 (t25 :: t26 :: ux 50 []))
def zso : List Bool := zd7 5
noncomputable def zmb : Code := zar [1, 1, 1, 0, 1, 0, 0] zma
def zsl (K : Kt) : AExit → List AV → zaa → Prop := zas tP zd7 [1, 1, 1, 0, 1, 0] zma (zaw tP zzY K)
def zsm (t0 t1 t5 t25 t26 : AV) (H : zaa) (K : Kt) : Prop := ALoop tP zmb (zsl K) (zhG t0 t1 t5 t25 t26) H
def zfR (t0 t1 t5 t6 t7 t25 t26 t30 t31 : AV) : List AV := t0 :: t1 :: ux 3 (t5 :: t6 :: t7 :: ux 17 (t25 :: t26 :: ux 3 (t30 :: t31 :: ux 45 [])))
def zzW : List Bool := zd7 9
noncomputable def zzT : Code := zar [1, 1, 0, 0, 1, 1, 0, 1, 0, 0] zmb
def zzS (K : Kt) (Kb5 : Lt) : AExit → List AV → zaa → Prop := zas tP zd7 [1, 1, 0, 0, 1, 1, 0, 1, 0] zmb (zbQ zso Kb5 (zsl K))
def zsn (t0 t1 t5 t6 t7 t25 t26 t30 t31 : AV) (H : zaa) (K : Kt) (Kb5 : Lt) : Prop := ALoop tP zzT (zzS K Kb5) (zfR t0 t1 t5 t6 t7 t25 t26 t30 t31) H
def zl9 (t0 t1 t5 t6 t7 t25 t26 t30 t31 : AV) (H : zaa) (K : Kt) (Kb5 : Lt) (Kb9 : Lt) : Prop :=
 zac .lss false t31 t30 fun t32 =>
 zag t32
 (zae H (fun K' => K' t0 H) fun t34 =>
 zae H (fun K' => K' t6 H) fun t35 =>
 zae H (fun K' => zaj 1 t34 t35 (K' · H)) fun t36 =>
 zae H (fun K' => zan false 1 t36 H (K' · H)) fun t37 =>
 zae H (fun K' => zaP .u64 t37 (K' · H)) fun t38 =>
 zae H (fun K' => K' t1 H) fun t39 =>
 zae H (fun K' => K' t31 H) fun t40 =>
 zae H (fun K' => zaj 1 t39 t40 (K' · H)) fun t41 =>
 zae H (fun K' => zan false 1 t41 H (K' · H)) fun t42 =>
 zae H (fun K' => zaP .u64 t42 (K' · H)) fun t43 =>
 zae H (fun K' => zac .mul false t38 t43 (K' · H)) fun t44 =>
 zae H (fun K' => K' t5 H) fun t45 =>
 zae H (fun K' => K' t6 H) fun t46 =>
 zae H (fun K' => K' t31 H) fun t47 =>
 zae H (fun K' => zac .add false t46 t47 (K' · H)) fun t48 =>
 zae H (fun K' => zaj 1 t45 t48 (K' · H)) fun t49 =>
 zae H (fun K' => zan false 1 t49 H (K' · H)) fun t50 =>
 zae H (fun K' => zaP .u64 t50 (K' · H)) fun t51 =>
 zae H (fun K' => zac .add false t44 t51 (K' · H)) fun t52 =>
 zae H (fun K' => K' t7 H) fun t53 =>
 zae H (fun K' => zac .add false t52 t53 (K' · H)) fun t54 =>
 zae H (fun K' => K' t54 H) fun t9 =>
 zac .add false t6 t31 fun t58 =>
 zac .rem false t9 (.int .u64 1000000000) fun t60 =>
 zaP .u32 t60 fun t61 =>
 zaj 1 t5 t58 fun t62 =>
 zak 1 t62 t61 H fun H =>
 zac .quo false t9 (.int .u64 1000000000) fun t64 =>
 zac .add false t31 (.int .i64 1) fun t65 =>
 Kb9 (zfR t0 t1 t5 t6 t64 t25 t26 t30 t65) H)
 (zah 1 t1 fun t69 =>
 zac .add false t6 t69 fun t70 =>
 zaP .u32 t7 fun t72 =>
 zaj 1 t5 t70 fun t73 =>
 zak 1 t73 t72 H fun H =>
 zac .add false t26 (.int .i64 1) fun t74 =>
 Kb5 (zhG t0 t1 t5 t25 t74) H)
def zl8 (t0 t1 t5 t25 t26 : AV) (H : zaa) (K : Kt) (Kb5 : Lt) : Prop :=
 zac .lss false t26 t25 fun t27 =>
 zag t27
 (zah 1 t1 fun t30 =>
 zsn t0 t1 t5 t26 (.int .u64 0) t25 t26 t30 (.int .i64 0) H K Kb5)
 (ACalls tP zdX [t5] H fun t76 H =>
 K t76 H)
def zhF (t0 t1 : AV) (H : zaa) (K : Kt) : Prop :=
 zah 1 t0 fun t11 =>
 zac .eql false t11 (.int .i64 0) fun t12 =>
 zab t12 false H (fun K' => K' t1 H) fun t14 H =>
 zab t12 false H (fun K' => zah 1 t14 (K' · H)) fun t15 H =>
 zab t12 false H (fun K' => zac .eql false t15 (.int .i64 0) (K' · H)) fun t16 H =>
 zai t12 (.bool true) t16 fun t17 =>
 zag t17
 (K .snil H)
 (zah 1 t0 fun t19 =>
 zah 1 t1 fun t21 =>
 zac .add false t19 t21 fun t22 =>
 zba 4 [(.int .u32 0)] t22 t22 H fun t23 H =>
 zah 1 t0 fun t25 =>
 zsm t0 t1 t23 t25 (.int .i64 0) H K)
theorem zzV {t0 t1 t5 t6 t7 t25 t26 t30 t31 : AV} {H : zaa} {K : Kt} {Kb5 : Lt} (Inv : Nat → AV → AV → zaa → Prop) (n : Nat) (h0 : HSc H → Inv n t7 t31 H)
  (round : Rd2 (fun t7 => fun t31 => zfR t0 t1 t5 t6 t7 t25 t26 t30 t31) (fun t7 => fun t31 => fun H Kb9 => zl9 t0 t1 t5 t6 t7 t25 t26 t30 t31 H K Kb5 Kb9) H Inv) : zsn t0 t1 t5 t6 t7 t25 t26 t30 t31 H K Kb5 :=
 lp2 (M := zd7) zzW t7 t31 (by kernel_rfl) Inv n h0 round
theorem zzU {t0 t1 t5 t25 t26 : AV} {H : zaa} {K : Kt} (Inv : Nat → AV → zaa → Prop) (n : Nat) (h0 : HSc H → Inv n t26 H)
  (round : Rd1 (fun t26 => zhG t0 t1 t5 t25 t26) (fun t26 => fun H Kb5 => zl8 t0 t1 t5 t25 t26 H K Kb5) H Inv) : zsm t0 t1 t5 t25 t26 H K :=
 lp1 (M := zd7) zso t26 (by kernel_rfl) Inv n h0 round
theorem zzX {t0 t1 : AV} {H : zaa} {K : Kt} (h : HSc H → zhF t0 t1 H K) : ACalls tP zew [t0, t1] H K :=
 zam (M := zd7) Tryz.func116 (c := zma) (by kernel_rfl) (fun hs => Eq.mpr (by kernel_rfl) (h hs))
def zhI : Nat → List Bool
 | 6 => rl false [0,2,3,1,37]
 | _ => []
noncomputable def zmc : Code := Tryz.f119.body.getD .skip
noncomputable def zz4 : List ResultVar := Tryz.f119.results.toList
def zhJ (t0 t1 t5 : AV) : List AV := t0 :: t1 :: ux 3 (t5 :: ux 37 [])
def zz2 : List Bool := zhI 6
noncomputable def zz0 : Code := zar [1, 1, 0, 1, 0, 0] zmc
def zzZ (K : Kt) : AExit → List AV → zaa → Prop := zas tP zhI [1, 1, 0, 1, 0] zmc (zaw tP zz4 K)
def zsp (t0 t1 t5 : AV) (H : zaa) (K : Kt) : Prop := ALoop tP zz0 (zzZ K) (zhJ t0 t1 t5) H
def zfS (t0 t1 t5 : AV) (H : zaa) (K : Kt) (Kb6 : Lt) : Prop :=
 zac .geq false t5 (.int .i64 0) fun t20 =>
 zag t20
 (zae H (fun K' => K' t0 H) fun t24 =>
 zae H (fun K' => K' t5 H) fun t25 =>
 zae H (fun K' => zaj 1 t24 t25 (K' · H)) fun t26 =>
 zae H (fun K' => zan false 1 t26 H (K' · H)) fun t27 =>
 zae H (fun K' => K' t1 H) fun t28 =>
 zae H (fun K' => K' t5 H) fun t29 =>
 zae H (fun K' => zaj 1 t28 t29 (K' · H)) fun t30 =>
 zae H (fun K' => zan false 1 t30 H (K' · H)) fun t31 =>
 zae H (fun K' => zac .lss false t27 t31 (K' · H)) fun t32 =>
 zae H (fun K' => K' t32 H) fun t23 =>
 zag t23
 (K (.int .i64 (-1)) H)
 (zae H (fun K' => K' t0 H) fun t34 =>
 zae H (fun K' => K' t5 H) fun t35 =>
 zae H (fun K' => zaj 1 t34 t35 (K' · H)) fun t36 =>
 zae H (fun K' => zan false 1 t36 H (K' · H)) fun t37 =>
 zae H (fun K' => K' t1 H) fun t38 =>
 zae H (fun K' => K' t5 H) fun t39 =>
 zae H (fun K' => zaj 1 t38 t39 (K' · H)) fun t40 =>
 zae H (fun K' => zan false 1 t40 H (K' · H)) fun t41 =>
 zae H (fun K' => zac .gtr false t37 t41 (K' · H)) fun t42 =>
 zae H (fun K' => K' t42 H) fun t33 =>
 zag t33
 (K (.int .i64 1) H)
 (zac .sub false t5 (.int .i64 1) fun t22 =>
 Kb6 (zhJ t0 t1 t22) H)))
 (K (.int .i64 0) H)
def zhH (t0 t1 : AV) (H : zaa) (K : Kt) : Prop :=
 zah 1 t0 fun t7 =>
 zah 1 t1 fun t9 =>
 zac .neq false t7 t9 fun t10 =>
 zag t10
 (zah 1 t0 fun t12 =>
 zah 1 t1 fun t14 =>
 zac .lss false t12 t14 fun t15 =>
 zag t15
 (K (.int .i64 (-1)) H)
 (K (.int .i64 1) H))
 (zah 1 t0 fun t17 =>
 zac .sub false t17 (.int .i64 1) fun t18 =>
 zsp t0 t1 t18 H K)
theorem zz1 {t0 t1 t5 : AV} {H : zaa} {K : Kt} (Inv : Nat → AV → zaa → Prop) (n : Nat) (h0 : HSc H → Inv n t5 H)
  (round : Rd1 (fun t5 => zhJ t0 t1 t5) (fun t5 => fun H Kb6 => zfS t0 t1 t5 H K Kb6) H Inv) : zsp t0 t1 t5 H K :=
 lp1 (M := zhI) zz2 t5 (by kernel_rfl) Inv n h0 round
theorem zz3 {t0 t1 : AV} {H : zaa} {K : Kt} (h : HSc H → zhH t0 t1 H K) : ACalls tP zkM [t0, t1] H K :=
 zam (M := zhI) Tryz.func119 (c := zmc) (by kernel_rfl) (fun hs => Eq.mpr (by kernel_rfl) (h hs))
def zh0 : Nat → List Bool
 | 2 => rl false [0,1,2,1,11]
 | _ => []
noncomputable def zmv : Code := Tryz.f152.body.getD .skip
noncomputable def zBi : List ResultVar := Tryz.f152.results.toList
def zh1 (t0 t3 : AV) : List AV := t0 :: ux 2 (t3 :: ux 11 [])
def zBg : List Bool := zh0 2
noncomputable def zBe : Code := zar [1, 1, 0, 0, 0] zmv
def zBd (K : Kt) : AExit → List AV → zaa → Prop := zas tP zh0 [1, 1, 0, 0] zmv (zaw tP zBi K)
def zh2 (t0 t3 : AV) (H : zaa) (K : Kt) : Prop := ALoop tP zBe (zBd K) (zh1 t0 t3) H
def zmu (t0 t3 : AV) (H : zaa) (K : Kt) (Kb2 : Lt) : Prop :=
 zac .gtr false t0 (.int .u64 0) fun t5 =>
 zag t5
 (zac .rem false t0 (.int .u64 1000000000) fun t10 =>
 zaP .u32 t10 fun t11 =>
 zaB 1 [(.int .u32 0)] 1 [(0, t11)] fun t12 =>
 zaA zbr 1 4 t3 t12 H fun t13 H =>
 zac .quo false t0 (.int .u64 1000000000) fun t7 =>
 Kb2 (zh1 t7 t13) H)
 (K t3 H)
def zsI (t0 : AV) (H : zaa) (K : Kt) : Prop :=
 zh2 t0 .snil H K
theorem zBf {t0 t3 : AV} {H : zaa} {K : Kt} (Inv : Nat → AV → AV → zaa → Prop) (n : Nat) (h0 : HSc H → Inv n t0 t3 H)
  (round : Rd2 (fun t0 => fun t3 => zh1 t0 t3) (fun t0 => fun t3 => fun H Kb2 => zmu t0 t3 H K Kb2) H Inv) : zh2 t0 t3 H K :=
 lp2 (M := zh0) zBg t0 t3 (by kernel_rfl) Inv n h0 round
theorem zBh {t0 : AV} {H : zaa} {K : Kt} (h : HSc H → zsI t0 H K) : ACalls tP zey [t0] H K :=
 zam (M := zh0) Tryz.func152 (c := zmv) (by kernel_rfl) (fun hs => Eq.mpr (by kernel_rfl) (h hs))
def zBj (_ : Nat) : List Bool := []
noncomputable def zBk : Code := Tryz.f153.body.getD .skip
def zh3 (t0 : AV) (H : zaa) (K : Kt) : Prop :=
 zap t0 H fun t1 H =>
 zau [(.bool false), .snil, .snil] H fun t2 H =>
 zaf 1 t1 fun t8 =>
 zad false 1 t8 H fun t9 =>
 zah 1 t9 fun t10 =>
 zac .eql false t10 (.int .i64 0) fun t11 =>
 zag t11
 (zaB 1 [(.int .u32 0)] 1 [(0, (.int .u32 1))] fun t12 =>
 zav [(.bool false), .snil, .snil] [(0, 1), (1, 1), (2, 1)] [(2, t12)] fun t13 =>
 zak 3 t2 t13 H fun H =>
 zad true 3 t2 H fun r0 =>
 K r0 H)
 (zaf 2 t1 fun t14 =>
 zad false 1 t14 H fun t15 =>
 ACalls tP zgK [t15] H fun t16 H =>
 zag t16
 (zad true 3 t1 H fun t17 =>
 zak 3 t2 t17 H fun H =>
 zad true 3 t2 H fun r0 =>
 K r0 H)
 (zaf 1 t1 fun t18 =>
 zad false 1 t18 H fun t19 =>
 zaf 2 t1 fun t20 =>
 zad false 1 t20 H fun t21 =>
 ACalls tP zk7 [t19, t21] H fun t22 H =>
 ACalls tP zgK [t22] H fun t24 H =>
 zag t24
 (zad true 3 t1 H fun t25 =>
 zak 3 t2 t25 H fun H =>
 zad true 3 t2 H fun r0 =>
 K r0 H)
 (zaf 1 t1 fun t27 =>
 zad false 1 t27 H fun t28 =>
 ACalls tP zfv [t28, t22] H fun t30 H =>
 zax t30 0 fun t31 =>
 zax t30 1 fun t32 =>
 zaf 2 t1 fun t34 =>
 zad false 1 t34 H fun t35 =>
 ACalls tP zfv [t35, t22] H fun t37 H =>
 zax t37 0 fun t38 =>
 zax t37 1 fun t39 =>
 zaf 0 t1 fun t40 =>
 zad false 1 t40 H fun t41 =>
 zav [(.bool false), .snil, .snil] [(0, 1), (1, 1), (2, 1)] [(0, t41), (1, t31), (2, t38)] fun t44 =>
 zak 3 t2 t44 H fun H =>
 zad true 3 t2 H fun r0 =>
 K r0 H)))
theorem zsJ {t0 : AV} {H : zaa} {K : Kt} (h : HSc H → zh3 t0 H K) : ACalls tP zgE [t0] H K :=
 zam (M := zBj) Tryz.func153 (c := zBk) (by kernel_rfl) (fun hs => Eq.mpr (by kernel_rfl) (h hs))
def zh4 : Nat → List Bool
 | 300000 => rl false [0,1]
 | 300001 => rl false [0,1]
 | 300002 => rl false [0,1]
 | 300003 => rl false [0,1]
 | 4 => rl false [0,1,2,2,7,2,27]
 | _ => []
noncomputable def zmw : Code := Tryz.f154.body.getD .skip
noncomputable def zBq : List ResultVar := Tryz.f154.results.toList
def zh6 (t0 t3 t4 t12 t13 : AV) : List AV := t0 :: ux 2 (t3 :: t4 :: ux 7 (t12 :: t13 :: ux 27 []))
def zBo : List Bool := zh4 4
noncomputable def zBm : Code := zar [1, 1, 1, 0, 1, 0, 0] zmw
def zBl (K : Kt) : AExit → List AV → zaa → Prop := zas tP zh4 [1, 1, 1, 0, 1, 0] zmw (zaw tP zBq K)
def zsL (t0 t3 t4 t12 t13 : AV) (H : zaa) (K : Kt) : Prop := ALoop tP zBm (zBl K) (zh6 t0 t3 t4 t12 t13) H
def zh7 (t3 : AV) (H : zaa) (K : Kt) : Prop :=
 ACalls tP zdX [t3] H fun t40 H =>
 K t40 H
def zh5 (t0 t3 t4 t12 t13 : AV) (H : zaa) (K : Kt) (Kb4 : Lt) : Prop :=
 zac .lss false t13 t12 fun t14 =>
 zag t14
 (zaj 1 t0 t13 fun t18 =>
 zad false 1 t18 H fun t19 =>
 zaP .u64 t19 fun t20 =>
 zac .add false t20 t4 fun t22 =>
 zac .rem false t22 (.int .u64 1000000000) fun t25 =>
 zaP .u32 t25 fun t26 =>
 zaB 1 [(.int .u32 0)] 1 [(0, t26)] fun t27 =>
 zaA zbr 1 4 t3 t27 H fun t28 H =>
 zac .quo false t22 (.int .u64 1000000000) fun t30 =>
 zac .add false t13 (.int .i64 1) fun t31 =>
 Kb4 (zh6 t0 t28 t30 t12 t31) H)
 (zac .gtr false t4 (.int .u64 0) fun t33 =>
 zag t33
 (zaP .u32 t4 fun t36 =>
 zaB 1 [(.int .u32 0)] 1 [(0, t36)] fun t37 =>
 zaA zbr 1 4 t3 t37 H fun t38 H =>
 zh7 t38 H K)
 (zh7 t3 H K))
def zsK (t0 : AV) (H : zaa) (K : Kt) : Prop :=
 zah 1 t0 fun t8 =>
 zac .add false t8 (.int .i64 1) fun t9 =>
 zdL zbr 1 4 t9 H fun t10 H =>
 zah 1 t0 fun t12 =>
 zsL t0 t10 (.int .u64 0) t12 (.int .i64 0) H K
theorem zBn {t0 t3 t4 t12 t13 : AV} {H : zaa} {K : Kt} (Inv : Nat → AV → AV → AV → zaa → Prop) (n : Nat) (h0 : HSc H → Inv n t3 t4 t13 H)
  (round : Rd3 (fun t3 => fun t4 => fun t13 => zh6 t0 t3 t4 t12 t13) (fun t3 => fun t4 => fun t13 => fun H Kb4 => zh5 t0 t3 t4 t12 t13 H K Kb4) H Inv) : zsL t0 t3 t4 t12 t13 H K :=
 lp3 (M := zh4) zBo t3 t4 t13 (by kernel_rfl) Inv n h0 round
theorem zBp {t0 : AV} {H : zaa} {K : Kt} (h : HSc H → zsK t0 H K) : ACalls tP zgF [t0] H K :=
 zam (M := zh4) Tryz.func154 (c := zmw) (by kernel_rfl) (fun hs => Eq.mpr (by kernel_rfl) (h hs))
def zh8 : Nat → List Bool
 | 2 => rl false [0,1,2,1,17]
 | _ => []
noncomputable def zmx : Code := Tryz.f155.body.getD .skip
noncomputable def zBw : List ResultVar := Tryz.f155.results.toList
def zia (t0 t3 : AV) : List AV := t0 :: ux 2 (t3 :: ux 17 [])
def zBu : List Bool := zh8 2
noncomputable def zBs : Code := zar [1, 1, 0, 0, 0] zmx
def zBr (K : Kt) : AExit → List AV → zaa → Prop := zas tP zh8 [1, 1, 0, 0] zmx (zaw tP zBw K)
def zsN (t0 t3 : AV) (H : zaa) (K : Kt) : Prop := ALoop tP zBs (zBr K) (zia t0 t3) H
def zh9 (t0 t3 : AV) (H : zaa) (K : Kt) (Kb2 : Lt) : Prop :=
 zac .gtr false t3 (.int .i64 0) fun t7 =>
 zab t7 true H (fun K' => K' t0 H) fun t9 H =>
 zab t7 true H (fun K' => K' t3 H) fun t10 H =>
 zab t7 true H (fun K' => zac .sub false t10 (.int .i64 1) (K' · H)) fun t11 H =>
 zab t7 true H (fun K' => zaj 1 t9 t11 (K' · H)) fun t12 H =>
 zab t7 true H (fun K' => zad false 1 t12 H (K' · H)) fun t13 H =>
 zab t7 true H (fun K' => zac .eql false t13 (.int .u32 0) (K' · H)) fun t14 H =>
 zai t7 t14 (.bool false) fun t15 =>
 zag t15
 (zac .sub false t3 (.int .i64 1) fun t17 =>
 Kb2 (zia t0 t17) H)
 (zaL 1 1 t0 none (some t3) fun t20 =>
 K t20 H)
def zsM (t0 : AV) (H : zaa) (K : Kt) : Prop :=
 zah 1 t0 fun t5 =>
 zsN t0 t5 H K
theorem zBt {t0 t3 : AV} {H : zaa} {K : Kt} (Inv : Nat → AV → zaa → Prop) (n : Nat) (h0 : HSc H → Inv n t3 H)
  (round : Rd1 (fun t3 => zia t0 t3) (fun t3 => fun H Kb2 => zh9 t0 t3 H K Kb2) H Inv) : zsN t0 t3 H K :=
 lp1 (M := zh8) zBu t3 (by kernel_rfl) Inv n h0 round
theorem zBv {t0 : AV} {H : zaa} {K : Kt} (h : HSc H → zsM t0 H K) : ACalls tP zdX [t0] H K :=
 zam (M := zh8) Tryz.func155 (c := zmx) (by kernel_rfl) (fun hs => Eq.mpr (by kernel_rfl) (h hs))
def zDE (_ : Nat) : List Bool := []
noncomputable def zDF : Code := Tryz.f186.body.getD .skip
def ziG (t0 : AV) (H : zaa) (K : Kt) : Prop :=
 zah 1 t0 fun t4 =>
 zac .eql false t4 (.int .i64 1) fun t5 =>
 zab t5 true H (fun K' => K' t0 H) fun t7 H =>
 zab t5 true H (fun K' => zaj 1 t7 (.int .i64 0) (K' · H)) fun t8 H =>
 zab t5 true H (fun K' => zad false 1 t8 H (K' · H)) fun t9 H =>
 zab t5 true H (fun K' => zac .eql false t9 (.int .u32 1) (K' · H)) fun t10 H =>
 zai t5 t10 (.bool false) fun t11 =>
 K t11 H
theorem zDG {t0 : AV} {H : zaa} {K : Kt} (h : HSc H → ziG t0 H K) : ACalls tP zgK [t0] H K :=
 zam (M := zDE) Tryz.func186 (c := zDF) (by kernel_rfl) (fun hs => Eq.mpr (by kernel_rfl) (h hs))
def zec : Nat → List Bool
 | 1 => rl false [0,2,47]
 | 5 => rl false [5,1,1,1,41]
 | _ => []
noncomputable def znc : Code := Tryz.f187.body.getD .skip
noncomputable def zDN : List ResultVar := Tryz.f187.results.toList
def zne (t0 t1 : AV) : List AV := t0 :: t1 :: ux 47 []
def ztO : List Bool := zec 1
noncomputable def znd : Code := zar [1, 0, 0, 0] znc
def ztL (K : Kt) : AExit → List AV → zaa → Prop := zas tP zec [1, 0, 0] znc (zaw tP zDN K)
def ztM (t0 t1 : AV) (H : zaa) (K : Kt) : Prop := ALoop tP znd (ztL K) (zne t0 t1) H
def ziH (t5 t7 : AV) : List AV := ux 5 (t5 :: ux 1 (t7 :: ux 41 []))
def zDL : List Bool := zec 5
noncomputable def zDI : Code := zar [1, 0, 0, 1, 0, 1, 1, 0, 0, 0] znd
def zDH (K : Kt) (Kb1 : Lt) : AExit → List AV → zaa → Prop := zas tP zec [1, 0, 0, 1, 0, 1, 1, 0, 0] znd (zbQ ztO Kb1 (ztL K))
def ztN (t5 t7 : AV) (H : zaa) (K : Kt) (Kb1 : Lt) : Prop := ALoop tP zDI (zDH K Kb1) (ziH t5 t7) H
def znb (t5 t7 : AV) (H : zaa) (K : Kt) (Kb1 : Lt) (Kb5 : Lt) : Prop :=
 zac .gtr false t7 (.int .u64 0) fun t33 =>
 zag t33
 (zae H (fun K' => K' t7 H) fun t34 =>
 zae H (fun K' => K' t5 H) fun t35 =>
 zae H (fun K' => K' t7 H) fun t36 =>
 zae H (fun K' => zac .rem false t35 t36 (K' · H)) fun t37 =>
 zae H (fun K' => K' t34 H) fun t5 =>
 zae H (fun K' => K' t37 H) fun t7 =>
 Kb5 (ziH t5 t7) H)
 (ACalls tP zey [t5] H fun t39 H =>
 K t39 H)
def zna (t0 t1 : AV) (H : zaa) (K : Kt) (Kb1 : Lt) : Prop :=
 zah 1 t1 fun t12 =>
 zac .gtr false t12 (.int .i64 0) fun t13 =>
 zag t13
 (zah 1 t0 fun t15 =>
 zac .leq false t15 (.int .i64 2) fun t16 =>
 zab t16 true H (fun K' => K' t1 H) fun t18 H =>
 zab t16 true H (fun K' => zah 1 t18 (K' · H)) fun t19 H =>
 zab t16 true H (fun K' => zac .leq false t19 (.int .i64 2) (K' · H)) fun t20 H =>
 zai t16 t20 (.bool false) fun t21 =>
 zag t21
 (ACalls tP zgN [t0] H fun t24 H =>
 zax t24 0 fun t25 =>
 zax t24 1 fun t26 =>
 ACalls tP zgN [t1] H fun t29 H =>
 zax t29 0 fun t30 =>
 zax t29 1 fun t31 =>
 ztN t25 t30 H K Kb1)
 (ACalls tP zfv [t0, t1] H fun t43 H =>
 zax t43 0 fun t44 =>
 zax t43 1 fun t45 =>
 Kb1 (zne t1 t45) H))
 (K t0 H)
def ztK (t0 t1 : AV) (H : zaa) (K : Kt) : Prop :=
 ztM t0 t1 H K
theorem zDK {t5 t7 : AV} {H : zaa} {K : Kt} {Kb1 : Lt} (Inv : Nat → AV → AV → zaa → Prop) (n : Nat) (h0 : HSc H → Inv n t5 t7 H)
  (round : Rd2 (fun t5 => fun t7 => ziH t5 t7) (fun t5 => fun t7 => fun H Kb5 => znb t5 t7 H K Kb1 Kb5) H Inv) : ztN t5 t7 H K Kb1 :=
 lp2 (M := zec) zDL t5 t7 (by kernel_rfl) Inv n h0 round
theorem zDJ {t0 t1 : AV} {H : zaa} {K : Kt} (Inv : Nat → AV → AV → zaa → Prop) (n : Nat) (h0 : HSc H → Inv n t0 t1 H)
  (round : Rd2 (fun t0 => fun t1 => zne t0 t1) (fun t0 => fun t1 => fun H Kb1 => zna t0 t1 H K Kb1) H Inv) : ztM t0 t1 H K :=
 lp2 (M := zec) ztO t0 t1 (by kernel_rfl) Inv n h0 round
theorem zDM {t0 t1 : AV} {H : zaa} {K : Kt} (h : HSc H → ztK t0 t1 H K) : ACalls tP zk7 [t0, t1] H K :=
 zam (M := zec) Tryz.func187 (c := znc) (by kernel_rfl) (fun hs => Eq.mpr (by kernel_rfl) (h hs))
def ztQ : Nat → List Bool
 | 12 => rl false [8,6,77]
 | _ => []
noncomputable def znf : Code := Tryz.f188.body.getD .skip
noncomputable def zDT : List ResultVar := Tryz.f188.results.toList
def zDQ (t8 t9 t10 t11 t12 t13 : AV) : List AV := ux 8 (t8 :: t9 :: t10 :: t11 :: t12 :: t13 :: ux 77 [])
noncomputable def zDP : Code := zar [1, 1, 1, 1, 1, 1, 1, 1, 0, 1, 0, 0] znf
def zDO (K : Kt) : AExit → List AV → zaa → Prop := zas tP ztQ [1, 1, 1, 1, 1, 1, 1, 1, 0, 1, 0] znf (zaw tP zDT K)
def zDR (t8 t9 t10 t11 t12 t13 : AV) (H : zaa) (K : Kt) : Prop := ALoop tP zDP (zDO K) (zDQ t8 t9 t10 t11 t12 t13) H
def ztP (t0 t1 : AV) (H : zaa) (K : Kt) : Prop :=
 ACalls tP zkM [t0, t1] H fun t18 H =>
 zac .lss false t18 (.int .i64 0) fun t19 =>
 zag t19
 (zaA zbr 1 4 .snil t0 H fun t21 H =>
 zay [.snil, t21] (K · H))
 (zah 1 t1 fun t23 =>
 zac .eql false t23 (.int .i64 1) fun t24 =>
 zag t24
 (zaj 1 t1 (.int .i64 0) fun t28 =>
 zad false 1 t28 H fun t29 =>
 zaP .u64 t29 fun t30 =>
 ACalls tP zla [t0, t30] H fun t31 H =>
 zax t31 0 fun t32 =>
 zax t31 1 fun t33 =>
 ACalls tP zey [t33] H fun t36 H =>
 zay [t32, t36] (K · H))
 (zah 1 t1 fun t38 =>
 zac .sub false t38 (.int .i64 1) fun t41 =>
 zaj 1 t1 t41 fun t42 =>
 zad false 1 t42 H fun t43 =>
 zaP .u64 t43 fun t44 =>
 zac .add false t44 (.int .u64 1) fun t45 =>
 zac .quo false (.int .u64 1000000000) t45 fun t46 =>
 ACalls tP zqo [t0, t46] H fun t49 H =>
 ACalls tP zqo [t1, t46] H fun t52 H =>
 zaL 1 1 t52 none (some t38) fun t54 =>
 zah 1 t0 fun t56 =>
 zac .sub false t56 t38 fun t58 =>
 zac .add false t58 (.int .i64 1) fun t59 =>
 zba 4 [(.int .u32 0)] t59 t59 H fun t60 H =>
 zah 1 t0 fun t62 =>
 zac .sub false t62 t38 fun t64 =>
 zDR t38 t46 t49 t54 t60 t64 H K))
theorem zDS {t0 t1 : AV} {H : zaa} {K : Kt} (h : HSc H → ztP t0 t1 H K) : ACalls tP zfv [t0, t1] H K :=
 zam (M := ztQ) Tryz.func188 (c := znf) (by kernel_rfl) (fun hs => Eq.mpr (by kernel_rfl) (h hs))
def zEe (_ : Nat) : List Bool := []
noncomputable def zEf : Code := Tryz.f200.body.getD .skip
def ztX (t0 t1 : AV) (H : zaa) (K : Kt) : Prop :=
 zau [(.bool false), .snil, .snil] H fun t4 H =>
 zac .eql false t1 (.int .i64 0) fun t6 =>
 zag t6
 (ACalls tP zd0 [(.int .i64 0)] H fun t7 H =>
 zak 3 t4 t7 H fun H =>
 zad true 3 t4 H fun r0 =>
 K r0 H)
 (zac .lss false t0 (.int .i64 0) fun t9 =>
 zac .lss false t1 (.int .i64 0) fun t11 =>
 zac .neq true t9 t11 fun t12 =>
 ACalls tP zfs [t0] H fun t14 H =>
 ACalls tP zfs [t1] H fun t16 H =>
 zav [(.bool false), .snil, .snil] [(0, 1), (1, 1), (2, 1)] [(0, t12), (1, t14), (2, t16)] fun t17 =>
 ACalls tP zev [t17] H fun t18 H =>
 zak 3 t4 t18 H fun H =>
 zad true 3 t4 H fun r0 =>
 K r0 H)
theorem zEg {t0 t1 : AV} {H : zaa} {K : Kt} (h : HSc H → ztX t0 t1 H K) : ACalls tP zk9 [t0, t1] H K :=
 zam (M := zEe) Tryz.func200 (c := zEf) (by kernel_rfl) (fun hs => Eq.mpr (by kernel_rfl) (h hs))
def ziJ : Nat → List Bool
 | 3 => rl false [0,1,3,1,3,2,22]
 | _ => []
noncomputable def znj : Code := Tryz.f202.body.getD .skip
noncomputable def zEq : List ResultVar := Tryz.f202.results.toList
def ziK (t0 t4 t8 t9 : AV) : List AV := t0 :: ux 3 (t4 :: ux 3 (t8 :: t9 :: ux 22 []))
def zEo : List Bool := ziJ 3
noncomputable def zEm : Code := zar [1, 1, 0, 1, 0, 0] znj
def zEl (K : Kt) : AExit → List AV → zaa → Prop := zas tP ziJ [1, 1, 0, 1, 0] znj (zaw tP zEq K)
def ztZ (t0 t4 t8 t9 : AV) (H : zaa) (K : Kt) : Prop := ALoop tP zEm (zEl K) (ziK t0 t4 t8 t9) H
def zni (t0 t4 t8 t9 : AV) (H : zaa) (K : Kt) (Kb3 : Lt) : Prop :=
 zac .lss false t9 t8 fun t10 =>
 zag t10
 (zah 1 t0 fun t14 =>
 zac .sub false t14 (.int .i64 1) fun t15 =>
 zac .sub false t15 t9 fun t17 =>
 zaj 1 t0 t17 fun t18 =>
 zad false 1 t18 H fun t19 =>
 zaP .u64 t19 fun t20 =>
 zac .sub false (.int .u64 18446744073709551615) t20 fun t23 =>
 zac .quo false t23 (.int .u64 1000000000) fun t24 =>
 zac .gtr false t4 t24 fun t25 =>
 zag t25
 (zay [(.int .u64 0), (.bool false)] (K · H))
 (zac .mul false t4 (.int .u64 1000000000) fun t27 =>
 zac .add false t27 t20 fun t29 =>
 zac .add false t9 (.int .i64 1) fun t30 =>
 Kb3 (ziK t0 t29 t8 t30) H))
 (zay [t4, (.bool true)] (K · H))
def ztY (t0 : AV) (H : zaa) (K : Kt) : Prop :=
 zah 1 t0 fun t8 =>
 ztZ t0 (.int .u64 0) t8 (.int .i64 0) H K
theorem zEn {t0 t4 t8 t9 : AV} {H : zaa} {K : Kt} (Inv : Nat → AV → AV → zaa → Prop) (n : Nat) (h0 : HSc H → Inv n t4 t9 H)
  (round : Rd2 (fun t4 => fun t9 => ziK t0 t4 t8 t9) (fun t4 => fun t9 => fun H Kb3 => zni t0 t4 t8 t9 H K Kb3) H Inv) : ztZ t0 t4 t8 t9 H K :=
 lp2 (M := ziJ) zEo t4 t9 (by kernel_rfl) Inv n h0 round
theorem zEp {t0 : AV} {H : zaa} {K : Kt} (h : HSc H → ztY t0 H K) : ACalls tP zgN [t0] H K :=
 zam (M := ziJ) Tryz.func202 (c := znj) (by kernel_rfl) (fun hs => Eq.mpr (by kernel_rfl) (h hs))
def ziL : Nat → List Bool
 | 4 => rl false [0,2,4,3,32]
 | _ => []
noncomputable def znl : Code := Tryz.f203.body.getD .skip
noncomputable def zEw : List ResultVar := Tryz.f203.results.toList
def ziM (t0 t1 t6 t7 t8 : AV) : List AV := t0 :: t1 :: ux 4 (t6 :: t7 :: t8 :: ux 32 [])
def zEu : List Bool := ziL 4
noncomputable def zEs : Code := zar [1, 1, 1, 0, 1, 0, 0] znl
def zEr (K : Kt) : AExit → List AV → zaa → Prop := zas tP ziL [1, 1, 1, 0, 1, 0] znl (zaw tP zEw K)
def zt1 (t0 t1 t6 t7 t8 : AV) (H : zaa) (K : Kt) : Prop := ALoop tP zEs (zEr K) (ziM t0 t1 t6 t7 t8) H
def znk (t0 t1 t6 t7 t8 : AV) (H : zaa) (K : Kt) (Kb4 : Lt) : Prop :=
 zac .geq false t8 (.int .i64 0) fun t17 =>
 zag t17
 (zac .mul false t7 (.int .u64 1000000000) fun t21 =>
 zaj 1 t0 t8 fun t24 =>
 zad false 1 t24 H fun t25 =>
 zaP .u64 t25 fun t26 =>
 zac .add false t21 t26 fun t27 =>
 zac .quo false t27 t1 fun t32 =>
 zaP .u32 t32 fun t33 =>
 zaj 1 t6 t8 fun t34 =>
 zak 1 t34 t33 H fun H =>
 zac .rem false t27 t1 fun t37 =>
 zac .sub false t8 (.int .i64 1) fun t19 =>
 Kb4 (ziM t0 t1 t6 t37 t19) H)
 (ACalls tP zdX [t6] H fun t39 H =>
 zay [t39, t7] (K · H))
def zt0 (t0 t1 : AV) (H : zaa) (K : Kt) : Prop :=
 zah 1 t0 fun t11 =>
 zba 4 [(.int .u32 0)] t11 t11 H fun t12 H =>
 zah 1 t0 fun t14 =>
 zac .sub false t14 (.int .i64 1) fun t15 =>
 zt1 t0 t1 t12 (.int .u64 0) t15 H K
theorem zEt {t0 t1 t6 t7 t8 : AV} {H : zaa} {K : Kt} (Inv : Nat → AV → AV → zaa → Prop) (n : Nat) (h0 : HSc H → Inv n t7 t8 H)
  (round : Rd2 (fun t7 => fun t8 => ziM t0 t1 t6 t7 t8) (fun t7 => fun t8 => fun H Kb4 => znk t0 t1 t6 t7 t8 H K Kb4) H Inv) : zt1 t0 t1 t6 t7 t8 H K :=
 lp2 (M := ziL) zEu t7 t8 (by kernel_rfl) Inv n h0 round
theorem zEv {t0 t1 : AV} {H : zaa} {K : Kt} (h : HSc H → zt0 t0 t1 H K) : ACalls tP zla [t0, t1] H K :=
 zam (M := ziL) Tryz.func203 (c := znl) (by kernel_rfl) (fun hs => Eq.mpr (by kernel_rfl) (h hs))
def zAx (_ : Nat) : List Bool := []
noncomputable def zAy : Code := Tryz.f127.body.getD .skip
def zsA (t0 t1 : AV) (H : zaa) (K : Kt) : Prop :=
 zau [(.bool false), .snil, .snil] H fun t4 H =>
 zac .lss false t1 (.int .i64 0) fun t7 =>
 zab t7 false H (fun K' => K' t1 H) fun t9 H =>
 zab t7 false H (fun K' => zac .gtr false t9 (.int .i64 64) (K' · H)) fun t10 H =>
 zai t7 (.bool true) t10 fun t11 =>
 zag t11
 (ACalls tP zd0 [(.int .i64 0)] H fun t12 H =>
 zak 3 t4 t12 H fun H =>
 zad true 3 t4 H fun r0 =>
 zay [r0, (.bool false)] (K · H))
 (zel (.int .i64 0) t0 fun t14 =>
 ACalls tP zk2 [t14, t1] H fun t16 H =>
 zak 3 t4 t16 H fun H =>
 zad true 3 t4 H fun r0 =>
 zay [r0, (.bool true)] (K · H))
theorem zAz {t0 t1 : AV} {H : zaa} {K : Kt} (h : HSc H → zsA t0 t1 H K) : ACalls tP zkP [t0, t1] H K :=
 zam (M := zAx) Tryz.func127 (c := zAy) (by kernel_rfl) (fun hs => Eq.mpr (by kernel_rfl) (h hs))
def zim : Nat → List Bool
 | 3 => rl false [0,1,3,2,2,2,16]
 | _ => []
noncomputable def zmW : Code := Tryz.f169.body.getD .skip
noncomputable def zCS : List ResultVar := Tryz.f169.results.toList
def zio (t0 t4 t5 t8 t9 : AV) : List AV := t0 :: ux 3 (t4 :: t5 :: ux 2 (t8 :: t9 :: ux 16 []))
def zCQ : List Bool := zim 3
noncomputable def zCO : Code := zar [1, 1, 0, 1, 0, 0] zmW
def zCN (K : Kt) : AExit → List AV → zaa → Prop := zas tP zim [1, 1, 0, 1, 0] zmW (zaw tP zCS K)
def ztx (t0 t4 t5 t8 t9 : AV) (H : zaa) (K : Kt) : Prop := ALoop tP zCO (zCN K) (zio t0 t4 t5 t8 t9) H
def zin (t0 t4 t5 t8 t9 : AV) (H : zaa) (K : Kt) (Kb3 : Lt) : Prop :=
 zac .lss false t9 t8 fun t10 =>
 zag t10
 (zac .eql false t0 t9 fun t14 =>
 zag t14
 (ACalls tP zd0 [(.int .i64 0)] H fun t15 H =>
 zak 3 t4 t15 H fun H =>
 zad true 3 t4 H fun r0 =>
 K r0 H)
 (zae H (fun K' => zan true 3 t5 H (K' · H)) fun t16 =>
 zae H (fun K' => K' t0 H) fun t17 =>
 zae H (fun K' => K' t9 H) fun t18 =>
 zae H (fun K' => zac .sub false t17 t18 (K' · H)) fun t19 =>
 zae H (fun K' => K' t9 H) fun t20 =>
 zae H (fun K' => zac .add false t20 (.int .i64 1) (K' · H)) fun t21 =>
 za6 H (fun H K' => ACalls tP zk9 [t19, t21] H K') fun t22 =>
 za6 H (fun H K' => ACalls tP zls [t16, t22] H K') fun t23 =>
 zak 3 t5 t23 H fun H =>
 zac .add false t9 (.int .i64 1) fun t24 =>
 Kb3 (zio t0 t4 t5 t8 t24) H))
 (zad true 3 t5 H fun t25 =>
 zak 3 t4 t25 H fun H =>
 zad true 3 t4 H fun r0 =>
 K r0 H)
def ztw (t0 t1 : AV) (H : zaa) (K : Kt) : Prop :=
 zau [(.bool false), .snil, .snil] H fun t4 H =>
 ACalls tP zd0 [(.int .i64 1)] H fun t7 H =>
 zau [(.bool false), .snil, .snil] H fun t5 H =>
 zak 3 t5 t7 H fun H =>
 ztx t0 t4 t5 t1 (.int .i64 0) H K
theorem zCP {t0 t4 t5 t8 t9 : AV} {H : zaa} {K : Kt} (Inv : Nat → AV → zaa → Prop) (n : Nat) (h0 : HSc H → Inv n t9 H)
  (round : Rd1 (fun t9 => zio t0 t4 t5 t8 t9) (fun t9 => fun H Kb3 => zin t0 t4 t5 t8 t9 H K Kb3) H Inv) : ztx t0 t4 t5 t8 t9 H K :=
 lp1 (M := zim) zCQ t9 (by kernel_rfl) Inv n h0 round
theorem zCR {t0 t1 : AV} {H : zaa} {K : Kt} (h : HSc H → ztw t0 t1 H K) : ACalls tP zk2 [t0, t1] H K :=
 zam (M := zim) Tryz.func169 (c := zmW) (by kernel_rfl) (fun hs => Eq.mpr (by kernel_rfl) (h hs))
end Go.Proofs.YtjkkonpjecoieaaGreat
