import Derived.Test.YtjkkonpjecoieaaGreatKN13
import Derived.Test.YtjkkonpjecoieaaGreatKGR7
import Derived.Test.YtjkkonpjecoieaaGreatAbsQ1
import Derived.Deep.Slices
import Derived.DataReads
set_option linter.unusedSimpArgs false
set_option linter.unusedVariables false
namespace Go.Proofs.YtjkkonpjecoieaaGreat
open Go Go.Abs
set_option maxRecDepth 8000
theorem zA2 : ∀ (m : Nat) (v : VT), v.nodes ≤ m → v.nodes ≤ 100000 → ∀ (H : zaa) (K : Kt), K (.int .i64 v.nodes) H → ACalls tP zgz [.agg v.cs] H K := by
 intro m
 induction m with
 | zero => intro v h; have := v.nodes_pos; omega
 | succ m ih =>
  intro v hm hb H K hK
  obtain ⟨k, n, ks⟩ := v
  have hnn : (VT.mk k n ks).nodes = VT.nodesL ks + 1 := by simp [VT.nodes]
  have hll := VT.len_le ks
  refine ACalls.out (zA0 fun hs => ?_)
  simp [zst, VT.cs, Nat.add_assoc]
  refine zAY (Inv := fun q t3 t9 H' => ∃ i : Nat, i ≤ ks.length ∧ ks.length - i = q ∧ t9 = .int .i64 i ∧ t3 = .int .i64 ((VT.nodesL (ks.take i) + 1 : Nat) : Int) ∧ H' = H ++ [.cells [.int .i64 k, .int .i64 n, .sl (VT.css ks) .none]]) ks.length ?_ ?_
  ·intro _; exact ⟨0, by omega, rfl, rfl, by simp [VT.nodesL], rfl⟩
  ·rintro q t3 t9 H' ⟨i, hi, rfl, rfl, rfl, rfl⟩ hsc' hlen hsF Kb hKb
   have htk := VT.nodesL_take_le ks i
   by_cases hlt : i < ks.length
   ·obtain ⟨x, y, z, hvx, hx, hy, hz⟩ := zaE ks[i]
    have hkn := VT.kid_lt (k := k) (n := n) hlt
    have hts := VT.nodesL_take hlt
    have hts2 := VT.nodesL_take_le ks (i + 1)
    simp [zmq, hlt, hvx, hx, hy, hz, wi i (by omega), Nat.add_assoc]
    rw [← hvx]
    refine ih ks[i] (by omega) (by omega) _ _ ?_
    have hw : IntKind.i64.wrap ((VT.nodesL (ks.take i) : Int) + (1 + (ks[i]).nodes)) = ((VT.nodesL (ks.take (i + 1)) + 1 : Nat) : Int) := by rw [zaq (by omega) (by omega)]; omega
    have hw2 : IntKind.i64.wrap ((VT.nodesL (ks.take i) : Int) + 1 + (ks[i]).nodes) = ((VT.nodesL (ks.take (i + 1)) + 1 : Nat) : Int) := by rw [zaq (by omega) (by omega)]; omega
    simp [hw, hw2]
    exact hKb _ _ ⟨ks.length - (i + 1), by omega, Back.at (J := [.cells (ks[i]).cs]) (H2 := H ++ [.cells [.int .i64 k, .int .i64 n, .sl (VT.css ks) .none]]) (by simp) (by simp) (hs.append (by simp [AB.sc, AV.scA, AV.scB])) (by simp [zhX, ux, AV.sc, AV.scA, AV.scB, AV.scV]) ⟨_, _, rfl, i + 1, by omega, rfl, rfl, rfl, rfl⟩⟩
   ·obtain rfl : i = ks.length := by omega
    simp [zmq]
    refine Out.int (J := _) rfl (Nat.le_refl _) hs ?_
    rw [hnn] at hK
    simpa using hK
end Go.Proofs.YtjkkonpjecoieaaGreat
namespace Go.Proofs.YtjkkonpjecoieaaGreat
open Go Go.Abs Go.RowKit
set_option maxRecDepth 8000
theorem zF2 (data : List Dat) (hk : zbp data) (v t : VT) (hv : v.nodes ≤ 5000) (ht : t.nodes ≤ 1000000) (H : zaa) (K : Kt) (hK : K (.sl (VT.css (zqO data v t)) .none) H) :
  ACalls tP zlm [.sl (data.map Dat.cs) .none, .agg v.cs, .agg t.cs] H K := by
 obtain ⟨k, n, al⟩ := t
 rw [zqP] at hK
 have hTc : (VT.mk k n al).cs = [.int .i64 k, .int .i64 n, .sl (VT.css al) .none] := rfl
 obtain ⟨x, y, z, hvx, hx, hy, hz⟩ := zaE v
 refine ACalls.out (zF1 fun hs => ?_)
 by_cases h5 : k = 5
 ·subst h5
  rw [if_pos rfl] at hK
  simp [znI, hTc, hvx, Nat.add_assoc]
  rw [← hTc, ← hvx]
  refine zsF data hk v (.mk 5 n al) hv ht _ _ ?_
  cases hh : zbN data v (.mk 5 n al) with
  | true =>
   rw [hh, if_pos rfl] at hK
   obtain ⟨hd, hty, hhv⟩ := zky hh
   have hn0 : 0 ≤ n := by
    obtain ⟨vk, c, ks⟩ := v
    exact (zgl hhv).2.1
   obtain ⟨n, rfl⟩ : ∃ x : Nat, n = x := ⟨n.toNat, by omega⟩
   simp only [Int.toNat_natCast] at hK
   have hpl := zeF (za8 data n) v
   simp [hTc, hvx, Nat.add_assoc]
   rw [← hTc, ← hvx]
   refine ACalls.ownA (us := [_, _, _]) zbe 3 ?_
   show ACalls tP zfF [.sl (data.map Dat.cs) .none, .agg v.cs, .int .i64 n, .sl (VT.css []) (.own (H ++ [AB.cells v.cs, .cells (VT.mk 5 n al).cs]).length)] _ _
   refine zIw hk (al := al) rfl _ v (Nat.le_refl _) (by omega) hhv _ _ [] (by simp) (by simp; omega) _ ?_
   simp
   exact Out.at (b := .sl (VT.css (za2 (za8 data n) v)) .none) (H2 := H) (J := [.cells v.cs, .cells (VT.mk 5 n al).cs, .perm zbe 3 (za2 (za8 data n) v).length]) (by simp [List.set_append_right]) (Nat.le_refl _) hs (.atom (.sl _ _)) rfl rfl hK
  | false =>
   rw [hh] at hK
   simp
   exact Out.at (b := .sl [] .none) rfl (Nat.le_refl _) hs (.atom .snil) rfl rfl (by simpa [VT.css] using hK)
 ·rw [if_neg h5] at hK
  have : (k != 5) = true := by simp [bne, h5]
  simp [znI, hTc, hvx, this, Nat.add_assoc]
  exact Out.at (b := .sl [] .none) rfl (Nat.le_refl _) hs (.atom .snil) rfl rfl (by simpa [VT.css] using hK)
theorem zIK (data : List Dat) (hk : zbp data) (v t : VT) (hv : v.nodes ≤ 5000) (ht : t.nodes ≤ 1000) (c : Int) (H : zaa) (K : Kt) (hK : K (ze9 data v t c) H) :
  ACalls tP zlt [.sl (data.map Dat.cs) .none, .agg t.cs, .agg v.cs, .int .i64 c] H K := by
 obtain ⟨k, n, al⟩ := t
 rw [zpw] at hK
 have hTc : (VT.mk k n al).cs = [.int .i64 k, .int .i64 n, .sl (VT.css al) .none] := rfl
 obtain ⟨x, y, z, hvx, hx, hy, hz⟩ := zaE v
 have hO : ∀ (a b : Int) J, K (.tup [.int .i64 a, .int .i64 b]) H → HSc H → Out H.length K (.tup [.int .i64 a, .int .i64 b]) (H ++ J) := fun a b J h hs => Out.tup (bs := [.int .i64 a, .int .i64 b]) hs h ⟨zaQ rfl rfl, zaQ rfl rfl, trivial⟩
 refine ACalls.out (zII fun hs => ?_)
 simp [zq7, hTc, hvx, Nat.add_assoc]
 rw [← hTc]
 cases hf : zbf data (.mk k n al) with
 | false =>
  rw [if_neg (by simp [hf])] at hK
  refine zuz data hk (.mk k n al) (by omega) _ _ ?_
  rw [hf]
  simp [Nat.add_assoc]
  refine ⟨⟨rfl, rfl⟩, ?_⟩
  exact hO _ _ _ hK hs
 | true =>
  refine zuz data hk (.mk k n al) (by omega) _ _ ?_
  rw [hf]
  simp [Nat.add_assoc, hTc]
  by_cases h5 : k = 5
  ·subst h5
   have htv : zaH data 0 (.mk 5 n al) = true := by simp only [zbf, Bool.and_eq_true] at hf; exact hf.2
   obtain ⟨n0, hnl⟩ := zrO htv
   obtain ⟨n, rfl⟩ : ∃ x : Nat, n = x := ⟨n.toNat, by omega⟩
   simp only [Int.toNat_natCast] at hnl hK
   have e1 : (data.map Dat.cs)[n]? = some (data[n]).cs := by simp [hnl]
   have hgd : (data.map fun D => D.cons.length).getD n 0 = data[n].cons.length := by simp [List.getD_eq_getElem?_getD, hnl]
   rw [hgd] at hK
   by_cases hc0 : c < 0
   ·rw [if_neg (by omega)] at hK
    simp [hc0]
    refine ⟨⟨rfl, rfl⟩, ?_⟩
    exact hO _ _ _ hK hs
   ·have hc0' : ¬ c < 0 := hc0
    simp [hc0, e1, hnl, Dat.cs]
    by_cases hcl : c.toNat < data[n].cons.length
    ·have : ¬ ((data[n].cons.length : Int) ≤ c) := by omega
     rw [if_pos ⟨by trivial, by trivial, by omega, hcl⟩] at hK
     simp [this, Nat.add_assoc]
     rw [← hTc, ← hvx]
     refine zsF data hk v (.mk 5 n al) hv (by omega) _ _ ?_
     cases hh : zbN data v (.mk 5 n al) with
     | false =>
      rw [hh] at hK
      simp
      refine ⟨⟨rfl, rfl⟩, ?_⟩
      exact hO _ _ _ (by simpa using hK) hs
     | true =>
      rw [hh, if_pos rfl] at hK
      obtain ⟨hd, hty, hhv⟩ := zky hh
      have hpl := zeF (za8 data n) v
      simp [Nat.add_assoc]
      refine zF2 data hk v (.mk 5 n al) hv (by omega) _ _ ?_
      rw [zqP, if_pos rfl, hh, if_pos rfl]
      simp only [Int.toNat_natCast]
      generalize hl : za2 (za8 data n) v = l at *
      simp
      refine zIG (Inv := fun q0 t12 t51 H' => ∃ i : Nat, i ≤ l.length ∧ q0 = l.length - i ∧ t12 = .int .i64 (zcr (l.take i) c) ∧ t51 = .int .i64 i ∧
       H' = H ++ [.cells (VT.mk 5 (n : Int) al).cs, .cells v.cs]) l.length ?_ ?_
      ·intro _
       exact ⟨0, by omega, by omega, by simp [zcr], rfl, by simp⟩
      ·rintro q0 t12 t51 H' ⟨i, hi, rfl, rfl, rfl, rfl⟩ hsc' hlen hsF Kb hKb
       have hcn := zpu (l.take i) c
       rw [List.length_take, Nat.min_eq_left hi] at hcn
       by_cases hlt : i < l.length
       ·obtain ⟨x2, y2, z2, hvx2, hx2, hy2, hz2⟩ := zaE l[i]
        have hsucc := zpv l c i hlt
        have hy3 : y2 = .int .i64 l[i].num := by
         generalize hli : l[i] = w at *
         obtain ⟨a, b, d⟩ := w
         simp only [VT.cs, List.cons.injEq] at hvx2
         exact hvx2.2.1.symm
        have hback : ∀ J, zjM (.int .i64 c) (.int .i64 (zcr (l.take (i + 1)) c)) (.sl (VT.css l) .none) (.int .i64 l.length) (.int .i64 i) (H ++ [.cells (VT.mk 5 (n : Int) al).cs, .cells v.cs] ++ J) (Out H.length K) Kb := by
         intro J
         simp [zjM, zvq]
         rw [zaq (by omega) (by omega)]
         refine hKb _ _ ⟨l.length - (i + 1), by omega, Back.at (J := J) (H2 := H ++ [.cells (VT.mk 5 (n : Int) al).cs, .cells v.cs]) (by simp) (by simp) hsc' ?_ ⟨_, _, rfl, i + 1, by omega, rfl, rfl, by simp, rfl⟩⟩
         simp [zjL, AV.sc, AV.scV, AV.scA, AV.scB]
        have h0 := hback [.cells l[i].cs]
        simp [zow, hlt, hvx2, Nat.add_assoc]
        by_cases hq : l[i].num = c
        ·rw [if_pos hq] at hsucc
         rw [hsucc] at h0
         simp [hy3, hq, hx2, hz2]
         rw [zaq (by omega) (by omega)]
         simpa [hvx2, hy3, hq] using h0
        ·rw [if_neg hq] at hsucc
         rw [hsucc] at h0
         have hq2 : (l[i].num == c) = false := by simp [hq]
         simp [hy3, hq2, hx2, hz2]
         simpa [hvx2, hy3, hq] using h0
       ·obtain rfl : i = l.length := by omega
        rw [List.take_length]
        simp [zow]
        refine ⟨⟨rfl, rfl⟩, ?_⟩
        exact hO _ _ _ hK hs
    ·rw [if_neg (by omega)] at hK
     have : ((data[n].cons.length : Int) ≤ c) := by omega
     simp [this]
     refine ⟨⟨rfl, rfl⟩, ?_⟩
     exact hO _ _ _ hK hs
  ·rw [if_neg (by simp [h5])] at hK
   have : (k != 5) = true := by simp [bne, h5]
   simp [this]
   refine ⟨⟨rfl, rfl⟩, ?_⟩
   exact hO _ _ _ hK hs
theorem zHr (data : List Dat) (hlen : data.length ≤ 9223372036854775807) (t v : VT) (H : zaa) (K : Kt) (hK : ∀ b, (b = true → zbp data ∧ t.nodes ≤ 250 ∧ v.nodes ≤ 120) → K (.bool b) H) :
  ACalls tP zlp [.sl (data.map Dat.cs) .none, .agg t.cs, .agg v.cs] H K := by
 refine ACalls.out (zHq fun hs => ?_)
 have hO : ∀ b J, (b = true → zbp data ∧ t.nodes ≤ 250 ∧ v.nodes ≤ 120) → Out H.length K (.bool b) (H ++ J) := fun b J h => Out.bool rfl (Nat.le_refl _) hs (hK b h)
 obtain ⟨x, y, z, hvx, hx, hy, hz⟩ := zaE v
 obtain ⟨x2, y2, z2, hvx2, hx2, hy2, hz2⟩ := zaE t
 simp [zq5, hvx, hvx2, Nat.add_assoc]
 refine zFD data _ _ hlen fun b1 hb1 => ?_
 cases b1 with
 | false =>
  simp
  exact hO _ _ (by simp)
 | true =>
 simp [Nat.add_assoc]
 rw [← hvx2]
 refine zFH t _ _ fun b3 hb3 => ?_
 cases b3 with
 | false =>
  simp
  exact hO _ _ (by simp)
 | true =>
 simp [Nat.add_assoc]
 rw [← hvx]
 refine zAe v _ _ fun b2 hb2 => ?_
 cases b2 with
 | false =>
  simp
  exact hO _ _ (by simp)
 | true =>
 have hk := hb1 rfl
 have hv := hb2 rfl
 have ht := hb3 rfl
 simp [Nat.add_assoc]
 refine zA2 _ v (Nat.le_refl _) (by omega) _ _ ?_
 simp
 exact hO _ _ (fun h => ⟨hk, ht, by simp at h; omega⟩)
theorem zvH (data : List Dat) (hlen : data.length ≤ 9223372036854775807) (t v : VT) (c : Int) (H : zaa) (K : Kt) (hK : K (.bool true) H) :
  ACalls tP zkJ [.sl (data.map Dat.cs) .none, .agg t.cs, .agg v.cs, .int .i64 c] H K := by
 refine ACalls.out (zEk fun hs => ?_)
 have hO : ∀ J, Out H.length K (.bool true) (H ++ J) := fun J => Out.bool rfl (Nat.le_refl _) hs hK
 obtain ⟨x, y, z, hvx, hx, hy, hz⟩ := zaE v
 obtain ⟨x2, y2, z2, hvx2, hx2, hy2, hz2⟩ := zaE t
 simp [zq1, hvx, hvx2, Nat.add_assoc]
 rw [← hvx, ← hvx2]
 refine zHr data hlen t v _ _ fun b hb => ?_
 cases b with
 | false =>
  simp
  exact hO _
 | true =>
  obtain ⟨hk, ht, hv⟩ := hb rfl
  simp [hvx, hvx2, Nat.add_assoc]
  rw [← hvx, ← hvx2]
  refine zHK data hk v t (by omega) (by omega) c _ _ ?_
  obtain ⟨m, e, hr⟩ : ∃ m e : Int, ze9 data v t c = .tup [.int .i64 m, .int .i64 e] := by
   unfold ze9
   split
   ·split
    ·exact ⟨_, _, rfl⟩
    ·exact ⟨_, _, rfl⟩
   ·exact ⟨_, _, rfl⟩
  rw [hr]
  simp [hvx, hvx2, Nat.add_assoc]
  rw [← hvx, ← hvx2]
  refine zIK data hk v t (by omega) (by omega) c _ _ ?_
  rw [hr]
  simp
  refine zwc _ _ ?_
  try simp
  exact hO _
end Go.Proofs.YtjkkonpjecoieaaGreat
namespace Go.Abs
open Go Go.RowKit

def zbi (P : Program) : Nat → TypeId → List AV → Prop
 | 0, _, _ => False
 | n + 1, t, asx => match P.underlying t with
  | some .bool => ∃ b, asx = [.bool b]
  | some (.int k) => ∃ m, asx = [.int k m] ∧ (Lit.int k m).wf = true
  | some .string => ∃ s, asx = [.str s] ∧ s.length ≤ maxLen
  | some (.slice e) => ∃ es, asx = [.sl es .none] ∧ es.length ≤ maxLen ∧ ∀ c ∈ es, zbi P n e c
  | some (.struct fs) => asx.length = P.cellsOf t ∧ ∀ f ∈ fs.toList, zbi P n f.type ((asx.drop f.offset).take (P.cellsOf f.type))
  | _ => False

def zdC (P : Program) : List Field → Nat → Nat → Bool
 | [], at_, n => at_ == n
 | f :: fs, at_, n => f.offset == at_ && zdC P fs (at_ + P.cellsOf f.type) n
def zhd (P : Program) (S : List TypeId) : Bool :=
 S.all fun t => match P.underlying t with
  | some .bool | some (.int _) | some .string => P.cellsOf t == 1
  | some (.slice e) => S.contains e && decide (0 < P.cellsOf e) && P.cellsOf t == 1
  | some (.struct fs) => fs.toList.all (fun f => S.contains f.type) && zdC P fs.toList 0 (P.cellsOf t)
  | _ => false

section
variable {Hh : Type} {enc : TypeId × Value → Hh} {P : Program} {w : World} {base : Nat} {spare : Nat → Bool} {held : Bool}

theorem zrz {R : Value → AV → Prop} {cs : List Value} : ∀ (fs : List Field) (at_ n : Nat) (T : Field → List AV → Prop), zdC P fs at_ n = true → cs.length = n →
  (∀ f ∈ fs, ∃ asx, All2 R ((cs.drop f.offset).take (P.cellsOf f.type)) asx ∧ T f asx) → at_ ≤ n →
  ∃ asx, All2 R (cs.drop at_) asx ∧ ∀ f ∈ fs, T f ((asx.drop (f.offset - at_)).take (P.cellsOf f.type)) ∧ at_ ≤ f.offset
 | [], at_, n, T, ht, hl, hf, hle => by
  simp [zdC] at ht
  subst ht
  refine ⟨[], ?_, by simp⟩
  rw [List.drop_eq_nil_of_le (by omega)]
  trivial
 | f :: fs, at_, n, T, ht, hl, hf, hle => by
  simp only [zdC, Bool.and_eq_true, beq_iff_eq] at ht
  obtain ⟨h1, h2⟩ := ht
  have hbound : ∀ (fs : List Field) (k n : Nat), zdC P fs k n = true → k ≤ n := by
   intro fs
   induction fs with
   | nil => intro k n h; simp [zdC] at h; omega
   | cons g gs ih => intro k n h; simp only [zdC, Bool.and_eq_true] at h; have := ih _ _ h.2; omega
  have hb := hbound fs _ _ h2
  obtain ⟨as0, ha0, hT0⟩ := hf f (by simp)
  obtain ⟨as1, ha1, hT1⟩ := zrz fs (at_ + P.cellsOf f.type) n T h2 hl (fun g hg => hf g (by simp [hg])) hb
  have hl0 : as0.length = P.cellsOf f.type := by
   have := ha0.length
   rw [List.length_take, List.length_drop] at this
   omega
  refine ⟨as0 ++ as1, ?_, ?_⟩
  ·have : cs.drop at_ = (cs.drop f.offset).take (P.cellsOf f.type) ++ cs.drop (at_ + P.cellsOf f.type) := by
    rw [h1, ← List.drop_drop, List.take_append_drop]
   rw [this]
   exact ha0.append ha1
  ·intro g hg
   rcases List.mem_cons.1 hg with rfl | hg
   ·rw [h1, Nat.sub_self, List.drop_zero, ← hl0, List.take_left]
    exact ⟨hT0, Nat.le_refl _⟩
   ·obtain ⟨k1, k2⟩ := hT1 g hg
    refine ⟨?_, by omega⟩
    have : (as0 ++ as1).drop (g.offset - at_) = as1.drop (g.offset - (at_ + P.cellsOf f.type)) := by
     rw [List.drop_append, List.drop_eq_nil_of_le (by omega), List.nil_append]
     congr 1
     omega
    rw [this]
    exact k1

theorem zge {a : Addr} {n : Nat} {cs : List Value} (h : w.cells? base a n = some cs) : cs.length = n ∧ ∀ j v, cs[j]? = some v → w.cell? (a.add j) = some v := by
 unfold World.cells? at h
 split at h
 ·have h1 := mapM_some_length h
  refine ⟨by simpa using h1, fun j v hj => ?_⟩
  have hjn : j < n := by
   have := (List.getElem?_eq_some_iff.1 hj).1
   simp at h1
   omega
  have := mapM_some_get h j j (by simp [hjn])
  rw [this]
  exact hj
 ·cases h

theorem zxb {b o : Nat} {v : Value} (h : w.cell? ⟨b, o, none⟩ = some v) : o < zbZ w b := by
 unfold World.cell? at h
 unfold zbZ
 split at h
 ·rename_i c t fr hb
  simp only [hb]
  simp at h
  exact (Array.getElem?_eq_some_iff.1 h).1
 ·cases h

theorem zrG {S : List TypeId} (hS : zhd P S = true) : ∀ (n : Nat) (t : TypeId) (cs : List Value) (x : DataW Hh × List MemPlace), t ∈ S → DataW.trod enc P w base spare held n t cs = some x →
  ∃ asx, All2 (DRel w (zbZ w)) cs asx ∧ zbi P n t asx := by
 intro n
 induction n with
 | zero => intro t cs x _ h; simp [DataW.trod] at h
 | succ n ih =>
  intro t cs x ht h
  have hp := List.all_eq_true.1 hS t ht
  unfold zbi
  cases hu : P.underlying t with
  | none => simp [hu] at hp
  | some d =>
   rw [hu] at hp
   cases d <;> simp only [] at hp <;> try (cases hp; done)
   case bool =>
    obtain ⟨b, rfl, _⟩ := DataW.trod_bool hu h
    exact ⟨[.bool b], ⟨.bool b, trivial⟩, b, rfl⟩
   case int k =>
    obtain ⟨m, rfl, _, hw⟩ := DataW.trod_int hu h
    exact ⟨[.int k m], ⟨.int k m, trivial⟩, m, rfl, hw⟩
   case string =>
    obtain ⟨s, rfl, _, hw⟩ := DataW.trod_string hu h
    have hs : (⟨s.data.toList.toArray⟩ : ByteArray) = s := by simp
    refine ⟨[.str s.data.toList], ⟨?_, trivial⟩, s.data.toList, rfl, by rw [Array.length_toList]; exact hw⟩
    have := DRel.str (w := w) (L := zbZ w) s.data.toList
    rwa [hs] at this
   case slice e =>
    simp only [Bool.and_eq_true, decide_eq_true_eq] at hp
    obtain ⟨⟨he, hpos⟩, _⟩ := hp
    have he : e ∈ S := by simpa using he
    rcases DataW.trod_slice hu h with ⟨rfl, _⟩ | ⟨a, len, cap, elems, rest, n', hn, rfl, _, hb, hl, hm, hlen, hel, _⟩
    ·exact ⟨[.sl [] .none], ⟨.slE _ _, trivial⟩, [], rfl, by simp, by simp⟩
    ·obtain rfl : n = n' := by omega
     have hat : ∀ i, i < len → ∃ cs asx, w.cells? base (a.add (i * P.cellsOf e)) (P.cellsOf e) = some cs ∧ All2 (DRel w (zbZ w)) cs asx ∧ zbi P n e asx := by
      intro i hi
      have h1 := hel i hi
      rw [List.getElem?_eq_getElem (by omega)] at h1
      cases hc : w.cells? base (a.add (i * P.cellsOf e)) (P.cellsOf e) with
      | none => rw [hc] at h1; cases h1
      | some cs =>
       rw [hc] at h1
       obtain ⟨asx, h2, h3⟩ := ih e cs _ he h1
       exact ⟨cs, asx, rfl, h2, h3⟩
     by_cases h0 : len = 0
     ·subst h0
      exact ⟨[.sl [] .none], ⟨.slE _ _, trivial⟩, [], rfl, by simp, by simp⟩
     ·-- the address is a zaz one
      have hspot : a.spot = none := by
       obtain ⟨cs, asx, h1, h2, _⟩ := hat 0 (by omega)
       obtain ⟨h3, h4⟩ := zge h1
       have h5 := h4 0 cs[0] (by simp)
       have := World.cell?_spot h5
       simpa [Addr.add] using this
      obtain ⟨b, off, sp⟩ := a
      simp only at hspot
      subst hspot
      obtain ⟨f, hf⟩ : ∃ f : Nat → List Value × List AV, ∀ i, i < len → w.cells? base ((⟨b, off, none⟩ : Addr).add (i * P.cellsOf e)) (P.cellsOf e) = some (f i).1 ∧ All2 (DRel w (zbZ w)) (f i).1 (f i).2 ∧ zbi P n e (f i).2 :=
       Deep.choose_lt (p := fun i (y : List Value × List AV) => w.cells? base ((⟨b, off, none⟩ : Addr).add (i * P.cellsOf e)) (P.cellsOf e) = some y.1 ∧ All2 (DRel w (zbZ w)) y.1 y.2 ∧ zbi P n e y.2)
        (fun i hi => by obtain ⟨cs, asx, h1, h2, h3⟩ := hat i hi; exact ⟨(cs, asx), h1, h2, h3⟩)
      have hcell : ∀ i, i < len → ∀ j v, (f i).1[j]? = some v → w.cell? ⟨b, off + i * P.cellsOf e + j, none⟩ = some v := by
       intro i hi j v hj
       have := (zge (hf i hi).1).2 j v hj
       rw [add_lit, add_lit] at this
       exact this
      have hlen2 : ∀ i, i < len → (f i).2.length = P.cellsOf e := fun i hi => by
       rw [← (hf i hi).2.1.length]; exact (zge (hf i hi).1).1
      refine ⟨[.sl ((List.range len).map fun i => (f i).2) .none], ⟨?_, trivial⟩, _, rfl, by simp; omega, ?_⟩
      ·have := DRel.sl (w := w) (L := zbZ w) b off cap (P.cellsOf e) ((List.range len).map fun i => (f i).2) (fun i j => (f i).1.getD j undef) (by simp; exact h0) (by simpa using hl) ?_ ?_ ?_ ?_
       ·simpa using this
       ·-- the last cell is there
        have hi : len - 1 < len := by omega
        have hj : P.cellsOf e - 1 < (f (len - 1)).1.length := by rw [(zge (hf _ hi).1).1]; omega
        have := zxb (hcell (len - 1) hi (P.cellsOf e - 1) _ (List.getElem?_eq_getElem hj))
        have hmul : (len - 1) * P.cellsOf e + P.cellsOf e = len * P.cellsOf e := by
         rw [← Nat.succ_mul]; congr 1; omega
        simp
        omega
       ·intro i hi
        simp at hi
        simpa using hlen2 i hi
       ·intro i j hi hj
        simp at hi hj
        have hjl : j < (f i).1.length := by rw [(hf i hi).2.1.length]; exact hj
        simp only [List.getD_eq_getElem?_getD, List.getElem?_eq_getElem hjl, Option.getD_some]
        exact hcell i hi j _ (List.getElem?_eq_getElem hjl)
       ·intro i j hi hj
        simp at hi hj
        have hjl : j < (f i).1.length := by rw [(hf i hi).2.1.length]; exact hj
        obtain ⟨c, h1, h2⟩ := (hf i hi).2.1.get' (List.getElem?_eq_getElem hjl)
        simp only [List.getD_eq_getElem?_getD, List.getElem?_eq_getElem hjl, Option.getD_some, List.getElem_map, List.getElem_range]
        have : (f i).2[j] = c := by rw [List.getElem?_eq_getElem hj] at h1; exact Option.some.inj h1
        rw [this]
        exact h2
      ·intro c hc
       obtain ⟨i, hi, rfl⟩ := List.mem_map.1 hc
       exact (hf i (by simpa using hi)).2.2
   case struct fs =>
    simp only [Bool.and_eq_true] at hp
    obtain ⟨hfs, htile⟩ := hp
    obtain ⟨xs, n', hn, _, hcl, hxl, hat⟩ := DataW.trod_struct hu h
    obtain rfl : n = n' := by omega
    obtain ⟨asx, h1, h2⟩ := zrz (P := P) (R := DRel w (zbZ w)) (cs := cs) fs.toList 0 (P.cellsOf t) (fun f asx => zbi P n f.type asx) htile hcl (fun f hf => by
     obtain ⟨i, hi⟩ := List.mem_iff_getElem?.1 hf
     have hi' : fs[i]? = some f := by simpa using hi
     have h3 := hat i f hi'
     have hlt : i < xs.length := by rw [hxl]; exact (Array.getElem?_eq_some_iff.1 hi').1
     rw [List.getElem?_eq_getElem hlt] at h3
     exact ih f.type _ _ (by simpa using List.all_eq_true.1 hfs f hf) h3) (Nat.zero_le _)
    rw [List.drop_zero] at h1
    refine ⟨asx, h1, by rw [← h1.length]; exact hcl, fun f hf => ?_⟩
    simpa using (h2 f hf).1
end

theorem zqF {Hh : Type} {enc : TypeId × Value → Hh} {P : Program} {w : World} {base : Nat} {spare : Nat → Bool} {held : Bool} {S : List TypeId} (hS : zhd P S = true) {t : TypeId} (ht : t ∈ S) {cs : Array Value} {d : DataW Hh} {p : List MemPlace}
  (h : DataW.Trod enc P w base spare held t (.agg cs) d p) : ∃ n asx, zbi P n t asx ∧ TRel w (G0 w) (.agg cs) (.agg asx) := by
 obtain ⟨n, hn⟩ := h
 obtain ⟨asx, h1, h2⟩ := zrG hS n t _ _ ht hn
 exact ⟨n, asx, h2, cs, rfl, h1.mono fun _ _ hd => ARel.of_b (DRel.toB (G := G0 w) hd)⟩
theorem zqE {Hh : Type} {enc : TypeId × Value → Hh} {P : Program} {w : World} {base : Nat} {spare : Nat → Bool} {held : Bool} {S : List TypeId} (hS : zhd P S = true) {t : TypeId} (ht : t ∈ S) {v : Value} {d : DataW Hh} {p : List MemPlace} (hv : v.cells = #[v])
  (h : DataW.Trod enc P w base spare held t v d p) : ∃ n a, zbi P n t [a] ∧ TRel w (G0 w) v a := by
 obtain ⟨n, hn⟩ := h
 obtain ⟨asx, h1, h2⟩ := zrG hS n t _ _ ht hn
 rw [hv] at h1
 match asx, h1, h2 with
 | [a], h1, h2 => exact ⟨n, a, h2, TRel.of_v (VRel.of_a (ARel.of_b (DRel.toB (G := G0 w) h1.1)))⟩
section
variable {P : Program} {n : Nat} {t : TypeId} {l : List AV}
theorem zeO {k : IntKind} (hu : P.underlying t = some (.int k)) (h : zbi P n t l) : ∃ m, l = [.int k m] ∧ (Lit.int k m).wf = true := by
 cases n with
 | zero => exact h.elim
 | succ n => unfold zbi at h; rw [hu] at h; exact h
theorem zrS (hu : P.underlying t = some .string) (h : zbi P n t l) : ∃ s, l = [.str s] ∧ s.length ≤ maxLen := by
 cases n with
 | zero => exact h.elim
 | succ n => unfold zbi at h; rw [hu] at h; exact h
theorem zfO {e : TypeId} (hu : P.underlying t = some (.slice e)) (h : zbi P n t l) : ∃ es n', n' < n ∧ l = [.sl es .none] ∧ es.length ≤ maxLen ∧ ∀ c ∈ es, zbi P n' e c := by
 cases n with
 | zero => exact h.elim
 | succ n => unfold zbi at h; rw [hu] at h; obtain ⟨es, h1, h2, h3⟩ := h; exact ⟨es, n, by omega, h1, h2, h3⟩
theorem zhn {fs : Array Field} (hu : P.underlying t = some (.struct fs)) (h : zbi P n t l) : ∃ n', n' < n ∧ l.length = P.cellsOf t ∧ ∀ f ∈ fs.toList, zbi P n' f.type ((l.drop f.offset).take (P.cellsOf f.type)) := by
 cases n with
 | zero => exact h.elim
 | succ n => unfold zbi at h; rw [hu] at h; exact ⟨n, by omega, h⟩
theorem zet {α : Type} {cs : α → List AV} : ∀ {es : List (List AV)}, (∀ c ∈ es, ∃ x, c = cs x) → ∃ xs : List α, es = xs.map cs
 | [], _ => ⟨[], rfl⟩
 | e :: es, h => by
  obtain ⟨x, hx⟩ := h e (by simp)
  obtain ⟨xs, hxs⟩ := zet (es := es) (fun c hc => h c (by simp [hc]))
  exact ⟨x :: xs, by simp [hx, hxs]⟩
end
end Go.Abs
