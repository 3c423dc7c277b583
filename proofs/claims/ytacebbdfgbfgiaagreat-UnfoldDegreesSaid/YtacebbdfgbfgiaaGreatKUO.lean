import Derived.Test.YtacebbdfgbfgiaaGreatKV5
import Derived.Test.YtacebbdfgbfgiaaGreatKUA
import Derived.Test.YtacebbdfgbfgiaaGreatIT
import Derived.Test.YtacebbdfgbfgiaaGreatKY12
import Derived.Test.YtacebbdfgbfgiaaGreatAbsQ1
import Derived.Shelf.SlSortCmp.NoneTotal
import Derived.Test.YtacebbdfgbfgiaaGreatProg
import Derived.Test.YtacebbdfgbfgiaaGreatKNum
import Derived.KernelRfl
set_option linter.unusedSimpArgs false
set_option linter.unusedVariables false
namespace Go.Proofs.YtacebbdfgbfgiaaGreat
open Go Go.Abs
set_option maxRecDepth 8000
theorem znT {data : List Dat} : ∀ {l : List Dat} {d : Nat}, zb3 data l d = true → ∀ D ∈ l, D.cons.length ≤ 8
 | [], _, _, D, h => by cases h
 | E :: l, d, h, D, hD => by
  simp only [zb3, Bool.and_eq_true] at h
  rcases List.mem_cons.1 hD with rfl | hD
  ·have := h.1
   simp only [zbV, Bool.and_eq_true, decide_eq_true_eq] at this
   exact this.1.2
  ·exact znT h.2 D hD
theorem zjx {data : List Dat} {t : VT} (h : zbo data t = true) : ∀ D ∈ data, D.cons.length ≤ 8 := by
 simp only [zbo, zbb, Bool.and_eq_true] at h
 exact znT h.1.1.1.2
def zbg (data : List Dat) (t : VT) (v : IT) : Int := if zbo data t then rdV data v t else -1
theorem zl8 (data : List Dat) (hk : zbf data) (t : VT) (ht : t.nodes ≤ 1000000) (H : zaa) (K : Kt) (hK : K (.bool (zbo data t)) H) : ACalls tP zfp [.sl (data.map Dat.cs) .none, .agg t.cs] H K := by
 refine ACalls.out (zAB fun hs => ?_)
 obtain ⟨x, y, z, hvx, hx, hy, hz⟩ := zbk t
 simp [zrz, zau, zaX, hvx, Nat.add_assoc]
 refine zBN data (zt7 hk) (by have := hk.1; omega) ?_
 unfold zbo at hK
 cases hd : zbb data with
 | false =>
  rw [hd] at hK
  simp
  exact Out.bool rfl (Nat.le_refl _) hs hK
 | true =>
  rw [hd, Bool.true_and] at hK
  simp
  rw [← hvx]
  refine zr1 data 0 t (by omega) _ _ ?_
  exact Out.bool rfl (Nat.le_refl _) hs hK
theorem zzD (data : List Dat) (hk : zbf data) (t : VT) (ht : t.nodes ≤ 1000000) (H : zaa) (K : Kt) (hK : K (.bool (zbo data t)) H) : ACalls tP zj1 [.sl (data.map Dat.cs) .none, .agg t.cs] H K := by
 refine ACalls.out (zzC fun hs => ?_)
 obtain ⟨x, y, z, hvx, hx, hy, hz⟩ := zbk t
 simp [zrn, hvx, Nat.add_assoc]
 refine zBa data hk _ _ fun b hb => ?_
 have hbd : b = zbb data := by rw [Bool.eq_iff_iff, hb, ztO]
 subst hbd
 unfold zbo at hK
 cases hd : zbb data with
 | false =>
  rw [hd] at hK
  simp
  exact Out.bool rfl (Nat.le_refl _) hs hK
 | true =>
  rw [hd, Bool.true_and] at hK
  simp
  rw [← hvx]
  refine zrQ data (by have := hk.1; omega) 0 t (by omega) _ _ ?_
  exact Out.bool rfl (Nat.le_refl _) hs hK
theorem zz7 (data : List Dat) (hk : zbf data) (t : VT) (ht : t.nodes ≤ 1000) (v : IT) (hv : v.nodes ≤ 900) (H : zaa) (K : Kt) (hK : K (.int .i64 (zbg data t v)) H) : ACalls tP zj2 [.sl (data.map Dat.cs) .none, .agg t.cs, .agg v.cs] H K := by
 refine ACalls.out (zz6 fun hs => ?_)
 have hO : ∀ r J, zbg data t v = r → Out H.length K (.int .i64 r) (H ++ J) := fun r J h => by subst h; exact Out.int rfl (Nat.le_refl _) hs hK
 obtain ⟨x, y, z, hvx, hx, hy, hz⟩ := zbk t
 obtain ⟨x2, y2, hvx2, hx2, hy2⟩ := it2 v
 simp [zrt, hvx, hvx2, Nat.add_assoc]
 rw [← hvx]
 refine zl8 data hk t (by omega) _ _ ?_
 cases hf : zbo data t with
 | false =>
  simp
  exact hO _ _ (by simp [zbg, hf])
 | true =>
  have h8 := zjx hf
  obtain ⟨g1, g2⟩ := zeS h8 v t
  simp [Nat.add_assoc]
  rw [← hvx2]
  refine zBD hk h8 _ v (Nat.le_refl _) hv t ht _ _ ?_
  cases hb : (zbF data v t).2 with
  | false =>
   simp
   exact hO _ _ (by simp [zbg, hf, g2 hb])
  | true =>
   simp
   exact hO _ _ (by simp [zbg, hf, (g1 hb).1])
theorem zld (data : List Dat) (hk : zbf data) (t : VT) (ht : t.nodes ≤ 1000) (v : IT) (hv : v.nodes ≤ 900) (H : zaa) (K : Kt) (hK : K (.int .i64 (zbg data t v)) H) : ACalls tP zeo [.sl (data.map Dat.cs) .none, .agg t.cs, .agg v.cs] H K := by
 refine ACalls.out (zxt fun hs => ?_)
 have hO : ∀ r J, zbg data t v = r → Out H.length K (.int .i64 r) (H ++ J) := fun r J h => by subst h; exact Out.int rfl (Nat.le_refl _) hs hK
 obtain ⟨x, y, z, hvx, hx, hy, hz⟩ := zbk t
 obtain ⟨x2, y2, hvx2, hx2, hy2⟩ := it2 v
 simp [zqr, hvx, hvx2, Nat.add_assoc]
 rw [← hvx]
 refine zzD data hk t (by omega) _ _ ?_
 cases hf : zbo data t with
 | false =>
  simp
  exact hO _ _ (by simp [zbg, hf])
 | true =>
  have h8 := zjx hf
  simp [Nat.add_assoc]
  rw [← hvx2]
  refine zzK hk h8 _ v (Nat.le_refl _) hv t ht _ _ ?_
  exact hO _ _ (by simp [zbg, hf])
theorem zyG (data : List Dat) (hk : zbf data) (t : VT) (ht : t.nodes ≤ 1000) (v : IT) (hv : v.nodes ≤ 900) (H : zaa) (K : Kt) (hK : K (.bool (decide (0 ≤ zbg data t v))) H) : ACalls tP zjX [.sl (data.map Dat.cs) .none, .agg t.cs, .agg v.cs] H K := by
 refine ACalls.out (zyF fun hs => ?_)
 obtain ⟨x, y, z, hvx, hx, hy, hz⟩ := zbk t
 obtain ⟨x2, y2, hvx2, hx2, hy2⟩ := it2 v
 simp [zqX, hvx, hvx2, Nat.add_assoc]
 rw [← hvx, ← hvx2]
 refine zz7 data hk t ht v hv _ _ ?_
 simp
 exact Out.bool rfl (Nat.le_refl _) hs (by simpa using hK)
theorem zy0 (data : List Dat) (hk : zbf data) (k n : Int) (ks : List VT) (ht : (VT.mk k n ks).nodes ≤ 1000) (c : Int) {l : List VT} {bs : List Bool} (hf : zaM data (.mk k n ks) c = some l)
  (hlb : l.length = bs.length) (hl8 : l.length ≤ 8) (hfine : zbo data (.mk k n ks) = true) (hrec : ∀ H K, K (.sl (za6 bs) .none) H → ACalls tP zcV [.sl (data.map Dat.cs) .none, .int .i64 n, .int .i64 c] H K) (H : zaa) (K : Kt)
  (hK : K (.tup [.sl (zaz (pos false bs bs.length)) .none, .sl (zaz (pos true bs bs.length)) .none, .bool true]) H) :
  ACalls tP zjY [.sl (data.map Dat.cs) .none, .agg (VT.mk k n ks).cs, .int .i64 c] H K := by
 refine ACalls.out (zyY fun hs => ?_)
 obtain ⟨f1, f2, f3⟩ := zdl hk
 simp [zq1, VT.cs, Nat.add_assoc]
 refine zl8 data hk (.mk k n ks) (by omega) _ _ ?_
 simp [hfine]
 refine zlB data f1 f2 f3 (.mk k n ks) ht c _ _ ?_
 rw [hf]
 simp [zbE]
 refine hrec _ _ ?_
 simp [zdb]
 unfold zhO
 refine ALoop.own 6 zaT 1 rfl ?_
 refine ALoop.own 7 zaT 1 rfl ?_
 have hl1 : (H ++ [AB.cells [AV.int IntKind.i64 k, AV.int IntKind.i64 n, AV.sl (VT.css ks) Tok.none]]).length = H.length + 1 := by simp
 have hl2 : (H ++ [AB.cells [AV.int IntKind.i64 k, AV.int IntKind.i64 n, AV.sl (VT.css ks) Tok.none]] ++ [AB.perm zaT 1 0]).length = H.length + 2 := by simp
 rw [hl1, hl2]
 show zhO (.sl [] (.own (H.length + 1))) (.sl [] (.own (H.length + 2))) (.sl (za6 bs) .none) (.int .i64 bs.length) (.int .i64 0) (H ++ [.cells [.int .i64 k, .int .i64 n, .sl (VT.css ks) .none]] ++ [.perm zaT 1 0] ++ [.perm zaT 1 0]) (Out H.length K)
 have hperm : ∀ m m2, HSc (H ++ [.cells [.int .i64 k, .int .i64 n, .sl (VT.css ks) .none], .perm zaT 1 m, .perm zaT 1 m2]) := fun m m2 => hs.append (by simp [AB.sc, AV.scA, AV.scB])
 refine zyW (Inv := fun q t6 t7 t32 H' => ∃ i : Nat, i ≤ bs.length ∧ q = bs.length - i ∧ t32 = .int .i64 i ∧ t6 = .sl (zaz (pos false bs i)) (.own (H.length + 1)) ∧ t7 = .sl (zaz (pos true bs i)) (.own (H.length + 2)) ∧
  H' = H ++ [.cells [.int .i64 k, .int .i64 n, .sl (VT.css ks) .none], .perm zaT 1 (pos false bs i).length, .perm zaT 1 (pos true bs i).length]) bs.length ?_ ?_
 ·intro _; exact ⟨0, by omega, by omega, rfl, by simp [pos, zaz], by simp [pos, zaz], by simp [pos]⟩
 ·rintro q t6 t7 t32 H' ⟨i, hi, rfl, rfl, rfl, rfl, rfl⟩ hsc' hlen hsF Kb hKb
  by_cases hlt : i < bs.length
  ·have hp1 := zfw false bs i hlt
   have hp2 := zfw true bs i hlt
   have hn1 := zdq false bs i
   have hn2 := zdq true bs i
   have hnext : zhN (.sl (zaz (pos false bs (i + 1))) (.own (H.length + 1))) (.sl (zaz (pos true bs (i + 1))) (.own (H.length + 2))) (.sl (za6 bs) .none) (.int .i64 bs.length) (.int .i64 i)
     (H ++ [.cells [.int .i64 k, .int .i64 n, .sl (VT.css ks) .none], .perm zaT 1 (pos false bs (i + 1)).length, .perm zaT 1 (pos true bs (i + 1)).length]) (Out H.length K) Kb := by
    simp [zhN, zq3]
    rw [zal (by omega) (by omega)]
    refine hKb _ _ ⟨bs.length - (i + 1), by omega, Back.at (J := []) (H2 := H ++ [.cells [.int .i64 k, .int .i64 n, .sl (VT.css ks) .none], .perm zaT 1 (pos false bs (i + 1)).length, .perm zaT 1 (pos true bs (i + 1)).length]) (by simp) (by simp) (hperm _ _) ?_ ⟨_, _, _, rfl, i + 1, by omega, rfl, by simp, rfl, rfl, rfl⟩⟩
    simp [zhM, AV.sc, AV.scV, AV.scA, AV.scB]
   cases hbi : bs[i] with
   | true =>
    rw [hbi] at hp1 hp2
    simp at hp1 hp2
    rw [hp1, hp2] at hnext
    simp [zhL, zdb, hlt, zeX, hbi, zax, zbv, zaA, AV.pd, zar, za0, zaI, zce]
    refine ⟨⟨by omega, by omega⟩, ?_⟩
    simpa [zgI, zaz] using hnext
   | false =>
    rw [hbi] at hp1 hp2
    simp at hp1 hp2
    rw [hp1, hp2] at hnext
    simp [zhL, zdb, hlt, zeX, hbi, zax, zbv, zaA, AV.pd, zar, za0, zaI, zce]
    refine ⟨⟨by omega, by omega⟩, ?_⟩
    simpa [zgI, zaz] using hnext
  ·obtain rfl : i = bs.length := by omega
   simp [zhL]
   refine ⟨⟨rfl, rfl, rfl⟩, ?_⟩
   exact Out.tup (bs := [.sl (zaz (pos false bs bs.length)) .none, .sl (zaz (pos true bs bs.length)) .none, .bool true]) hs hK ⟨slV, slV, zaY rfl rfl, trivial⟩
theorem zy4 (data : List Dat) (hk : zbf data) (t : VT) (ht : t.nodes ≤ 1000) (H : zaa) (K : Kt) (hK : zbo data t = true → K (.tup [.agg (za4 t).cs, .bool true]) H) (hf : zbo data t = true) :
  ACalls tP zjZ [.sl (data.map Dat.cs) .none, .agg t.cs] H K := by
 refine ACalls.out (zy3 fun hs => ?_)
 obtain ⟨x, y, z, hvx, hx, hy, hz⟩ := zbk t
 simp [zq4, hvx, hx, hy, hz]
 rw [← hvx]
 refine zl8 data hk t (by omega) _ _ ?_
 simp [hf, hvx, hx, hy, hz]
 rw [← hvx]
 refine zAP _ t (Nat.le_refl _) (by omega) _ _ ?_
 obtain ⟨p, q, hzz, hp, hq⟩ := zdk (za4 t)
 have hK := hK hf
 rw [hzz] at hK ⊢
 simp [hp, hq]
 refine ⟨⟨rfl, rfl⟩, ?_⟩
 exact Out.tup (bs := [.agg [p, q], .bool true]) hs hK ⟨zaY rfl (by have := (za4 t).cs_scA H.length; rw [hzz] at this; simpa [AV.scV] using this), zaY rfl rfl, trivial⟩
theorem zdp {H : zaa} {K : AV → zaa → Prop} {r : AV} (hsc : HSc H) (hv : r.isV = true) (hr : r.scV H.length = true) (h : K r H) : Out H.length K r H := by
 have := Out.same (J := []) rfl hsc hv hr h
 simpa using this
theorem zoz (a : Int) (H : zaa) (K : AV → zaa → Prop) (hK : K (.bool false) H) : ACalls tP zgC [.int .i64 a] H K := by
 refine ACalls.out (zB1 fun hs => ?_)
 simp [zr2]
 exact zdp hs rfl rfl hK
theorem znJ (a b : Int) (H : zaa) (K : AV → zaa → Prop) (hK : K (.int .i64 (icmp a b)) H) : ACalls tP zgx [.int .i64 a, .int .i64 b] H K := by
 refine ACalls.out (zA1 fun hs => ?_)
 unfold zrH
 refine zoz _ _ _ (zoz _ _ _ ?_)
 have hO := zdp (K := K) (H := H) (r := .int .i64 (icmp a b)) hs rfl rfl hK
 by_cases h1 : a < b
 ·simp [h1]; simpa [icmp, h1] using hO
 ·by_cases h2 : b < a
  ·simp [h1, h2]; simpa [icmp, h1, h2] using hO
  ·simp [h1, h2]; simpa [icmp, h1, h2] using hO
def orL : List Int → Int
 | [] => 0
 | a :: l => cor a (orL l)
theorem zuy (l : List Int) (tok : Tok) (hl : l.length ≤ 1000000) (H : zaa) (K : AV → zaa → Prop) (hK : K (.int .i64 (orL l)) H) : ACalls tP zj3 [.sl (l.map fun x => [.int .i64 x]) tok] H K := by
 refine ACalls.out (zAX fun hs => ?_)
 simp [zrF]
 refine zAV (Inv := fun q t8 H' => ∃ i : Nat, i ≤ l.length ∧ q = l.length - i ∧ t8 = .int .i64 i ∧ orL (l.drop i) = orL l ∧ H' = H) l.length ?_ ?_
 ·intro _; exact ⟨0, by omega, by omega, rfl, by simp, rfl⟩
 ·rintro q t8 H' ⟨i, hi, rfl, rfl, ho, rfl⟩ hsc hlen hsF Kb hKb
  by_cases hlt : i < l.length
  ·rw [List.drop_eq_getElem_cons hlt, orL] at ho
   by_cases hz : l[i] = 0
   ·rw [zjn hz] at ho
    simp [zin, hlt, hz]
    rw [zal (by omega) (by omega)]
    refine hKb _ _ ⟨l.length - (i + 1), by omega, Back.here (Nat.le_refl _) hs ?_ ⟨_, rfl, i + 1, by omega, rfl, by simp, ho, rfl⟩⟩
    simpa [zio, AV.sc, AV.scV, AV.scA, AV.scB] using hsF
   ·rw [zf7 hz] at ho
    have hz : (l[i] != 0) = true := by simpa using hz
    simp [zin, hlt, hz]
    rw [← ho] at hK
    exact zdp hs rfl rfl hK
  ·simp [zin, hlt]
   obtain rfl : i = l.length := by omega
   rw [List.drop_length] at ho
   rw [← ho] at hK
   exact zdp hs rfl rfl hK
theorem znK (ks ks' : List IT) (he : ks.length = ks'.length) (hb : ks.length ≤ 1000000)
  (hc : ∀ (i : Nat) (h : i < ks.length) (h' : i < ks'.length) (H : zaa) (K : AV → zaa → Prop), K (.int .i64 (IT.cmp ks[i] ks'[i])) H → ACalls tP zeq [.agg ks[i].cs, .agg ks'[i].cs] H K)
  (H : zaa) (K : AV → zaa → Prop) (hK : K (.int .i64 (IT.cmpL ks ks')) H) : ACalls tP zgn [.sl (IT.css ks) .none, .sl (IT.css ks') .none, .fn zeq []] H K := by
 refine ACalls.out (zzo fun hs => ?_)
 simp [zrj]
 refine zzm (Inv := fun q t13 H' => ∃ i : Nat, i ≤ ks.length ∧ q = ks.length - i ∧ t13 = .int .i64 i ∧ IT.cmpL (ks.drop i) (ks'.drop i) = IT.cmpL ks ks' ∧ H' = H) ks.length ?_ ?_
 ·intro _; exact ⟨0, by omega, by omega, rfl, by simp, rfl⟩
 ·rintro q t8 H' ⟨i, hi, rfl, rfl, ho, rfl⟩ hsc hlen hsF Kb hKb
  by_cases hlt : i < ks.length
  ·have hlt' : i < ks'.length := by omega
   have hle : ¬ ks'.length ≤ i := by omega
   rw [IT.cmpL_drop hlt hlt'] at ho
   simp [zlK, hlt, hlt', hle]
   refine hc i hlt hlt' _ _ ?_
   by_cases hz : IT.cmp ks[i] ks'[i] = 0
   ·rw [zjn hz] at ho
    simp [hz]
    rw [zal (by omega) (by omega)]
    refine hKb _ _ ⟨ks.length - (i + 1), by omega, Back.same (Nat.le_refl _) hs ?_ ⟨_, rfl, i + 1, by omega, rfl, by simp, ho, rfl⟩⟩
    simp [zhW, AV.sc, AV.scV, AV.scA, AV.scB]
   ·rw [zf7 hz] at ho
    have hz : (IT.cmp ks[i] ks'[i] != 0) = true := by simpa using hz
    simp [hz]
    rw [← ho] at hK
    exact Out.same rfl hs rfl rfl hK
  ·have hnl : ¬ ks.length < ks'.length := by omega
   simp [zlK, hlt, hnl]
   obtain rfl : i = ks.length := by omega
   rw [List.drop_length, he, List.drop_length] at ho
   rw [← ho] at hK
   exact zdp hs rfl rfl hK
theorem zt0 : ∀ (m : Nat) (v w : IT), v.nodes ≤ m → v.nodes ≤ 1000000 → ∀ (H : zaa) (K : AV → zaa → Prop), K (.int .i64 (IT.cmp v w)) H → ACalls tP zeq [.agg v.cs, .agg w.cs] H K := by
 intro m
 induction m with
 | zero => intro v w h; have := v.nodes_pos; omega
 | succ m ih =>
  intro v w hv hb H K hK
  obtain ⟨n, ks⟩ := v
  obtain ⟨n', ks'⟩ := w
  have hnl : IT.nodesL ks + 1 ≤ 1000000 := by simpa [IT.nodes] using hb
  have hll := IT.len_le ks
  refine ACalls.out (zzs fun hs => ?_)
  simp [IT.cs, zrl]
  refine zbI _ (fun J => znJ _ _ _ _ ⟨rfl, rfl⟩) ?_
  refine zbI _ (fun J => znJ _ _ _ _ ⟨rfl, rfl⟩) ?_
  simp [zax, zbv, zaA, List.replicate]
  refine zbI _ (fun J => zuy [icmp n n', icmp ks.length ks'.length] _ (by simp) _ _ ⟨rfl, rfl⟩) ?_
  by_cases hz : orL [icmp n n', icmp ks.length ks'.length] = 0
  ·have hz' := hz
   simp only [orL, ze1] at hz
   have hlen : ks.length = ks'.length := by have := (zga _ _).mp hz.2.1; omega
   simp [hz']
   refine znK ks ks' hlen (by omega) (fun i h h' H K hK => ?_) _ _ ?_
   ·have := IT.kid_lt (n := n) h
    exact ih _ _ (by omega) (by omega) H K hK
   ·refine Out.same rfl hs rfl rfl ?_
    simpa [IT.cmp, hz, cor] using hK
  ·have hzb : (orL [icmp n n', icmp ks.length ks'.length] != 0) = true := by simpa using hz
   simp [hzb]
   refine Out.same rfl hs rfl rfl ?_
   have e : IT.cmp (.mk n ks) (.mk n' ks') = orL [icmp n n', icmp ks.length ks'.length] := by
    simp only [IT.cmp, orL, cor] at hz ⊢
    split <;> (try split) <;> (try split) <;> simp_all
   rwa [e] at hK
theorem zoM (b : Bool) (H : zaa) (K : AV → zaa → Prop) (hK : K (.int .i64 (if b then -1 else 1)) H) : ACalls tP zgr [.bool b] H K := by
 refine ACalls.out (zz0 fun hs => ?_)
 have hO := zdp (K := K) (H := H) (r := .int .i64 (if b then -1 else 1)) hs rfl rfl hK
 cases b <;> simp [zrs] <;> simpa using hO
theorem zns (ks ks' : List IT) (hb : ks.length ≤ 1000000)
  (hc : ∀ (i : Nat) (h : i < ks.length) (h' : i < ks'.length) (H : zaa) (K : AV → zaa → Prop), K (.int .i64 (IT.cmp ks[i] ks'[i])) H → ACalls tP zgs [.agg ks[i].cs, .agg ks'[i].cs] H K)
  (H : zaa) (K : AV → zaa → Prop) (hK : K (.int .i64 (cor (icmp ks.length ks'.length) (IT.cmpL ks ks'))) H) : ACalls tP zep [.sl (IT.css ks) .none, .sl (IT.css ks') .none] H K := by
 refine ACalls.out (zyh fun hs => ?_)
 have fin := zdp (K := K) (H := H) (r := .int .i64 (cor (icmp ks.length ks'.length) (IT.cmpL ks ks'))) hs rfl rfl hK
 by_cases he : ks.length = ks'.length
 ·have e : cor (icmp ks.length ks'.length) (IT.cmpL ks ks') = IT.cmpL ks ks' := by simp [he, zjE, cor]
  rw [e] at fin
  simp [zlh, he]
  refine zyf (Inv := fun q t13 H' => ∃ i : Nat, i ≤ ks.length ∧ q = ks.length - i ∧ t13 = .int .i64 i ∧ IT.cmpL (ks.drop i) (ks'.drop i) = IT.cmpL ks ks' ∧ H' = H) ks.length ?_ ?_
  ·intro _; exact ⟨0, by omega, by omega, rfl, by simp, rfl⟩
  ·rintro q t8 H' ⟨i, hi, rfl, rfl, ho, rfl⟩ hsc hlen hsF Kb hKb
   by_cases hlt : i < ks.length
   ·have hlt' : i < ks'.length := by omega
    rw [IT.cmpL_drop hlt hlt'] at ho
    simp [zlm, hlt, hlt']
    refine zbI _ (fun J => hc i hlt hlt' _ _ ⟨rfl, rfl⟩) ?_
    by_cases hz : IT.cmp ks[i] ks'[i] = 0
    ·rw [zjn hz] at ho
     simp [hz]
     rw [zal (by omega) (by omega)]
     refine hKb _ _ ⟨ks.length - (i + 1), by omega, Back.here (Nat.le_refl _) hs ?_ ⟨_, rfl, i + 1, by omega, rfl, by simp, ho, rfl⟩⟩
     simp [zhB, AV.sc, AV.scV, AV.scA, AV.scB]
    ·rw [zf7 hz] at ho
     have hz : (IT.cmp ks[i] ks'[i] != 0) = true := by simpa using hz
     simp [hz]
     rw [ho]
     exact fin
   ·have hlt' : ¬ i < ks'.length := by omega
    simp [zlm, hlt, hlt']
    obtain rfl : i = ks.length := by omega
    rw [List.drop_length, he, List.drop_length] at ho
    simp only [IT.cmpL] at ho
    rw [← ho] at fin
    exact fin
 ·have hb : ((ks.length : Int) != ks'.length) = true := by simp; omega
  simp [zlh, hb]
  refine zoM _ _ _ ?_
  have e : cor (icmp ks.length ks'.length) (IT.cmpL ks ks') = if decide (ks.length < ks'.length) = true then -1 else 1 := by
   rw [zoi (by omega), zf7 (by split <;> omega)]; simp
  rw [e] at fin
  exact fin
theorem zuK : ∀ (m : Nat) (v w : IT), v.nodes ≤ m → v.nodes ≤ 1000000 → ∀ (H : zaa) (K : AV → zaa → Prop), K (.int .i64 (IT.cmp v w)) H → ACalls tP zgs [.agg v.cs, .agg w.cs] H K := by
 intro m
 induction m with
 | zero => intro v w h; have := v.nodes_pos; omega
 | succ m ih =>
  intro v w hv hb H K hK
  obtain ⟨n, ks⟩ := v
  obtain ⟨n', ks'⟩ := w
  have hnl : IT.nodesL ks + 1 ≤ 1000000 := by simpa [IT.nodes] using hb
  have hll := IT.len_le ks
  refine ACalls.out (zz3 fun hs => ?_)
  have fin : ∀ J, Out H.length K (.int .i64 (IT.cmp (.mk n ks) (.mk n' ks'))) (H ++ J) := fun J => Out.same rfl hs rfl rfl hK
  by_cases h2 : n = n'
  ·subst h2
   simp [IT.cs, zlV]
   have e : IT.cmp (.mk n ks) (.mk n ks') = cor (icmp ks.length ks'.length) (IT.cmpL ks ks') := by simp [IT.cmp, zjE, cor]
   rw [e] at fin
   refine zns ks ks' (by omega) (fun i h h' H K hK => ?_) _ _ (fin _)
   have := IT.kid_lt (n := n) h
   exact ih _ _ (by omega) (by omega) H K hK
  ·have hb : (n != n') = true := by simpa using h2
   simp [IT.cs, zlV, hb]
   refine zoM _ _ _ ?_
   have e : IT.cmp (.mk n ks) (.mk n' ks') = if decide (n < n') = true then -1 else 1 := by
    simp only [IT.cmp, cor]
    rw [zoi h2]; split <;> simp <;> omega
   rw [e] at fin
   exact fin _
end Go.Proofs.YtacebbdfgbfgiaaGreat
namespace Go.Abs
open Go Go.RowKit
open Go.Sort (grow putRow putCells mapBlock onCells ahead SWO PermIn SortedIn Holds)
open Go.Proofs (sortWorld ltOf CmpLays1)
variable {P : Program} {B : Nat} {w : World} {G : Gh} {H : zaa}
theorem ztY {W w' : World} (hd : W.drawn ≤ w'.drawn) (hb : Below W.heap.size W w') : ∃ q os, w' = grow (W.drewN q) os := by
 refine ⟨w'.drawn - W.drawn, w'.heap.extract W.heap.size w'.heap.size, ?_⟩
 obtain ⟨h1, h2, h3, h4, h5⟩ := hb
 obtain ⟨heap, tape, drawn, os, output⟩ := W
 obtain ⟨heap', tape', drawn', os', output'⟩ := w'
 simp only at *
 subst h1 h2 h3
 have e1 : heap' = heap ++ heap'.extract heap.size heap'.size := by
  refine Array.ext_getElem? fun i => ?_
  by_cases hi : i < heap.size
  ·rw [Array.getElem?_append_left hi, h5 i hi]
  ·rw [Array.getElem?_append_right (by omega), Array.getElem?_extract]
   by_cases h : i < heap'.size
   ·rw [if_pos (by omega), show heap.size + (i - heap.size) = i by omega]
   ·rw [if_neg (by omega), Array.getElem?_eq_none (by omega)]
 have e2 : drawn' = drawn + (drawn' - drawn) := by omega
 simp only [grow, World.drewN]
 rw [← e1, ← e2]
theorem HRel.alone (h : HRel B w G H) (o : Obj) : Ext B w G (w.alloc o) G ∧ HRel B (w.alloc o) G H := by
 have he := Ext.alloc h o G.L (fun _ _ => rfl) []
 simp only [List.append_nil] at he
 refine ⟨he, h.keep he rfl (fun id gi b h1 h2 => ⟨zef (h.lt id gi b h1 h2), rfl⟩) (fun b hb => ?_)⟩
 rw [zcn] at hb
 exact h.fresh b (by omega)
theorem HRel.grown : ∀ (os : List Obj) {w : World}, HRel B w G H → Ext B w G (grow w os.toArray) G ∧ HRel B (grow w os.toArray) G H
 | [], w, h => by
  have : grow w #[] = w := by simp [grow]
  rw [show ([] : List Obj).toArray = #[] from rfl, this]
  exact ⟨Ext.refl _ _ _, h⟩
 | o :: l, w, h => by
  obtain ⟨h1, h2⟩ := h.alone o
  obtain ⟨h3, h4⟩ := HRel.grown l h2
  have : grow w (o :: l).toArray = grow (w.alloc o) l.toArray := by
   rw [Go.Sort.alloc_eq_grow, Go.Sort.grow_grow]
   simp
  rw [this]
  exact ⟨h1.trans h3, h4⟩
theorem zuG {α : Type} [Inhabited α] (vals : α → Value) (d : Array α) (cur : Array Value) (h : d.size ≤ cur.size) : (putCells vals 0 d cur).toList.take d.size = d.toList.map vals := by
 refine List.ext_getElem (by simp [putCells]; omega) fun i h1 h2 => ?_
 simp at h2
 simp [putCells, h2]
theorem HRel.sorted {α : Type} [Inhabited α] (h : HRel B w G H) {id e n g cap : Nat} {cs cs' : List AV} (hH : H[id]? = some (.vec e 1 n cs)) (hμ : G.μ[id]? = some (.own (.slice (some ⟨g, 0, none⟩) n cap) 1 n))
  (vals : α → Value) (d : Array α) (hd : d.size = n) (hc : All2 (ARel w G) (d.toList.map vals) cs') (m : Nat) (os : Array Obj) :
  Ext B w G (sortWorld vals w g 0 m d os) G ∧ HRel B (sortWorld vals w g 0 m d os) G (H.set id (.vec e 1 n cs')) := by
 obtain ⟨_, _, ⟨xs, ⟨hxl, ho⟩, hxc⟩, hL0⟩ := h.ok id _ _ hH hμ
 rcases ho with ⟨h1, _⟩ | ⟨g', cap', cur, h1, hB, hw, hcap, hcm, hsz, htk⟩
 ·cases h1
 cases h1
 have h1 := h.storeV (cur' := putCells vals 0 d cur) (xs' := d.toList.map vals) hH hμ hw hB hcap hcm (by simp [putCells, hsz]) (by rw [Nat.mul_one, ← hd]; exact zuG vals d cur (by omega)) (by simp [hd]) hc
 obtain ⟨hE1, hR1⟩ := h1
 have hE2 := Ext.drew B (w.setRow g (putCells vals 0 d cur)) G ((w.setRow g (putCells vals 0 d cur)).drawn + m) (Nat.le_add_right _ _)
 have hR2 := hR1.drew ((w.setRow g (putCells vals 0 d cur)).drawn + m) (Nat.le_add_right _ _)
 obtain ⟨hE3, hR3⟩ := HRel.grown os.toList hR2
 have heq : sortWorld vals w g 0 m d os = grow { w.setRow g (putCells vals 0 d cur) with drawn := (w.setRow g (putCells vals 0 d cur)).drawn + m } os.toList.toArray := by
  have hh : w.heap.modify g (onCells (putCells vals 0 d)) = (w.setRow g (putCells vals 0 d cur)).heap := by
   unfold World.setRow
   refine Array.ext_getElem? fun i => ?_
   simp only [Array.getElem?_modify]
   by_cases hi : g = i
   ·subst hi
    simp [hw, onCells]
   ·simp [hi]
  have e : sortWorld vals w g 0 m d os = grow { w with heap := w.heap.modify g (onCells (putCells vals 0 d)), drawn := w.drawn + m } os := rfl
  rw [e, hh, Array.toArray_toList]
  rfl
 rw [heq]
 exact ⟨(hE1.trans hE2).trans hE3, hR3⟩
def Lx (w : World) (G : Gh) (blk b : Nat) : Nat := if b = blk then 0 else max (G.L b) (zbB w b)
def Rd (H : zaa) (id0 : Nat) (a : AV) (row : List (List AV)) : Prop :=
 a = .sl row .none ∨
 (∃ id off len cap size cs, a = .ms id off len cap ∧ H[id]? = some (.cells cs) ∧ off + len * size ≤ cs.length ∧ zaA ((cs.drop off).take (len * size)) = some row.flatten ∧ row.length = len ∧ (∀ c ∈ row, c.length = size) ∧ len ≤ cap) ∨
 (∃ id e size m cs, a = .ov id m ∧ id ≠ id0 ∧ H[id]? = some (.vec e size m cs) ∧ zaA cs = some row.flatten ∧ row.length = m ∧ ∀ c ∈ row, c.length = size)
theorem Rd.rel (h : HRel B w G H) {id e n g cap : Nat} {cs : List AV} (hH : H[id]? = some (.vec e 1 n cs)) (hμ : G.μ[id]? = some (.own (.slice (some ⟨g, 0, none⟩) n cap) 1 n)) {a : AV} {row : List (List AV)} (hr : Rd H id a row) {v : Value} (hv : ARel w G v a) :
  DRel w (Lx w G g) v (.sl row .none) := by
 obtain ⟨_, _, _, hL0⟩ := h.ok id _ _ hH hμ
 have hLg : G.L g = 0 := hL0 g rfl
 have hlev : ∀ b, G.L b ≤ Lx w G g b := fun b => by
  unfold Lx
  split
  ·rename_i hb; rw [hb, hLg]; exact Nat.le_refl _
  ·exact Nat.le_max_left _ _
 have hmono : ∀ {v : Value} {a : AV}, DRel w G.L v a → DRel w (Lx w G g) v a := fun h => h.mono hlev fun _ _ _ => rfl
 rcases hr with rfl | ⟨i2, off, len, cap2, size, cs2, rfl, hH2, hfit, hp, hlen, hsz, hcap⟩ | ⟨i2, e2, size, m, cs2, rfl, hne, hH2, hp, hlen, hsz⟩
 ·exact hmono hv
 ·obtain ⟨b, hb, rfl⟩ := hv
  obtain ⟨_, _, vs, _, hw, hcs⟩ := h.ok i2 _ _ hH2 hb
  have hbg : b ≠ g := fun hbg => by
   have := h.dist i2 id _ _ b hb hμ rfl (by rw [hbg]; rfl)
   subst this
   rw [hH] at hH2
   cases hH2
  subst hlen
  by_cases hes : row = []
  ·subst hes; exact .slE _ _
  ·have hl := hcs.length
   refine DRel.of_flat_at (zs := (vs.toList.drop off).take (row.length * size)) hsz hes hcap ?_ ((zcA ((hcs.drop off).take _) hp).mono fun _ _ => hmono) ?_
   ·unfold Lx
    rw [if_neg hbg]
    refine Nat.le_trans ?_ (Nat.le_max_right _ _)
    simp [zbB, hw]
    simp at hl
    omega
   ·intro j u hj
    rw [List.getElem?_take] at hj
    split at hj
    ·simp only [World.cell?, hw]
     simpa using hj
    ·cases hj
 ·obtain ⟨⟨a, cap0, rfl, _⟩, v', s0, n', hμ2, _, heq⟩ := hv
  obtain ⟨rfl, rfl, ⟨xs, hown, hcs⟩, _⟩ := h.ok i2 _ _ hH2 hμ2
  obtain rfl := heq rfl
  subst hlen
  by_cases hes : row = []
  ·subst hes; exact .slE _ _
  ·have hown2 := hown
   obtain ⟨hl, hrow⟩ := hown2
   rcases hrow with ⟨h1, h2⟩ | ⟨g2, cap2, cur, h1, h2, h3, h4, h5, h6, h7⟩
   ·cases row <;> simp_all
   ·simp at h1
    obtain ⟨rfl, rfl⟩ := h1
    obtain ⟨_, _, _, hcell⟩ := zcz hown
    have hbg : g2 ≠ g := fun hbg => hne (h.dist i2 id _ _ g2 hμ2 hμ rfl (by rw [hbg]; rfl))
    refine DRel.of_flat_at (zs := xs) hsz hes h4 ?_ ((zcA hcs hp).mono fun _ _ => hmono) ?_
    ·unfold Lx
     rw [if_neg hbg]
     refine Nat.le_trans ?_ (Nat.le_max_right _ _)
     simp only [zbB, h3, h6, Nat.zero_add]
     exact Nat.mul_le_mul_right _ h4
    ·intro j u hj
     rw [Nat.zero_add, hcell j (by rw [← hl]; exact (List.getElem?_eq_some_iff.1 hj).1)]
     exact hj
theorem zn0 {α : Type} (d : Array α) {k : Nat} (h : d.size = k) : d.extract 0 k = d := by subst h; exact Array.extract_size
theorem zuo (n : Nat) : ((Array.ofFn fun i : Fin n => i).toList.map Fin.val) = List.range n :=
 List.ext_getElem (by simp) fun i h1 h2 => by simp only [List.getElem_map, Array.getElem_toList, Array.getElem_ofFn, List.getElem_range]
theorem zvh {α : Type} [Inhabited α] (vals : α → Value) (w : World) (g m : Nat) (d : Array α) (os : Array Obj) : w.heap.size ≤ (sortWorld vals w g 0 m d os).heap.size := by
 unfold sortWorld
 simp [grow]
theorem zvg {α : Type} [Inhabited α] (vals : α → Value) (w : World) (g m : Nat) (d : Array α) (os : Array Obj) (a : Addr) (h1 : a.block ≠ g) (h2 : a.block < w.heap.size) : (sortWorld vals w g 0 m d os).cell? a = w.cell? a := by
 unfold sortWorld
 rw [Go.Sort.cell?_grow _ _ _ (by rw [Go.Sort.size_putRow]; exact h2), Go.Sort.cell?_putRow_other vals _ g 0 d a (Or.inl h1)]
 rfl
theorem zvi (h : HRel B w G H) {n g f : Nat} {vals : Fin n → Value} [Inhabited (Fin n)] {rows : Nat → List (List AV)} {cf : Nat → Nat → Int} (hd : ∀ i : Fin n, DRel w (Lx w G g) (vals i) (.sl (rows i) .none))
  (hcmp : ∀ i j, i < n → j < n → ACalls P f [.sl (rows i) .none, .sl (rows j) .none] [] fun r _ => r = .int .i64 (cf i j)) : CmpLays1 P f #[] vals (fun i j => cf i j) g 0 n w := by
 intro m os dk hdk x y
 have hL : ∀ b, (sortWorld vals w g 0 m dk os).heap.size ≤ b → Lx w G g b = 0 := fun b hb => by
  have := zvh vals w g m dk os
  unfold Lx
  split
  ·rfl
  ·rw [h.fresh b (by omega)]
   simp only [zbB]
   rw [Array.getElem?_eq_none (by omega)]
   rfl
 have hmono : ∀ {v : Value} {a : AV}, DRel w (Lx w G g) v a → DRel (sortWorld vals w g 0 m dk os) (Lx w G g) v a := fun hx => hx.mono (fun _ => Nat.le_refl _) fun b off ho => by
  refine zvg vals w g m dk os ⟨b, off, none⟩ ?_ ?_
  ·intro hb
   have hb : b = g := hb
   simp [Lx, hb] at ho
  ·show b < w.heap.size
   refine Nat.lt_of_not_le fun hb => ?_
   unfold Lx at ho
   split at ho
   ·omega
   ·rw [h.fresh b (by omega)] at ho
    simp only [zbB] at ho
    rw [Array.getElem?_eq_none (by omega)] at ho
    simp at ho
 refine (hcmp x y x.2 y.2 (sortWorld vals w g 0 m dk os).heap.size (sortWorld vals w g 0 m dk os) ⟨Lx w G g, []⟩ #[vals x, vals y]
  ⟨rfl, fun _ _ _ h => by simp at h, fun _ _ _ _ _ h => by simp at h, hL, fun _ _ _ h => by simp at h, Nat.le_refl _⟩ ⟨hmono (hd x), hmono (hd y), trivial⟩).mono ?_
 rintro e w' ⟨v, r, H', G', rfl, h2, _, h4, rfl⟩
 have h4 : v = .int .i64 (cf x y) := h4
 subst h4
 exact ⟨rfl, ztY h2.dr h2.below⟩
theorem ACalls.sortFunc {ρ : Go.Shelf.Ren} (L : Go.Proofs.SlLaysF.n6 P ρ) {id e n f : Nat} {cs : List AV} (hH : H[id]? = some (.vec e 1 n cs)) (hn : n < 4611686018427387904) (rows : Nat → List (List AV)) (cf : Nat → Nat → Int)
  (hrd : ∀ i (h : i < cs.length), Rd H id cs[i] (rows i)) (eg : ∀ args w, (callFunc f args).run P w = .ok (.enter f args) w)
  (hcmp : ∀ i j, i < n → j < n → ACalls P f [.sl (rows i) .none, .sl (rows j) .none] [] fun r _ => r = .int .i64 (cf i j))
  (hO1 : ∀ i, i < n → ¬ cf i i < 0) (hO2 : ∀ i j k, i < n → j < n → k < n → cf i j < 0 → cf j k < 0 → cf i k < 0) (hO3 : ∀ i j k, i < n → j < n → k < n → ¬ cf i j < 0 → ¬ cf j k < 0 → ¬ cf i k < 0)
  {K : Kt} (hK : ∀ p : List Nat, p.Perm (List.range n) → (∀ a b (ha : a < p.length) (hb : b < p.length), a < b → ¬ cf p[b] p[a] < 0) → K (.tup []) (H.set id (.vec e 1 n (p.map fun i => cs.getD i .unk)))) :
  ACalls P (ρ.f 6) [.ov id n, .fn f []] H K := by
 rintro B w G ⟨vs⟩ hR hv
 match vs, hv with
 | [v1, v2], ⟨h1, h2, _⟩ =>
 obtain ⟨⟨a0, cap0, rfl, _⟩, v', s0, n', hμ, hle, heq⟩ := h1
 obtain ⟨ws, rfl, hws⟩ := h2
 have hws : ws = #[] := by
  cases hwl : ws.toList with
  | nil => exact Array.toList_inj.1 hwl
  | cons x l => rw [hwl] at hws; exact hws.elim
 subst hws
 obtain ⟨rfl, rfl, ⟨xs, hown, hcs⟩, hL0⟩ := hR.ok id _ _ hH hμ
 obtain rfl := heq rfl
 have hxl := hown.1
 have hcl := hcs.length
 rw [Nat.mul_one] at hxl
 match n, hxl, hH, hn, hcmp, hO1, hO2, hO3, hK, hμ, hown with
 | 0, hxl, hH, hn, hcmp, hO1, hO2, hO3, hK, hμ, hown =>
  refine (Go.Proofs.AnyF.slices_SortFunc_none (P := P) (ρ := ρ) { L with } a0 cap0 _ w).mono ?_
  rintro e' w' ⟨rfl, rfl⟩
  have hc : cs = [] := by
   cases cs with
   | nil => rfl
   | cons x l => simp at hcl; omega
  subst hc
  have := hK [] (by simp) (by simp)
  refine ⟨_, .tup [], _, G, rfl, Ext.refl _ _ _, ?_, ⟨#[], rfl, trivial⟩, this⟩
  have hs : H.set id (.vec e 1 0 []) = H := by
   refine List.ext_getElem? fun i => ?_
   rw [List.getElem?_set]
   split
   ·rename_i hi; subst hi; rw [if_pos (List.getElem?_eq_some_iff.1 hH).1, hH]
   ·rfl
  simpa [hs] using hR
 | n + 1, hxl, hH, hn, hcmp, hO1, hO2, hO3, hK, hμ, hown =>
  obtain ⟨_, ho⟩ := hown
  rcases ho with ⟨h1, h0⟩ | ⟨g, cap, cur, h1, hB, hw, hcap, hcm, hsz, htk⟩
  ·omega
  cases h1
  have hwl : g < w.heap.size := (Array.getElem?_eq_some_iff.1 hw).1
  let vals : Fin (n + 1) → Value := fun i => xs[i.1]'(by rw [hxl]; exact i.2)
  have hval : ∀ i : Fin (n + 1), ARel w G (vals i) (cs[i.1]'(by rw [← hcl, hxl]; exact i.2)) := fun i => by
   obtain ⟨x, hx, hr⟩ := All2.get hcs (List.getElem?_eq_getElem (by rw [← hcl, hxl]; exact i.2 : i.1 < cs.length))
   rw [List.getElem?_eq_getElem (by rw [hxl]; exact i.2)] at hx
   cases hx
   exact hr
  have hdr : ∀ i : Fin (n + 1), DRel w (Lx w G g) (vals i) (.sl (rows i) .none) := fun i => (hrd i.1 (by rw [← hcl, hxl]; exact i.2)).rel hR hH hμ (hval i)
  have hone : Go.Proofs.OneCell vals := fun i => by
   have := hdr i
   generalize vals i = v at *
   generalize rows i.1 = r at *
   cases this <;> rfl
  have hlays := zvi (P := P) (f := f) (n := n + 1) hR hdr hcmp
  let d : Array (Fin (n + 1)) := Array.ofFn fun i => i
  have hds : d.size = n + 1 := by simp [d]
  have hholds : Holds vals w g 0 d := by
   intro j hj
   rw [hds] at hj
   have hc : cur[j]? = some (vals ⟨j, hj⟩) := by
    have : xs[j]? = some (vals ⟨j, hj⟩) := List.getElem?_eq_getElem _
    rw [← htk, Nat.mul_one, List.getElem?_take, if_pos hj] at this
    simpa using this
   refine ⟨?_, ?_⟩
   ·rw [Nat.zero_add]
    have hdj : d[j]! = ⟨j, hj⟩ := by
     rw [getElem!_pos d j (by rw [hds]; exact hj)]
     simp [d]
    rw [hdj]
    simp [World.cell?, hw, hc]
   ·simp [World.frozen?, hw]
  have hO : SWO (ltOf fun i j : Fin (n + 1) => cf i j) := ⟨fun x => by simp only [ltOf, decide_eq_false_iff_not]; exact hO1 x x.2,
   fun x y z h1 h2 => by simp only [ltOf, decide_eq_true_eq] at *; exact hO2 x y z x.2 y.2 z.2 h1 h2,
   fun x y z h1 h2 => by simp only [ltOf, decide_eq_false_iff_not] at *; exact hO3 x y z x.2 y.2 z.2 h1 h2⟩
  have hmain := Go.Proofs.Any.slices_SortFunc (P := P) (ρ := ρ) L vals hone (fun i j => cf i j) hO f #[] g 0 cap0 d w eg (by rw [hds]; exact hlays) hholds hwl (by rw [hds]; exact hn)
  rw [hds] at hmain
  refine hmain.mono ?_
  rintro e' w' ⟨rfl, d', m, os, hp, hsrt, rfl⟩
  obtain ⟨hp1, _, hp3⟩ := hp
  have hds' : d'.size = n + 1 := hp1.trans hds
  have hpm : (d'.toList.map Fin.val).Perm (List.range (n + 1)) := by
   have h1 : d'.toList.Perm d.toList := by
    have e1 : (d'.extract 0 (n + 1)) = d' := zn0 d' hds'
    have e2 : (d.extract 0 (n + 1)) = d := zn0 d hds
    rwa [e1, e2] at hp3
   exact (h1.map Fin.val).trans (List.Perm.of_eq (zuo _))
  have hS := hR.sorted hH hμ vals d' hds' (cs' := (d'.toList.map Fin.val).map fun i => cs.getD i .unk) (All2.of_get (by simp) fun i x y hx hy => by
   simp only [List.map_map, List.getElem?_map, Option.map_eq_some_iff] at hx hy
   obtain ⟨k, hk, rfl⟩ := hx
   obtain ⟨k', hk', rfl⟩ := hy
   rw [hk] at hk'
   cases hk'
   have hlt : k.1 < cs.length := by rw [← hcl, hxl]; exact k.2
   have := hval k
   simp only [Function.comp_def, List.getD_eq_getElem?_getD, List.getElem?_eq_getElem hlt, Option.getD_some]
   exact this) m os
  refine ⟨_, .tup [], _, G, rfl, hS.1, hS.2, ⟨#[], rfl, trivial⟩, hK _ hpm fun a b ha hb hab => ?_⟩
  simp only [List.length_map, Array.length_toList] at ha hb
  have := hsrt a b (Nat.zero_le _) hab (by omega)
  rw [getElem!_pos d' a ha, getElem!_pos d' b hb] at this
  simp only [ltOf, decide_eq_false_iff_not] at this
  simpa using this
end Go.Abs
namespace Go.Proofs.YtacebbdfgbfgiaaGreat
open Go Go.Shelf Go.Abs
def zwa : Go.Shelf.Ren := ⟨fun | 6 => 32 | 15 => 57 | 14 => 56 | 28 => 80 | 29 => 81 | 20 => 72 | 21 => 73 | 22 => 74 | 23 => 75 | 24 => 76 | 25 => 77 | 26 => 78 | 27 => 79 | 46 => 98 | 47 => 99 | 48 => 100 | 49 => 101 | 50 => 102 | 57 => 115 | n => n, fun | 22 => 31 | 24 => 26 | 25 => 41 | 3 => 3 | 39 => 82 | 0 => 0 | 53 => 107 | 55 => 109 | 4 => 4 | 46 => 101 | 45 => 100 | 50 => 92 | 5 => 5 | 9 => 9 | 66 => 119 | 70 => 54 | 76 => 144 | 77 => 145 | n => n, fun | n => n⟩
theorem zv9 : Go.Proofs.SlLaysF.n6 tP zwa := {
 mixed := by kernel_rfl
 f6 := ⟨Tryz.f32.name, by decide, Tryz.func32.trans (congrArg some (by kernel_rfl))⟩
 f14 := ⟨Tryz.f56.name, by decide, Tryz.func56.trans (congrArg some (by kernel_rfl))⟩
 f15 := Tryz.func57.trans (congrArg some (by kernel_rfl))
 f20 := ⟨Tryz.f72.name, by decide, Tryz.func72.trans (congrArg some (by kernel_rfl))⟩
 f21 := ⟨Tryz.f73.name, by decide, Tryz.func73.trans (congrArg some (by kernel_rfl))⟩
 f22 := ⟨Tryz.f74.name, by decide, Tryz.func74.trans (congrArg some (by kernel_rfl))⟩
 f23 := ⟨Tryz.f75.name, by decide, Tryz.func75.trans (congrArg some (by kernel_rfl))⟩
 f24 := ⟨Tryz.f76.name, by decide, Tryz.func76.trans (congrArg some (by kernel_rfl))⟩
 f25 := ⟨Tryz.f77.name, by decide, Tryz.func77.trans (congrArg some (by kernel_rfl))⟩
 f26 := ⟨Tryz.f78.name, by decide, Tryz.func78.trans (congrArg some (by kernel_rfl))⟩
 f27 := ⟨Tryz.f79.name, by decide, Tryz.func79.trans (congrArg some (by kernel_rfl))⟩
 f28 := Tryz.func80.trans (congrArg some (by kernel_rfl))
 f29 := Tryz.func81.trans (congrArg some (by kernel_rfl))
 f46 := ⟨Tryz.f98.name, by decide, Tryz.func98.trans (congrArg some (by kernel_rfl))⟩
 f47 := Tryz.func99.trans (congrArg some (by kernel_rfl))
 f48 := Tryz.func100.trans (congrArg some (by kernel_rfl))
 f49 := ⟨Tryz.f101.name, by decide, Tryz.func101.trans (congrArg some (by kernel_rfl))⟩
 f50 := ⟨Tryz.f102.name, by decide, Tryz.func102.trans (congrArg some (by kernel_rfl))⟩
 f57 := ⟨Tryz.f115.name, by decide, Tryz.func115.trans (congrArg some (by kernel_rfl))⟩
 t0 := Tryz.underlying0
 a0 := Tryz.isAgg0
 z0 := Tryz.sizeOf0
 v0 := Tryz.zeroValue0
 t3 := Tryz.underlying3
 a3 := Tryz.isAgg3
 z3 := Tryz.sizeOf3
 v3 := Tryz.zeroValue3
 t4 := Tryz.underlying4
 a4 := Tryz.isAgg4
 z4 := Tryz.sizeOf4
 v4 := Tryz.zeroValue4
 t5 := Tryz.underlying5
 a5 := Tryz.isAgg5
 z5 := Tryz.sizeOf5
 v5 := Tryz.zeroValue5
 t9 := Tryz.underlying9
 a9 := Tryz.isAgg9
 z9 := Tryz.sizeOf9
 v9 := Tryz.zeroValue9
 t22 := Tryz.underlying31
 a22 := Tryz.isAgg31
 z22 := Tryz.sizeOf31
 v22 := Tryz.zeroValue31
 a24 := Tryz.isAgg26
 z24 := Tryz.sizeOf26
 t25 := Tryz.underlying41
 a25 := Tryz.isAgg41
 z25 := Tryz.sizeOf41
 v25 := Tryz.zeroValue41
 t39 := Tryz.underlying82
 a39 := Tryz.isAgg82
 z39 := Tryz.sizeOf82
 v39 := Tryz.zeroValue82
 t45 := Tryz.underlying100
 a45 := Tryz.isAgg100
 z45 := Tryz.sizeOf100
 v45 := Tryz.zeroValue100
 t46 := Tryz.underlying101
 a46 := Tryz.isAgg101
 z46 := Tryz.sizeOf101
 v46 := Tryz.zeroValue101
 t50 := Tryz.underlying92
 a50 := Tryz.isAgg92
 z50 := Tryz.sizeOf92
 v50 := Tryz.zeroValue92
 t53 := Tryz.underlying107
 a53 := Tryz.isAgg107
 z53 := Tryz.sizeOf107
 v53 := Tryz.zeroValue107
 t55 := Tryz.underlying109
 a55 := Tryz.isAgg109
 z55 := Tryz.sizeOf109
 v55 := Tryz.zeroValue109
 t66 := Tryz.underlying119
 a66 := Tryz.isAgg119
 z66 := Tryz.sizeOf119
 v66 := Tryz.zeroValue119
 t70 := Tryz.underlying54
 a70 := Tryz.isAgg54
 z70 := Tryz.sizeOf54
 v70 := Tryz.zeroValue54
 t76 := Tryz.underlying144
 a76 := Tryz.isAgg144
 z76 := Tryz.sizeOf144
 v76 := Tryz.zeroValue144
 t77 := Tryz.underlying145
 a77 := Tryz.isAgg145
 z77 := Tryz.sizeOf145
 v77 := Tryz.zeroValue145 }
end Go.Proofs.YtacebbdfgbfgiaaGreat
namespace Go.Abs
open Go Go.RowKit
variable {P : Program} {B : Nat} {w : World} {G : Gh} {H : zaa}
def Lmx (w : World) (G : Gh) (b : Nat) : Nat := Nat.max (G.L b) (zbB w b)
inductive RdA (H : zaa) : AV → AV → Prop
 | sl (es : List (List AV)) : RdA H (.sl es .none) (.sl es .none)
 | int (k : IntKind) (n : Int) : RdA H (.int k n) (.int k n)
 | bool (b : Bool) : RdA H (.bool b) (.bool b)
 | str (s : List UInt8) : RdA H (.str s) (.str s)
 | ms (id off len cap size : Nat) (cs : List AV) (row : List (List AV)) (hH : H[id]? = some (.cells cs)) (hfit : off + len * size ≤ cs.length) (hp : zaA ((cs.drop off).take (len * size)) = some row.flatten) (hlen : row.length = len)
   (hsz : ∀ c ∈ row, c.length = size) (hcap : len ≤ cap) : RdA H (.ms id off len cap) (.sl row .none)
 | ov (id e size m : Nat) (cs : List AV) (row : List (List AV)) (hH : H[id]? = some (.vec e size m cs)) (hp : zaA cs = some row.flatten) (hlen : row.length = m) (hsz : ∀ c ∈ row, c.length = size) : RdA H (.ov id m) (.sl row .none)
theorem RdA.rel (h : HRel B w G H) {a b : AV} (hr : RdA H a b) {v : Value} (hv : ARel w G v a) : DRel w (Lmx w G) v b := by
 have hmono : ∀ {v : Value} {a : AV}, DRel w G.L v a → DRel w (Lmx w G) v a := fun h => h.mono (fun b => Nat.le_max_left _ _) fun _ _ _ => rfl
 cases hr with
 | sl es => exact hmono hv
 | int k n => have hv : v = .int k n := hv; subst hv; exact .int k n
 | bool b => have hv : v = .bool b := hv; subst hv; exact .bool b
 | str s => have hv : v = .string ⟨s.toArray⟩ := hv; subst hv; exact .str s
 | ms i2 off len cap2 size cs2 row hH2 hfit hp hlen hsz hcap =>
  obtain ⟨b, hb, rfl⟩ := hv
  obtain ⟨_, _, vs, _, hw, hcs⟩ := h.ok i2 _ _ hH2 hb
  subst hlen
  by_cases hes : row = []
  ·subst hes; exact .slE _ _
  ·have hl := hcs.length
   refine DRel.of_flat_at (zs := (vs.toList.drop off).take (row.length * size)) hsz hes hcap ?_ ((zcA ((hcs.drop off).take _) hp).mono fun _ _ => hmono) ?_
   ·refine Nat.le_trans ?_ (Nat.le_max_right _ _)
    simp [zbB, hw]
    simp at hl
    omega
   ·intro j u hj
    rw [List.getElem?_take] at hj
    split at hj
    ·simp only [World.cell?, hw]
     simpa using hj
    ·cases hj
 | ov i2 e2 size m cs2 row hH2 hp hlen hsz =>
  obtain ⟨⟨a, cap0, rfl, _⟩, v', s0, n', hμ2, _, heq⟩ := hv
  obtain ⟨rfl, rfl, ⟨xs, hown, hcs⟩, _⟩ := h.ok i2 _ _ hH2 hμ2
  obtain rfl := heq rfl
  subst hlen
  by_cases hes : row = []
  ·subst hes; exact .slE _ _
  ·have hown2 := hown
   obtain ⟨hl, hrow⟩ := hown2
   rcases hrow with ⟨h1, h2⟩ | ⟨g2, cap2, cur, h1, h2, h3, h4, h5, h6, h7⟩
   ·cases row <;> simp_all
   ·simp at h1
    obtain ⟨rfl, rfl⟩ := h1
    obtain ⟨_, _, _, hcell⟩ := zcz hown
    refine DRel.of_flat_at (zs := xs) hsz hes h4 ?_ ((zcA hcs hp).mono fun _ _ => hmono) ?_
    ·refine Nat.le_trans ?_ (Nat.le_max_right _ _)
     simp only [zbB, h3, h6, Nat.zero_add]
     exact Nat.mul_le_mul_right _ h4
    ·intro j u hj
     rw [Nat.zero_add, hcell j (by rw [← hl]; exact (List.getElem?_eq_some_iff.1 hj).1)]
     exact hj
theorem RdA.trel (h : HRel B w G H) {a b : AV} (hr : RdA H a b) {v : Value} (hv : ARel w G v a) : ARel w ⟨Lmx w G, []⟩ v b := by
 have hd := hr.rel h hv
 cases hr with
 | sl es => exact hd
 | int k n => exact hv
 | bool b => exact hv
 | str s => exact hv
 | ms i2 off len cap2 size cs2 row hH2 hfit hp hlen hsz hcap => exact hd
 | ov i2 e2 size m cs2 row hH2 hp hlen hsz => exact hd
inductive RdT (H : zaa) : AV → AV → Prop
 | one {a b : AV} (h : RdA H a b) : RdT H a b
 | agg {asx bs : List AV} (h : All2 (RdA H) asx bs) : RdT H (.agg asx) (.agg bs)
theorem RdT.rel (h : HRel B w G H) {a b : AV} (hr : RdT H a b) {v : Value} (hv : TRel w G v a) : TRel w ⟨Lmx w G, []⟩ v b := by
 cases hr with
 | one hr =>
  have hv' : ARel w G v a := by cases hr <;> exact hv
  exact TRel.of_v (VRel.of_a (hr.trel h hv'))
 | agg hr =>
  obtain ⟨us, hu, hv⟩ := hv
  refine ⟨us, hu, ?_⟩
  exact All2.of_get (hv.length.trans hr.length) fun i x y hx hy => by
   obtain ⟨a, ha, hxa⟩ := All2.get' hv hx
   obtain ⟨y', hy', hay⟩ := All2.get' hr ha
   rw [hy] at hy'
   cases hy'
   exact hay.trel h hxa
end Go.Abs
namespace Go.Proofs.YtacebbdfgbfgiaaGreat
open Go Go.Abs
set_option maxRecDepth 8000
theorem zo2 (r : List IT) : zaA (zaF r) = some (zaF r) := by
 induction r with
 | nil => rfl
 | cons x r ih =>
  obtain ⟨n, ks⟩ := x
  rw [zcY]
  simp [IT.cs, zaA, AV.pd, ih]
theorem zjk {c : List AV} {r : List IT} (h : c ∈ IT.css r) : c.length = 2 := by
 rw [IT.css_map] at h
 obtain ⟨x, _, rfl⟩ := List.mem_map.1 h
 simp
theorem zs5 (a b : List IT) (he : a.length = b.length) (ha : a.length ≤ 1000) (hn : ∀ x ∈ a, x.nodes ≤ 1000000) (H : zaa) (K : Kt) (hK : K (.int .i64 (IT.cmpL a b)) H) :
  ACalls tP zj0 [.sl (IT.css a) .none, .sl (IT.css b) .none] H K := by
 refine ACalls.out (zzj fun hs => ?_)
 simp [zri]
 refine znK a b he (by omega) (fun i h h' H K hK => zt0 _ _ _ (Nat.le_refl _) (hn _ (List.getElem_mem h)) H K hK) _ _ ?_
 exact zdp hs rfl rfl hK
theorem zps {H : zaa} {id : Nat} {b : AB} (h : H[id]? = some b) : H.set id b = H := by
 refine List.ext_getElem? fun i => ?_
 rw [List.getElem?_set]
 split
 ·rename_i hi; subst hi; rw [if_pos (List.getElem?_eq_some_iff.1 h).1, h]
 ·rfl
def zdS (rs : List (List IT)) : AV := .sl (rs.map fun r => [.sl (IT.css r) .none]) .none
theorem zpM {H H1 : zaa} {id w : Nat} {rows : List (List IT)} (hpre : H <+: H1) (hs : HSc H) (hR : RowsH H1 H.length id rows) (hw : ∀ r ∈ rows, r.length = w) (hw8 : w ≤ 1000) (hnd : ∀ r ∈ rows, ∀ x ∈ r, x.nodes ≤ 1000) (hlen : rows.length ≤ 1000000000)
  (K : Kt) (hK : ∀ rs, rs.Perm rows → rs.Pairwise rle → K (.tup [zdS rs, .int .i64 0]) H) : zfR (.ov id rows.length) H1 (zd9 H.length K) := by
 obtain ⟨hlo, cs, hcs, hcells⟩ := hR
 have hcl := hcells.length
 unfold zfR
 refine ACalls.sortFunc zv9 hcs (by omega) (fun i => IT.css (rows.getD i [])) (fun i j => IT.cmpL (rows.getD i []) (rows.getD j [])) (fun i hi => ?_) (fun args w => rfl) (fun i j hi hj => ?_) (fun i hi => ?_) (fun i j k hi hj hk h1 h2 => ?_) (fun i j k hi hj hk h1 h2 => ?_) (fun p hp hsort => ?_)
 ·obtain ⟨r, hr, hc⟩ := All2.get' hcells (List.getElem?_eq_getElem hi)
  have hrd : rows.getD i [] = r := by simp [List.getD_eq_getElem?_getD, hr]
  simp only [hrd]
  rcases hc with ⟨rfl, h⟩ | ⟨hne, b, h, h1, h2, h3⟩
  ·exact .inl h
  ·exact .inr (.inr ⟨b, zbn, 2, r.length, zaF r, h, h2, h3, zo2 r, by simp, fun c hc => zjk hc⟩)
 ·have ei : rows.getD i [] = rows[i] := by simp [List.getD_eq_getElem?_getD, hi]
  have ej : rows.getD j [] = rows[j] := by simp [List.getD_eq_getElem?_getD, hj]
  rw [ei, ej]
  have m1 := List.getElem_mem hi
  have m2 := List.getElem_mem hj
  exact zs5 _ _ (by rw [hw _ m1, hw _ m2]) (by rw [hw _ m1]; exact hw8) (fun x hx => by have := hnd _ m1 x hx; omega) _ _ rfl
 ·have := IT.cmpL_anti (rows.getD i []) (rows.getD i [])
  omega
 ·have := IT.cmpL_tri (rows.getD i []) (rows.getD j []) (rows.getD k [])
  unfold Tri at this
  omega
 ·have := IT.cmpL_tri (rows.getD k []) (rows.getD j []) (rows.getD i [])
  have a1 := IT.cmpL_anti (rows.getD i []) (rows.getD j [])
  have a2 := IT.cmpL_anti (rows.getD j []) (rows.getD k [])
  have a3 := IT.cmpL_anti (rows.getD i []) (rows.getD k [])
  unfold Tri at this
  omega
 ·have hplen : p.length = rows.length := by simpa using hp.length_eq
  have hpm : ∀ i ∈ p, i < rows.length := fun i hi => by simpa using hp.subset hi
  have hrs : (p.map fun i => rows.getD i []).Perm rows := by
   have h1 := hp.map fun i => rows.getD i []
   have h2 : (List.range rows.length).map (fun i => rows.getD i []) = rows := List.ext_getElem (by simp) fun i h1 h2 => by simp [List.getD_eq_getElem?_getD, h2]
   rwa [h2] at h1
  have hpw : (p.map fun i => rows.getD i []).Pairwise rle := by
   rw [List.pairwise_iff_getElem]
   intro a b ha hb hab
   simp only [List.getElem_map]
   exact hsort a b (by simpa using ha) (by simpa using hb) hab
  have hK := hK _ hrs hpw
  generalize hrsd : (p.map fun i => rows.getD i []) = rs at *
  have hrl : rs.length = rows.length := hrs.length_eq
  generalize hcsd : (p.map fun i => cs.getD i .unk) = cs' at *
  have hcells' : All2 (CellR H1 H.length id) cs' rs := by
   subst hrsd hcsd
   refine All2.of_get (by simp) fun i x y hx hy => ?_
   simp only [List.getElem?_map, Option.map_eq_some_iff] at hx hy
   obtain ⟨k, hk, rfl⟩ := hx
   obtain ⟨k', hk', rfl⟩ := hy
   rw [hk] at hk'
   cases hk'
   have hlt := hpm k (List.mem_of_getElem? hk)
   obtain ⟨r, hr, hc⟩ := All2.get' hcells (List.getElem?_eq_getElem (by omega : k < cs.length))
   simp only [List.getD_eq_getElem?_getD, hr, Option.getD_some, List.getElem?_eq_getElem (by omega : k < cs.length)]
   exact hc
  have hidl := (List.getElem?_eq_some_iff.1 hcs).1
  have hset : (H1.set id (.vec zbh 1 rows.length cs'))[id]? = some (.vec zbh 1 rows.length cs') := List.getElem?_set_self hidl
  have hcells2 : All2 (CellR (H1.set id (.vec zbh 1 rows.length cs')) H.length id) cs' rs := hcells'.mono fun c r hc => hc.keep (Nat.le_refl _) fun b _ hb _ => ⟨hb, List.getElem?_set_ne (fun h => hb h.symm)⟩
  have hpre2 := zgP (b := .vec zbh 1 rows.length cs') hpre hlo
  have hwr : ∀ r ∈ rs, r.length = w := fun r hr => hw r (hrs.subset hr)
  have hndr : ∀ r ∈ rs, ∀ x ∈ r, x.nodes ≤ 1000 := fun r hr => hnd r (hrs.subset hr)
  generalize H1.set id (.vec zbh 1 rows.length cs') = H2 at *
  clear hcells hcells' hcs hsort hp
  have hcl2 := hcells2.length
  simp
  refine zC2 (Inv := fun q t133 H' => ∃ i : Nat, i ≤ rows.length ∧ q = rows.length - i ∧ t133 = .int .i64 i ∧ H' = H2) rows.length ?_ ?_
  ·intro _; exact ⟨0, by omega, by omega, rfl, rfl⟩
  ·rintro q t133 H' ⟨i, hi, rfl, rfl, rfl⟩ hsc hlen' hsF Kb hKb
   by_cases hlt : i < rows.length
   ·have hir : i < cs'.length := by omega
    obtain ⟨r, hr, hc⟩ := All2.get' hcells2 (List.getElem?_eq_getElem hir)
    have hrm := List.mem_of_getElem? hr
    have hrw := hwr r hrm
    simp [zmT, hlt, hset]
    rw [ztc 1 (List.getElem?_eq_getElem hir)]
    have hHn : H.length ≤ H'.length := hpre2.length_le
    have hidn := (List.getElem?_eq_some_iff.1 hset).1
    have hnext : ∀ t138 : AV, Kb (zfQ (.ov id rows.length) (.ov id rows.length) (.int .i64 rows.length) (.int .i64 ((i : Int) + 1))) H' := fun _ => by
     refine hKb _ _ ⟨rows.length - (i + 1), by omega, Back.at (J := []) (H2 := H') (by simp) hlen' hsc ?_ ⟨_, rfl, i + 1, by omega, rfl, by simp, rfl⟩⟩
     simp [zfQ, AV.sc, AV.scV, AV.scA, AV.scB, hidn]
    have hlen : ∀ k : AV → Prop, k (.int .i64 r.length) → zah 1 cs'[i] k := fun k hk => by
     rcases hc with ⟨rfl, h⟩ | ⟨hne, b, h, h1, h2, h3⟩
     ·rw [h]; simpa using hk
     ·rw [h]; simpa using hk
    refine hlen _ ?_
    refine zC3 (Inv := fun q t139 H3 => ∃ k : Nat, k ≤ r.length ∧ q = r.length - k ∧ t139 = .int .i64 k ∧ H3 = H') r.length ?_ ?_
    ·intro _; exact ⟨0, by omega, by omega, rfl, rfl⟩
    ·rintro q t139 H3 ⟨k, hk, rfl, rfl, rfl⟩ hsc3 hlen3 hsF3 Kb3 hKb3
     by_cases hkl : k < r.length
     ·rcases hc with ⟨rfl, h⟩ | ⟨hne, b, h, h1, h2, h3⟩
      ·simp at hkl
      ·obtain ⟨x, y, hvx, hx, hy⟩ := zdk r[k]
       have hself := zfy r k r[k] hkl
       rw [List.set_getElem_self] at hself
       have htk : List.take 2 (List.drop (k * 2) (zaF r)) = (r[k]).cs := by
        rw [← hself]
        have h4 : (List.take (k * 2) (zaF r)).length = k * 2 := by rw [List.length_take, zcK]; omega
        rw [List.append_assoc, List.drop_append_of_le_length (by omega), List.drop_of_length_le (by omega), List.nil_append, hvx]
        simp
       have hbl := (List.getElem?_eq_some_iff.1 h3).1
       simp [zmU, hkl, h, h3]
       rw [htk]
       refine ⟨by rw [zcK]; omega, ?_⟩
       refine zzz _ (r[k]) (Nat.le_refl _) (by have := hndr r hrm _ (List.getElem_mem hkl); omega) _ _ ?_
       simp [h3, hkl]
       refine ⟨by rw [zcK]; omega, ?_⟩
       rw [← List.append_assoc, hself, zps h3, zal (by omega) (by omega)]
       refine hKb3 _ _ ⟨r.length - (k + 1), by omega, Back.at (J := []) (H2 := H3) (by simp) (by omega) hsc3 ?_ ⟨.int .i64 ((k : Int) + 1), by simp only [h], k + 1, by omega, rfl, by simp, rfl⟩⟩
       simp [zi1, AV.sc, AV.scV, AV.scA, AV.scB, hidn, hbl]
     ·obtain rfl : k = r.length := by omega
      simp [zmU]
      rw [zal (by omega) (by omega)]
      exact hnext (.int .i64 0)
   ·obtain rfl : i = rows.length := by omega
    simp [zmT]
    refine ⟨⟨rfl, rfl⟩, ?_⟩
    obtain ⟨J, hJ⟩ := hpre2
    refine ⟨.tup [zdS rs, .int .i64 0], H, J, hJ.symm, Nat.le_refl _, hs, .tup ⟨?_, .one (.wk (.atom (.refl _)) rfl rfl), trivial⟩, hK⟩
    have hrw : zdS rs = .sl ((rs.map IT.css).map fun r => [.sl r .none]) .none := by simp [zdS]
    rw [hrw]
    refine .rows id zbh rows.length cs' (rs.map IT.css) hlo hset (by simp [hrl]) (All2.of_get (by simpa using hcl2) fun i x y hx hy => ?_)
    obtain ⟨r, hr, hc⟩ := All2.get' hcells2 hx
    simp only [List.map_map, List.getElem?_map, hr, Option.map_some, Function.comp_apply, Option.some.injEq] at hy
    subst hy
    rcases hc with ⟨rfl, rfl⟩ | ⟨hne, b, rfl, h1, h2, h3⟩
    ·exact .wk (.atom (.refl _)) rfl rfl
    ·exact .vfz b zbn 2 r.length (zaF r) (IT.css r) h1 h3 (zo2 r) (by simp) (fun c hc => zjk hc)
theorem zvZ {data : List Dat} {tn : Int} {tks : List VT} (ht : za3 data 0 (.mk 5 tn tks) = true) : 0 ≤ tn ∧ tn.toNat < data.length := by
 rw [za3, Bool.and_eq_true] at ht
 have h := ht.2
 simp only [zaH, zaO, Bool.and_eq_true] at h
 have h1 := h.1
 simp at h1
 refine ⟨h1.1, ?_⟩
 have h2 := h1.2
 split at h2
 ·rename_i d hd
  exact (List.getElem?_eq_some_iff.1 hd).1
 ·simp at h2
def zaQ (l : List VT) (P : List Nat) : List IT := fill (List.replicate l.length (.mk 0 [])) P (P.map fun j => za4 (l.getD j (.mk 0 0 [])))
def zb7 (base : List IT) (P R : List Nat) (c : Int) : List IT → List (List IT)
 | [] => []
 | .mk c' ps :: rest => if c' = c then zaV (fill base P ps) R rest else []
def zbY (l : List VT) (bs : List Bool) (c : Int) (kids : List IT) : List (List IT) :=
 zaV (zaQ l (pos false bs bs.length)) (pos true bs bs.length) kids ++ zb7 (zaQ l (pos false bs bs.length)) (pos false bs bs.length) (pos true bs bs.length) c kids
def zom : IT → List IT
 | .mk _ ks => ks
def zcq (data : List Dat) (t : VT) (c : Int) (v : IT) : Option Int :=
 if zbg data t v < 0 then some 1 else if t.kind ≠ 5 then some 6 else if c < 0 ∨ ((data.getD t.num.toNat ⟨[], 0, []⟩).cons.length : Int) ≤ c then some 8 else if zaM data t c = none then some 0 else none
mutual
theorem zp9 : ∀ t : VT, (za4 t).nodes ≤ t.nodes
 | .mk k n ks => by
  have := zp8 ks
  simp only [za4, VT.nodes, IT.nodes]
  split
  ·omega
  ·simp [IT.nodesL]
theorem zp8 : ∀ ts : List VT, IT.nodesL (zbx ts) ≤ VT.nodesL ts
 | [] => by simp [zbx, IT.nodesL, VT.nodesL]
 | t :: ts => by
  have := zp9 t
  have := zp8 ts
  simp only [zbx, IT.nodesL, VT.nodesL]
  omega
end
theorem zf9 : ∀ (ps : List Nat) (row xs : List IT) (x : IT), x ∈ fill row ps xs → x ∈ row ∨ x ∈ xs
 | [], row, xs, x, h => by simp at h; exact .inl h
 | p :: ps, row, [], x, h => by simp [fill] at h; exact .inl h
 | p :: ps, row, y :: xs, x, h => by
  rw [fill] at h
  rcases zf9 ps _ xs x h with h | h
  ·rcases List.mem_or_eq_of_mem_set h with h | rfl
   ·exact .inl h
   ·exact .inr (by simp)
  ·exact .inr (by simp [h])
theorem zul (l : List IT) (n : Nat) : IT.nodesL (l.drop n) ≤ IT.nodesL l := by
 have := IT.nodesL_app (l.take n) (l.drop n)
 rw [List.take_append_drop] at this
 omega
theorem ze4 {N : Nat} : ∀ (ps : List Nat) (row l : List IT), (∀ x ∈ row, x.nodes ≤ N) → IT.nodesL l + 1 ≤ N → ∀ r ∈ zaV row ps l, ∀ x ∈ r, x.nodes ≤ N
 | [], row, l, hr, hl, r, h => by
  simp only [zaV] at h
  split at h <;> simp at h
  subst h; exact hr
 | p :: ps, row, l, hr, hl, r, h => by
  rw [ztL, List.mem_flatMap] at h
  obtain ⟨n, _, h⟩ := h
  refine ze4 ps _ _ (fun x hx => ?_) (by have := zul l n; omega) r h
  rcases List.mem_or_eq_of_mem_set hx with hx | rfl
  ·exact hr x hx
  ·have := IT.nodesL_take_le l n
   simp only [IT.nodes]; omega
theorem znN (ps : List Nat) (row l : List IT) : ∀ r ∈ zaV row ps l, r.length = row.length := by
 rw [zdK]
 intro r h
 obtain ⟨s, _, rfl⟩ := List.mem_map.1 h
 simp
theorem zoD {l : List IT} {x : IT} (h : x ∈ l) : x.nodes ≤ IT.nodesL l := by
 induction l with
 | nil => simp at h
 | cons y l ih =>
  simp only [IT.nodesL]
  rcases List.mem_cons.1 h with rfl | h
  ·omega
  ·have := ih h; omega
theorem znA {l : List VT} {P : List Nat} (h : ∀ x ∈ l, x.nodes ≤ 200) : ∀ x ∈ zaQ l P, x.nodes ≤ 200 := by
 intro x hx
 rcases zf9 _ _ _ _ hx with hx | hx
 ·rw [List.eq_of_mem_replicate hx]; simp [IT.nodes, IT.nodesL]
 ·obtain ⟨j, _, rfl⟩ := List.mem_map.1 hx
  refine Nat.le_trans (zp9 _) ?_
  rw [List.getD_eq_getElem?_getD]
  cases hj : l[j]? with
  | none => simp [VT.nodes, VT.nodesL]
  | some y => exact h y (List.mem_of_getElem? hj)
theorem zph (l : List VT) (bs : List Bool) (c : Int) (kids : List IT) : ∀ r ∈ zbY l bs c kids, r.length = l.length := by
 intro r h
 unfold zbY at h
 rcases List.mem_append.1 h with h | h
 ·rw [znN _ _ _ r h]; simp [zaQ]
 ·unfold zb7 at h
  split at h
  ·simp at h
  ·split at h
   ·rw [znN _ _ _ r h]; simp [zaQ]
   ·simp at h
theorem zuP {l : List VT} {bs : List Bool} {c : Int} {kids : List IT} (hl : ∀ x ∈ l, x.nodes ≤ 200) (hk : IT.nodesL kids + 1 ≤ 1000) : ∀ r ∈ zbY l bs c kids, ∀ x ∈ r, x.nodes ≤ 1000 := by
 have hb := znA (P := pos false bs bs.length) hl
 intro r h
 unfold zbY at h
 rcases List.mem_append.1 h with h | h
 ·exact ze4 _ _ _ (fun x hx => by have := hb x hx; omega) hk r h
 ·unfold zb7 at h
  split at h
  ·simp at h
  ·rename_i c' ps rest
   simp only [IT.nodesL, IT.nodes] at hk
   split at h
   ·refine ze4 _ _ _ (fun x hx => ?_) (by omega) r h
    rcases zf9 _ _ _ _ hx with hx | hx
    ·have := hb x hx; omega
    ·have := zoD hx; omega
   ·simp at h
theorem zgO {a n : Nat} (ha : a ≤ 7) (hn : n ≤ 8) : a ^ n ≤ 100000000 :=
 Nat.le_trans (Nat.pow_le_pow_left ha n) (Nat.le_trans (Nat.pow_le_pow_right (by omega) hn) (by decide))
theorem zpg {l : List VT} {bs : List Bool} {c : Int} {kids : List IT} (hk : kids.length ≤ 6) (hb : bs.length ≤ 8) : (zbY l bs c kids).length ≤ 200000000 := by
 have hR := zdq true bs bs.length
 unfold zbY
 rw [List.length_append]
 have h1 := Nat.le_trans (zjo (pos true bs bs.length) (zaQ l (pos false bs bs.length)) kids) (zgO (by omega) (by omega))
 have : (zb7 (zaQ l (pos false bs bs.length)) (pos false bs bs.length) (pos true bs bs.length) c kids).length ≤ 100000000 := by
  unfold zb7
  split
  ·simp
  ·rename_i c' ps rest
   split
   ·exact Nat.le_trans (zjo _ _ _) (zgO (by simp at hk; omega) (by omega))
   ·simp
 omega
def d0 : IT := .mk 0 []
def tz : VT := .mk 0 0 []
theorem zuC {data : List Dat} {k n : Int} {ks : List VT} {c : Int} {l : List VT} (hk : zbf data) (hf : zaM data (.mk k n ks) c = some l) :
  ∃ bs, l.length = bs.length ∧ l.length ≤ 8 ∧ zbj data (.mk k n ks) c = some (pick l bs) ∧ (∀ x ∈ l, x.nodes ≤ 200) ∧ k = 5 ∧
   (∀ H K, K (.sl (za6 bs) .none) H → ACalls tP zcV [.sl (data.map Dat.cs) .none, .int .i64 n, .int .i64 c] H K) ∧
   (∀ H K, K (.sl (za6 bs) .none) H → ACalls tP zer [.sl (data.map Dat.cs) .none, .int .i64 n, .int .i64 c] H K) ∧
   (∀ j, bs.getD j false = true → l.getD j tz = .mk 5 n ks) ∧ 0 ≤ c ∧ ∃ (hn : n.toNat < data.length) (hc : c.toNat < (data[n.toNat]).cons.length), l.length = ((data[n.toNat]).cons[c.toNat]).args.length := by
 obtain ⟨k5, n0, c0, hn, hc, hv, rfl, h200⟩ := ze7 hf
 obtain ⟨f1, f2, f3⟩ := zdl hk
 have hd := List.getElem_mem hn
 have hcm := List.getElem_mem hc
 obtain ⟨g1, g2⟩ := f2 _ hd _ hcm
 have g3 := f3 _ hd
 have h8 := ((hk.2 _ hd).2.2 _ hcm).2.1
 refine ⟨zbL n.toNat data[n.toNat] (data[n.toNat]).cons[c.toNat], by simp [zbL], by simpa using h8, ?_, h200, k5, fun H K hK => ?_, fun H K hK => ?_, fun j hj => ?_, c0, hn, hc, by simp⟩
 ·simp [zbj, hf, zku, hn, hc, List.getD_eq_getElem?_getD, VT.num]
 ·have := zmd data n.toNat c.toNat hn hc f1 g3 (by omega) (fun x hx => by have := g2 x hx; omega) H K (by simpa [za6, zbL, Function.comp_def] using hK)
  rwa [Int.toNat_of_nonneg n0, Int.toNat_of_nonneg c0] at this
 ·have := zsh data n.toNat c.toNat hn hc f1 g3 (by omega) (fun x hx => by have := g2 x hx; omega) H K hK
  rwa [Int.toNat_of_nonneg n0, Int.toNat_of_nonneg c0] at this
 ·have hjl : j < ((data[n.toNat]).cons[c.toNat]).args.length := by
   refine Nat.lt_of_not_le fun hle => ?_
   rw [List.getD_eq_getElem?_getD, List.getElem?_eq_none (by simpa [zbL] using hle)] at hj
   simp at hj
  simp only [List.getD_eq_getElem?_getD, zbL, List.getElem?_map, List.getElem?_eq_getElem hjl, Option.map_some, Option.getD_some] at hj ⊢
  rw [zu6 hj hv, Int.toNat_of_nonneg n0]
theorem zpK (f : Nat → Int) (b : Nat → Bool) : ∀ l : List Nat, (l.map f).sum = ((l.filter fun j => b j == false).map f).sum + ((l.filter fun j => b j == true).map f).sum
 | [] => by simp
 | x :: l => by
  have := zpK f b l
  cases h : b x <;> simp [List.filter_cons, h, this] <;> omega
theorem zks {data : List Dat} (m n : Int) (kk : List IT) (ks : List VT) : rdV data (.mk m kk) (.mk 5 n ks) = if m = 0 ∧ kk.length ≤ 6 then rdE data kk (.mk 5 n ks) 0 else -1 := by simp [rdV, VT.kind]
end Go.Proofs.YtacebbdfgbfgiaaGreat
