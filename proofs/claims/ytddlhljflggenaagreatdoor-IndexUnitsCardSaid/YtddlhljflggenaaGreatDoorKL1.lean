import Derived.Test.YtddlhljflggenaaGreatDoorKY7
import Derived.Test.YtddlhljflggenaaGreatDoorIT
import Derived.Test.YtddlhljflggenaaGreatDoorCT
import Derived.Test.YtddlhljflggenaaGreatDoorAbsZ
import Derived.Lib.AppendStr
import Derived.Lib.UnsafeStr
import Derived.Test.YtddlhljflggenaaGreatDoorAbsQ1
import Derived.Sort.Grow
import Derived.Deep.Draws
set_option linter.unusedSimpArgs false
set_option linter.unusedVariables false
namespace Go.Proofs.YtddlhljflggenaaGreatDoor
open Go Go.Abs
set_option maxRecDepth 8000
theorem zbE (v : IT) : ∃ a b, v.cs = [a, b] ∧ a.known = true ∧ b.known = true := by
 obtain ⟨n, ks⟩ := v; exact ⟨_, _, rfl, rfl, rfl⟩
theorem zdK {v : IT} {k : AV → Prop} : zay 2 [.int .i64 0, .snil] 1 [(0, .agg v.cs)] k = k (.sl [v.cs] .full) := by
 cases v
 exact propext Iff.rfl
theorem zzO {l : List IT} {i : Nat} (h : i < l.length) : IT.css (l.take (i + 1)) = IT.css (l.take i) ++ [(l[i]).cs] := by
 rw [IT.css_map, IT.css_map, List.take_succ_eq_append_getElem h, List.map_append]
 rfl
theorem zFP : ∀ (m : Nat) (v : IT), v.nodes ≤ m → v.nodes ≤ 1000000 → ∀ (H : zaa) (K : Kt), K (.agg v.cs) H → ACalls tP zh0 [.agg v.cs] H K := by
 intro m
 induction m with
 | zero => intro v h; have := v.nodes_pos; omega
 | succ m ih =>
  intro v hm hb H K hK
  obtain ⟨n, ks⟩ := v
  have hll := IT.len_le ks
  have hnn : (IT.mk n ks).nodes = IT.nodesL ks + 1 := by simp [IT.nodes]
  refine ACalls.out (zFN fun hs => ?_)
  simp [zvq, IT.cs, zau, zaH, AV.known, Nat.add_assoc]
  unfold zjy
  refine ALoop.ownC (H.length + 2) 1 zak 2 (cs := [.int .i64 n, .snil]) (by simp) rfl ?_
  have hset : (H ++ [AB.cells [.int .i64 n, .sl (IT.css ks) .none], .cells [.int .i64 0, .snil], .cells [.int .i64 n, .snil]]).set (H.length + 2) (.cells ([AV.int .i64 n, .snil].set 1 (.sl [] (.own (H ++ [AB.cells [.int .i64 n, .sl (IT.css ks) .none], .cells [.int .i64 0, .snil], .cells [.int .i64 n, .snil]]).length)))) ++ [.perm zak 2 0] =
    H ++ [.cells [.int .i64 n, .sl (IT.css ks) .none], .cells [.int .i64 0, .snil], .cells [.int .i64 n, .sl [] (.own (H.length + 3))], .perm zak 2 0] := by simp [List.set_append_right]
  rw [hset]
  show zjy (.ptr (H.length + 1) 0) (.ptr (H.length + 2) 0) (.sl (IT.css ks) .none) (.int .i64 ks.length) (.int .i64 0) _ (Out H.length K)
  have hsc : ∀ i, HSc (H ++ [.cells [.int .i64 n, .sl (IT.css ks) .none], .cells [.int .i64 0, .snil], .cells [.int .i64 n, .sl (IT.css (ks.take i)) (.own (H.length + 3))], .perm zak 2 i]) := fun i => hs.append (by simp [AB.sc, AV.scA, AV.scB])
  refine zFL (Inv := fun q t12 H' => ∃ i : Nat, i ≤ ks.length ∧ q = ks.length - i ∧ t12 = .int .i64 i ∧
   H' = H ++ [.cells [.int .i64 n, .sl (IT.css ks) .none], .cells [.int .i64 0, .snil], .cells [.int .i64 n, .sl (IT.css (ks.take i)) (.own (H.length + 3))], .perm zak 2 i]) ks.length ?_ ?_
  ·intro _; exact ⟨0, by omega, by omega, rfl, by simp [IT.css]⟩
  ·rintro q t12 H' ⟨i, hi, rfl, rfl, rfl⟩ hsc' hlen hsF Kb hKb
   by_cases hlt : i < ks.length
   ·obtain ⟨x, y, hvx, hx, hy⟩ := zbE ks[i]
    have hkn := IT.kid_lt (n := n) hlt
    simp [zof, hlt, hvx, hx, hy]
    rw [← hvx]
    refine zbH (.agg (ks[i]).cs) (fun J => ih ks[i] (by omega) (by omega) _ _ ⟨rfl, rfl⟩) ?_
    rw [zdK]
    simp [zat, zaI, zaE, Nat.min_eq_left hi, AV.known, List.set_append_right]
    refine ⟨⟨by omega, by omega⟩, ?_⟩
    rw [zam (by omega) (by omega)]
    rw [← zzO hlt]
    refine hKb _ _ ⟨ks.length - (i + 1), by omega, Back.at (J := [.cells (ks[i]).cs]) (H2 := H ++ [.cells [.int .i64 n, .sl (IT.css ks) .none], .cells [.int .i64 0, .snil], .cells [.int .i64 n, .sl (IT.css (ks.take (i + 1))) (.own (H.length + 3))], .perm zak 2 (i + 1)]) (by simp) (by simp) (hsc _) ?_ ⟨_, rfl, i + 1, by omega, rfl, by simp, rfl⟩⟩
    simp [zjx, AV.sc, AV.scV, AV.scA, AV.scB]
   ·obtain rfl : i = ks.length := by omega
    rw [List.take_length] at *
    simp [zof, AV.known, List.set_append_right]
    exact Out.at rfl (Nat.le_refl _) hs (WkV.agg (ds := [.int .i64 n, .sl (IT.css ks) .none]) ⟨.refl _, .sl _ _, trivial⟩) rfl (by simp [AV.scV, AV.scA, AV.scB]) (by simpa [IT.cs] using hK)
mutual
def zdA : VT → IT
 | .mk k _ ks => .mk 0 (if k = 6 then zbU ks else [])
def zbU : List VT → List IT
 | [] => []
 | t :: ts => zdA t :: zbU ts
end
theorem ziO : ∀ ts : List VT, zbU ts = ts.map zdA
 | [] => by simp [zbU]
 | t :: ts => by simp [zbU, ziO ts]
theorem zGY : ∀ (m : Nat) (v : VT), v.nodes ≤ m → v.nodes ≤ 1000000 → ∀ (H : zaa) (K : Kt), K (.agg (zdA v).cs) H → ACalls tP zh4 [.agg v.cs] H K := by
 intro m
 induction m with
 | zero => intro v h; have := v.nodes_pos; omega
 | succ m ih =>
  intro v hm hb H K hK
  obtain ⟨k, n, ks⟩ := v
  have hll := VT.len_le ks
  have hnn : (VT.mk k n ks).nodes = VT.nodesL ks + 1 := by simp [VT.nodes]
  refine ACalls.out (zGW fun hs => ?_)
  simp [zvS, VT.cs, zau, zaH, AV.known, Nat.add_assoc]
  by_cases hk6 : k = 6
  ·have hK : K (.agg [.int .i64 0, .sl (IT.css (zbU ks)) .none]) H := by simpa [zdA, hk6, IT.cs] using hK
   simp [hk6]
   subst hk6
   unfold zjS
   refine ALoop.ownC (H.length + 2) 1 zak 2 (cs := [.int .i64 0, .snil]) (by simp) rfl ?_
   have hset : (H ++ [AB.cells [.int .i64 6, .int .i64 n, .sl (VT.css ks) .none], .cells [.int .i64 0, .snil], .cells [.int .i64 0, .snil]]).set (H.length + 2) (.cells ([AV.int .i64 0, .snil].set 1 (.sl [] (.own (H ++ [AB.cells [.int .i64 6, .int .i64 n, .sl (VT.css ks) .none], .cells [.int .i64 0, .snil], .cells [.int .i64 0, .snil]]).length)))) ++ [.perm zak 2 0] =
     H ++ [.cells [.int .i64 6, .int .i64 n, .sl (VT.css ks) .none], .cells [.int .i64 0, .snil], .cells [.int .i64 0, .sl [] (.own (H.length + 3))], .perm zak 2 0] := by simp [List.set_append_right]
   rw [hset]
   show zjS (.ptr (H.length + 1) 0) (.ptr (H.length + 2) 0) (.sl (VT.css ks) .none) (.int .i64 ks.length) (.int .i64 0) _ (Out H.length K)
   have hsc : ∀ i, HSc (H ++ [.cells [.int .i64 6, .int .i64 n, .sl (VT.css ks) .none], .cells [.int .i64 0, .snil], .cells [.int .i64 0, .sl (IT.css (zbU (ks.take i))) (.own (H.length + 3))], .perm zak 2 i]) := fun i => hs.append (by simp [AB.sc, AV.scA, AV.scB])
   refine zGU (Inv := fun q t12 H' => ∃ i : Nat, i ≤ ks.length ∧ q = ks.length - i ∧ t12 = .int .i64 i ∧
    H' = H ++ [.cells [.int .i64 6, .int .i64 n, .sl (VT.css ks) .none], .cells [.int .i64 0, .snil], .cells [.int .i64 0, .sl (IT.css (zbU (ks.take i))) (.own (H.length + 3))], .perm zak 2 i]) ks.length ?_ ?_
   ·intro _; exact ⟨0, by omega, by omega, rfl, by simp [zbU, IT.css]⟩
   ·rintro q t12 H' ⟨i, hi, rfl, rfl, rfl⟩ hsc' hlen hsF Kb hKb
    by_cases hlt : i < ks.length
    ·obtain ⟨x, y, z, hvx, hx, hy, hz⟩ := zaX ks[i]
     have hkn := VT.kid_lt (k := 6) (n := n) hlt
     have hzl : (zbU (ks.take i)).length = i := by simp [ziO, Nat.min_eq_left hi]
     simp [zoG, hlt, hvx, hx, hy, hz]
     rw [← hvx]
     refine zbH (.agg (zdA ks[i]).cs) (fun J => ih ks[i] (by omega) (by omega) _ _ ⟨rfl, rfl⟩) ?_
     rw [zdK]
     simp [zat, zaI, zaE, hzl, AV.known, List.set_append_right]
     refine ⟨⟨by omega, by omega⟩, ?_⟩
     rw [zam (by omega) (by omega)]
     have hst : IT.css (zbU (ks.take i)) ++ [(zdA ks[i]).cs] = IT.css (zbU (ks.take (i + 1))) := by
      rw [ziO, ziO, List.take_succ_eq_append_getElem hlt, IT.css_map, IT.css_map, List.map_append, List.map_append]
      rfl
     rw [hst]
     refine hKb _ _ ⟨ks.length - (i + 1), by omega, Back.at (J := [.cells (ks[i]).cs]) (H2 := H ++ [.cells [.int .i64 6, .int .i64 n, .sl (VT.css ks) .none], .cells [.int .i64 0, .snil], .cells [.int .i64 0, .sl (IT.css (zbU (ks.take (i + 1)))) (.own (H.length + 3))], .perm zak 2 (i + 1)]) (by simp) (by simp) (hsc _) ?_ ⟨_, rfl, i + 1, by omega, rfl, by simp, rfl⟩⟩
     simp [zjQ, AV.sc, AV.scV, AV.scA, AV.scB]
    ·obtain rfl : i = ks.length := by omega
     rw [List.take_length] at *
     simp [zoG, zjR, AV.known, List.set_append_right]
     exact Out.at rfl (Nat.le_refl _) hs (WkV.agg (ds := [.int .i64 0, .sl (IT.css (zbU ks)) .none]) ⟨.refl _, .sl _ _, trivial⟩) rfl (by simp [AV.scV, AV.scA, AV.scB]) hK
  ·have hK : K (.agg [.int .i64 0, .sl [] .none]) H := by simpa [zdA, hk6, IT.cs, IT.css] using hK
   have hb : (k == 6) = false := by simpa using hk6
   simp [hb, zjR, AV.known, List.set_append_right]
   exact Out.at rfl (Nat.le_refl _) hs (WkV.agg (ds := [.int .i64 0, .sl [] .none]) ⟨.refl _, .snil, trivial⟩) rfl (by simp [AV.scV, AV.scA, AV.scB]) hK
end Go.Proofs.YtddlhljflggenaaGreatDoor
namespace Go.Abs
open Go Go.RowKit
variable {P : Program} {B : Nat} {w : World} {G : Gh} {H : zaa}
inductive OutW (H : zaa) (n : Nat) : AV → AV → Prop
 | one {a b : AV} (h : OutV H n a b) : OutW H n a b
 | rows (id e m : Nat) (cs : List AV) (rs : List (List (List AV))) (hid : n ≤ id) (hH : H[id]? = some (.vec e 1 m cs)) (hm : rs.length = m)
   (hall : All2 (OutV H n) cs (rs.map fun r => .sl r .none)) : OutW H n (.ov id m) (.sl (rs.map fun r => [.sl r .none]) .none)
theorem OutW.vrel (hH : HRel B w G H) {n : Nat} {v : Value} {a b : AV} (h : OutW H n a b) (hr : TRel w G v a) : VRel w (G.cut w n) v b := by
 cases h with
 | one h => exact h.vrel hH hr
 | rows id e m cs rs hid hHid hm hall =>
  obtain ⟨⟨a, cap0, rfl, _⟩, v', s0, n', hμ, _, heq⟩ := hr
  obtain ⟨rfl, rfl, ⟨xs, hown, hcs⟩, _⟩ := hH.ok id _ _ hHid hμ
  obtain rfl := heq rfl
  subst hm
  show DRel w (G.cut w n).L _ _
  by_cases hne : rs = []
  ·subst hne; exact .slE _ _
  ·have hown2 := hown
   obtain ⟨hl, hrow⟩ := hown2
   have hd : All2 (DRel w (G.cut w n).L) xs (rs.map fun r => AV.sl r .none) := All2.of_get (hcs.length.trans hall.length) fun i x y hx hy => by
    obtain ⟨a, ha, hxa⟩ := All2.get' hcs hx
    obtain ⟨y', hy', hay⟩ := All2.get' hall ha
    rw [hy] at hy'
    cases hy'
    obtain ⟨r, hr, rfl⟩ : ∃ r, rs[i]? = some r ∧ AV.sl r .none = y := by simpa using hy
    exact hay.vrel hH (TRel.of_v (VRel.of_a hxa))
   rcases hrow with ⟨h1, h2⟩ | ⟨g, cap, cur, h1, h2, h3, h4, h5, h6, h7⟩
   ·cases rs <;> simp_all
   ·simp at h1
    obtain ⟨rfl, rfl⟩ := h1
    obtain ⟨_, _, _, hcell⟩ := zc6 hown
    have hfl : ∀ l : List (List (List AV)), (l.map fun r => [AV.sl r .none]).flatten = l.map fun r => AV.sl r .none := by
     intro l
     induction l with
     | nil => rfl
     | cons r l ih => simp [ih]
    have := DRel.of_flat_at (w := w) (L := (G.cut w n).L) (g := g) (off := 0) (size := 1) (cap := cap0) (es := rs.map fun r => [AV.sl r .none]) (zs := xs) (by simp) (by simpa using hne) (by simpa using h4) ?_ (by rw [hfl rs]; exact hd) ?_
    ·simpa using this
    ·have : (G.cut w n).L g = cur.size := by
      simp only [Gh.cut]
      rw [if_pos (cut_dropped.2 ⟨id, _, hid, hμ, rfl⟩), h3]
     rw [this, h6]
     simpa using h4
    ·intro j u hj
     rw [Nat.zero_add, hcell j (by rw [← hl]; exact (List.getElem?_eq_some_iff.1 hj).1)]
     exact hj
inductive OutT2 (H : zaa) (n : Nat) : AV → AV → Prop
 | one {a b : AV} (h : OutW H n a b) : OutT2 H n a b
 | tup {asx bs : List AV} (h : All2 (OutW H n) asx bs) : OutT2 H n (.tup asx) (.tup bs)
theorem zAG (hH : HRel B w G H) {n : Nat} {asx bs : List AV} (h : All2 (OutW H n) asx bs) {vs : List Value} (hr : All2 (VRel w G) vs asx) : All2 (VRel w (G.cut w n)) vs bs :=
 All2.of_get (hr.length.trans h.length) fun i x y hx hy => by
  obtain ⟨a, ha, hxa⟩ := All2.get' hr hx
  obtain ⟨y', hy', hay⟩ := All2.get' h ha
  rw [hy] at hy'
  cases hy'
  exact hay.vrel hH (TRel.of_v hxa)
def zqM (n : Nat) (K : AV → zaa → Prop) (r : AV) (H' : zaa) : Prop := ∃ r2 H2 J, H' = H2 ++ J ∧ n ≤ H2.length ∧ HSc H2 ∧ OutT2 H' H2.length r r2 ∧ K r2 H2
theorem ACalls.out2 {f : FuncId} {args : List AV} {K : AV → zaa → Prop} (h : ACalls P f args H (zqM H.length K)) : ACalls P f args H K := by
 intro B w G vs hH hv
 refine (h B w G vs hH hv).mono fun e w' ⟨v, r, H', G', h1, h2, h3, h4, h5⟩ => ?_
 obtain ⟨r2, H2, J, hJ, hn, hsc, ho, hk⟩ := h5
 subst hJ
 refine ⟨v, r2, H2, G'.cut w' H2.length, h1, zhB h3 h2 (by rw [hH.len]; exact hn), h3.cut hsc, ?_, hk⟩
 cases ho with
 | one ho => exact TRel.of_v (ho.vrel h3 h4)
 | tup ho =>
  obtain ⟨us, hu, hr⟩ := h4
  exact ⟨us, hu, zAG h3 ho hr⟩
theorem Out.two {n : Nat} {K : AV → zaa → Prop} {r : AV} (h : Out n K r H) : zqM n K r H := by
 obtain ⟨r2, H2, J, hJ, hn, hsc, ho, hk⟩ := h
 refine ⟨r2, H2, J, hJ, hn, hsc, ?_, hk⟩
 cases ho with
 | one h => exact .one (.one h)
 | tup h => exact .tup (All2.of_get h.length fun i x y hx hy => by
   obtain ⟨y', hy', hay⟩ := All2.get' h hx
   rw [hy] at hy'
   cases hy'
   exact .one hay)
end Go.Abs
namespace Go.Abs
open Go Go.RowKit Go.Lib
variable {P : Program} {B : Nat} {w : World}
theorem zAJ {t u ty e : TypeId} {i : TypeInfo} (ht : P.underlying t = some (.slice e)) (hu : P.underlying u = some .string) (hi : P.info? e = some i) (hz : i.zero = some (.int .u8 0)) (hsize : i.size = 1) (hby : i.bytes = 1) {v : Value} {n : Nat} {xs : List Value}
  (hown : w.ownsRow B e 1 v n xs) (s : ByteArray) (hm : 0 < s.size) (h63 : n + s.size ≤ maxLen) (hbytes : n + s.size ≤ 140737488355328) (hbase : B ≤ w.heap.size) :
  ∃ v' w', (Builtin.append_ #[t, u] ty #[v, .string s]).run P w = .ok v' w' ∧ w'.ownsRow B e 1 v' (n + s.size) (xs ++ strCells s) ∧
   ((∃ g, v.ownBlock = some g ∧ v'.ownBlock = some g ∧ GrB w w' (some g)) ∨ (v'.ownBlock = some w.heap.size ∧ GrB w w' none)) := by
 have hxl : xs.length = n := by simpa using hown.1
 have hlen : (xs ++ strCells s).length = (n + s.size) * 1 := by rw [List.length_append, hxl, strCells_length, Nat.mul_one]
 have grown : ∀ (old : Nat), old < n + s.size →
   (w.drew.alloc (.cells (xs.toArray ++ (strCells s).toArray ++ Builtin.zeroCells (Value.int .u8 0).cells (grownCap w (n + s.size) old e - (n + s.size))) e)).ownsRow B e 1
    (.slice (some ⟨w.heap.size, 0, none⟩) (n + s.size) (grownCap w (n + s.size) old e)) (n + s.size) (xs ++ strCells s) ∧
   GrB w (w.drew.alloc (.cells (xs.toArray ++ (strCells s).toArray ++ Builtin.zeroCells (Value.int .u8 0).cells (grownCap w (n + s.size) old e - (n + s.size))) e)) none := by
  intro old ho
  have hge := grownCap_ge w (n + s.size) old e
  have hcm : grownCap w (n + s.size) old e ≤ maxLen := grownCap_le_maxLen w (n + s.size) old e h63
  refine ⟨⟨hlen, .inr ⟨w.heap.size, _, _, rfl, hbase, zc0 (w := w.drew) _, hge, hcm, ?_, ?_⟩⟩, ⟨zlF w _, rfl, rfl, rfl, by simp, fun k hk _ => alloc_old (w := w.drew) hk⟩⟩
  ·have hz1 : (Value.int IntKind.u8 0).cells.size = 1 := rfl
   simp only [Array.size_append, List.size_toArray, size_zeroCells, hz1, hxl, strCells_length]
   omega
  ·simp only [Array.toList_append, List.append_assoc]
   rw [← List.append_assoc, ← hlen]
   exact List.take_left
 rcases hown.2 with ⟨rfl, rfl⟩ | ⟨g, cap, cur, rfl, hbg, hg, hnc, hcm, hcs, htake⟩
 ·have hx : xs = [] := List.eq_nil_of_length_eq_zero hxl
  subst hx
  have hr := run_append_nil_string (P := P) w t u ty e i (.int .u8 0) ht hu hi hz s hm (by omega) (by rw [hby]; omega)
  have hgr := grown 0 (by omega)
  simp only [Nat.zero_add, List.nil_append, Array.empty_append] at hgr ⊢
  have e1 : (s.data.map fun b => Value.int .u8 b.toNat) = (strCells s).toArray := by
   apply Array.ext'
   simp [strCells]
  rw [e1] at hr
  exact ⟨_, _, hr, hgr.1, .inr ⟨rfl, hgr.2⟩⟩
 ·by_cases hroom : n + s.size ≤ cap
  ·have hcs' : cur.size = cap := by simpa using hcs
   have hr := run_append_room_string (P := P) w t u ty e i ht hu hi hsize g n cap cur hg s hroom (by omega)
   refine ⟨_, _, hr, ⟨hlen, .inr ⟨g, cap, _, rfl, hbg, setRow_heap w g cur _ e _ hg, hroom, hcm, ?_, ?_⟩⟩, .inl ⟨g, rfl, rfl, ⟨Nat.le_refl _, rfl, rfl, rfl, by simp, fun k _ hk => setRow_other w g k _ (fun e => hk (by simp [e]))⟩⟩⟩
   ·simp only [List.size_toArray, List.length_append, List.length_take, List.length_drop, Array.length_toList, strCells_length]
    omega
   ·have ht' : cur.toList.take n = xs := by simpa using htake
    rw [ht', ← hlen]
    exact List.take_left
  ·have holds : ∀ j u, xs[j]? = some u → w.cell? ((⟨g, 0, none⟩ : Addr).add j) = some u := hown.cells (g := g) rfl
   have hr := run_append_grow_string (P := P) w t u ty e i (.int .u8 0) ht hu hi hz ⟨g, 0, none⟩ n cap xs (by rw [hsize]; simpa using hxl) holds s (by omega) (by omega) (by rw [hby]; exact growslice_fits (by omega) (by omega))
   have hgr := grown cap (by omega)
   exact ⟨_, _, hr, hgr.1, .inr ⟨rfl, hgr.2⟩⟩
theorem zAK {t u ty e : TypeId} {i : TypeInfo} (ht : P.underlying t = some (.slice e)) (hu : P.underlying u = some .string) (hi : P.info? e = some i) (hsize : i.size = 1) {v : Value} {n : Nat} {xs : List Value}
  (hown : w.ownsRow B e 1 v n xs) (s : ByteArray) (hm : s.size = 0) : (Builtin.append_ #[t, u] ty #[v, .string s]).run P w = .ok v w := by
 have hn : strCells s = [] := List.eq_nil_of_length_eq_zero (by rw [strCells_length]; exact hm)
 have hf := run_firstCells_string (P := P) w 1 s
 rw [hm, hn] at hf
 have hst : ∀ x, (storeCells x [] 0).run P w = .ok () w := fun x => rfl
 rcases hown.2 with ⟨rfl, rfl⟩ | ⟨g, cap, cur, rfl, hbg, hg, hnc, hcm, hcs, htake⟩
 ·simp [Builtin.append_, run_underlying ht, run_underlying hu, sizeOf, typeInfo, hi, hsize, Builtin.lenOf, hm, hf]
 ·simp [Builtin.append_, run_underlying ht, run_underlying hu, sizeOf, typeInfo, hi, hsize, Builtin.lenOf, hm, hf, hnc, hst]
theorem wpList_append_str {ops : Array Oper} {rest : List Oper} {o : Oper} {a : Act} {Q : Exit → Act → World → Prop} (hgd : o.guard = none) (sl x : Operand) (t u : TypeId)
  (ho : o.op = .call { callee := .builtin .append, args := #[sl, x], argTypes := #[t, u] }) {v v' : Value} {w' : World} {s : ByteArray} (hs : a.eval sl = v) (hx : a.eval x = .string s)
  (hr : ∀ ty, (Builtin.append_ #[t, u] ty #[v, .string s]).run P w = .ok v' w') (h : wpList P ops Q rest (a.put o.dst v') w') : wpList P ops Q (o :: rest) a w := by
 refine wpList_plain hgd fun K hK => ?_
 unfold Oper.wp execOp
 simp only [ho, resolve, invoke, builtin, Sem.run_bind, Sem.run_pure, Result.andThen_ok, List.map_toArray, List.map_cons, List.map_nil, hs, hx, hr]
 exact hK _ _ h
end Go.Abs
namespace Go.Abs
open Go Go.RowKit Go.Lib
variable {P : Program} {B : Nat} {w : World} {G : Gh} {H : zaa}
theorem HRel.storeB (h : HRel B w G H) {id b : Nat} {t : TypeId} {cs cs' : List AV} {vs vs' : Array Value} (hH : H[id]? = some (.bld t cs)) (hμ : G.μ[id]? = some (.blk b))
  (hw : w.heap[b]? = some (.cells vs t (0, 0))) (hc : All2 (ARel w G) vs'.toList cs') :
  Ext B w G (w.setRow b vs') G ∧ HRel B (w.setRow b vs') G (H.set id (.bld t cs')) := by
 obtain ⟨hB, hL, _⟩ := h.ok id _ _ hH hμ
 have hsz : (w.setRow b vs').heap.size = w.heap.size := by simp [World.setRow]
 have he : Ext B w G (w.setRow b vs') G := by
  refine ⟨Nat.le_refl _, ⟨rfl, rfl, rfl, by rw [hsz]; exact Nat.le_refl _, fun k hk => zdp _ (by omega)⟩, fun _ => Nat.le_refl _, fun x off ho => ?_, fun _ gi h => ⟨gi, h, gi.le_refl⟩⟩
  have : x ≠ b := by intro hx; subst hx; omega
  exact zeh (zdp _ this)
 refine ⟨he, by simp [h.len], ?_, h.dist, by rw [hsz]; exact h.fresh, by rw [hsz]; exact h.lt, by rw [hsz]; exact h.base⟩
 intro id' ab gi h1 h2
 by_cases hid : id' = id
 ·subst hid
  rw [hμ] at h2
  cases h2
  have hlt : id' < H.length := (List.getElem?_eq_some_iff.1 hH).1
  rw [List.getElem?_set_self hlt] at h1
  cases h1
  exact ⟨hB, hL, vs', setRow_heap w b vs vs' t _ hw, hc.mono fun _ _ => he.arel⟩
 ·rw [List.getElem?_set_ne (fun h => hid h.symm)] at h1
  refine (h.ok id' ab gi h1 h2).keep he (fun x hx => ⟨zdp _ ?_, rfl⟩)
  intro hxb
  subst hxb
  exact hid (h.dist id' id gi _ x h2 hμ hx rfl)
theorem HRel.reCellB (h : HRel B w G H) {id : Nat} {t : TypeId} {cs cs' : List AV} (hid : H[id]? = some (.bld t cs)) (hc : ∀ vs : List Value, All2 (ARel w G) vs cs → All2 (ARel w G) vs cs') : HRel B w G (H.set id (.bld t cs')) := by
 refine ⟨by simp [h.len], ?_, h.dist, h.fresh, h.lt, h.base⟩
 intro i ab gi h1 h2
 by_cases hi : i = id
 ·subst hi
  rw [List.getElem?_set_self (List.getElem?_eq_some_iff.1 hid).1] at h1
  cases h1
  have hok := h.ok i _ _ hid h2
  cases gi with
  | blk b =>
   obtain ⟨k1, k2, vs, k3, k4⟩ := hok
   exact ⟨k1, k2, vs, k3, hc _ k4⟩
  | own v s n => exact hok.elim
  | gap => exact hok.elim
 ·rw [List.getElem?_set_ne (fun h => hi h.symm)] at h1
  exact h.ok i ab gi h1 h2
theorem HRel.ownCellB (h : HRel B w G H) {id : Nat} {t : TypeId} {p : AV} (e size : Nat) (hid : H[id]? = some (.bld t [p, .snil])) :
  ∃ G', Ext B w G w G' ∧ HRel B w G' (H.set id (.bld t [p, .sl [] (.own H.length)]) ++ [.perm e size 0]) := by
 obtain ⟨hE, hH'⟩ := h.newOwn e size
 refine ⟨_, hE, ?_⟩
 have hlt := (List.getElem?_eq_some_iff.1 hid).1
 have := hH'.reCellB (id := id) (t := t) (cs := [p, .snil]) (cs' := [p, .sl [] (.own H.length)]) (by rw [List.getElem?_append_left hlt]; exact hid) (fun vs hvs => by
  match vs, hvs with
  | [v1, v2], ⟨h1, h2, _⟩ =>
   have h2 : v2 = .slice none 0 0 := h2
   subst h2
   refine ⟨h1, ⟨.slE _ _, .slice none 0 0, size, 0, ?_, Nat.le_refl _, fun _ => ⟨rfl, by simp⟩⟩, trivial⟩
   rw [← h.len]
   simp)
 rwa [List.set_append_left _ _ hlt] at this
theorem ACalls.ownB {f : FuncId} {args : List AV} {K : AV → zaa → Prop} {id : Nat} {t : TypeId} {p : AV} (e size : Nat) (hid : H[id]? = some (.bld t [p, .snil]))
  (h : ACalls P f args (H.set id (.bld t [p, .sl [] (.own H.length)]) ++ [.perm e size 0]) K) : ACalls P f args H K := by
 intro B w G vs hH hv
 obtain ⟨G', hE, hH'⟩ := hH.ownCellB e size hid
 refine (h B w G' vs hH' (hv.mono fun _ _ => hE.trel)).mono fun e' w' hp => ?_
 obtain ⟨v, r, H', G'', h1, h2, h3⟩ := hp
 exact ⟨v, r, H', G'', h1, hE.trans h2, h3⟩
def bcs (l : List UInt8) : List (List AV) := l.map fun b => [.int .u8 b.toNat]
theorem zeM (l : List UInt8) : (bcs l).length = l.length := by simp [bcs]
theorem zyP (l m : List UInt8) : bcs l ++ bcs m = bcs (l ++ m) := by simp [bcs]
theorem zhv (l : List UInt8) : ∀ c ∈ bcs l, c.length = 1 := by
 intro c hc
 simp only [bcs, List.mem_map] at hc
 obtain ⟨b, _, rfl⟩ := hc
 rfl
theorem zyQ (l : List UInt8) : All2 (DRel w G.L) (strCells ⟨l.toArray⟩) (bcs l).flatten := by
 have : strCells ⟨l.toArray⟩ = l.map fun b => Value.int .u8 b.toNat := by simp [strCells]
 rw [this]
 induction l with
 | nil => trivial
 | cons b l ih => exact ⟨.int _ _, ih (by simp [strCells])⟩
theorem HRel.freezeB (h : HRel B w G H) {id g n cap e : Nat} (hH : H[id]? = some (.perm e 1 n)) (hμ : G.μ[id]? = some (.own (.slice (some ⟨g, 0, none⟩) n cap) 1 n)) (k : Nat) :
  Ext B w G (w.freeze ⟨g, 0, none⟩ k) G ∧ HRel B (w.freeze ⟨g, 0, none⟩ k) G (H.set id .dead) := by
 obtain ⟨_, _, ⟨xs, hown⟩, hL⟩ := h.ok id _ _ hH hμ
 obtain ⟨hxl, ⟨hv, _⟩ | ⟨g', cap', cur, hv, hBg, hg, hc1, hc2, hc3, hc4⟩⟩ := hown
 ·cases hv
 cases hv
 have hLg := hL g rfl
 have hoth : ∀ b, b ≠ g → (w.freeze ⟨g, 0, none⟩ k).heap[b]? = w.heap[b]? := by
  intro b hb
  unfold World.freeze
  split
  ·rfl
  ·simp only [Array.getElem?_modify]
   rw [if_neg (fun h => hb h.symm)]
 have hgg : ∃ fr, (w.freeze ⟨g, 0, none⟩ k).heap[g]? = some (.cells cur e fr) := by
  unfold World.freeze
  split
  ·exact ⟨_, hg⟩
  ·simp only [Array.getElem?_modify, hg]
   exact ⟨_, rfl⟩
 obtain ⟨fr, hgf⟩ := hgg
 have hsz : (w.freeze ⟨g, 0, none⟩ k).heap.size = w.heap.size := by
  unfold World.freeze
  split
  ·rfl
  ·simp
 have hbelow : Below B w (w.freeze ⟨g, 0, none⟩ k) := below_freeze (Below.refl B w) (p := ⟨g, 0, none⟩) hBg k
 have he : Ext B w G (w.freeze ⟨g, 0, none⟩ k) G := by
  refine ⟨by unfold World.freeze; split <;> exact Nat.le_refl _, hbelow, fun _ => Nat.le_refl _, fun x off ho => ?_, fun _ gi h => ⟨gi, h, gi.le_refl⟩⟩
  by_cases hx : x = g
  ·subst hx
   simp [World.cell?, hgf, hg]
  ·exact zeh (hoth x hx)
 refine ⟨he, by simp [h.len], ?_, h.dist, by rw [hsz]; exact h.fresh, by rw [hsz]; exact h.lt, by rw [hsz]; exact h.base⟩
 intro id' ab gi h1 h2
 by_cases hid : id' = id
 ·subst hid
  rw [hμ] at h2
  cases h2
  rw [List.getElem?_set_self (List.getElem?_eq_some_iff.1 hH).1] at h1
  cases h1
  intro b hb
  simp [Value.ownBlock] at hb
  subst hb
  refine ⟨cur, e, fr, hgf, ?_⟩
  rw [hLg, hc3]
  exact Nat.mul_le_mul_right _ hc1
 ·rw [List.getElem?_set_ne (fun h => hid h.symm)] at h1
  refine (h.ok id' ab gi h1 h2).keep he (fun x hx => ⟨hoth x ?_, rfl⟩)
  intro hxb
  subst hxb
  exact hid (h.dist id' id gi _ x h2 hμ hx rfl)
theorem HRel.dead (h : HRel B w G H) {id e s n : Nat} (hH : H[id]? = some (.perm e s n)) : HRel B w G (H.set id .dead) := by
 refine ⟨by simp [h.len], ?_, h.dist, h.fresh, h.lt, h.base⟩
 intro i ab gi h1 h2
 by_cases hi : i = id
 ·subst hi
  rw [List.getElem?_set_self (List.getElem?_eq_some_iff.1 hH).1] at h1
  cases h1
  have hok := h.ok i _ _ hH h2
  cases gi with
  | blk b => exact hok.elim
  | gap => exact hok.elim
  | own v s' n' =>
   obtain ⟨rfl, rfl, ⟨xs, hl, ⟨rfl, _⟩ | ⟨g, cap, cur, rfl, k1, k2, k3, k4, k5, k6⟩⟩, hL⟩ := hok
   ·intro b hb
    cases hb
   ·intro b hb
    simp [Value.ownBlock] at hb
    subst hb
    exact ⟨cur, e, _, k2, by rw [hL g rfl, k5]; exact Nat.mul_le_mul_right _ k3⟩
 ·rw [List.getElem?_set_ne (fun h => hi h.symm)] at h1
  exact h.ok i ab gi h1 h2
theorem HRel.other (h : HRel B w G H) (o : Obj) : Ext B w G (w.alloc o) G ∧ HRel B (w.alloc o) G H := by
 have he := Ext.alloc h o G.L (fun _ _ => rfl) []
 simp only [List.append_nil] at he
 refine ⟨he, h.keep he rfl (fun id gi b h1 h2 => ⟨alloc_old (h.lt id gi b h1 h2), rfl⟩) (fun b hb => ?_)⟩
 rw [zbZ] at hb
 exact h.fresh b (by omega)
end Go.Abs
namespace Go.Abs
open Go Go.RowKit Go.Sort
variable {P : Program} {B : Nat} {w : World} {G : Gh} {H : zaa}
end Go.Abs
namespace Go.Abs
open Go Go.RowKit
variable {P : Program} {B : Nat} {w : World} {G : Gh} {H : zaa}
theorem HRel.newVec (h : HRel B w G H) (e size : Nat) : Ext B w G w ⟨G.L, G.μ ++ [.own (.slice none 0 0) size 0]⟩ ∧ HRel B w ⟨G.L, G.μ ++ [.own (.slice none 0 0) size 0]⟩ (H ++ [.vec e size 0 []]) := by
 obtain ⟨hE, hH⟩ := h.newOwn e size
 refine ⟨hE, by simpa using hH.len, fun id ab gi h1 h2 => ?_, hH.dist, hH.fresh, hH.lt, hH.base⟩
 by_cases hlt : id < H.length
 ·rw [List.getElem?_append_left hlt] at h1
  exact hH.ok id ab gi (by rw [List.getElem?_append_left hlt]; exact h1) h2
 ·have hlt2 := (List.getElem?_eq_some_iff.1 h2).1
  simp [h.len] at hlt2
  obtain rfl : id = H.length := by omega
  simp at h1
  have h2 : (G.μ ++ [GI.own (.slice none 0 0) size 0])[H.length]? = some gi := h2
  rw [← h.len] at h2
  simp at h2
  subst h1 h2
  exact ⟨rfl, rfl, ⟨[], World.ownsRow_nil w B e size, trivial⟩, fun b hb => by simp [Value.ownBlock] at hb⟩
theorem HRel.ovCell (h : HRel B w G H) {id j : Nat} {cs : List AV} (e size : Nat) (hid : H[id]? = some (.cells cs)) (hj : cs[j]? = some .snil) :
  ∃ G', Ext B w G w G' ∧ HRel B w G' (H.set id (.cells (cs.set j (.ov H.length 0))) ++ [.vec e size 0 []]) := by
 obtain ⟨hE, hH'⟩ := h.newVec e size
 refine ⟨_, hE, ?_⟩
 have hlt := (List.getElem?_eq_some_iff.1 hid).1
 have := hH'.reCell (id := id) (cs := cs) (cs' := cs.set j (.ov H.length 0)) (by rw [List.getElem?_append_left hlt]; exact hid) (fun vs hvs => by
  obtain ⟨v, h1, h2⟩ := All2.get hvs hj
  have h2 : v = .slice none 0 0 := h2
  subst h2
  have hset : vs = vs.set j (.slice none 0 0) := by
   apply List.ext_getElem?
   intro k
   by_cases hk : k = j
   ·subst hk; rw [List.getElem?_set_self (List.getElem?_eq_some_iff.1 h1).1]; exact h1
   ·rw [List.getElem?_set_ne (fun h => hk h.symm)]
  rw [hset]
  refine All2.set j hvs ?_
  refine ⟨⟨none, 0, rfl, fun h => absurd h (by omega)⟩, .slice none 0 0, size, 0, ?_, Nat.le_refl _, fun _ => rfl⟩
  rw [← h.len]
  simp)
 rwa [List.set_append_left _ _ hlt] at this
theorem ACalls.ovC {f : FuncId} {args : List AV} {K : AV → zaa → Prop} {id j : Nat} {cs : List AV} (e size : Nat) (hid : H[id]? = some (.cells cs)) (hj : cs[j]? = some .snil)
  (h : ACalls P f args (H.set id (.cells (cs.set j (.ov H.length 0))) ++ [.vec e size 0 []]) K) : ACalls P f args H K := by
 intro B w G vs hH hv
 obtain ⟨G', hE, hH'⟩ := hH.ovCell e size hid hj
 refine (h B w G' vs hH' (hv.mono fun _ _ => hE.trel)).mono fun e' w' hp => ?_
 obtain ⟨v, r, H', G'', h1, h2, h3⟩ := hp
 exact ⟨v, r, H', G'', h1, hE.trans h2, h3⟩
end Go.Abs
namespace Go.Abs
open Go Go.RowKit
variable {P : Program} {B : Nat} {w : World} {G : Gh} {H : zaa}
theorem zAI (h : HRel B w G H) (e size : Nat) : TRel w ⟨G.L, G.μ ++ [.own (.slice none 0 0) size 0]⟩ (.slice none 0 0) (.ov H.length 0) := by
 refine ⟨⟨none, 0, rfl, fun h => absurd h (by omega)⟩, .slice none 0 0, size, 0, ?_, Nat.le_refl _, fun _ => rfl⟩
 rw [← h.len]
 simp
theorem ALoop.vec {c : Code} {Q : AExit → List AV → zaa → Prop} {F : List AV} (i e size : Nat) (hi : F[i]? = some .snil)
  (h : ALoop P c Q (F.set i (.ov H.length 0)) (H ++ [.vec e size 0 []])) : ALoop P c Q F H := by
 intro B w G a hH hF hd
 obtain ⟨hE, hH'⟩ := hH.newVec e size
 have hF' : FRel w ⟨G.L, G.μ ++ [.own (.slice none 0 0) size 0]⟩ a.tmps (F.set i (.ov H.length 0)) := by
  unfold FRel
  obtain ⟨v, h1, h2⟩ := All2.get hF hi
  have h2 : v = .slice none 0 0 := h2
  subst h2
  have hset : a.tmps.toList = a.tmps.toList.set i (.slice none 0 0) := by
   apply List.ext_getElem?
   intro k
   by_cases hk : k = i
   ·subst hk; rw [List.getElem?_set_self (List.getElem?_eq_some_iff.1 h1).1]; exact h1
   ·rw [List.getElem?_set_ne (fun h => hk h.symm)]
  rw [hset]
  exact All2.set i (hF.ext hE) (zAI hH e size)
 refine wp_mono (h B w _ a hH' hF' hd) fun e a' w' hp => ?_
 obtain ⟨F'', H'', G'', e'', rfl, k1, k2, k3, k4, k5⟩ := hp
 exact ⟨F'', H'', G'', e'', rfl, hE.trans k1, k2, k3, k4, k5⟩
theorem ziN {vs : List Value} : ∀ {cs cs' : List AV}, All2 WkA cs cs' → ∀ {vs : List Value}, All2 (ARel w G) vs cs → All2 (ARel w G) vs cs'
 | [], [], _, _, hv => hv
 | x :: cs, x' :: cs', hw, [], hv => hv.elim
 | x :: cs, x' :: cs', hw, v :: vs, hv => ⟨hw.1.arel hv.1, ziN (vs := []) hw.2 hv.2⟩
 | [], _ :: _, hw, _, _ => hw.elim
 | _ :: _, [], hw, _, _ => hw.elim
theorem ALoop.reCell {c : Code} {Q : AExit → List AV → zaa → Prop} {F : List AV} {id : Nat} {cs : List AV} (cs' : List AV) (hid : H[id]? = some (.cells cs)) (hw : All2 WkA cs cs') (h : ALoop P c Q F (H.set id (.cells cs'))) : ALoop P c Q F H := by
 intro B w G a hH hF hd
 exact h B w G a (hH.reCell hid fun vs hv => ziN (vs := []) hw hv) hF hd
theorem HRel.frzV (h : HRel B w G H) {id e size n : Nat} {cs : List AV} (hH : H[id]? = some (.vec e size n cs)) {es : List (List AV)} (hp : plain cs = some es.flatten) (hlen : es.length = n) (hsz : ∀ c ∈ es, c.length = size) :
  ∃ G', Ext B w G w G' ∧ HRel B w G' (H.set id .dead) ∧ ∀ v, ARel w G v (.ov id n) → DRel w G'.L v (.sl es .none) := by
 have hlt : id < G.μ.length := by rw [h.len]; exact (List.getElem?_eq_some_iff.1 hH).1
 obtain ⟨gi, hgi⟩ : ∃ gi, G.μ[id]? = some gi := ⟨_, List.getElem?_eq_getElem hlt⟩
 have hok := h.ok id _ _ hH hgi
 cases gi with
 | gap => exact hok.elim
 | blk b => exact hok.elim
 | own v0 s0 n0 =>
  obtain ⟨rfl, rfl, ⟨xs, hown, hcs⟩, hL0⟩ := hok
  have hown2 := hown
  obtain ⟨hl, hrow⟩ := hown2
  rcases hrow with ⟨h1, h2⟩ | ⟨g, cap, cur, h1, hB, hw, hcap, hcm, hcz, htk⟩
  ·subst h1
   refine ⟨G, Ext.refl _ _ _, ⟨by simp [h.len], ?_, h.dist, h.fresh, h.lt, h.base⟩, ?_⟩
   ·intro id' ab gi k1 k2
    by_cases hid : id' = id
    ·subst hid
     rw [List.getElem?_set_self (List.getElem?_eq_some_iff.1 hH).1] at k1
     cases k1
     rw [hgi] at k2
     cases k2
     exact fun b hb => by simp [Value.ownBlock] at hb
    ·rw [List.getElem?_set_ne (fun h => hid h.symm)] at k1
     exact h.ok id' ab gi k1 k2
   ·intro v hv
    obtain ⟨⟨a, cap0, rfl, _⟩, v', s', n', hμ, _, heq⟩ := hv
    have hes : es = [] := List.eq_nil_of_length_eq_zero (by omega)
    subst hes
    subst hlen
    exact .slE _ _
  ·subst h1
   have hLg : G.L g = 0 := hL0 g rfl
   have he : Ext B w G w ⟨fun x => if x = g then cur.size else G.L x, G.μ⟩ :=
    ⟨Nat.le_refl _, Below.refl _ _, fun x => by by_cases hx : x = g <;> simp [hx, hLg], fun _ _ _ => rfl, fun _ gi h => ⟨gi, h, gi.le_refl⟩⟩
   refine ⟨_, he, ⟨by simp [h.len], ?_, h.dist, fun x hx => ?_, h.lt, h.base⟩, ?_⟩
   ·intro id' ab gi k1 k2
    by_cases hid : id' = id
    ·subst hid
     rw [List.getElem?_set_self (List.getElem?_eq_some_iff.1 hH).1] at k1
     cases k1
     have k2 : G.μ[id']? = some gi := k2
     rw [hgi] at k2
     cases k2
     intro b hb
     simp [Value.ownBlock] at hb
     subst hb
     exact ⟨cur, e, _, hw, by simp⟩
    ·rw [List.getElem?_set_ne (fun h => hid h.symm)] at k1
     refine (h.ok id' ab gi k1 k2).keep he (fun x hx => ⟨rfl, ?_⟩)
     have : ¬ x = g := fun hxb => hid (h.dist id' id gi _ g k2 hgi (by rw [hx, hxb]) rfl)
     simp [this]
   ·have := h.lt id _ g hgi rfl
    have h3 : ¬ x = g := by omega
    simp [h3, h.fresh x hx]
   ·intro v hv
    obtain ⟨⟨a, cap0, rfl, _⟩, v', s', n', hμ, _, heq⟩ := hv
    rw [hgi] at hμ
    simp only [Option.some.injEq, GI.own.injEq] at hμ
    obtain ⟨rfl, rfl, rfl⟩ := hμ
    have hvv := heq rfl
    simp only [Value.slice.injEq, true_and] at hvv
    obtain ⟨rfl, rfl⟩ := hvv
    subst hlen
    by_cases hes : es = []
    ·subst hes; exact .slE _ _
    ·obtain ⟨_, _, _, hcell⟩ := zc6 hown
     refine DRel.of_flat_at (zs := xs) hsz hes hcap ?_ ((zc8 hcs hp).mono fun _ _ => he.drel) ?_
     ·simp only [if_true]
      rw [hcz, Nat.zero_add]
      exact Nat.mul_le_mul_right _ hcap
     ·intro j u hj
      rw [Nat.zero_add, hcell j (by rw [← hl]; exact (List.getElem?_eq_some_iff.1 hj).1)]
      exact hj
theorem ACalls.frzV {f : FuncId} {x : AV} {K : Kt} (id e size n : Nat) (cs : List AV) (es : List (List AV)) (hH : H[id]? = some (.vec e size n cs)) (hp : plain cs = some es.flatten) (hlen : es.length = n) (hsz : ∀ c ∈ es, c.length = size)
  (h : ACalls P f [.agg [x, .sl es .none]] (H.set id .dead) K) : ACalls P f [.agg [x, .ov id n]] H K := by
 intro B w G vs hR hv
 obtain ⟨G', hE, hR', hd⟩ := hR.frzV hH hp hlen hsz
 refine (h B w G' vs hR' ?_).mono fun e w' ⟨v, r, H', G'', k1, k2, k3, k4, k5⟩ => ⟨v, r, H', G'', k1, hE.trans k2, k3, k4, k5⟩
 generalize vs.toList = l at *
 match l, hv with
 | [v], ⟨⟨us, hu, h1⟩, _⟩ =>
  refine ⟨⟨us, hu, ?_⟩, trivial⟩
  generalize us.toList = m at *
  match m, h1 with
  | [a, b], ⟨h2, h3, _⟩ => exact ⟨hE.arel h2, hd b h3, trivial⟩
end Go.Abs
namespace Go.Abs
open Go Go.RowKit
variable {P : Program} {B : Nat} {w : World} {G : Gh} {H : zaa}
theorem HRel.newRow (h : HRel B w G H) (e size cap : Nat) (cur : Array Value) (hc : cap ≤ maxLen) (hs : cur.size = cap * size) :
  Ext B w G (w.alloc (.cells cur e)) ⟨G.L, G.μ ++ [.own (.slice (some ⟨w.heap.size, 0, none⟩) 0 cap) size 0]⟩ ∧ HRel B (w.alloc (.cells cur e)) ⟨G.L, G.μ ++ [.own (.slice (some ⟨w.heap.size, 0, none⟩) 0 cap) size 0]⟩ (H ++ [.perm e size 0]) := by
 have he := Ext.alloc h (.cells cur e) G.L (fun _ _ => rfl) [.own (.slice (some ⟨w.heap.size, 0, none⟩) 0 cap) size 0]
 have split : ∀ (id : Nat) gi, (G.μ ++ [GI.own (.slice (some ⟨w.heap.size, 0, none⟩) 0 cap) size 0])[id]? = some gi → G.μ[id]? = some gi ∨ (id = G.μ.length ∧ gi = .own (.slice (some ⟨w.heap.size, 0, none⟩) 0 cap) size 0) := by
  intro id gi hg
  by_cases hlt : id < G.μ.length
  ·rw [List.getElem?_append_left hlt] at hg; exact .inl hg
  ·have hlt2 := (List.getElem?_eq_some_iff.1 hg).1
   simp at hlt2
   have : id = G.μ.length := by omega
   subst this
   simp at hg
   exact .inr ⟨rfl, hg.symm⟩
 refine ⟨he, by simp [h.len], ?_, ?_, fun b hb => ?_, ?_, ?_⟩
 ·intro id ab gi h1 h2
  rcases split id gi h2 with h2 | ⟨rfl, rfl⟩
  ·have hlt : id < H.length := by rw [← h.len]; exact (List.getElem?_eq_some_iff.1 h2).1
   rw [List.getElem?_append_left hlt] at h1
   exact (h.ok id ab gi h1 h2).keep he (fun b hb => ⟨alloc_old (h.lt id gi b h2 hb), rfl⟩)
  ·rw [h.len] at h1
   simp at h1
   subst h1
   refine ⟨rfl, rfl, ⟨[], by simp, .inr ⟨w.heap.size, cap, cur, rfl, h.base, zc0 _, Nat.zero_le _, hc, hs, by simp⟩⟩, fun b hb => ?_⟩
   simp [Value.ownBlock] at hb
   subst hb
   rw [Nat.zero_mul]
   exact h.fresh _ (Nat.le_refl _)
 ·intro id id' gi gi' b h1 h2 h3 h4
  rcases split id gi h1 with k1 | ⟨e1, e2⟩ <;> rcases split id' gi' h2 with k2 | ⟨e3, e4⟩
  ·exact h.dist id id' gi gi' b k1 k2 h3 h4
  ·rw [e4] at h4; simp [GI.block, Value.ownBlock] at h4
   have := h.lt id gi b k1 h3
   omega
  ·rw [e2] at h3; simp [GI.block, Value.ownBlock] at h3
   have := h.lt id' gi' b k2 h4
   omega
  ·rw [e1, e3]
 ·rw [zbZ] at hb
  exact h.fresh b (by omega)
 ·intro id gi b h1 h2
  rw [zbZ]
  rcases split id gi h1 with k1 | ⟨e1, e2⟩
  ·have := h.lt id gi b k1 h2; omega
  ·rw [e2] at h2; simp [GI.block, Value.ownBlock] at h2; omega
 ·rw [zbZ]; have := h.base; omega
end Go.Abs
namespace Go.Proofs.YtddlhljflggenaaGreatDoor
open Go Go.Abs
set_option maxRecDepth 8000
theorem zBD (n : Nat) (hn : 0 < n) (hn2 : n ≤ 1000000) (H : zaa) (K : Kt) (hK : K (.sl [] (.own H.length)) (H ++ [.perm zak 2 0])) :
  ACalls tP zsI [.snil, .int .i64 n] H K := by
 rintro B w G ⟨vs⟩ hR hv
 match vs, hv with
 | [v1, v2], ⟨h1, h2, _⟩ =>
 have h1 : v1 = .slice none 0 0 := h1
 have h2 : v2 = .int .i64 n := h2
 subst h1 h2
 obtain ⟨i0, hi0, hz0, hs0, hb0⟩ : ∃ i0, tP.info? 35 = some i0 ∧ i0.zero = some (.agg #[.int .i64 0, .slice none 0 0]) ∧ i0.size = 2 ∧ i0.bytes = 32 := ⟨_, rfl, rfl, rfl, rfl⟩
 refine (Go.Proofs.Any8.slices_Grow_grow zCN i0 _ hi0 hz0 (by omega) none 0 0 n [] w (Nat.le_refl _) (by omega) (by rw [hb0]; omega) (by omega) (by simp) (fun _ => rfl) (fun _ h => by cases h)).mono ?_
 rintro e w' ⟨rfl, rfl⟩
 have hge := grownCap_ge w (0 + n) 0 35
 have hcm := grownCap_le_maxLen w (0 + n) 0 35 (by simp only [maxLen]; omega)
 obtain ⟨hE, hH⟩ := hR.drew (w.drawn + 1) (Nat.le_succ _) |>.newRow 35 2 (grownCap w (0 + n) 0 35) (([] : List Value).toArray ++ Builtin.zeroCells (Value.agg #[.int .i64 0, .slice none 0 0]).cells (0 + n - 0) ++ Builtin.zeroCells (Value.agg #[.int .i64 0, .slice none 0 0]).cells (grownCap w (0 + n) 0 35 - (0 + n))) hcm (by
  simp only [Array.size_append, size_zeroCells, List.size_toArray, List.length_nil]
  have : (Value.agg #[.int .i64 0, .slice none 0 0]).cells.size = 2 := rfl
  rw [this]; omega)
 refine ⟨_, _, _, _, rfl, (Ext.drew B w G (w.drawn + 1) (Nat.le_succ _)).trans hE, hH, ?_, hK⟩
 refine ⟨.slE _ _, _, 2, 0, ?_, Nat.le_refl _, fun _ => ⟨rfl, fun c hc => by simp at hc⟩⟩
 rw [← hR.len]
 simp
 rfl
theorem zBC (a b : List IT) (ha : 0 < a.length) (hb : a.length + b.length ≤ 1000000) (H : zaa) (K : Kt) (hK : K (.sl (IT.css (a ++ b)) .none) H) :
  ACalls tP zmz [.sl [[.sl (IT.css a) .none], [.sl (IT.css b) .none]] .full] H K := by
 refine ACalls.out (zJ8 fun hs => ?_)
 have e : ∀ l : List IT, (IT.css l).length = l.length := fun l => by simp [IT.css_map]
 have hS : ∀ c : List IT, ∀ k : AV → Prop, k (.int .i64 c.length) → zah 1 (.sl (IT.css c) .none) k := fun c k hk => by simpa [e] using hk
 simp [zxz]
 let row : Nat → List IT := fun i => if i = 0 then a else b
 let sum : Nat → Nat := fun i => if i = 0 then 0 else if i = 1 then a.length else a.length + b.length
 have hget : ∀ i (hi : i < [[AV.sl (IT.css a) .none], [.sl (IT.css b) .none]].length), [[AV.sl (IT.css a) .none], [.sl (IT.css b) .none]][i] = [.sl (IT.css (row i)) .none] := fun i hi => by
  rcases (by simp at hi; omega : i = 0 ∨ i = 1) with rfl | rfl <;> rfl
 refine zJ5 (Inv := fun q t3 t11 H' => ∃ i : Nat, i ≤ 2 ∧ q = 2 - i ∧ t11 = .int .i64 i ∧ t3 = .int .i64 (sum i) ∧ H' = H) 2 ?_ ?_
 ·intro _; exact ⟨0, by omega, rfl, rfl, rfl, rfl⟩
 ·rintro q t3 t11 H' ⟨i, hi, rfl, rfl, rfl, rfl⟩ hsc hlen hsF Kb hKb
  by_cases hlt : i < 2
  ·have hlt' : (i : Int) < 2 := by omega
   have hsum : (sum i : Int) + (row i).length = sum (i + 1) := by
    rcases (by omega : i = 0 ∨ i = 1) with rfl | rfl <;> simp [sum, row]
   have hb1 : sum (i + 1) ≤ 1000000 := by
    rcases (by omega : i = 0 ∨ i = 1) with rfl | rfl <;> simp [sum] <;> omega
   have hnn : ¬ ((sum (i + 1) : Int) < 0) := by omega
   simp [zp7, hlt', hlt, hget, e]
   rw [hsum, zam (by omega) (by omega)]
   simp [hnn, zxA, zxB]
   rw [zam (by omega) (by omega)]
   refine hKb _ _ ⟨2 - (i + 1), by omega, Back.at (J := []) (H2 := H') (by simp) (by omega) hsc ?_ ⟨_, _, rfl, i + 1, by omega, rfl, by simp, rfl, rfl⟩⟩
   simp [zkE, AV.sc, AV.scV, AV.scA, AV.scB]
  ·obtain rfl : i = 2 := by omega
   simp [zp7]
   refine zBD _ (by simp [sum]; omega) (by simp [sum]; omega) _ _ ?_
   let all : Nat → List IT := fun i => if i = 0 then [] else if i = 1 then a else a ++ b
   refine zJ4 (Inv := fun q t6 t27 H2 => ∃ i : Nat, i ≤ 2 ∧ q = 2 - i ∧ t27 = .int .i64 i ∧ t6 = .sl (IT.css (all i)) (.own H'.length) ∧ H2 = H' ++ [.perm zak 2 (all i).length]) 2 ?_ ?_
   ·intro _; exact ⟨0, by omega, rfl, rfl, rfl, rfl⟩
   ·rintro q t6 t27 H2 ⟨i, hi, rfl, rfl, rfl, rfl⟩ hsc2 hlen2 hsF2 Kb2 hKb2
    by_cases hlt : i < 2
    ·have hlt' : (i : Int) < 2 := by omega
     have hall : IT.css (all i) ++ IT.css (row i) = IT.css (all (i + 1)) := by
      rcases (by omega : i = 0 ∨ i = 1) with rfl | rfl <;> simp [all, row, IT.css_map]
     have hall2 : (all i).length + (row i).length = (all (i + 1)).length := by
      rcases (by omega : i = 0 ∨ i = 1) with rfl | rfl <;> simp [all, row]
     have hb1 : (all (i + 1)).length ≤ 1000000 := by
      rcases (by omega : i = 0 ∨ i = 1) with rfl | rfl <;> simp [all] <;> omega
     have h2 : ∀ c ∈ IT.css (row i), c.length = 2 := fun c hc => by
      rw [IT.css_map] at hc
      obtain ⟨x, _, rfl⟩ := List.mem_map.1 hc
      simp
     simp [zp6, hlt', hlt, hget, e, zat, zaI, zaE, List.set_append_right]
     rw [hall, hall2, zam (by omega) (by omega)]
     refine ⟨h2, ⟨by omega, by omega⟩, ?_⟩
     refine hKb2 _ _ ⟨2 - (i + 1), by omega, Back.at (J := []) (H2 := H' ++ [.perm zak 2 (all (i + 1)).length]) (by simp) (by simp) (hs.append (by simp [AB.sc])) ?_ ⟨_, _, rfl, i + 1, by omega, rfl, by simp, rfl, rfl⟩⟩
     simp [zkD, AV.sc, AV.scV, AV.scA, AV.scB]
    ·obtain rfl : i = 2 := by omega
     simp [zp6]
     exact Out.at (H2 := H') (J := [.perm zak 2 (a ++ b).length]) (by simp [all]) (Nat.le_refl _) hs (.atom (.sl _ _)) rfl rfl (by simpa [all] using hK)
end Go.Proofs.YtddlhljflggenaaGreatDoor
namespace Go.Abs
open Go Go.RowKit
variable {P : Program} {B : Nat} {w : World} {G : Gh} {H : zaa}
inductive OutX (H : zaa) (n : Nat) : AV → AV → Prop
 | two {a b : AV} (h : OutW H n a b) : OutX H n a b
 | msr (id len : Nat) (cs : List AV) (rs : List (List (List AV))) (hid : n ≤ id) (hH : H[id]? = some (.cells cs)) (hm : rs.length = len)
   (hall : All2 (OutV H n) cs (rs.map fun r => .sl r .none)) : OutX H n (.ms id 0 len len) (.sl (rs.map fun r => [.sl r .none]) .none)
theorem OutX.vrel (hH : HRel B w G H) {n : Nat} {v : Value} {a b : AV} (h : OutX H n a b) (hr : TRel w G v a) : VRel w (G.cut w n) v b := by
 cases h with
 | two h => exact h.vrel hH hr
 | msr id len cs rs hid hHid hm hall =>
  obtain ⟨b, hμ, rfl⟩ := hr
  obtain ⟨hB, hL, vs, e, hw, hcs⟩ := hH.ok id _ _ hHid hμ
  subst hm
  show DRel w (G.cut w n).L _ _
  by_cases hne : rs = []
  ·subst hne; exact .slE _ _
  ·have hd : All2 (DRel w (G.cut w n).L) vs.toList (rs.map fun r => AV.sl r .none) := All2.of_get (hcs.length.trans hall.length) fun i x y hx hy => by
    obtain ⟨a, ha, hxa⟩ := All2.get' hcs hx
    obtain ⟨y', hy', hay⟩ := All2.get' hall ha
    rw [hy] at hy'
    cases hy'
    obtain ⟨r, hr, rfl⟩ : ∃ r, rs[i]? = some r ∧ AV.sl r .none = y := by simpa using hy
    exact hay.vrel hH (TRel.of_v (VRel.of_a hxa))
   have hfl : ∀ l : List (List (List AV)), (l.map fun r => [AV.sl r .none]).flatten = l.map fun r => AV.sl r .none := by
    intro l
    induction l with
    | nil => rfl
    | cons r l ih => simp [ih]
   have hvl := hcs.length
   have hal := hall.length
   have := DRel.of_flat_at (w := w) (L := (G.cut w n).L) (g := b) (off := 0) (size := 1) (cap := rs.length) (es := rs.map fun r => [AV.sl r .none]) (zs := vs.toList) (by simp) (by simpa using hne) (by simp) ?_ (by rw [hfl rs]; exact hd) ?_
   ·simpa using this
   ·have : (G.cut w n).L b = vs.size := by
     simp only [Gh.cut]
     rw [if_pos (cut_dropped.2 ⟨id, _, hid, hμ, rfl⟩), hw]
    rw [this]
    simp at hvl hal ⊢
    omega
   ·intro j u hj
    rw [Nat.zero_add]
    simp only [World.cell?, hw]
    simpa using hj
inductive OutT3 (H : zaa) (n : Nat) : AV → AV → Prop
 | one {a b : AV} (h : OutX H n a b) : OutT3 H n a b
 | tup {asx bs : List AV} (h : All2 (OutX H n) asx bs) : OutT3 H n (.tup asx) (.tup bs)
theorem zAH (hH : HRel B w G H) {n : Nat} {asx bs : List AV} (h : All2 (OutX H n) asx bs) {vs : List Value} (hr : All2 (VRel w G) vs asx) : All2 (VRel w (G.cut w n)) vs bs :=
 All2.of_get (hr.length.trans h.length) fun i x y hx hy => by
  obtain ⟨a, ha, hxa⟩ := All2.get' hr hx
  obtain ⟨y', hy', hay⟩ := All2.get' h ha
  rw [hy] at hy'
  cases hy'
  exact hay.vrel hH (TRel.of_v hxa)
def zfE (n : Nat) (K : AV → zaa → Prop) (r : AV) (H' : zaa) : Prop := ∃ r2 H2 J, H' = H2 ++ J ∧ n ≤ H2.length ∧ HSc H2 ∧ OutT3 H' H2.length r r2 ∧ K r2 H2
theorem ACalls.out3 {f : FuncId} {args : List AV} {K : AV → zaa → Prop} (h : ACalls P f args H (zfE H.length K)) : ACalls P f args H K := by
 intro B w G vs hH hv
 refine (h B w G vs hH hv).mono fun e w' ⟨v, r, H', G', h1, h2, h3, h4, h5⟩ => ?_
 obtain ⟨r2, H2, J, hJ, hn, hsc, ho, hk⟩ := h5
 subst hJ
 refine ⟨v, r2, H2, G'.cut w' H2.length, h1, zhB h3 h2 (by rw [hH.len]; exact hn), h3.cut hsc, ?_, hk⟩
 cases ho with
 | one ho => exact TRel.of_v (ho.vrel h3 h4)
 | tup ho =>
  obtain ⟨us, hu, hr⟩ := h4
  exact ⟨us, hu, zAH h3 ho hr⟩
/- Slots that are appended to: a block of their own for each. -/
theorem ALoop.ovC {c : Code} {Q : AExit → List AV → zaa → Prop} {F : List AV} {id j : Nat} {cs : List AV} (e size : Nat) (hid : H[id]? = some (.cells cs)) (hj : cs[j]? = some .snil)
  (h : ALoop P c Q F (H.set id (.cells (cs.set j (.ov H.length 0))) ++ [.vec e size 0 []])) : ALoop P c Q F H := by
 intro B w G a hH hF hd
 obtain ⟨G', hE, hH'⟩ := hH.ovCell e size hid hj
 refine wp_mono (h B w G' a hH' (hF.ext hE) hd) fun e a' w' hp => ?_
 obtain ⟨F'', H'', G'', e'', rfl, k1, k2, k3, k4, k5⟩ := hp
 exact ⟨F'', H'', G'', e'', rfl, hE.trans k1, k2, k3, k4, k5⟩
section
variable {α : Type}
def vcs : Nat → List (List α) → List AV
 | _, [] => []
 | b, l :: ls => .ov b l.length :: vcs (b + 1) ls
def vbs (f : α → List AV) (e size : Nat) (ls : List (List α)) : List AB := ls.map fun l => .vec e size l.length (l.flatMap f)
@[simp] theorem znk : ∀ (b : Nat) (ls : List (List α)), (vcs b ls).length = ls.length
 | _, [] => rfl
 | b, l :: ls => by simp [vcs, znk (b + 1) ls]
@[simp] theorem zPl (f : α → List AV) (e size : Nat) (ls : List (List α)) : (vbs f e size ls).length = ls.length := by simp [vbs]
theorem znj : ∀ (b : Nat) (ls : List (List α)) (k : Nat), (vcs b ls)[k]? = ls[k]?.map fun l => .ov (b + k) l.length
 | _, [], k => by simp [vcs]
 | b, l :: ls, 0 => by simp [vcs]
 | b, l :: ls, k + 1 => by simp [vcs, znj (b + 1) ls k]; cases ls[k]? <;> simp; omega
theorem zCB (f : α → List AV) (e size : Nat) (ls : List (List α)) (k : Nat) : (vbs f e size ls)[k]? = ls[k]?.map fun l => .vec e size l.length (l.flatMap f) := by simp [vbs]
theorem zup : ∀ (b : Nat) (ls : List (List α)) (k : Nat) (l : List α), (vcs b ls).set k (.ov (b + k) l.length) = vcs b (ls.set k l)
 | _, [], k, l => by simp [vcs]
 | b, x :: ls, 0, l => by simp [vcs]
 | b, x :: ls, k + 1, l => by
  have := zup (b + 1) ls k l
  rw [show b + 1 + k = b + (k + 1) by omega] at this
  simp [vcs, this]
theorem zCC (f : α → List AV) (e size : Nat) (ls : List (List α)) (k : Nat) (l : List α) : (vbs f e size ls).set k (.vec e size l.length (l.flatMap f)) = vbs f e size (ls.set k l) := by
 simp [vbs, List.map_set]
theorem zCD : ∀ (b n : Nat), vcs b (List.replicate (n + 1) ([] : List α)) = .ov b 0 :: vcs (b + 1) (List.replicate n ([] : List α))
 | b, n => rfl
theorem ALoop.ovCs {c : Code} {Q : AExit → List AV → zaa → Prop} {F : List AV} (α : Type) (f : α → List AV) {id : Nat} (e size : Nat) : ∀ (n : Nat) (pre : List AV) (H : zaa), H[id]? = some (.cells (pre ++ List.replicate n .snil)) →
  ALoop P c Q F (H.set id (.cells (pre ++ vcs H.length (List.replicate n ([] : List α)))) ++ vbs f e size (List.replicate n ([] : List α))) → ALoop P c Q F H
 | 0, pre, H, hid, h => by
  have hs : H.set id (.cells (pre ++ vcs H.length (List.replicate 0 ([] : List α)))) = H := by
   refine List.ext_getElem? fun i => ?_
   rw [List.getElem?_set]
   split
   ·rename_i hi; subst hi; rw [if_pos (List.getElem?_eq_some_iff.1 hid).1, hid]; simp [vcs]
   ·rfl
  rw [hs] at h
  simpa [vbs] using h
 | n + 1, pre, H, hid, h => by
  refine ALoop.ovC e size hid (j := pre.length) (by simp) ?_
  have hlt := (List.getElem?_eq_some_iff.1 hid).1
  have h1 : (pre ++ List.replicate (n + 1) AV.snil).set pre.length (.ov H.length 0) = (pre ++ [.ov H.length 0]) ++ List.replicate n .snil := by
   rw [List.set_append_right _ _ (Nat.le_refl _)]; simp [List.replicate_succ]
  rw [h1]
  refine ALoop.ovCs α f e size n (pre ++ [.ov H.length 0]) _ (by rw [List.getElem?_append_left (by simpa using hlt), List.getElem?_set_self hlt]) ?_
  have h2 : (H.set id (.cells (pre ++ [AV.ov H.length 0] ++ List.replicate n AV.snil)) ++ [AB.vec e size 0 []]).set id (.cells (pre ++ [AV.ov H.length 0] ++ vcs (H.set id (.cells (pre ++ [AV.ov H.length 0] ++ List.replicate n AV.snil)) ++ [AB.vec e size 0 []]).length (List.replicate n ([] : List α)))) ++ vbs f e size (List.replicate n ([] : List α))
    = H.set id (.cells (pre ++ vcs H.length (List.replicate (n + 1) ([] : List α)))) ++ vbs f e size (List.replicate (n + 1) ([] : List α)) := by
   rw [List.set_append_left _ _ (by simpa using hlt), List.set_set, List.append_assoc]
   simp [zCD, vbs, List.replicate_succ, vcs]
  rw [h2]
  exact h
def RdC (H : zaa) (lo : Nat) (f : α → List AV) (e size : Nat) (c : AV) (l : List α) : Prop :=
 (l = [] ∧ c = .snil) ∨ ∃ b, lo ≤ b ∧ c = .ov b l.length ∧ H[b]? = some (.vec e size l.length (l.flatMap f))
def RdL (H : zaa) (lo : Nat) (f : α → List AV) (e size : Nat) (a : AV) (ls : List (List α)) : Prop :=
 ∃ id cs, lo ≤ id ∧ a = .ms id 0 ls.length ls.length ∧ H[id]? = some (.cells cs) ∧ All2 (RdC H lo f e size) cs ls
theorem RdC.pre {H H' : zaa} {lo lo' : Nat} {f : α → List AV} {e size : Nat} {c : AV} {l : List α} (h : RdC H lo f e size c l) (hp : H <+: H') (hl : lo' ≤ lo) : RdC H' lo' f e size c l := by
 rcases h with h | ⟨b, h1, h2, h3⟩
 ·exact .inl h
 ·obtain ⟨J, rfl⟩ := hp
  exact .inr ⟨b, by omega, h2, by rw [List.getElem?_append_left (List.getElem?_eq_some_iff.1 h3).1]; exact h3⟩
theorem RdL.pre {H H' : zaa} {lo lo' : Nat} {f : α → List AV} {e size : Nat} {a : AV} {ls : List (List α)} (h : RdL H lo f e size a ls) (hp : H <+: H') (hl : lo' ≤ lo) : RdL H' lo' f e size a ls := by
 obtain ⟨id, cs, h1, h2, h3, h4⟩ := h
 refine ⟨id, cs, by omega, h2, ?_, h4.mono fun _ _ hc => hc.pre hp hl⟩
 obtain ⟨J, rfl⟩ := hp
 rw [List.getElem?_append_left (List.getElem?_eq_some_iff.1 h3).1]; exact h3
theorem RdL.get {H : zaa} {lo : Nat} {f : α → List AV} {e size : Nat} {a : AV} {ls : List (List α)} (h : RdL H lo f e size a ls) : ∃ id cs, a = .ms id 0 ls.length ls.length ∧ H[id]? = some (.cells cs) ∧ cs.length = ls.length ∧ ∀ k (hk : k < ls.length), ∃ c, cs[k]? = some c ∧ RdC H lo f e size c ls[k] := by
 obtain ⟨id, cs, h1, h2, h3, h4⟩ := h
 refine ⟨id, cs, h2, h3, h4.length, fun k hk => ?_⟩
 exact All2.get h4 (List.getElem?_eq_getElem hk)
theorem zrc {H : zaa} {lo b : Nat} {f : α → List AV} {e size : Nat} : ∀ (ls : List (List α)) (b : Nat), lo ≤ b → (∀ k (hk : k < ls.length), H[b + k]? = some (.vec e size ls[k].length (ls[k].flatMap f))) → All2 (RdC H lo f e size) (vcs b ls) ls
 | [], b, _, _ => trivial
 | l :: ls, b, hb, h => ⟨.inr ⟨b, hb, rfl, h 0 (by simp)⟩, zrc (b := b) ls (b + 1) (by omega) fun k hk => by
     have := h (k + 1) (by simpa using hk)
     rw [show b + 1 + k = b + (k + 1) by omega]; exact this⟩
theorem zmK : ∀ {a b a' b' : List AV}, plain a = some a' → plain b = some b' → plain (a ++ b) = some (a' ++ b')
 | [], b, a', b', h1, h2 => by
  simp [plain] at h1
  subst h1; simpa using h2
 | x :: a, b, a', b', h1, h2 => by
  simp only [plain] at h1
  cases hx : x.pd with
  | none => rw [hx] at h1; simp at h1
  | some d =>
   cases ha : plain a with
   | none => rw [hx, ha] at h1; simp at h1
   | some ds =>
    rw [hx, ha] at h1
    simp at h1
    subst h1
    simp [plain, hx, zmK ha h2]
theorem RdC.out {H : zaa} {lo : Nat} {f g : α → List AV} {e size : Nat} {c : AV} {l : List α} (h : RdC H lo f e size c l) (hp : ∀ x ∈ l, plain (f x) = some (g x)) (hs : ∀ x, (g x).length = size) : OutV H lo c (.sl (l.map g) .none) := by
 rcases h with ⟨rfl, rfl⟩ | ⟨b, h1, rfl, h3⟩
 ·exact .wk (.atom .snil) rfl rfl
 ·refine .vfz b e size l.length _ _ h1 h3 ?_ (by simp) fun c hc => by
   obtain ⟨x, _, rfl⟩ := List.mem_map.1 hc
   exact hs x
  clear h3
  induction l with
  | nil => rfl
  | cons x l ih =>
   rw [List.flatMap_cons, List.map_cons, List.flatten_cons]
   exact zmK (hp x (by simp)) (ih fun y hy => hp y (by simp [hy]))
theorem RdL.out {H : zaa} {lo : Nat} {f g : α → List AV} {e size : Nat} {a : AV} {ls : List (List α)} (h : RdL H lo f e size a ls) (hp : ∀ l ∈ ls, ∀ x ∈ l, plain (f x) = some (g x)) (hs : ∀ x, (g x).length = size) : OutX H lo a (.sl (ls.map fun l => [.sl (l.map g) .none]) .none) := by
 obtain ⟨id, cs, h1, rfl, h3, h4⟩ := h
 have := OutX.msr (H := H) (n := lo) id ls.length cs (ls.map fun l => l.map g) h1 h3 (by simp) (All2.of_get (by simpa using h4.length) fun i x y hx hy => by
  obtain ⟨l, hl, hc⟩ := All2.get' h4 hx
  simp only [List.map_map, List.getElem?_map, hl, Option.map_some, Function.comp_apply, Option.some.injEq] at hy
  subst hy
  exact hc.out (hp l (List.mem_of_getElem? hl)) hs)
 rw [List.map_map] at this
 exact this
def NX (f : α → List AV) (e size : Nat) (H1 : zaa) (st : List (List α)) : zaa := H1 ++ (.cells (vcs (H1.length + 1) st) :: vbs f e size st)
theorem zaQ (f : α → List AV) (e size : Nat) (H1 : zaa) (st : List (List α)) : (NX f e size H1 st).length = H1.length + 1 + st.length := by simp [NX]; omega
theorem zca (f : α → List AV) (e size : Nat) (H1 : zaa) (st : List (List α)) : H1 <+: NX f e size H1 st := ⟨_, rfl⟩
theorem zfC (f : α → List AV) (e size : Nat) (H1 J : zaa) (st : List (List α)) : (NX f e size H1 st ++ J)[H1.length]? = some (.cells (vcs (H1.length + 1) st)) := by simp [NX]
theorem zla (f : α → List AV) (e size : Nat) (H1 : zaa) (st : List (List α)) : (NX f e size H1 st)[H1.length]? = some (.cells (vcs (H1.length + 1) st)) := by simp [NX]
theorem zhp (f : α → List AV) (e size : Nat) (H1 J : zaa) (st : List (List α)) {k : Nat} (hk : k < st.length) : (NX f e size H1 st ++ J)[H1.length + 1 + k]? = some (.vec e size st[k].length (st[k].flatMap f)) := by
 rw [List.getElem?_append_left (by rw [zaQ]; omega), NX, List.getElem?_append_right (by omega), show H1.length + 1 + k - H1.length = k + 1 by omega, List.getElem?_cons_succ, zCB, List.getElem?_eq_getElem hk]
 rfl
theorem zyl (f : α → List AV) (e size : Nat) (H1 : zaa) (st : List (List α)) {k : Nat} (hk : k < st.length) : (NX f e size H1 st)[H1.length + 1 + k]? = some (.vec e size st[k].length (st[k].flatMap f)) := by
 have := zhp f e size H1 [] st hk
 simpa using this
theorem zhq (f : α → List AV) (e size : Nat) (H1 J : zaa) {st : List (List α)} {k : Nat} {l : List α} (h : st[k]? = some l) : (NX f e size H1 st ++ J)[H1.length + 1 + k]? = some (.vec e size l.length (l.flatMap f)) := by
 obtain ⟨hk, rfl⟩ := List.getElem?_eq_some_iff.1 h
 exact zhp f e size H1 J st hk
theorem ziL (b : Nat) {st : List (List α)} {k : Nat} {l : List α} (h : st[k]? = some l) : (vcs b st)[k]? = some (.ov (b + k) l.length) := by rw [znj, h]; rfl
theorem zfD (f : α → List AV) (e size : Nat) (H1 J : zaa) (st : List (List α)) {k : Nat} (hk : k < st.length) (l : List α) : ((NX f e size H1 st ++ J).set (H1.length + 1 + k) (.vec e size l.length (l.flatMap f))).set H1.length (.cells (vcs (H1.length + 1) (st.set k l))) = NX f e size H1 (st.set k l) ++ J := by
 rw [List.set_append_left _ _ (by rw [zaQ]; omega), List.set_append_left _ _ (by simp [zaQ]; omega)]
 congr 1
 unfold NX
 rw [List.set_append_right _ _ (by omega), List.set_append_right _ _ (by omega), show H1.length + 1 + k - H1.length = k + 1 by omega, List.set_cons_succ, Nat.sub_self, List.set_cons_zero, zCC]
theorem zqL (f : α → List AV) (e size : Nat) (H1 J : zaa) (st : List (List α)) {k : Nat} (hk : k < st.length) (l : List α) : ((NX f e size H1 st ++ J).set H1.length (.cells (vcs (H1.length + 1) (st.set k l)))).set (H1.length + 1 + k) (.vec e size l.length (l.flatMap f)) = NX f e size H1 (st.set k l) ++ J := by
 rw [List.set_comm _ _ (by omega), zfD f e size H1 J st hk l]
theorem ziM (b : Nat) (ls : List (List α)) {k : Nat} (hk : k < ls.length) (l : List α) : (vcs b ls).take k ++ .ov (b + k) l.length :: (vcs b ls).drop (k + 1) = vcs b (ls.set k l) := by
 rw [← zup, List.set_eq_take_append_cons_drop, if_pos (by simpa using hk)]
theorem znl {n : Nat} : ∀ (b : Nat) (ls : List (List α)), b + ls.length ≤ n → (vcs b ls).all (AV.scA n) = true
 | _, [], _ => rfl
 | b, l :: ls, h => by
  simp only [List.length_cons] at h
  have ih := znl (n := n) (b + 1) ls (by omega)
  have hb : b < n := by omega
  rw [vcs, List.all_cons, ih, Bool.and_true]
  simpa [AV.scA, AV.scB] using hb
theorem zcb {f : α → List AV} {e size : Nat} {H1 : zaa} {st : List (List α)} (hs : HSc H1) (hf : ∀ x n, (f x).all (AV.scA n) = true) : HSc (NX f e size H1 st) := by
 refine hs.append ?_
 rw [List.all_eq_true]
 intro b hb
 rcases List.mem_cons.1 hb with rfl | hb
 ·simp only [AB.sc]
  exact znl _ _ (by simp; omega)
 ·obtain ⟨l, _, rfl⟩ := List.mem_map.1 hb
  simp only [AB.sc, List.all_flatMap, hf]
  simp
theorem zlb (f : α → List AV) (e size lo : Nat) (H1 J : zaa) (st : List (List α)) (h : lo ≤ H1.length) : RdL (NX f e size H1 st ++ J) lo f e size (.ms H1.length 0 st.length st.length) st :=
 ⟨H1.length, _, h, rfl, zfC f e size H1 J st, zrc (b := H1.length + 1) st _ (by omega) fun k hk => zhp f e size H1 J st hk⟩
theorem ALoop.nx {c : Code} {Q : AExit → List AV → zaa → Prop} {F : List AV} (f : α → List AV) (e size n : Nat) (h : ALoop P c Q F (NX f e size H (List.replicate n []))) : ALoop P c Q F (H ++ [.cells (List.replicate n .snil)]) := by
 refine ALoop.ovCs α f (id := H.length) e size n [] _ (by simp) ?_
 have : (H ++ [AB.cells (List.replicate n AV.snil)]).set H.length (.cells ([] ++ vcs (H ++ [AB.cells (List.replicate n AV.snil)]).length (List.replicate n ([] : List α)))) ++ vbs f e size (List.replicate n ([] : List α)) = NX f e size H (List.replicate n []) := by
  simp [NX, List.set_append_right]
 rw [this]; exact h
theorem HRel.reVec (h : HRel B w G H) {id e size n : Nat} {cs cs' : List AV} (hid : H[id]? = some (.vec e size n cs)) (hc : All2 WkA cs cs') : HRel B w G (H.set id (.vec e size n cs')) := by
 refine ⟨by simp [h.len], ?_, h.dist, h.fresh, h.lt, h.base⟩
 intro i ab gi h1 h2
 by_cases hi : i = id
 ·subst hi
  rw [List.getElem?_set_self (List.getElem?_eq_some_iff.1 hid).1] at h1
  cases h1
  have hok := h.ok i _ _ hid h2
  cases gi with
  | blk b => exact hok.elim
  | own v s n =>
   obtain ⟨k1, k2, ⟨xs, k3, k4⟩, k5⟩ := hok
   exact ⟨k1, k2, ⟨xs, k3, ziN (vs := []) hc k4⟩, k5⟩
  | gap => exact hok.elim
 ·rw [List.getElem?_set_ne (fun h => hi h.symm)] at h1
  exact h.ok i ab gi h1 h2
theorem ALoop.reVec {c : Code} {Q : AExit → List AV → zaa → Prop} {F : List AV} {id e size n : Nat} {cs cs' : List AV} (hid : H[id]? = some (.vec e size n cs)) (hw : All2 WkA cs cs') (h : ALoop P c Q F (H.set id (.vec e size n cs'))) : ALoop P c Q F H := by
 intro B w G a hH hF hd
 exact h B w G a (hH.reVec hid hw) hF hd
theorem ACalls.reVec {f : FuncId} {args : List AV} {K : Kt} (h : ACalls P f args H fun r H' => K r H' ∨ ∃ id e size n cs cs', H'[id]? = some (.vec e size n cs) ∧ All2 WkA cs cs' ∧ K r (H'.set id (.vec e size n cs'))) : ACalls P f args H K := by
 intro B w G vs hH hv
 refine (h B w G vs hH hv).mono fun ex w' ⟨v, r, H', G', h1, h2, h3, h4, h5⟩ => ?_
 rcases h5 with hk | ⟨id, e, size, n, cs, cs', hid, hw, hk⟩
 ·exact ⟨v, r, H', G', h1, h2, h3, h4, hk⟩
 ·exact ⟨v, r, _, G', h1, h2, h3.reVec hid hw, h4, hk⟩
theorem ALoop.nx1 {c : Code} {Q : AExit → List AV → zaa → Prop} {F : List AV} (f : α → List AV) (e size n : Nat) (x : α) (cs0 : List AV) (hw : All2 WkA cs0 (f x)) (h : ALoop P c Q F (NX f e size H ([x] :: List.replicate n []))) :
  ALoop P c Q F (H ++ [.cells (.ov (H.length + 1) 1 :: List.replicate n .snil), .vec e size 1 cs0]) := by
 refine ALoop.reVec (id := H.length + 1) (e := e) (size := size) (n := 1) (cs := cs0) (cs' := f x) (by simp) hw ?_
 refine ALoop.ovCs α f (id := H.length) e size n [.ov (H.length + 1) 1] _ (by simp [List.set_append_right]) ?_
 have : ((H ++ [AB.cells (AV.ov (H.length + 1) 1 :: List.replicate n AV.snil), AB.vec e size 1 cs0]).set (H.length + 1) (AB.vec e size 1 (f x))).set H.length (.cells ([AV.ov (H.length + 1) 1] ++ vcs ((H ++ [AB.cells (AV.ov (H.length + 1) 1 :: List.replicate n AV.snil), AB.vec e size 1 cs0]).set (H.length + 1) (AB.vec e size 1 (f x))).length (List.replicate n ([] : List α)))) ++ vbs f e size (List.replicate n ([] : List α)) = NX f e size H ([x] :: List.replicate n []) := by
  simp [NX, List.set_append_right, vcs, vbs]
 rw [this]; exact h
end
end Go.Abs
namespace Go.Abs
abbrev LL := List (List IT)
abbrev LR := List (List (List IT))
def zaq {α : Type} (l : List (List α)) : Nat := (l.map List.length).sum
@[simp] theorem zPj {α : Type} : zaq ([] : List (List α)) = 0 := rfl
@[simp] theorem ziD {α : Type} (a : List α) (l : List (List α)) : zaq (a :: l) = a.length + zaq l := by simp [zaq]
theorem zfe {α : Type} (a b : List (List α)) : zaq (a ++ b) = zaq a + zaq b := by simp [zaq]
theorem znd {α : Type} (l : List (List α)) : zaq l = l.flatten.length := by simp [zaq, List.length_flatten]
@[simp] theorem ziE {α : Type} : ∀ d : Nat, zaq (List.replicate d ([] : List α)) = 0
 | 0 => rfl
 | d + 1 => by rw [List.replicate_succ]; simp [ziE d]
theorem zne {α : Type} : ∀ (l : List (List α)) (m : Nat) (x : List α), m < l.length → zaq (l.set m (l.getD m [] ++ x)) = zaq l + x.length
 | [], m, x, h => by simp at h
 | a :: l, 0, x, h => by simp; omega
 | a :: l, m + 1, x, h => by
  have := zne l m x (by simpa using h)
  simp [List.getD_eq_getElem?_getD] at this ⊢
  omega
theorem ztI {α : Type} (l : List (List α)) (m m' : Nat) (x : List α) (h : m < l.length) : (l.set m x).getD m' [] = if m' = m then x else l.getD m' [] := by
 simp only [List.getD_eq_getElem?_getD, List.getElem?_set]
 by_cases h1 : m = m'
 ·subst h1; simp [h]
 ·simp [h1, show ¬ m' = m from fun e => h1 e.symm]
/- One row, put ahead of each index of a list. -/
def apI (row : List IT) (m : Nat) : List IT → LR → LR
 | [], st => st
 | i :: is, st => apI row m is (st.set m (st.getD m [] ++ [row ++ [i]]))
def apK (row : List IT) : LL → Nat → LR → LR
 | [], _, st => st
 | e :: es, m, st => apK row es (m + 1) (apI row m e st)
@[simp] theorem zrl (row : List IT) (m : Nat) : ∀ (is : List IT) (st : LR), (apI row m is st).length = st.length
 | [], st => rfl
 | i :: is, st => by rw [apI, zrl row m is]; simp
@[simp] theorem zeK (row : List IT) : ∀ (es : LL) (m : Nat) (st : LR), (apK row es m st).length = st.length
 | [], _, st => rfl
 | e :: es, m, st => by rw [apK, zeK row es]; simp
theorem zrk (row : List IT) (m : Nat) (m' : Nat) : ∀ (is : List IT) (st : LR), m < st.length → (apI row m is st).getD m' [] = st.getD m' [] ++ (if m' = m then is.map (fun i => row ++ [i]) else [])
 | [], st, h => by simp [apI]
 | i :: is, st, h => by
  rw [apI, zrk row m m' is _ (by simpa using h), ztI _ _ _ _ h]
  split
  ·rename_i e; subst e; simp
  ·simp
theorem zlq (row : List IT) (m : Nat) : ∀ (is : List IT) (st : LR), m < st.length → zaq (apI row m is st) = zaq st + is.length
 | [], st, h => by simp [apI]
 | i :: is, st, h => by
  rw [apI, zlq row m is _ (by simpa using h), zne _ _ _ h]
  simp; omega
theorem zrn (row : List IT) (m' : Nat) : ∀ (es : LL) (m : Nat) (st : LR), m + es.length ≤ st.length → (apK row es m st).getD m' [] = st.getD m' [] ++ (if m ≤ m' then (es.getD (m' - m) []).map (fun i => row ++ [i]) else [])
 | [], m, st, h => by simp [apK]
 | e :: es, m, st, h => by
  simp only [List.length_cons] at h
  rw [apK, zrn row m' es (m + 1) _ (by simp; omega), zrk row m m' e st (by omega), List.append_assoc]
  congr 1
  by_cases h1 : m' = m
  ·subst h1; rw [if_pos rfl, if_neg (by omega), if_pos (Nat.le_refl _)]; simp
  ·by_cases h2 : m ≤ m'
   ·rw [if_neg h1, if_pos (by omega), if_pos h2, show m' - m = (m' - (m + 1)) + 1 by omega]; simp [List.getD_eq_getElem?_getD]
   ·rw [if_neg h1, if_neg (by omega), if_neg h2]; rfl
theorem zfM (row : List IT) : ∀ (es : LL) (m : Nat) (st : LR), m + es.length ≤ st.length → zaq (apK row es m st) = zaq st + zaq es
 | [], m, st, h => by simp [apK]
 | e :: es, m, st, h => by
  simp only [List.length_cons] at h
  rw [apK, zfM row es (m + 1) _ (by simp; omega), zlq row m e st (by omega)]
  simp; omega
/- All rows of a degree, then all degrees. -/
def rwL (s : LL) (d j : Nat) : List (List IT) → LR → Nat → Option (LR × Nat)
 | [], st, n => some (st, n)
 | row :: rest, st, n => if 500 < n + zaq (s.take (d + 1 - j)) then none else rwL s d j rest (apK row (s.take (d + 1 - j)) j st) (n + zaq (s.take (d + 1 - j)))
def jL (s : LL) (d : Nat) : LR → Nat → LR → Nat → Option (LR × Nat)
 | [], _, st, n => some (st, n)
 | list :: ls, j, st, n => match rwL s d j list st n with
  | none => none
  | some (st, n) => jL s d ls (j + 1) st n
def rwT (s : LL) (d j : Nat) : List (List IT) → LR → LR
 | [], st => st
 | row :: rest, st => rwT s d j rest (apK row (s.take (d + 1 - j)) j st)
def jT (s : LL) (d : Nat) : LR → Nat → LR → LR
 | [], _, st => st
 | list :: ls, j, st => jT s d ls (j + 1) (rwT s d j list st)
@[simp] theorem zBi (s : LL) (d j : Nat) : ∀ (rows : List (List IT)) (st : LR), (rwT s d j rows st).length = st.length
 | [], st => rfl
 | row :: rest, st => by rw [rwT, zBi s d j rest]; simp
@[simp] theorem zzW (s : LL) (d : Nat) : ∀ (ls : LR) (j : Nat) (st : LR), (jT s d ls j st).length = st.length
 | [], _, st => rfl
 | list :: ls, j, st => by rw [jT, zzW s d ls]; simp
theorem zmU (s : LL) (d j : Nat) (hs : s.length = d + 1) (hj : j ≤ d) : ∀ (rows : List (List IT)) (st : LR), st.length = d + 1 → zaq st ≤ zaq (rwT s d j rows st)
 | [], st, h => Nat.le_refl _
 | row :: rest, st, h => by
  have := zmU s d j hs hj rest (apK row (s.take (d + 1 - j)) j st) (by simpa using h)
  rw [zfM row _ _ _ (by simp; omega)] at this
  rw [rwT]; omega
theorem ztv (s : LL) (d j : Nat) (hs : s.length = d + 1) (hj : j ≤ d) : ∀ (rows : List (List IT)) (st : LR), st.length = d + 1 → zaq st ≤ 500 →
  rwL s d j rows st (zaq st) = if 500 < zaq (rwT s d j rows st) then none else some (rwT s d j rows st, zaq (rwT s d j rows st))
 | [], st, h, ht => by rw [rwL, rwT, if_neg (by omega)]
 | row :: rest, st, h, ht => by
  have h1 := zfM row (s.take (d + 1 - j)) j st (by simp; omega)
  have h2 := zmU s d j hs hj rest (apK row (s.take (d + 1 - j)) j st) (by simpa using h)
  rw [rwL, rwT, ← h1]
  by_cases hb : 500 < zaq (apK row (s.take (d + 1 - j)) j st)
  ·rw [if_pos hb, if_pos (by omega)]
  ·rw [if_neg hb, ztv s d j hs hj rest _ (by simpa using h) (by omega)]
theorem zsm (s : LL) (d : Nat) (hs : s.length = d + 1) : ∀ (ls : LR) (j : Nat) (st : LR), j + ls.length ≤ d + 1 → st.length = d + 1 → zaq st ≤ zaq (jT s d ls j st)
 | [], j, st, hj, h => Nat.le_refl _
 | list :: ls, j, st, hj, h => by
  simp only [List.length_cons] at hj
  have := zsm s d hs ls (j + 1) (rwT s d j list st) (by omega) (by simpa using h)
  have := zmU s d j hs (by omega) list st h
  rw [jT]; omega
theorem zhI (s : LL) (d : Nat) (hs : s.length = d + 1) : ∀ (ls : LR) (j : Nat) (st : LR), j + ls.length ≤ d + 1 → st.length = d + 1 → zaq st ≤ 500 →
  jL s d ls j st (zaq st) = if 500 < zaq (jT s d ls j st) then none else some (jT s d ls j st, zaq (jT s d ls j st))
 | [], j, st, hj, h, ht => by rw [jL, jT, if_neg (by omega)]
 | list :: ls, j, st, hj, h, ht => by
  simp only [List.length_cons] at hj
  have h2 := zsm s d hs ls (j + 1) (rwT s d j list st) (by omega) (by simpa using h)
  rw [jL, jT, ztv s d j hs (by omega) list st h ht]
  by_cases hb : 500 < zaq (rwT s d j list st)
  ·rw [if_pos hb, if_pos (by omega)]
  ·rw [if_neg hb]
   exact zhI s d hs ls (j + 1) _ (by omega) (by simpa using h) (by omega)
theorem ztw (s : LL) (d j m' : Nat) (hs : s.length = d + 1) (hj : j ≤ d) (hm : m' ≤ d) : ∀ (rows : List (List IT)) (st : LR), st.length = d + 1 →
  (rwT s d j rows st).getD m' [] = st.getD m' [] ++ (if j ≤ m' then rows.flatMap (fun row => (s.getD (m' - j) []).map (fun i => row ++ [i])) else [])
 | [], st, h => by simp [rwT]
 | row :: rest, st, h => by
  rw [rwT, ztw s d j m' hs hj hm rest _ (by simpa using h), zrn row m' _ _ _ (by simp; omega), List.append_assoc]
  congr 1
  by_cases h1 : j ≤ m'
  ·simp only [if_pos h1, List.flatMap_cons]
   congr 2
   simp only [List.getD_eq_getElem?_getD, List.getElem?_take]
   rw [if_pos (by omega)]
  ·simp [h1]
def clR (s : LL) (m : Nat) : LR → Nat → List (List IT)
 | [], _ => []
 | list :: ls, j => (if j ≤ m then list.flatMap (fun row => (s.getD (m - j) []).map (fun i => row ++ [i])) else []) ++ clR s m ls (j + 1)
theorem zlZ (s : LL) (d m' : Nat) (hs : s.length = d + 1) (hm : m' ≤ d) : ∀ (ls : LR) (j : Nat) (st : LR), j + ls.length ≤ d + 1 → st.length = d + 1 → (jT s d ls j st).getD m' [] = st.getD m' [] ++ clR s m' ls j
 | [], j, st, hj, h => by simp [jT, clR]
 | list :: ls, j, st, hj, h => by
  simp only [List.length_cons] at hj
  rw [jT, zlZ s d m' hs hm ls (j + 1) _ (by omega) (by simpa using h), ztw s d j m' hs (by omega) hm list st h, clR, List.append_assoc]
theorem zhy (s : LL) (m : Nat) (x : List IT) : ∀ (ls : LR) (j : Nat), x ∈ clR s m ls j ↔ ∃ t row i, j + t ≤ m ∧ row ∈ ls.getD t [] ∧ i ∈ s.getD (m - (j + t)) [] ∧ x = row ++ [i]
 | [], j => by simp [clR]
 | list :: ls, j => by
  rw [clR, List.mem_append, zhy s m x ls (j + 1)]
  constructor
  ·rintro (h | ⟨t, row, i, h1, h2, h3, h4⟩)
   ·split at h
    ·rename_i hj
     obtain ⟨row, h1, h2⟩ := List.mem_flatMap.1 h
     obtain ⟨i, h3, h4⟩ := List.mem_map.1 h2
     exact ⟨0, row, i, hj, by simpa using h1, h3, h4.symm⟩
    ·simp at h
   ·exact ⟨t + 1, row, i, by omega, by simpa [List.getD_eq_getElem?_getD] using h2, by rw [show j + (t + 1) = j + 1 + t by omega]; exact h3, h4⟩
  ·rintro ⟨t, row, i, h1, h2, h3, h4⟩
   cases t with
   | zero =>
    left
    rw [if_pos (by omega)]
    exact List.mem_flatMap.2 ⟨row, by simpa using h2, List.mem_map.2 ⟨i, h3, h4.symm⟩⟩
   | succ t => exact .inr ⟨t, row, i, by omega, by simpa [List.getD_eq_getElem?_getD] using h2, by rw [show j + 1 + t = j + (t + 1) by omega]; exact h3, h4⟩
end Go.Abs
