import Derived.Shelf.SlSortCmp.NoneTotal
import Derived.Test.YtjkkonpjecoieaaGreatProg
import Derived.Test.YtjkkonpjecoieaaGreatKNum
import Derived.Test.YtjkkonpjecoieaaGreatAbsSo
import Derived.KernelRfl
import Derived.Test.YtjkkonpjecoieaaGreatKI5
import Derived.Test.YtjkkonpjecoieaaGreatKUA
import Derived.Test.YtjkkonpjecoieaaGreatCT
import Derived.Test.YtjkkonpjecoieaaGreatKN6
import Derived.Test.YtjkkonpjecoieaaGreatKGN1
set_option linter.unusedSimpArgs false
set_option linter.unusedVariables false
namespace Go.Proofs.YtjkkonpjecoieaaGreat
open Go Go.Shelf Go.Abs
def zCv : Go.Shelf.Ren := ⟨fun | 6 => 48 | 15 => 94 | 14 => 93 | 28 => 140 | 29 => 141 | 20 => 132 | 21 => 133 | 22 => 134 | 23 => 135 | 24 => 136 | 25 => 137 | 26 => 138 | 27 => 139 | 46 => 179 | 47 => 180 | 48 => 181 | 49 => 182 | 50 => 183 | 57 => 201 | n => n, fun | 22 => 44 | 24 => 35 | 25 => 89 | 3 => 3 | 39 => 124 | 0 => 0 | 53 => 99 | 55 => 98 | 4 => 4 | 46 => 173 | 45 => 172 | 50 => 169 | 5 => 5 | 9 => 9 | 66 => 206 | 70 => 78 | 76 => 231 | 77 => 232 | n => n, fun | n => n⟩
theorem zCu : Go.Proofs.SlLaysF.n6 tP zCv := {
 mixed := by kernel_rfl
 f6 := ⟨Tryz.f48.name, by decide, Tryz.func48.trans (congrArg some (by kernel_rfl))⟩
 f14 := ⟨Tryz.f93.name, by decide, Tryz.func93.trans (congrArg some (by kernel_rfl))⟩
 f15 := Tryz.func94.trans (congrArg some (by kernel_rfl))
 f20 := ⟨Tryz.f132.name, by decide, Tryz.func132.trans (congrArg some (by kernel_rfl))⟩
 f21 := ⟨Tryz.f133.name, by decide, Tryz.func133.trans (congrArg some (by kernel_rfl))⟩
 f22 := ⟨Tryz.f134.name, by decide, Tryz.func134.trans (congrArg some (by kernel_rfl))⟩
 f23 := ⟨Tryz.f135.name, by decide, Tryz.func135.trans (congrArg some (by kernel_rfl))⟩
 f24 := ⟨Tryz.f136.name, by decide, Tryz.func136.trans (congrArg some (by kernel_rfl))⟩
 f25 := ⟨Tryz.f137.name, by decide, Tryz.func137.trans (congrArg some (by kernel_rfl))⟩
 f26 := ⟨Tryz.f138.name, by decide, Tryz.func138.trans (congrArg some (by kernel_rfl))⟩
 f27 := ⟨Tryz.f139.name, by decide, Tryz.func139.trans (congrArg some (by kernel_rfl))⟩
 f28 := Tryz.func140.trans (congrArg some (by kernel_rfl))
 f29 := Tryz.func141.trans (congrArg some (by kernel_rfl))
 f46 := ⟨Tryz.f179.name, by decide, Tryz.func179.trans (congrArg some (by kernel_rfl))⟩
 f47 := Tryz.func180.trans (congrArg some (by kernel_rfl))
 f48 := Tryz.func181.trans (congrArg some (by kernel_rfl))
 f49 := ⟨Tryz.f182.name, by decide, Tryz.func182.trans (congrArg some (by kernel_rfl))⟩
 f50 := ⟨Tryz.f183.name, by decide, Tryz.func183.trans (congrArg some (by kernel_rfl))⟩
 f57 := ⟨Tryz.f201.name, by decide, Tryz.func201.trans (congrArg some (by kernel_rfl))⟩
 t0 := Tryz.underlying0
 a0 := Tryz.isAgg0
 z0 := Tryz.sizeOf0
 v0 := Tryz.zeroValue0
 t3 := Tryz.underlying3
 a3 := Tryz.isAgg3
 z3 := Tryz.sizeOf3
 v3 := Tryz.zeroValue3
 t4 := Tryz.underlying4
 a4 := Tryz.isAgg4
 z4 := Tryz.sizeOf4
 v4 := Tryz.zeroValue4
 t5 := Tryz.underlying5
 a5 := Tryz.isAgg5
 z5 := Tryz.sizeOf5
 v5 := Tryz.zeroValue5
 t9 := Tryz.underlying9
 a9 := Tryz.isAgg9
 z9 := Tryz.sizeOf9
 v9 := Tryz.zeroValue9
 t22 := Tryz.underlying44
 a22 := Tryz.isAgg44
 z22 := Tryz.sizeOf44
 v22 := Tryz.zeroValue44
 a24 := Tryz.isAgg35
 z24 := Tryz.sizeOf35
 t25 := Tryz.underlying89
 a25 := Tryz.isAgg89
 z25 := Tryz.sizeOf89
 v25 := Tryz.zeroValue89
 t39 := Tryz.underlying124
 a39 := Tryz.isAgg124
 z39 := Tryz.sizeOf124
 v39 := Tryz.zeroValue124
 t45 := Tryz.underlying172
 a45 := Tryz.isAgg172
 z45 := Tryz.sizeOf172
 v45 := Tryz.zeroValue172
 t46 := Tryz.underlying173
 a46 := Tryz.isAgg173
 z46 := Tryz.sizeOf173
 v46 := Tryz.zeroValue173
 t50 := Tryz.underlying169
 a50 := Tryz.isAgg169
 z50 := Tryz.sizeOf169
 v50 := Tryz.zeroValue169
 t53 := Tryz.underlying99
 a53 := Tryz.isAgg99
 z53 := Tryz.sizeOf99
 v53 := Tryz.zeroValue99
 t55 := Tryz.underlying98
 a55 := Tryz.isAgg98
 z55 := Tryz.sizeOf98
 v55 := Tryz.zeroValue98
 t66 := Tryz.underlying206
 a66 := Tryz.isAgg206
 z66 := Tryz.sizeOf206
 v66 := Tryz.zeroValue206
 t70 := Tryz.underlying78
 a70 := Tryz.isAgg78
 z70 := Tryz.sizeOf78
 v70 := Tryz.zeroValue78
 t76 := Tryz.underlying231
 a76 := Tryz.isAgg231
 z76 := Tryz.sizeOf231
 v76 := Tryz.zeroValue231
 t77 := Tryz.underlying232
 a77 := Tryz.isAgg232
 z77 := Tryz.sizeOf232
 v77 := Tryz.zeroValue232 }
end Go.Proofs.YtjkkonpjecoieaaGreat
namespace Go.Abs
open Go Go.RowKit
variable {P : Program} {B : Nat} {w : World} {G : Gh} {H : zaa}
def Lmx (w : World) (G : Gh) (b : Nat) : Nat := Nat.max (G.L b) (zbW w b)
inductive RdA (H : zaa) : AV → AV → Prop
 | sl (es : List (List AV)) : RdA H (.sl es .none) (.sl es .none)
 | int (k : IntKind) (n : Int) : RdA H (.int k n) (.int k n)
 | bool (b : Bool) : RdA H (.bool b) (.bool b)
 | str (s : List UInt8) : RdA H (.str s) (.str s)
 | ms (id off len cap size : Nat) (cs : List AV) (row : List (List AV)) (hH : H[id]? = some (.cells cs)) (hfit : off + len * size ≤ cs.length) (hp : zaD ((cs.drop off).take (len * size)) = some row.flatten) (hlen : row.length = len)
   (hsz : ∀ c ∈ row, c.length = size) (hcap : len ≤ cap) : RdA H (.ms id off len cap) (.sl row .none)
 | ov (id e size m : Nat) (cs : List AV) (row : List (List AV)) (hH : H[id]? = some (.vec e size m cs)) (hp : zaD cs = some row.flatten) (hlen : row.length = m) (hsz : ∀ c ∈ row, c.length = size) : RdA H (.ov id m) (.sl row .none)
theorem RdA.rel (h : HRel B w G H) {a b : AV} (hr : RdA H a b) {v : Value} (hv : ARel w G v a) : DRel w (Lmx w G) v b := by
 have hmono : ∀ {v : Value} {a : AV}, DRel w G.L v a → DRel w (Lmx w G) v a := fun h => h.mono (fun b => Nat.le_max_left _ _) fun _ _ _ => rfl
 cases hr with
 | sl es => exact hmono hv
 | int k n => have hv : v = .int k n := hv; subst hv; exact .int k n
 | bool b => have hv : v = .bool b := hv; subst hv; exact .bool b
 | str s => have hv : v = .string ⟨s.toArray⟩ := hv; subst hv; exact .str s
 | ms i2 off len cap2 size cs2 row hH2 hfit hp hlen hsz hcap =>
  obtain ⟨b, hb, rfl⟩ := hv
  obtain ⟨_, _, vs, _, hw, hcs⟩ := h.ok i2 _ _ hH2 hb
  subst hlen
  by_cases hes : row = []
  ·subst hes; exact .slE _ _
  ·have hl := hcs.length
   refine DRel.of_flat_at (zs := (vs.toList.drop off).take (row.length * size)) hsz hes hcap ?_ ((zc8 ((hcs.drop off).take _) hp).mono fun _ _ => hmono) ?_
   ·refine Nat.le_trans ?_ (Nat.le_max_right _ _)
    simp [zbW, hw]
    simp at hl
    omega
   ·intro j u hj
    rw [List.getElem?_take] at hj
    split at hj
    ·simp only [World.cell?, hw]
     simpa using hj
    ·cases hj
 | ov i2 e2 size m cs2 row hH2 hp hlen hsz =>
  obtain ⟨⟨a, cap0, rfl, _⟩, v', s0, n', hμ2, _, heq⟩ := hv
  obtain ⟨rfl, rfl, ⟨xs, hown, hcs⟩, _⟩ := h.ok i2 _ _ hH2 hμ2
  obtain rfl := heq rfl
  subst hlen
  by_cases hes : row = []
  ·subst hes; exact .slE _ _
  ·have hown2 := hown
   obtain ⟨hl, hrow⟩ := hown2
   rcases hrow with ⟨h1, h2⟩ | ⟨g2, cap2, cur, h1, h2, h3, h4, h5, h6, h7⟩
   ·cases row <;> simp_all
   ·simp at h1
    obtain ⟨rfl, rfl⟩ := h1
    obtain ⟨_, _, _, hcell⟩ := zc7 hown
    refine DRel.of_flat_at (zs := xs) hsz hes h4 ?_ ((zc8 hcs hp).mono fun _ _ => hmono) ?_
    ·refine Nat.le_trans ?_ (Nat.le_max_right _ _)
     simp only [zbW, h3, h6, Nat.zero_add]
     exact Nat.mul_le_mul_right _ h4
    ·intro j u hj
     rw [Nat.zero_add, hcell j (by rw [← hl]; exact (List.getElem?_eq_some_iff.1 hj).1)]
     exact hj
theorem RdA.trel (h : HRel B w G H) {a b : AV} (hr : RdA H a b) {v : Value} (hv : ARel w G v a) : ARel w ⟨Lmx w G, []⟩ v b := by
 have hd := hr.rel h hv
 cases hr with
 | sl es => exact hd
 | int k n => exact hv
 | bool b => exact hv
 | str s => exact hv
 | ms i2 off len cap2 size cs2 row hH2 hfit hp hlen hsz hcap => exact hd
 | ov i2 e2 size m cs2 row hH2 hp hlen hsz => exact hd
inductive RdT (H : zaa) : AV → AV → Prop
 | one {a b : AV} (h : RdA H a b) : RdT H a b
 | agg {asx bs : List AV} (h : All2 (RdA H) asx bs) : RdT H (.agg asx) (.agg bs)
theorem RdT.rel (h : HRel B w G H) {a b : AV} (hr : RdT H a b) {v : Value} (hv : TRel w G v a) : TRel w ⟨Lmx w G, []⟩ v b := by
 cases hr with
 | one hr =>
  have hv' : ARel w G v a := by cases hr <;> exact hv
  exact TRel.of_v (VRel.of_a (hr.trel h hv'))
 | agg hr =>
  obtain ⟨us, hu, hv⟩ := hv
  refine ⟨us, hu, ?_⟩
  exact All2.of_get (hv.length.trans hr.length) fun i x y hx hy => by
   obtain ⟨a, ha, hxa⟩ := All2.get' hv hx
   obtain ⟨y', hy', hay⟩ := All2.get' hr ha
   rw [hy] at hy'
   cases hy'
   exact hay.trel h hxa
end Go.Abs
namespace Go.Proofs.YtjkkonpjecoieaaGreat
open Go Go.Abs
set_option maxRecDepth 8000
theorem ztl (r : List IT) : zaD (zaV r) = some (zaV r) := by
 induction r with
 | nil => rfl
 | cons x r ih =>
  obtain ⟨n, ks⟩ := x
  rw [zdD]
  simp [IT.cs, zaD, AV.pd, ih]
theorem zlY {c : List AV} {r : List IT} (h : c ∈ IT.css r) : c.length = 2 := by
 rw [IT.css_map] at h
 obtain ⟨x, _, rfl⟩ := List.mem_map.1 h
 simp
theorem zyN (a b : List IT) (he : a.length = b.length) (ha : a.length ≤ 1000) (hn : ∀ x ∈ a, x.nodes ≤ 1000000) (H : zaa) (K : Kt) (hK : K (.int .i64 (IT.cmpL a b)) H) :
  ACalls tP zm4 [.sl (IT.css a) .none, .sl (IT.css b) .none] H K := by
 refine ACalls.out (zJ1 fun hs => ?_)
 simp [zxC]
 refine zrU a b he (by omega) (fun i h h' H K hK => zz0 _ _ _ (Nat.le_refl _) (hn _ (List.getElem_mem h)) H K hK) _ _ ?_
 exact zfh hs rfl rfl hK
theorem ztU {H : zaa} {id : Nat} {b : AB} (h : H[id]? = some b) : H.set id b = H := by
 refine List.ext_getElem? fun i => ?_
 rw [List.getElem?_set]
 split
 ·rename_i hi; subst hi; rw [if_pos (List.getElem?_eq_some_iff.1 h).1, h]
 ·rfl
def zeC (rs : List (List IT)) : AV := .sl (rs.map fun r => [.sl (IT.css r) .none]) .none
theorem zui {H H1 : zaa} {id w : Nat} {rows : List (List IT)} (hpre : H <+: H1) (hs : HSc H) (hR : RowsH H1 H.length id rows) (hw : ∀ r ∈ rows, r.length = w) (hw8 : w ≤ 1000) (hnd : ∀ r ∈ rows, ∀ x ∈ r, x.nodes ≤ 1000) (hlen : rows.length ≤ 1000000000)
  (K : Kt) (hK : ∀ rs, rs.Perm rows → rs.Pairwise rle → K (.tup [zeC rs, .int .i64 0]) H) : zgQ (.ov id rows.length) H1 (zeV H.length K) := by
 obtain ⟨hlo, cs, hcs, hcells⟩ := hR
 have hcl := hcells.length
 unfold zgQ
 refine ACalls.sortFunc zCu hcs (by omega) (fun i => IT.css (rows.getD i [])) (fun i j => IT.cmpL (rows.getD i []) (rows.getD j [])) (fun i hi => ?_) (fun args w => rfl) (fun i j hi hj => ?_) (fun i hi => ?_) (fun i j k hi hj hk h1 h2 => ?_) (fun i j k hi hj hk h1 h2 => ?_) (fun p hp hsort => ?_)
 ·obtain ⟨r, hr, hc⟩ := All2.get' hcells (List.getElem?_eq_getElem hi)
  have hrd : rows.getD i [] = r := by simp [List.getD_eq_getElem?_getD, hr]
  simp only [hrd]
  rcases hc with ⟨rfl, h⟩ | ⟨hne, b, h, h1, h2, h3⟩
  ·exact .inl h
  ·exact .inr (.inr ⟨b, zbK, 2, r.length, zaV r, h, h2, h3, ztl r, by simp, fun c hc => zlY hc⟩)
 ·have ei : rows.getD i [] = rows[i] := by simp [List.getD_eq_getElem?_getD, hi]
  have ej : rows.getD j [] = rows[j] := by simp [List.getD_eq_getElem?_getD, hj]
  rw [ei, ej]
  have m1 := List.getElem_mem hi
  have m2 := List.getElem_mem hj
  exact zyN _ _ (by rw [hw _ m1, hw _ m2]) (by rw [hw _ m1]; exact hw8) (fun x hx => by have := hnd _ m1 x hx; omega) _ _ rfl
 ·have := IT.cmpL_anti (rows.getD i []) (rows.getD i [])
  omega
 ·have := IT.cmpL_tri (rows.getD i []) (rows.getD j []) (rows.getD k [])
  unfold Tri at this
  omega
 ·have := IT.cmpL_tri (rows.getD k []) (rows.getD j []) (rows.getD i [])
  have a1 := IT.cmpL_anti (rows.getD i []) (rows.getD j [])
  have a2 := IT.cmpL_anti (rows.getD j []) (rows.getD k [])
  have a3 := IT.cmpL_anti (rows.getD i []) (rows.getD k [])
  unfold Tri at this
  omega
 ·have hplen : p.length = rows.length := by simpa using hp.length_eq
  have hpm : ∀ i ∈ p, i < rows.length := fun i hi => by simpa using hp.subset hi
  have hrs : (p.map fun i => rows.getD i []).Perm rows := by
   have h1 := hp.map fun i => rows.getD i []
   have h2 : (List.range rows.length).map (fun i => rows.getD i []) = rows := List.ext_getElem (by simp) fun i h1 h2 => by simp [List.getD_eq_getElem?_getD, h2]
   rwa [h2] at h1
  have hpw : (p.map fun i => rows.getD i []).Pairwise rle := by
   rw [List.pairwise_iff_getElem]
   intro a b ha hb hab
   simp only [List.getElem_map]
   exact hsort a b (by simpa using ha) (by simpa using hb) hab
  have hK := hK _ hrs hpw
  generalize hrsd : (p.map fun i => rows.getD i []) = rs at *
  have hrl : rs.length = rows.length := hrs.length_eq
  generalize hcsd : (p.map fun i => cs.getD i .unk) = cs' at *
  have hcells' : All2 (CellR H1 H.length id) cs' rs := by
   subst hrsd hcsd
   refine All2.of_get (by simp) fun i x y hx hy => ?_
   simp only [List.getElem?_map, Option.map_eq_some_iff] at hx hy
   obtain ⟨k, hk, rfl⟩ := hx
   obtain ⟨k', hk', rfl⟩ := hy
   rw [hk] at hk'
   cases hk'
   have hlt := hpm k (List.mem_of_getElem? hk)
   obtain ⟨r, hr, hc⟩ := All2.get' hcells (List.getElem?_eq_getElem (by omega : k < cs.length))
   simp only [List.getD_eq_getElem?_getD, hr, Option.getD_some, List.getElem?_eq_getElem (by omega : k < cs.length)]
   exact hc
  have hidl := (List.getElem?_eq_some_iff.1 hcs).1
  have hset : (H1.set id (.vec zbJ 1 rows.length cs'))[id]? = some (.vec zbJ 1 rows.length cs') := List.getElem?_set_self hidl
  have hcells2 : All2 (CellR (H1.set id (.vec zbJ 1 rows.length cs')) H.length id) cs' rs := hcells'.mono fun c r hc => hc.keep (Nat.le_refl _) fun b _ hb _ => ⟨hb, List.getElem?_set_ne (fun h => hb h.symm)⟩
  have hpre2 := zio (b := .vec zbJ 1 rows.length cs') hpre hlo
  have hwr : ∀ r ∈ rs, r.length = w := fun r hr => hw r (hrs.subset hr)
  have hndr : ∀ r ∈ rs, ∀ x ∈ r, x.nodes ≤ 1000 := fun r hr => hnd r (hrs.subset hr)
  generalize H1.set id (.vec zbJ 1 rows.length cs') = H2 at *
  clear hcells hcells' hcs hsort hp
  have hcl2 := hcells2.length
  simp
  refine zFe (Inv := fun q t133 H' => ∃ i : Nat, i ≤ rows.length ∧ q = rows.length - i ∧ t133 = .int .i64 i ∧ H' = H2) rows.length ?_ ?_
  ·intro _; exact ⟨0, by omega, by omega, rfl, rfl⟩
  ·rintro q t133 H' ⟨i, hi, rfl, rfl, rfl⟩ hsc hlen' hsF Kb hKb
   by_cases hlt : i < rows.length
   ·have hir : i < cs'.length := by omega
    obtain ⟨r, hr, hc⟩ := All2.get' hcells2 (List.getElem?_eq_getElem hir)
    have hrm := List.mem_of_getElem? hr
    have hrw := hwr r hrm
    simp [zoE, hlt, hset]
    rw [zyU 1 (List.getElem?_eq_getElem hir)]
    have hHn : H.length ≤ H'.length := hpre2.length_le
    have hidn := (List.getElem?_eq_some_iff.1 hset).1
    have hnext : ∀ t138 : AV, Kb (zgP (.ov id rows.length) (.ov id rows.length) (.int .i64 rows.length) (.int .i64 ((i : Int) + 1))) H' := fun _ => by
     refine hKb _ _ ⟨rows.length - (i + 1), by omega, Back.at (J := []) (H2 := H') (by simp) hlen' hsc ?_ ⟨_, rfl, i + 1, by omega, rfl, by simp, rfl⟩⟩
     simp [zgP, AV.sc, AV.scV, AV.scA, AV.scB, hidn]
    have hlen : ∀ k : AV → Prop, k (.int .i64 r.length) → zah 1 cs'[i] k := fun k hk => by
     rcases hc with ⟨rfl, h⟩ | ⟨hne, b, h, h1, h2, h3⟩
     ·rw [h]; simpa using hk
     ·rw [h]; simpa using hk
    refine hlen _ ?_
    refine zFf (Inv := fun q t139 H3 => ∃ k : Nat, k ≤ r.length ∧ q = r.length - k ∧ t139 = .int .i64 k ∧ H3 = H') r.length ?_ ?_
    ·intro _; exact ⟨0, by omega, by omega, rfl, rfl⟩
    ·rintro q t139 H3 ⟨k, hk, rfl, rfl, rfl⟩ hsc3 hlen3 hsF3 Kb3 hKb3
     by_cases hkl : k < r.length
     ·rcases hc with ⟨rfl, h⟩ | ⟨hne, b, h, h1, h2, h3⟩
      ·simp at hkl
      ·obtain ⟨x, y, hvx, hx, hy⟩ := zc3 r[k]
       have hself := zgB r k r[k] hkl
       rw [List.set_getElem_self] at hself
       have htk : List.take 2 (List.drop (k * 2) (zaV r)) = (r[k]).cs := by
        rw [← hself]
        have h4 : (List.take (k * 2) (zaV r)).length = k * 2 := by rw [List.length_take, zdn]; omega
        rw [List.append_assoc, List.drop_append_of_le_length (by omega), List.drop_of_length_le (by omega), List.nil_append, hvx]
        simp
       have hbl := (List.getElem?_eq_some_iff.1 h3).1
       simp [zoF, hkl, h, h3]
       rw [htk]
       refine ⟨by rw [zdn]; omega, ?_⟩
       refine zKh _ (r[k]) (Nat.le_refl _) (by have := hndr r hrm _ (List.getElem_mem hkl); omega) _ _ ?_
       simp [h3, hkl]
       refine ⟨by rw [zdn]; omega, ?_⟩
       rw [← List.append_assoc, hself, ztU h3, zas (by omega) (by omega)]
       refine hKb3 _ _ ⟨r.length - (k + 1), by omega, Back.at (J := []) (H2 := H3) (by simp) (by omega) hsc3 ?_ ⟨.int .i64 ((k : Int) + 1), by simp only [h], k + 1, by omega, rfl, by simp, rfl⟩⟩
       simp [zjm, AV.sc, AV.scV, AV.scA, AV.scB, hidn, hbl]
     ·obtain rfl : k = r.length := by omega
      simp [zoF]
      rw [zas (by omega) (by omega)]
      exact hnext (.int .i64 0)
   ·obtain rfl : i = rows.length := by omega
    simp [zoE]
    refine ⟨⟨rfl, rfl⟩, ?_⟩
    obtain ⟨J, hJ⟩ := hpre2
    refine ⟨.tup [zeC rs, .int .i64 0], H, J, hJ.symm, Nat.le_refl _, hs, .tup ⟨?_, .one (.wk (.atom (.refl _)) rfl rfl), trivial⟩, hK⟩
    have hrw : zeC rs = .sl ((rs.map IT.css).map fun r => [.sl r .none]) .none := by simp [zeC]
    rw [hrw]
    refine .rows id zbJ rows.length cs' (rs.map IT.css) hlo hset (by simp [hrl]) (All2.of_get (by simpa using hcl2) fun i x y hx hy => ?_)
    obtain ⟨r, hr, hc⟩ := All2.get' hcells2 hx
    simp only [List.map_map, List.getElem?_map, hr, Option.map_some, Function.comp_apply, Option.some.injEq] at hy
    subst hy
    rcases hc with ⟨rfl, rfl⟩ | ⟨hne, b, rfl, h1, h2, h3⟩
    ·exact .wk (.atom (.refl _)) rfl rfl
    ·exact .vfz b zbK 2 r.length (zaV r) (IT.css r) h1 h3 (ztl r) (by simp) (fun c hc => zlY hc)
end Go.Proofs.YtjkkonpjecoieaaGreat
namespace Go.Proofs.YtjkkonpjecoieaaGreat
open Go Go.Abs
set_option maxRecDepth 8000
theorem zCg {data : List Dat} {tn : Int} {tks : List VT} (ht : zaO data 0 (.mk 5 tn tks) = true) : 0 ≤ tn ∧ tn.toNat < data.length := by
 rw [zaO, Bool.and_eq_true] at ht
 have h := ht.2
 simp only [zaQ, za0, Bool.and_eq_true] at h
 have h1 := h.1
 simp at h1
 refine ⟨h1.1, ?_⟩
 have h2 := h1.2
 split at h2
 ·rename_i d hd
  exact (List.getElem?_eq_some_iff.1 hd).1
 ·simp at h2
def zaH (l : List VT) (P : List Nat) : List IT := fill (List.replicate l.length (.mk 0 [])) P (P.map fun j => za7 (l.getD j (.mk 0 0 [])))
def zcn (base : List IT) (P R : List Nat) (c : Int) : List IT → List (List IT)
 | [] => []
 | .mk c' ps :: rest => if c' = c then zba (fill base P ps) R rest else []
def zb8 (l : List VT) (bs : List Bool) (c : Int) (kids : List IT) : List (List IT) :=
 zba (zaH l (pos false bs bs.length)) (pos true bs bs.length) kids ++ zcn (zaH l (pos false bs bs.length)) (pos false bs bs.length) (pos true bs bs.length) c kids
def zsA : IT → List IT
 | .mk _ ks => ks
def zcC (data : List Dat) (t : VT) (c : Int) (v : IT) : Option Int :=
 if za2 data t v < 0 then some 1 else if t.kind ≠ 5 then some 6 else if c < 0 ∨ ((data.getD t.num.toNat ⟨[], 0, []⟩).cons.length : Int) ≤ c then some 8 else if zaR data t c = none then some 0 else none
mutual
theorem zuK : ∀ t : VT, (za7 t).nodes ≤ t.nodes
 | .mk k n ks => by
  have := zuJ ks
  simp only [za7, VT.nodes, IT.nodes]
  split
  ·omega
  ·simp [IT.nodesL]
theorem zuJ : ∀ ts : List VT, IT.nodesL (zbx ts) ≤ VT.nodesL ts
 | [] => by simp [zbx, IT.nodesL, VT.nodesL]
 | t :: ts => by
  have := zuK t
  have := zuJ ts
  simp only [zbx, IT.nodesL, VT.nodesL]
  omega
end
theorem zho : ∀ (ps : List Nat) (row xs : List IT) (x : IT), x ∈ fill row ps xs → x ∈ row ∨ x ∈ xs
 | [], row, xs, x, h => by simp at h; exact .inl h
 | p :: ps, row, [], x, h => by simp [fill] at h; exact .inl h
 | p :: ps, row, y :: xs, x, h => by
  rw [fill] at h
  rcases zho ps _ xs x h with h | h
  ·rcases List.mem_or_eq_of_mem_set h with h | rfl
   ·exact .inl h
   ·exact .inr (by simp)
  ·exact .inr (by simp [h])
theorem zAr (l : List IT) (n : Nat) : IT.nodesL (l.drop n) ≤ IT.nodesL l := by
 have := IT.nodesL_app (l.take n) (l.drop n)
 rw [List.take_append_drop] at this
 omega
theorem zfW {N : Nat} : ∀ (ps : List Nat) (row l : List IT), (∀ x ∈ row, x.nodes ≤ N) → IT.nodesL l + 1 ≤ N → ∀ r ∈ zba row ps l, ∀ x ∈ r, x.nodes ≤ N
 | [], row, l, hr, hl, r, h => by
  simp only [zba] at h
  split at h <;> simp at h
  subst h; exact hr
 | p :: ps, row, l, hr, hl, r, h => by
  rw [zzG, List.mem_flatMap] at h
  obtain ⟨n, _, h⟩ := h
  refine zfW ps _ _ (fun x hx => ?_) (by have := zAr l n; omega) r h
  rcases List.mem_or_eq_of_mem_set hx with hx | rfl
  ·exact hr x hx
  ·have := IT.nodesL_take_le l n
   simp only [IT.nodes]; omega
theorem zrZ (ps : List Nat) (row l : List IT) : ∀ r ∈ zba row ps l, r.length = row.length := by
 rw [zfV]
 intro r h
 obtain ⟨s, _, rfl⟩ := List.mem_map.1 h
 simp
theorem zsY {l : List IT} {x : IT} (h : x ∈ l) : x.nodes ≤ IT.nodesL l := by
 induction l with
 | nil => simp at h
 | cons y l ih =>
  simp only [IT.nodesL]
  rcases List.mem_cons.1 h with rfl | h
  ·omega
  ·have := ih h; omega
theorem zrI {l : List VT} {P : List Nat} (h : ∀ x ∈ l, x.nodes ≤ 200) : ∀ x ∈ zaH l P, x.nodes ≤ 200 := by
 intro x hx
 rcases zho _ _ _ _ hx with hx | hx
 ·rw [List.eq_of_mem_replicate hx]; simp [IT.nodes, IT.nodesL]
 ·obtain ⟨j, _, rfl⟩ := List.mem_map.1 hx
  refine Nat.le_trans (zuK _) ?_
  rw [List.getD_eq_getElem?_getD]
  cases hj : l[j]? with
  | none => simp [VT.nodes, VT.nodesL]
  | some y => exact h y (List.mem_of_getElem? hj)
theorem ztG (l : List VT) (bs : List Bool) (c : Int) (kids : List IT) : ∀ r ∈ zb8 l bs c kids, r.length = l.length := by
 intro r h
 unfold zb8 at h
 rcases List.mem_append.1 h with h | h
 ·rw [zrZ _ _ _ r h]; simp [zaH]
 ·unfold zcn at h
  split at h
  ·simp at h
  ·split at h
   ·rw [zrZ _ _ _ r h]; simp [zaH]
   ·simp at h
theorem zA1 {l : List VT} {bs : List Bool} {c : Int} {kids : List IT} (hl : ∀ x ∈ l, x.nodes ≤ 200) (hk : IT.nodesL kids + 1 ≤ 1000) : ∀ r ∈ zb8 l bs c kids, ∀ x ∈ r, x.nodes ≤ 1000 := by
 have hb := zrI (P := pos false bs bs.length) hl
 intro r h
 unfold zb8 at h
 rcases List.mem_append.1 h with h | h
 ·exact zfW _ _ _ (fun x hx => by have := hb x hx; omega) hk r h
 ·unfold zcn at h
  split at h
  ·simp at h
  ·rename_i c' ps rest
   simp only [IT.nodesL, IT.nodes] at hk
   split at h
   ·refine zfW _ _ _ (fun x hx => ?_) (by omega) r h
    rcases zho _ _ _ _ hx with hx | hx
    ·have := hb x hx; omega
    ·have := zsY hx; omega
   ·simp at h
theorem zim {a n : Nat} (ha : a ≤ 7) (hn : n ≤ 8) : a ^ n ≤ 100000000 :=
 Nat.le_trans (Nat.pow_le_pow_left ha n) (Nat.le_trans (Nat.pow_le_pow_right (by omega) hn) (by decide))
theorem ztF {l : List VT} {bs : List Bool} {c : Int} {kids : List IT} (hk : kids.length ≤ 6) (hb : bs.length ≤ 8) : (zb8 l bs c kids).length ≤ 200000000 := by
 have hR := zdB true bs bs.length
 unfold zb8
 rw [List.length_append]
 have h1 := Nat.le_trans (zl1 (pos true bs bs.length) (zaH l (pos false bs bs.length)) kids) (zim (by omega) (by omega))
 have : (zcn (zaH l (pos false bs bs.length)) (pos false bs bs.length) (pos true bs bs.length) c kids).length ≤ 100000000 := by
  unfold zcn
  split
  ·simp
  ·rename_i c' ps rest
   split
   ·exact Nat.le_trans (zl1 _ _ _) (zim (by simp at hk; omega) (by omega))
   ·simp
 omega
def d0 : IT := .mk 0 []
def tz : VT := .mk 0 0 []
theorem zug (f : Nat → Int) (b : Nat → Bool) : ∀ l : List Nat, (l.map f).sum = ((l.filter fun j => b j == false).map f).sum + ((l.filter fun j => b j == true).map f).sum
 | [] => by simp
 | x :: l => by
  have := zug f b l
  cases h : b x <;> simp [List.filter_cons, h, this] <;> omega
theorem znn {data : List Dat} (m n : Int) (kk : List IT) (ks : List VT) : rdV data (.mk m kk) (.mk 5 n ks) = if m = 0 ∧ kk.length ≤ 6 then rdE data kk (.mk 5 n ks) 0 else -1 := by simp [rdV, VT.kind]
theorem znj {v : Bool} {bs : List Bool} {j : Nat} (h : j < bs.length) (hb : bs.getD j false = v) : j ∈ pos v bs bs.length := by
 simp [List.getD_eq_getElem?_getD, h] at hb
 simp [pos, h, hb]
mutual
theorem zuL {data : List Dat} : ∀ x : VT, rdV data (za7 x) x = 0
 | .mk k n ks => by
  have hA := zuM (data := data) ks 0 (by omega) (by omega)
  by_cases h6 : k = 6
  ·subst h6
   have : rdV data (za7 (.mk 6 n ks)) (.mk 6 n ks) = rdA data (zbx ks) ks 0 := by simp [za7, rdV, VT.kind, VT.kids, zgL]
   rw [this, hA]
  ·by_cases h7 : k = 7
   ·subst h7
    simp [za7, rdV, VT.kind]
   ·by_cases h5 : k = 5
    ·subst h5
     simp [za7, rdV, VT.kind, rdE]
    ·simp [za7, rdV, VT.kind, h6, h7, h5]
theorem zuM {data : List Dat} : ∀ (ts : List VT) (a : Int), 0 ≤ a → a ≤ 6 → rdA data (zbx ts) ts a = a
 | [], a, _, _ => by simp only [zbx, rdA]
 | t :: ts, a, h, h6 => by
  have h1 := zuL (data := data) t
  rw [zbx, ztw, h1, if_neg (by omega), Int.add_zero, zuM ts a h h6]
end
theorem zgA {data : List Dat} (h8 : ∀ D ∈ data, D.cons.length ≤ 8) (t : VT) : ∀ (rs : List (List IT)) (a : Int), 0 ≤ a → a ≤ 6 → 0 ≤ rdE data rs.flatten t a → (∀ r ∈ rs, 0 ≤ rdE data r t 0) ∧ rdE data rs.flatten t a = a + (rs.map fun r => rdE data r t 0).sum
 | [], a, h, h6, _ => by simp only [List.flatten_nil, rdE]; simp
 | r :: rs, a, h, h6, hd => by
  rw [List.flatten_cons, zty h8 _ _ _ _ h h6, znm r t a h h6] at hd ⊢
  by_cases hr : rdE data r t 0 < 0 ∨ a + rdE data r t 0 > 6
  ·rw [zcB hr] at hd; simp at hd
  ·rw [ze0 (by omega) (by omega)] at hd ⊢
   rw [if_neg (by omega)] at hd ⊢
   obtain ⟨g1, g2⟩ := zgA h8 t rs _ (by omega) (by omega) hd
   refine ⟨fun x hx => ?_, by rw [g2]; simp; omega⟩
   rcases List.mem_cons.1 hx with rfl | hx
   ·omega
   ·exact g1 x hx
theorem ziq {data : List Dat} : ∀ (vs : List IT) (ts : List VT) (a : Int), 0 ≤ a → vs.length = ts.length → 0 ≤ rdA data vs ts a → (∀ k (h1 : k < vs.length) (h2 : k < ts.length), 0 ≤ rdV data vs[k] ts[k]) ∧ rdA data vs ts a = a + (List.zipWith (rdV data) vs ts).sum
 | [], [], a, h, _, _ => by simp only [rdA]; simp
 | [], _ :: _, _, _, hl, _ => by simp at hl
 | _ :: _, [], _, _, hl, _ => by simp at hl
 | v :: vs, t :: ts, a, h, hl, hd => by
  rw [ztw] at hd ⊢
  by_cases hr : rdV data v t < 0 ∨ a + rdV data v t > 6
  ·rw [if_pos hr] at hd; omega
  ·rw [if_neg hr] at hd ⊢
   obtain ⟨g1, g2⟩ := ziq vs ts _ (by omega) (by simpa using hl) hd
   refine ⟨fun k h1 h2 => ?_, by rw [g2]; simp; omega⟩
   cases k with
   | zero => simp; omega
   | succ k => simpa using g1 k (by simpa using h1) (by simpa using h2)
theorem zhn {R : List Nat} {row xs : List IT} (hn : R.Nodup) (hl : xs.length = R.length) (hr : ∀ p ∈ R, p < row.length) : (R.map fun j => (fill row R xs).getD j d0) = xs := by
 refine List.ext_getElem (by simp [hl]) fun k h1 h2 => ?_
 have := zma R row xs hn hl hr k (by simpa using h1) h2
 simp [List.getD_eq_getElem?_getD, this]
theorem zsg {R P : List Nat} {row xs : List IT} (hd : ∀ p ∈ P, p ∉ R) : (P.map fun j => (fill row R xs).getD j d0) = P.map fun j => row.getD j d0 :=
 List.map_congr_left fun j hj => by rw [List.getD_eq_getElem?_getD, ze5 R row xs j (hd j hj), List.getD_eq_getElem?_getD]
theorem zuh : ∀ P : List Nat, (P.map fun _ => (0 : Int)).sum = 0
 | [] => rfl
 | p :: P => by simp only [List.map_cons, List.sum_cons, zuh P, Int.zero_add]
theorem zuN {data : List Dat} (f : Nat → IT) (g : Nat → VT) : ∀ P : List Nat, (P.map fun j => rdV data (f j) (g j)) = List.zipWith (rdV data) (P.map f) (P.map g)
 | [] => rfl
 | p :: P => by simp only [List.map_cons, List.zipWith_cons_cons, zuN f g P]
theorem ztM {data : List Dat} {n : Int} {ks : List VT} {l : List VT} {R : List Nat} {r : List IT} {s : List (List IT)} (h8 : ∀ D ∈ data, D.cons.length ≤ 8) (hrt : ∀ j ∈ R, l.getD j tz = .mk 5 n ks) (hm : (R.map fun j => r.getD j d0) = s.map (IT.mk 0)) (hs : ∀ x ∈ s, 0 ≤ rdE data x (.mk 5 n ks) 0) :
  (∀ j ∈ R, 0 ≤ rdV data (r.getD j d0) (l.getD j tz)) ∧ (R.map fun j => rdV data (r.getD j d0) (l.getD j tz)).sum = (s.map fun x => rdE data x (.mk 5 n ks) 0).sum := by
 have h5 : ∀ x ∈ s, rdV data (IT.mk 0 x) (.mk 5 n ks) = rdE data x (.mk 5 n ks) 0 := fun x hx => by
  have h1 := zir (data := data) x (.mk 5 n ks) 0 (by omega)
  have h2 := ztA (h8 := h8) x (.mk 5 n ks)
  have h3 := hs x hx
  rw [znn, if_pos ⟨rfl, by omega⟩]
 have e1 : (R.map fun j => rdV data (r.getD j d0) (l.getD j tz)) = (R.map fun j => r.getD j d0).map fun x => rdV data x (.mk 5 n ks) := by
  rw [List.map_map]
  exact List.map_congr_left fun j hj => by simp only [Function.comp_apply]; rw [hrt j hj]
 have e2 : (R.map fun j => rdV data (r.getD j d0) (l.getD j tz)) = s.map fun x => rdE data x (.mk 5 n ks) 0 := by
  rw [e1, hm, List.map_map]
  exact List.map_congr_left fun x hx => h5 x hx
 refine ⟨fun j hj => ?_, by rw [e2]⟩
 have : rdV data (r.getD j d0) (l.getD j tz) ∈ R.map fun j => rdV data (r.getD j d0) (l.getD j tz) := List.mem_map.2 ⟨j, hj, rfl⟩
 rw [e2] at this
 obtain ⟨x, hx, he⟩ := List.mem_map.1 this
 rw [← he]
 exact hs x hx
theorem zAZ {data : List Dat} (h8 : ∀ D ∈ data, D.cons.length ≤ 8) {n : Int} {ks : List VT} {c : Int} {l : List VT} {bs : List Bool} {kids : List IT} (hlb : l.length = bs.length) (hpay : zbn data (.mk 5 n ks) c = some (pick l bs))
  (hrt : ∀ j, bs.getD j false = true → l.getD j tz = .mk 5 n ks) (hd : 0 ≤ rdE data kids (.mk 5 n ks) 0) (r : List IT) (hr : r ∈ zb8 l bs c kids) :
  (∀ j, j < bs.length → 0 ≤ rdV data (r.getD j d0) (l.getD j tz)) ∧ (((List.range bs.length).map fun j => rdV data (r.getD j d0) (l.getD j tz)).sum = rdE data kids (.mk 5 n ks) 0 ∨ ((List.range bs.length).map fun j => rdV data (r.getD j d0) (l.getD j tz)).sum = rdE data kids (.mk 5 n ks) 0 - 1) := by
 have hsum := zug (fun j => rdV data (r.getD j d0) (l.getD j tz)) (fun j => bs.getD j false) (List.range bs.length)
 have hpk := zdj hlb tz l.length (Nat.le_refl _)
 rw [List.take_length, hlb, List.take_length] at hpk
 have hPn : (pos false bs bs.length).Nodup := List.Pairwise.filter _ List.nodup_range
 have hRn : (pos true bs bs.length).Nodup := List.Pairwise.filter _ List.nodup_range
 have hPl : ∀ j ∈ pos false bs bs.length, j < l.length := fun j hj => by have := zdk hj; omega
 have hRl : ∀ j ∈ pos true bs bs.length, j < l.length := fun j hj => by have := zdk hj; omega
 have hRb : ∀ j ∈ pos true bs bs.length, bs.getD j false = true := fun j hj => by
  simp [pos] at hj; rw [List.getD_eq_getElem?_getD]; exact hj.2
 have hPb : ∀ j ∈ pos false bs bs.length, bs.getD j false = false := fun j hj => by
  simp [pos] at hj; rw [List.getD_eq_getElem?_getD]; exact hj.2
 have hPR : ∀ j ∈ pos false bs bs.length, j ∉ pos true bs bs.length := fun j hj h => by
  have h1 := hPb j hj
  have h2 := hRb j h
  rw [h1] at h2
  cases h2
 have hall : ∀ j, j < bs.length → j ∈ pos false bs bs.length ∨ j ∈ pos true bs bs.length := fun j hj => by
  cases hb : bs.getD j false with
  | true => exact .inr (znj hj hb)
  | false => exact .inl (znj hj hb)
 have hrt' : ∀ j ∈ pos true bs bs.length, l.getD j tz = .mk 5 n ks := fun j hj => hrt j (hRb j hj)
 rw [show ((List.range bs.length).filter fun j => bs.getD j false == false) = pos false bs bs.length from rfl, show ((List.range bs.length).filter fun j => bs.getD j false == true) = pos true bs bs.length from rfl] at hsum
 rw [hsum]
 have hbl : ∀ P, (zaH l P).length = l.length := fun P => by simp [zaH]
 unfold zb8 at hr
 generalize pos false bs bs.length = P at *
 generalize pos true bs bs.length = R at *
 have hr0 := List.mem_append.1 hr
 clear hr
 rcases hr0 with hr | hr
 ·rw [zfV] at hr
  obtain ⟨s, hs, rfl⟩ := List.mem_map.1 hr
  have hfl := znx _ _ s hs
  have hsl := zny _ _ s hs
  rw [← hfl] at hd
  obtain ⟨g1, g2⟩ := zgA h8 (.mk 5 n ks) s 0 (by omega) (by omega) hd
  rw [hfl] at g2
  have hm := zhn (row := zaH l P) (xs := s.map (IT.mk 0)) hRn (by simpa using hsl) (fun p hp => by rw [hbl]; exact hRl p hp)
  obtain ⟨d1, d2⟩ := ztM h8 hrt' hm g1
  have hz : ∀ j ∈ P, rdV data ((fill (zaH l P) R (s.map (IT.mk 0))).getD j d0) (l.getD j tz) = 0 := by
   have e1 := zsg (row := zaH l P) (xs := s.map (IT.mk 0)) hPR
   have e2 := zhn (row := List.replicate l.length (.mk 0 [])) (xs := P.map fun j => za7 (l.getD j (.mk 0 0 []))) hPn (by simp) (fun p hp => by simpa using hPl p hp)
   rw [show fill (List.replicate l.length (.mk 0 [])) P (P.map fun j => za7 (l.getD j (.mk 0 0 []))) = zaH l P from rfl] at e2
   rw [e2] at e1
   intro j hj
   rw [List.map_inj_left.1 e1 j hj]
   exact zuL _
  have hzs : (P.map fun j => rdV data ((fill (zaH l P) R (s.map (IT.mk 0))).getD j d0) (l.getD j tz)).sum = 0 := by
   have : (P.map fun j => rdV data ((fill (zaH l P) R (s.map (IT.mk 0))).getD j d0) (l.getD j tz)) = P.map fun _ => (0 : Int) := List.map_congr_left hz
   rw [this, zuh]
  refine ⟨fun j hj => ?_, .inl ?_⟩
  ·rcases hall j hj with h | h
   ·rw [hz j h]; exact Int.le_refl _
   ·exact d1 j h
  ·rw [hzs, d2, g2]
 ·cases kids with
  | nil => simp [zcn] at hr
  | cons x rest =>
   obtain ⟨c', ps⟩ := x
   simp only [zcn] at hr
   split at hr
   ·rename_i hcc
    subst hcc
    rw [zfV] at hr
    obtain ⟨s, hs, rfl⟩ := List.mem_map.1 hr
    have hfl := znx _ _ s hs
    have hsl := zny _ _ s hs
    rw [zd6] at hd ⊢
    by_cases h1 : c' < 0 ∨ 8 ≤ c'
    ·rw [if_pos h1] at hd; omega
    ·rw [if_neg h1, hpay] at hd ⊢
     simp only at hd ⊢
     by_cases h2 : (pick l bs).length = ps.length
     ·rw [if_pos h2] at hd ⊢
      by_cases h3 : rdA data ps (pick l bs) 0 < 0 ∨ 0 + 1 + rdA data ps (pick l bs) 0 > 6
      ·rw [if_pos h3] at hd; omega
      ·rw [if_neg h3] at hd ⊢
       rw [← hfl] at hd
       obtain ⟨g1, g2⟩ := zgA h8 (.mk 5 n ks) s _ (by omega) (by omega) hd
       rw [hfl] at g2
       rw [hpk] at h2 h3 g2 ⊢
       obtain ⟨p1, p2⟩ := ziq (data := data) ps (P.map fun j => l.getD j tz) 0 (by omega) h2.symm (by omega)
       have hm := zhn (row := fill (zaH l P) P ps) (xs := s.map (IT.mk 0)) hRn (by simpa using hsl) (fun p hp => by rw [ze4, hbl]; exact hRl p hp)
       obtain ⟨d1, d2⟩ := ztM h8 hrt' hm g1
       have e1 := zsg (row := fill (zaH l P) P ps) (xs := s.map (IT.mk 0)) hPR
       have e2 := zhn (row := zaH l P) (xs := ps) hPn (by simpa using h2.symm) (fun p hp => by rw [hbl]; exact hPl p hp)
       rw [e2] at e1
       have e3 : (P.map fun j => rdV data ((fill (fill (zaH l P) P ps) R (s.map (IT.mk 0))).getD j d0) (l.getD j tz)) = List.zipWith (rdV data) ps (P.map fun j => l.getD j tz) := by
        rw [zuN, e1]
       refine ⟨fun j hj => ?_, .inr ?_⟩
       ·rcases hall j hj with h | h
        ·obtain ⟨k, hk, rfl⟩ := List.getElem_of_mem h
         have := p1 k (by rw [← h2]; simpa using hk) (by simpa using hk)
         have e4 : (fill (fill (zaH l P) P ps) R (s.map (IT.mk 0))).getD P[k] d0 = ps[k]'(by rw [← h2]; simpa using hk) := by
          have := congrArg (fun x => x[k]?) e1
          simp only [List.getElem?_map, List.getElem?_eq_getElem hk, Option.map_some, List.getElem?_eq_getElem (show k < ps.length by rw [← h2]; simpa using hk), Option.some.injEq] at this
          exact this
         rw [e4]
         simpa using this
        ·exact d1 j h
       ·rw [e3, d2, g2]
        omega
     ·rw [if_neg h2] at hd; omega
   ·simp at hr
end Go.Proofs.YtjkkonpjecoieaaGreat
namespace Go.Abs
def zaB {α : Type} : List (α → Nat) → List α → Nat
 | [], _ => 1
 | _ :: _, [] => 0
 | w :: ws, n :: ns => w n * zaB ws ns + zaB (w :: ws) ns
theorem ziu {α : Type} (w : α → Nat) (n : α) : ∀ (ws : List (α → Nat)) (P : List α), zaB (ws ++ [w]) (P ++ [n]) = zaB (ws ++ [w]) P + zaB ws P * w n
 | [], [] => by simp [zaB]
 | [], p :: P => by
  have := ziu w n [] P
  simp only [List.nil_append, List.cons_append, zaB] at this ⊢
  omega
 | v :: ws, [] => by
  cases ws <;> simp [zaB]
 | v :: ws, p :: P => by
  have h1 := ziu w n ws P
  have h2 := ziu w n (v :: ws) P
  simp only [List.cons_append, zaB] at h2 ⊢
  rw [h1, h2]
  grind
theorem ztT {α : Type} : ∀ ws : List (α → Nat), zaB ws ([] : List α) = if ws.isEmpty then 1 else 0
 | [] => rfl
 | _ :: _ => rfl
def zaY (l : List Nat) : Nat := l.foldr (· + ·) 0
@[simp] theorem zQ8 : zaY [] = 0 := rfl
@[simp] theorem zgI (a : Nat) (l : List Nat) : zaY (a :: l) = a + zaY l := rfl
theorem zgH : ∀ (a b : List Nat), zaY (a ++ b) = zaY a + zaY b
 | [], b => by simp
 | x :: a, b => by simp [zgH a b]; omega
theorem zB7 {a b : List Nat} (h : a.Perm b) : zaY a = zaY b := by
 induction h with
 | nil => rfl
 | cons x _ ih => simp [ih]
 | swap x y l => simp; omega
 | trans _ _ h1 h2 => rw [h1, h2]
theorem znF {α : Type} (c : Nat) (f : α → Nat) : ∀ l : List α, zaY (l.map fun a => c * f a) = c * zaY (l.map f)
 | [] => by simp
 | a :: l => by simp [znF c f l, Nat.mul_add]
theorem zud {α β : Type} (f : β → Nat) (g : α → List β) : ∀ l : List α, zaY ((l.flatMap g).map f) = zaY (l.map fun a => zaY ((g a).map f))
 | [] => by simp
 | a :: l => by simp [List.flatMap_cons, zgH, zud f g l]
theorem znz {α : Type} : ∀ (ws : List (α → Nat)) (A B : List α), zaB ws (A ++ B) = zaY ((List.range (ws.length + 1)).map fun n => zaB (ws.take n) A * zaB (ws.drop n) B)
 | [], A, B => by simp [zaB]
 | w :: ws, [], B => by
  rw [List.nil_append, List.range_succ_eq_map, List.map_cons, List.map_map, zgI]
  have : zaY ((List.range (w :: ws).length).map ((fun n => zaB ((w :: ws).take n) [] * zaB ((w :: ws).drop n) B) ∘ Nat.succ)) = 0 := by
   generalize (List.range (w :: ws).length) = l
   induction l with
   | nil => simp
   | cons a l ih => simp [zaB, ih]
  rw [this]; simp [zaB]
 | w :: ws, a :: A, B => by
  have h1 := znz ws A B
  have h2 := znz (w :: ws) A B
  rw [List.range_succ_eq_map, List.map_cons, List.map_map, zgI] at h2 ⊢
  simp only [List.cons_append, zaB, h1, h2]
  simp only [List.take_zero, List.drop_zero, zaB, Nat.one_mul, Function.comp_def, List.take_succ_cons, List.drop_succ_cons, List.length_cons]
  rw [← znF]
  generalize (List.range (ws.length + 1)) = l
  have : ∀ l : List Nat, zaY (l.map fun n => w a * (zaB (ws.take n) A * zaB (ws.drop n) B)) + zaY (l.map fun n => zaB (w :: ws.take n) A * zaB (ws.drop n) B) = zaY (l.map fun n => (w a * zaB (ws.take n) A + zaB (w :: ws.take n) A) * zaB (ws.drop n) B) := by
   intro l
   induction l with
   | nil => simp
   | cons x l ih => simp only [List.map_cons, zgI]; rw [← ih]; grind
  have := this l
  omega
theorem zBj {α : Type} (ws : List (α → Nat)) (a : α) (l : List α) : zaB ws l ≤ zaB ws (a :: l) := by
 cases ws <;> simp [zaB]
theorem ztS {α : Type} (w : α → Nat) (ws : List (α → Nat)) : ∀ l : List α, zaB (w :: ws) l ≤ zaY (l.map w) * zaB ws l
 | [] => by simp [zaB]
 | a :: l => by
  have ih := ztS w ws l
  have h1 := zBj ws a l
  simp only [zaB, List.map_cons, zgI, Nat.add_mul]
  have h2 : w a * zaB ws l ≤ w a * zaB ws (a :: l) := Nat.mul_le_mul_left _ h1
  have h3 : zaY (l.map w) * zaB ws l ≤ zaY (l.map w) * zaB ws (a :: l) := Nat.mul_le_mul_left _ h1
  omega
theorem zue {α : Type} {w : α → Nat} {b : Nat} : ∀ l : List α, (∀ a ∈ l, w a ≤ b) → zaY (l.map w) ≤ l.length * b
 | [], _ => by simp
 | a :: l, h => by
  have h1 := h a (by simp)
  have h2 := zue l (fun x hx => h x (by simp [hx]))
  simp only [List.map_cons, zgI, List.length_cons, Nat.succ_mul]
  omega
end Go.Abs
namespace Go.Abs
open Go
def zaP (g : Nat → IT → Nat) : Nat → List IT → Nat
 | _, [] => 1
 | k, x :: xs => g k x * zaP g (k + 1) xs
theorem ztr (g : Nat → IT → Nat) : ∀ (k : Nat) (row : List IT) (p : Nat) (x : IT) (h : p < row.length), zaP g k (row.set p x) * g (k + p) row[p] = zaP g k row * g (k + p) x
 | k, [], p, x, h => by simp at h
 | k, y :: row, 0, x, h => by simp [zaP]; grind
 | k, y :: row, p + 1, x, h => by
  have := ztr g (k + 1) row p x (by simpa using h)
  rw [show k + 1 + p = k + (p + 1) by omega] at this
  simp only [List.set_cons_succ, zaP, List.getElem_cons_succ]
  grind
theorem zts (g : Nat → IT → Nat) (row : List IT) (p : Nat) (x : IT) (h : p < row.length) (h1 : g p row[p] = 1) : zaP g 0 (row.set p x) = zaP g 0 row * g p x := by
 have := ztr g 0 row p x h
 simp only [Nat.zero_add] at this
 rw [h1, Nat.mul_one] at this
 exact this
theorem ztq (g : Nat → IT → Nat) : ∀ (k : Nat) (row : List IT), (∀ (p : Nat) (h : p < row.length), g (k + p) row[p] = 1) → zaP g k row = 1
 | k, [], _ => rfl
 | k, x :: row, h => by
  have h0 := h 0 (by simp)
  rw [zaP, ztq g (k + 1) row (fun p hp => by have := h (p + 1) (by simpa using hp); rw [show k + 1 + p = k + (p + 1) by omega]; simpa using this)]
  simpa using h0
theorem ztp (g : Nat → IT → Nat) : ∀ (P : List Nat) (row xs : List IT), P.Nodup → xs.length = P.length → (∀ p ∈ P, ∃ h : p < row.length, g p row[p] = 1) →
  zaP g 0 (fill row P xs) = zaP g 0 row * ((P.zip xs).foldr (fun e a => g e.1 e.2 * a) 1)
 | [], row, xs, _, hl, _ => by simp
 | p :: P, row, [], _, hl, _ => by simp at hl
 | p :: P, row, x :: xs, hn, hl, hp => by
  rw [List.nodup_cons] at hn
  obtain ⟨h0, h1⟩ := hp p (by simp)
  rw [fill, ztp g P _ xs hn.2 (by simpa using hl) (fun q hq => ?_), zts g row p x h0 h1]
  ·simp only [List.zip_cons_cons, List.foldr_cons]; grind
  ·obtain ⟨h2, h3⟩ := hp q (by simp [hq])
   refine ⟨by simpa using h2, ?_⟩
   have hne : p ≠ q := by rintro rfl; exact hn.1 hq
   rw [List.getElem_set_ne hne]; exact h3
theorem zl5 {β : Type} (g : Nat → IT → Nat) (wt : IT → (β → Nat)) (nodes : Nat → List β) : ∀ (ps : List Nat) (row l : List IT), ps.Nodup →
  (∀ p ∈ ps, ∀ s : List IT, g p (.mk 0 s) = zaB (s.map wt) (nodes p)) → (∀ p ∈ ps, ∃ h : p < row.length, row[p] = .mk 0 []) →
  zaY ((zba row ps l).map (zaP g 0)) = zaP g 0 row * zaB (l.map wt) (ps.flatMap nodes)
 | [], row, l, _, _, _ => by
  simp only [zba, List.flatMap_nil, ztT]
  cases l <;> simp
 | p :: ps, row, l, hn, hg, hr => by
  rw [List.nodup_cons] at hn
  obtain ⟨h0, h1⟩ := hr p (by simp)
  have hg1 : g p row[p] = 1 := by rw [h1, hg p (by simp)]; simp [zaB]
  have key : ∀ n, zaY ((zba (row.set p (.mk 0 (l.take n))) ps (l.drop n)).map (zaP g 0)) = zaP g 0 row * (zaB ((l.map wt).take n) (nodes p) * zaB ((l.map wt).drop n) (ps.flatMap nodes)) := by
   intro n
   rw [zl5 g wt nodes ps _ _ hn.2 (fun q hq => hg q (by simp [hq])) (fun q hq => ?_), zts g row p _ h0 hg1, hg p (by simp), List.map_take, List.map_drop, Nat.mul_assoc]
   obtain ⟨h2, h3⟩ := hr q (by simp [hq])
   refine ⟨by simpa using h2, ?_⟩
   have hne : p ≠ q := by rintro rfl; exact hn.1 hq
   rw [List.getElem_set_ne hne]; exact h3
  rw [zba, zud, List.flatMap_cons, znz, ← znF, List.length_map]
  congr 1
  exact List.map_congr_left fun n _ => key n
end Go.Abs
namespace Go.Proofs.YtjkkonpjecoieaaGreat
open Go Go.Abs
mutual
def atV (data : List Dat) : IT → VT → VT → Nat
 | .mk n ks, t, v =>
  if t.kind = 6 then atL data ks t.kids v.kids
  else if t.kind = 7 then chs v.kids.length n.toNat
  else if t.kind = 5 then zaB (wtL data ks t) (zbl (zbd data t.num.toNat) v)
  else 1
def atL (data : List Dat) : List IT → List VT → List VT → Nat
 | [], _, _ => 1
 | i :: l, ts, vs => match ts, vs with
  | t :: ts, v :: vs => atV data i t v * atL data l ts vs
  | _, _ => 1
def wtL (data : List Dat) : List IT → VT → List (VT → Nat)
 | [], _ => []
 | e :: es, t => wtE data e t :: wtL data es t
def wtE (data : List Dat) : IT → VT → VT → Nat
 | .mk c ks, t, n => if n.num = c then atL data ks ((zbn data t c).getD []) (pick n.kids ((zbd data t.num.toNat).getD c.toNat [])) else 0
end
theorem zeF (data : List Dat) (t : VT) : ∀ es : List IT, wtL data es t = es.map fun e => wtE data e t
 | [] => by simp [wtL]
 | e :: es => by simp [wtL, zeF data t es]
mutual
theorem zrG (data : List Dat) : ∀ (t v : VT), atV data (za7 t) t v = 1
 | .mk k n ks, v => by
  have := zrE data ks v.kids
  unfold za7
  rw [atV]
  by_cases h6 : k = 6
  ·simp [h6, VT.kind, VT.kids]
   simpa [VT.kids] using this
  ·by_cases h7 : k = 7
   ·simp [h6, h7, VT.kind, VT.kids]
   ·simp only [h6, VT.kind, if_false, h7]
    split <;> simp [wtL, zaB]
theorem zrE (data : List Dat) : ∀ (ts vs : List VT), atL data (zbx ts) ts vs = 1
 | [], vs => by simp [zbx, atL]
 | t :: ts, [] => by simp [zbx, atL]
 | t :: ts, v :: vs => by simp [zbx, atL, zrG data t v, zrE data ts vs]
end
theorem zrF (data : List Dat) (tf vf : Nat → VT) : ∀ (P : List Nat) (xs : List IT), xs.length = P.length → (P.zip xs).foldr (fun e a => atV data e.2 (tf e.1) (vf e.1) * a) 1 = atL data xs (P.map tf) (P.map vf)
 | [], [], _ => by simp [atL]
 | [], _ :: _, h => by simp at h
 | _ :: _, [], h => by simp at h
 | p :: P, x :: xs, h => by
  have := zrF data tf vf P xs (by simpa using h)
  simp [atL, this]
theorem ztm (rs : List (List Bool)) : ∀ (vs : List VT) (bs : List Bool), vs.length = bs.length → zbD rs vs bs = (pos true bs bs.length).flatMap fun j => zbl rs (vs.getD j tz) := by
 have key : ∀ (vs : List VT) (bs : List Bool), vs.length = bs.length → zbD rs vs bs = ((List.range bs.length).flatMap fun j => if bs.getD j false = true then zbl rs (vs.getD j tz) else []) := by
  intro vs
  induction vs with
  | nil => intro bs h; cases bs <;> simp [zbD] at h ⊢
  | cons v vs ih =>
   intro bs h
   cases bs with
   | nil => simp at h
   | cons b bs =>
    rw [zbD, ih bs (by simpa using h), List.length_cons, List.range_succ_eq_map, List.flatMap_cons, List.flatMap_map]
    simp
 intro vs bs h
 rw [key vs bs h]
 unfold pos
 generalize List.range bs.length = l
 induction l with
 | nil => rfl
 | cons a l ih =>
  rw [List.flatMap_cons, ih]
  cases hb : bs.getD a false <;> simp [List.filter_cons, hb, List.getD_eq_getElem?_getD] <;> simp [List.getD_eq_getElem?_getD] at hb <;> simp [hb]
theorem zA3 {data : List Dat} {n c : Int} {ks : List VT} {l vs : List VT} {bs : List Bool} {kids : List IT} (hlb : l.length = bs.length) (hvl : vs.length = l.length)
  (hbs : (zbd data n.toNat).getD c.toNat [] = bs) (hpay : zbn data (.mk 5 n ks) c = some (pick l bs)) (hrt : ∀ j, bs.getD j false = true → l.getD j tz = .mk 5 n ks)
  (hk : ∀ ps rest, kids = .mk c ps :: rest → ps.length = (pick l bs).length) :
  zaY ((zb8 l bs c kids).map (zaP (fun k x => atV data x (l.getD k tz) (vs.getD k tz)) 0)) = atV data (.mk 0 kids) (.mk 5 n ks) (.mk 5 c vs) := by
 have hPn : (pos false bs bs.length).Nodup := List.Pairwise.filter _ List.nodup_range
 have hRn : (pos true bs bs.length).Nodup := List.Pairwise.filter _ List.nodup_range
 have hPl : ∀ j ∈ pos false bs bs.length, j < l.length := fun j hj => by have := zdk hj; omega
 have hRl : ∀ j ∈ pos true bs bs.length, j < l.length := fun j hj => by have := zdk hj; omega
 have hRb : ∀ j ∈ pos true bs bs.length, bs.getD j false = true := fun j hj => by
  simp [pos] at hj; rw [List.getD_eq_getElem?_getD]; exact hj.2
 have hPb : ∀ j ∈ pos false bs bs.length, bs.getD j false = false := fun j hj => by
  simp [pos] at hj; rw [List.getD_eq_getElem?_getD]; exact hj.2
 have hPR : ∀ j ∈ pos true bs bs.length, j ∉ pos false bs bs.length := fun j hj h => by
  have h1 := hPb j h
  have h2 := hRb j hj
  rw [h1] at h2
  cases h2
 have hpk := zdj hlb tz l.length (Nat.le_refl _)
 rw [List.take_length, hlb, List.take_length] at hpk
 have hpv := zdj (l := vs) (bs := bs) (by omega) tz vs.length (Nat.le_refl _)
 rw [List.take_length, hvl, hlb, List.take_length] at hpv
 have hbl : ∀ P, (zaH l P).length = l.length := fun P => by simp [zaH]
 let g : Nat → IT → Nat := fun k x => atV data x (l.getD k tz) (vs.getD k tz)
 -- the base row counts 1 at each place
 have hb1 : ∀ (p : Nat) (h : p < (zaH l (pos false bs bs.length)).length), g p (zaH l (pos false bs bs.length))[p] = 1 := by
  intro p h
  have hp : p < l.length := by rw [hbl] at h; exact h
  by_cases hm : p ∈ pos false bs bs.length
  ·obtain ⟨j, hj, he⟩ := List.getElem_of_mem hm
   have := zma (pos false bs bs.length) (List.replicate l.length (.mk 0 [])) ((pos false bs bs.length).map fun j => za7 (l.getD j (.mk 0 0 []))) hPn (by simp) (fun q hq => by simpa using hPl q hq) j hj (by simpa using hj)
   rw [he] at this
   have e : (zaH l (pos false bs bs.length))[p] = za7 (l.getD p tz) := by
    have h2 : (zaH l (pos false bs bs.length))[p]? = some (za7 (l.getD p tz)) := by
     rw [zaH, this]; simp [he, tz]
    rw [List.getElem?_eq_getElem h] at h2
    exact Option.some.inj h2
   show atV data (zaH l (pos false bs bs.length))[p] (l.getD p tz) (vs.getD p tz) = 1
   rw [e]; exact zrG _ _ _
  ·have e : (zaH l (pos false bs bs.length))[p] = .mk 0 [] := by
    have h2 : (zaH l (pos false bs bs.length))[p]? = some (.mk 0 []) := by
     rw [zaH, ze5 _ _ _ _ hm]; simp [hp]
    rw [List.getElem?_eq_getElem h] at h2
    exact Option.some.inj h2
   have hbp : bs.getD p false = true := by
    cases hb : bs.getD p false with
    | true => rfl
    | false => exact absurd (znj (by omega) hb) hm
   show atV data (zaH l (pos false bs bs.length))[p] (l.getD p tz) (vs.getD p tz) = 1
   rw [e, hrt p hbp]
   simp [atV, VT.kind, wtL, zaB]
 have hbase : zaP g 0 (zaH l (pos false bs bs.length)) = 1 := ztq g 0 _ fun p h => by rw [Nat.zero_add]; exact hb1 p h
 have hg : ∀ p ∈ pos true bs bs.length, ∀ s : List IT, g p (.mk 0 s) = zaB (s.map fun e => wtE data e (.mk 5 n ks)) (zbl (zbd data n.toNat) (vs.getD p tz)) := by
  intro p hp s
  show atV data (.mk 0 s) (l.getD p tz) (vs.getD p tz) = _
  rw [hrt p (hRb p hp)]
  simp [atV, VT.kind, VT.num, zeF]
 have hR0 : ∀ p ∈ pos true bs bs.length, ∃ h : p < (zaH l (pos false bs bs.length)).length, (zaH l (pos false bs bs.length))[p] = .mk 0 [] := by
  intro p hp
  have h : p < (zaH l (pos false bs bs.length)).length := by rw [hbl]; exact hRl p hp
  refine ⟨h, ?_⟩
  have h2 : (zaH l (pos false bs bs.length))[p]? = some (.mk 0 []) := by
   rw [zaH, ze5 _ _ _ _ (hPR p hp)]; simp [hRl p hp]
  rw [List.getElem?_eq_getElem h] at h2
  exact Option.some.inj h2
 have h1 := zl5 g (fun e => wtE data e (.mk 5 n ks)) (fun p => zbl (zbd data n.toNat) (vs.getD p tz)) (pos true bs bs.length) (zaH l (pos false bs bs.length)) kids hRn hg hR0
 have hn : zbl (zbd data n.toNat) (.mk 5 c vs) = .mk 5 c vs :: (pos true bs bs.length).flatMap fun p => zbl (zbd data n.toNat) (vs.getD p tz) := by
  rw [zbl, hbs, ztm _ _ _ (by omega)]
 show zaY ((zb8 l bs c kids).map (zaP g 0)) = _
 unfold zb8
 rw [List.map_append, zgH, h1, hbase, Nat.one_mul]
 have hr : atV data (.mk 0 kids) (.mk 5 n ks) (.mk 5 c vs) = zaB (kids.map fun e => wtE data e (.mk 5 n ks)) (.mk 5 c vs :: (pos true bs bs.length).flatMap fun p => zbl (zbd data n.toNat) (vs.getD p tz)) := by
  rw [← hn]; simp [atV, VT.kind, VT.num, zeF]
 rw [hr]
 cases kids with
 | nil => simp [zcn, zaB]
 | cons e rest =>
  obtain ⟨c', ps⟩ := e
  simp only [zcn, List.map_cons, zaB]
  by_cases hc : c' = c
  ·subst hc
   rw [if_pos rfl]
   have hps := hk ps rest rfl
   have hpsl : ps.length = (pos false bs bs.length).length := by rw [hps, hpk]; simp
   have h2 := zl5 g (fun e => wtE data e (.mk 5 n ks)) (fun p => zbl (zbd data n.toNat) (vs.getD p tz)) (pos true bs bs.length) (fill (zaH l (pos false bs bs.length)) (pos false bs bs.length) ps) rest hRn hg (by
    intro p hp
    obtain ⟨h, h0⟩ := hR0 p hp
    refine ⟨by simpa using h, ?_⟩
    have h2 : (fill (zaH l (pos false bs bs.length)) (pos false bs bs.length) ps)[p]? = some (.mk 0 []) := by
     rw [ze5 _ _ _ _ (hPR p hp), List.getElem?_eq_getElem h, h0]
    rw [List.getElem?_eq_getElem (by simpa using h)] at h2
    exact Option.some.inj h2)
   have h3 := ztp g (pos false bs bs.length) (zaH l (pos false bs bs.length)) ps hPn hpsl (fun p hp => by
    have h : p < (zaH l (pos false bs bs.length)).length := by rw [hbl]; exact hPl p hp
    exact ⟨h, hb1 p h⟩)
   have h4 := zrF data (fun k => l.getD k tz) (fun k => vs.getD k tz) (pos false bs bs.length) ps hpsl
   rw [← hpk, ← hpv] at h4
   have hw : wtE data (.mk c' ps) (.mk 5 n ks) (.mk 5 c' vs) = zaP g 0 (fill (zaH l (pos false bs bs.length)) (pos false bs bs.length) ps) := by
    rw [h3, hbase, Nat.one_mul]
    simp only [g]
    rw [h4]
    rw [wtE]; simp only [VT.num, hpay, VT.kids, if_true, Option.getD_some, hbs]
   rw [h2, ← hw]
   omega
  ·rw [if_neg hc]
   have hw : wtE data (.mk c' ps) (.mk 5 n ks) (.mk 5 c vs) = 0 := by
    rw [wtE, if_neg]; intro h; exact hc h.symm
   rw [hw]; simp
theorem zvf (data : List Dat) (hk : za8 data) (v t : VT) (hv : v.nodes ≤ 5000) (ht : t.nodes ≤ 1000000) (H : zaa) (K : Kt) (hK : K (.bool (zcV data v t)) H) :
  ACalls tP zhE [.sl (data.map Dat.cs) .none, .agg v.cs, .agg t.cs] H K := by
 refine ACalls.out (zEa fun hs => ?_)
 have hO : ∀ b J, zcV data v t = b → Out H.length K (.bool b) (H ++ J) := fun b J h => Out.bool rfl (Nat.le_refl _) hs (h ▸ hK)
 obtain ⟨x, y, z, hvx, hx, hy, hz⟩ := zaM v
 obtain ⟨x2, y2, z2, hvx2, hx2, hy2, hz2⟩ := zaM t
 have hkl := hk.1
 simp [zve, hvx, hvx2, Nat.add_assoc]
 refine zxm data hk _ _ fun b hb => ?_
 have hbd : b = zbf data := by
  rw [Bool.eq_iff_iff, hb, zr5]
 subst hbd
 cases hd : zbf data with
 | false =>
  simp
  exact hO _ _ (by simp [zcV, zbi, hd])
 | true =>
  simp [Nat.add_assoc]
  rw [← hvx2]
  refine zpK data (by omega) 0 t (by omega) _ _ ?_
  cases hf : zaO data 0 t with
  | false =>
   simp
   exact hO _ _ (by simp [zcV, zbi, hf])
  | true =>
   simp [Nat.add_assoc]
   rw [← hvx]
   refine zJj _ v (Nat.le_refl _) 5000 (by omega) (by omega) _ (H.length + 2) (by simp) _ ?_ (fun h => absurd (by omega) h)
   intro _
   simp [Nat.add_assoc]
   refine zJq ⟨hd, hk⟩ _ v (Nat.le_refl _) (by omega) t hf _ _ ?_
   exact hO _ _ (by simp [zcV, zbi, hd, hf])
@[simp] theorem zP1 (k : AV → Prop) : zaA [] k = k (.tup []) := by simp [zaA]
def zA0 (rs : List (List Bool)) : List (List AV) := rs.map fun r => [.sl (r.map fun b => [.bool b]) .none]
def pw (H : zaa) (io iv : Nat) (l : List VT) : zaa := (H.set iv (.vec zbP 3 l.length (VT.css l).flatten)).set io (.cells [.ov iv l.length])
structure Pw (H : zaa) (io iv ir is : Nat) (rs : List (List Bool)) (l : List VT) : Prop where
 ne : io ≠ iv
 nr : ir ≠ io ∧ ir ≠ iv
 ns : is ≠ io ∧ is ≠ iv
 h1 : H[io]? = some (.cells [.ov iv l.length])
 h2 : H[iv]? = some (.vec zbP 3 l.length (VT.css l).flatten)
 h3 : ∃ tok, H[ir]? = some (.cells [.sl (zA0 rs) tok])
 h4 : H[is]? = some (.cells [.fn zAq [.ptr io 0, .ptr ir 0, .ptr is 0]])
section
variable {H J : zaa} {io iv ir is : Nat} {rs : List (List Bool)} {l l' : List VT}
@[simp] theorem zQQ : (pw H io iv l).length = H.length := by simp [pw]
theorem Pw.app (h : Pw H io iv ir is rs l) : Pw (H ++ J) io iv ir is rs l := by
 obtain ⟨tok, h3⟩ := h.h3
 exact ⟨h.ne, h.nr, h.ns, zbB h.h1, zbB h.h2, ⟨tok, zbB h3⟩, zbB h.h4⟩
theorem Pw.next (h : Pw H io iv ir is rs l) : Pw (pw H io iv l') io iv ir is rs l' := by
 have l1 := zcF h.h1
 have l2 := zcF h.h2
 obtain ⟨tok, h3⟩ := h.h3
 refine ⟨h.ne, h.nr, h.ns, ?_, ?_, ⟨tok, ?_⟩, ?_⟩
 ·unfold pw; rw [List.getElem?_set_self (by simpa using l1)]
 ·unfold pw; rw [List.getElem?_set_ne h.ne, List.getElem?_set_self l2]
 ·unfold pw; rw [List.getElem?_set_ne (fun e => h.nr.1 e.symm), List.getElem?_set_ne (fun e => h.nr.2 e.symm)]; exact h3
 ·unfold pw; rw [List.getElem?_set_ne (fun e => h.ns.1 e.symm), List.getElem?_set_ne (fun e => h.ns.2 e.symm)]; exact h.h4
theorem Pw.hsc (h : Pw H io iv ir is rs l) (hs : HSc H) : HSc (pw H io iv l') := by
 have l1 := zcF h.h1
 have l2 := zcF h.h2
 refine HSc.set (HSc.set hs ?_) ?_
 ·simp only [AB.sc, List.all_eq_true]
  intro x hx
  obtain ⟨c, hc, hx⟩ := List.mem_flatten.1 hx
  rw [VT.css_map] at hc
  obtain ⟨v, _, rfl⟩ := List.mem_map.1 hc
  have := VT.cs_scA v H.length
  rw [List.all_eq_true] at this
  exact this x hx
 ·simp [AB.sc, AV.scA, AV.scB]
  try omega
end
theorem zrY (l : List VT) (v : VT) : VT.css (l ++ [v]) = VT.css l ++ [v.cs] := by rw [VT.css_map, VT.css_map, List.map_append]; rfl
theorem zAN {rs : List (List Bool)} {ks : List VT} {bs : List Bool} {i : Nat} (h : i < ks.length) (h' : i < bs.length) : zbD rs (ks.drop i) (bs.drop i) = (if bs[i] = true then zbl rs ks[i] else []) ++ zbD rs (ks.drop (i + 1)) (bs.drop (i + 1)) := by
 rw [List.drop_eq_getElem_cons h, List.drop_eq_getElem_cons h', zbD]
theorem zsu {data : List Dat} {v t : VT} (h : zcV data v t = true) : zbf data = true ∧ zaO data 0 t = true ∧ zau data v t = true := by
 simp only [zcV, zbi, Bool.and_eq_true] at h
 exact ⟨h.1.1, h.1.2, h.2⟩
end Go.Proofs.YtjkkonpjecoieaaGreat
namespace Go.Proofs.YtjkkonpjecoieaaGreat
open Go Go.Abs Go.RowKit
set_option maxRecDepth 8000
theorem ACalls.ownA {P : Program} {f : FuncId} {us : List AV} {H : zaa} {K : AV → zaa → Prop} (e size : Nat) (h : ACalls P f (us ++ [.sl [] (.own H.length)]) (H ++ [.perm e size 0]) K) : ACalls P f (us ++ [.snil]) H K := by
 intro B w G vs hH hv
 obtain ⟨hE, hH'⟩ := hH.newOwn e size
 have hv2 : All2 (TRel w ⟨G.L, G.μ ++ [.own (.slice none 0 0) size 0]⟩) vs.toList (us ++ [.sl [] (.own H.length)]) := by
  refine All2.of_get (by simpa using hv.length) fun i x y hx hy => ?_
  by_cases hi : i < us.length
  ·rw [List.getElem?_append_left hi] at hy
   obtain ⟨x', h1, h2⟩ := hv.get (i := i) (b := y) (by rw [List.getElem?_append_left hi]; exact hy)
   rw [hx] at h1
   cases h1
   exact hE.trel h2
  ·have hlt := (List.getElem?_eq_some_iff.1 hy).1
   simp at hlt
   obtain rfl : i = us.length := by omega
   simp at hy
   subst hy
   obtain ⟨x', h1, h2⟩ := hv.get (i := us.length) (b := .snil) (by simp)
   rw [hx] at h1
   cases h1
   have h2 : x = .slice none 0 0 := h2
   subst h2
   refine ⟨.slE _ _, .slice none 0 0, size, 0, ?_, Nat.le_refl _, fun _ => ⟨rfl, by simp⟩⟩
   rw [← hH.len]
   simp
 refine (h B w _ vs hH' hv2).mono fun e' w' hp => ?_
 obtain ⟨v, r, H', G'', h1, h2, h3⟩ := hp
 exact ⟨v, r, H', G'', h1, hE.trans h2, h3⟩
theorem ztn (rs : List (List Bool)) (b : Nat) : ∀ v : VT, v.nodes ≤ b → ∀ x ∈ zbl rs v, x.nodes ≤ b := by
 intro v
 induction hm : v.nodes using Nat.strongRecOn generalizing v with
 | _ m ih =>
  intro hb x hx
  obtain ⟨k, n, ks⟩ := v
  have key : ∀ (l : List VT) (bs : List Bool), (∀ y ∈ l, y.nodes < m) → ∀ x ∈ zbD rs l bs, x.nodes ≤ b := by
   intro l
   induction l with
   | nil => intro bs _ x hx; simp [zbD] at hx
   | cons y l ihl =>
    intro bs hy x hx
    match bs with
    | [] => simp [zbD] at hx
    | c :: bs =>
     simp only [zbD, List.mem_append] at hx
     rcases hx with hx | hx
     ·split at hx
      ·have h1 := hy y (by simp)
       exact ih _ h1 y rfl (by omega) x hx
      ·simp at hx
     ·exact ihl bs (fun z hz => hy z (by simp [hz])) x hx
  simp only [zbl, List.mem_cons] at hx
  rcases hx with rfl | hx
  ·omega
  ·exact key ks _ (fun y hy => by have := zeu (k := k) (n := n) y hy; omega) x hx
theorem zL4 {data : List Dat} (hk : za8 data) {n : Nat} {al : List VT} {rs : List (List Bool)} (hrs : rs = zbd data n) : ∀ (m : Nat) (v : VT), v.nodes ≤ m → v.nodes ≤ 10000 → zau data v (.mk 5 n al) = true → ∀ (H : zaa) (io : Nat) (l : List VT), H[io]? = some (.perm zbP 3 l.length) → l.length + (zbl rs v).length ≤ 1000000 →
  ∀ K : Kt, K (.sl (VT.css (l ++ zbl rs v)) (.own io)) (H.set io (.perm zbP 3 (l ++ zbl rs v).length)) → ACalls tP zh4 [.sl (data.map Dat.cs) .none, .agg v.cs, .int .i64 n, .sl (VT.css l) (.own io)] H K := by
 intro m
 induction m with
 | zero => intro v h; have := v.nodes_pos; omega
 | succ m ih =>
  intro v hm hb hh H io l hP hlb K hK
  obtain ⟨vk, c, ks⟩ := v
  obtain ⟨rfl, n0, c0, c8, hn, hc, hkl, _, hrc, hrl, hkid⟩ := zf5 hh
  simp only [Int.toNat_natCast] at hn hc hkl hrc hrl hkid
  rw [← hrs] at hrc hrl
  have hll := VT.len_le ks
  have hnn : (VT.mk 5 c ks).nodes = VT.nodesL ks + 1 := by simp [VT.nodes]
  have hlt0 := zcF hP
  obtain ⟨f1, f2, f3⟩ := zc4 hk
  have hdm := List.getElem_mem hn
  have hcm := List.getElem_mem hc
  obtain ⟨g1, g2⟩ := f2 _ hdm _ hcm
  have hpre : zbl rs (.mk 5 c ks) = .mk 5 c ks :: zbD rs ks (rs.getD c.toNat []) := by rw [zbl]
  generalize hbs : rs.getD c.toNat [] = bs at *
  have hbl : bs.length = ks.length := by rw [hrc, zbE, List.length_map]; exact hkl.symm
  have hrec : ∀ (i : Nat) (hi : i < ks.length) (hi2 : i < bs.length), bs[i] = true → zau data ks[i] (.mk 5 n al) = true := fun i hi hi2 hb => by
   refine hkid i hi (by omega) ?_
   have : bs[i] = zbz n (data[n]).vars (((data[n]).cons[c.toNat]).args[i]'(by omega)) := by simp [hrc, zbE]
   rw [← this]; exact hb
  rw [hpre] at hK hlb
  simp only [List.length_cons] at hlb
  have hpk := znk rs ks bs
  refine ACalls.out (zL2 fun hs => ?_)
  obtain ⟨c, rfl⟩ : ∃ x : Nat, c = x := ⟨c.toNat, by omega⟩
  simp only [Int.toNat_natCast] at hc hkl hrc hcm g1 g2
  have hVc : (VT.mk 5 (c : Int) ks).cs = [.int .i64 5, .int .i64 c, .sl (VT.css ks) .none] := rfl
  have hg : (H ++ [AB.cells (VT.mk 5 (c : Int) ks).cs])[io]? = some (.perm zbP 3 l.length) := zbB hP
  simp [zyj]
  rw [zdv]
  have hset0 : ∀ X : AB, (H ++ [AB.cells (VT.mk 5 (c : Int) ks).cs]).set io X = H.set io X ++ [AB.cells (VT.mk 5 (c : Int) ks).cs] := fun X => zb5 X hP
  simp only [zax, zaW, zaN, hg, hset0]
  refine ⟨by simp, by simp, ⟨by simp; omega, by simp; omega⟩, ?_⟩
  simp [hVc, List.getElem?_append]
  refine zn9 data n c hn hc f1 (f3 _ hdm) (by omega) (fun x hx => by have := g2 x hx; omega) _ _ ?_
  rw [← hrc]
  simp [zbj]
  have hst : VT.css l ++ [(VT.mk 5 (c : Int) ks).cs] = VT.css (l ++ [.mk 5 c ks]) := by rw [zrY]
  rw [← hVc, hst]
  have hscp : ∀ q, HSc (H.set io (.perm zbP 3 q)) := fun q => hs.set rfl
  refine zL0 (Inv := fun q t3 t22 H' => ∃ (i : Nat) (acc : List VT), i ≤ ks.length ∧ q = ks.length - i ∧ t22 = .int .i64 i ∧ t3 = .sl (VT.css acc) (.own io) ∧ acc ++ zbD rs (ks.drop i) (bs.drop i) = l ++ .mk 5 c ks :: zbD rs ks bs ∧
   H' = H.set io (.perm zbP 3 acc.length) ++ [.cells (VT.mk 5 c ks).cs]) ks.length ?_ ?_
  ·intro _; exact ⟨0, l ++ [.mk 5 c ks], by omega, by omega, rfl, rfl, by simp, by simp⟩
  ·rintro q t3 t22 H' ⟨i, acc, hi, rfl, rfl, rfl, ho, rfl⟩ hsc' hlen hsF Kb hKb
   have hlo := congrArg List.length ho
   simp only [List.length_append, List.length_cons] at hlo
   by_cases hlt : i < ks.length
   ·have hlt2 : i < bs.length := by omega
    obtain ⟨x, y, z, hvx, hx, hy, hz⟩ := zaM ks[i]
    have hkn := VT.kid_lt (k := 5) (n := (c : Int)) hlt
    rw [zAN hlt hlt2] at ho hlo
    have hpa : (H.set io (.perm zbP 3 acc.length) ++ [AB.cells (VT.mk 5 (c : Int) ks).cs])[io]? = some (.perm zbP 3 acc.length) := zbB (zbN _ hP)
    have hback : ∀ acc' J, acc' ++ zbD rs (ks.drop (i + 1)) (bs.drop (i + 1)) = l ++ .mk 5 c ks :: zbD rs ks bs →
      Kb (zg3 (.sl (data.map Dat.cs) .none) (.int .i64 n) (.sl (VT.css acc') (.own io)) (.ptr H.length 0) (.sl (bs.map fun b => [.bool b]) .none) (.int .i64 bs.length) (.int .i64 (IntKind.i64.wrap (i + 1)))) (H.set io (.perm zbP 3 acc'.length) ++ ([.cells (VT.mk 5 c ks).cs] ++ J)) := by
     intro acc' J ha
     rw [zas (by omega) (by omega)]
     refine hKb _ _ ⟨ks.length - (i + 1), by omega, Back.at (J := J) (H2 := H.set io (.perm zbP 3 acc'.length) ++ [.cells (VT.mk 5 c ks).cs]) (by simp) (by simp) ((hscp _).append (by simp [AB.sc])) ?_ ⟨_, _, rfl, i + 1, acc', by omega, rfl, by simp, rfl, ha, rfl⟩⟩
     simp [zg3, AV.sc, AV.scV, AV.scA, AV.scB]
     try omega
    simp [zqD, hlt, hlt2, hbl]
    cases hbi : bs[i] with
    | true =>
     rw [hbi, if_pos rfl] at ho hlo
     simp only [List.length_append] at hlo
     simp [hVc, hlt, hvx, List.getElem?_append]
     rw [← hVc, ← hvx]
     refine ih ks[i] (by omega) (by omega) (hrec i hlt hlt2 hbi) _ io acc hpa (by omega) _ ?_
     rw [zb5 _ (zbN _ hP), List.set_set]
     simp [zle, zqF]
     have := hback (acc ++ zbl rs ks[i]) [] (by simpa using ho)
     simpa [hbl] using this
    | false =>
     rw [hbi] at ho
     simp at ho
     simp [zle, zqF]
     have := hback acc [] ho
     simpa [hbl] using this
   ·obtain rfl : i = ks.length := by omega
    rw [List.drop_length] at ho
    simp only [zbD, List.append_nil] at ho
    subst ho
    simp [zqD, hbl]
    exact Out.at rfl (by simp) (hscp _) .rfl' rfl (by simp [AV.scV, AV.scA, AV.scB]; omega) (by simpa using hK)
theorem zNu {data : List Dat} (hk : za8 data) {n : Nat} {al : List VT} (v : VT) (hv : v.nodes ≤ 10000) (hh : zau data v (.mk 5 n al) = true) (H : zaa) (K : Kt) (hK : K (.sl (VT.css (zbl (zbd data n) v)) .none) H) :
  ACalls tP znc [.sl (data.map Dat.cs) .none, .agg v.cs, .int .i64 n] H K := by
 refine ACalls.out (zNt fun hs => ?_)
 obtain ⟨x, y, z, hvx, hx, hy, hz⟩ := zaM v
 have hl := zin (zbd data n) v
 simp [zyH, hvx]
 rw [← hvx]
 refine ACalls.ownA (us := [.sl (data.map Dat.cs) .none, .agg v.cs, .int .i64 n]) zbP 3 ?_
 refine zL4 hk rfl v.nodes v (Nat.le_refl _) hv hh _ _ [] (by simp) (by simp; omega) _ ?_
 rw [List.nil_append]
 exact Out.at (J := [.cells v.cs, .perm zbP 3 (zbl (zbd data n) v).length]) (by simp [List.set_append]) (Nat.le_refl _) hs (.atom (.sl _ _)) rfl rfl hK
end Go.Proofs.YtjkkonpjecoieaaGreat
namespace Go.Proofs.YtjkkonpjecoieaaGreat
open Go Go.Abs
theorem ztx {data : List Dat} : ∀ (l : List IT) (ts : List VT) (a : Int), 0 ≤ a → 0 ≤ rdA data l ts a → a ≤ rdA data l ts a
 | [], ts, a, _, _ => by rw [rdA]; exact Int.le_refl _
 | i :: l, [], a, _, h => by simp [rdA] at h
 | i :: l, t :: ts, a, ha, h => by
  simp only [rdA] at h ⊢
  by_cases hc : rdV data i t < 0 ∨ a + rdV data i t > 6
  ·rw [if_pos hc] at h; omega
  ·rw [if_neg hc] at h ⊢
   have := ztx l ts _ (by omega) h
   omega
theorem zAO {data : List Dat} {n : Nat} {al : List VT} : ∀ (m : Nat) (v : VT), v.nodes ≤ m → zau data v (.mk 5 n al) = true → ∀ x ∈ zbl (zbd data n) v, zau data x (.mk 5 n al) = true := by
 intro m
 induction m with
 | zero => intro v h; have := v.nodes_pos; omega
 | succ m ih =>
  intro v hm hh x hx
  obtain ⟨vk, c, ks⟩ := v
  obtain ⟨rfl, n0, c0, c8, hn, hc, hkl, _, hrc, hrl, hkid⟩ := zf5 hh
  simp only [Int.toNat_natCast] at hn hc hkl hrc hrl hkid
  rw [zbl, List.mem_cons] at hx
  rcases hx with rfl | hx
  ·exact hh
  ·rw [hrc, ztm _ _ _ (by simpa [zbE] using hkl)] at hx
   obtain ⟨j, hj, hx⟩ := List.mem_flatMap.1 hx
   have hjl := zdk hj
   have hjl2 : j < ((data[n]).cons[c.toNat]).args.length := by simpa [zbE] using hjl
   have hjk : j < ks.length := by omega
   rw [List.getD_eq_getElem?_getD, List.getElem?_eq_getElem hjk, Option.getD_some] at hx
   have hnn := VT.kid_lt (k := 5) (n := c) hjk
   refine ih ks[j] (by omega) (hkid j hjk hjl2 ?_) x hx
   simp [pos, zbE, hjl2] at hj
   exact hj
mutual
theorem zlU {data : List Dat} {N : Nat} (hN : 1 ≤ N) : ∀ (i : IT) (t v : VT), v.nodes ≤ N → 0 ≤ rdV data i t → atV data i t v ≤ N ^ (rdV data i t).toNat
 | .mk n ks, t, v, hv, hd => by
  have hvk : ∀ x ∈ v.kids, x.nodes ≤ N := by
   obtain ⟨a, b, c⟩ := v
   intro x hx
   simp only [VT.kids] at hx
   have := zeu (k := a) (n := b) x hx
   omega
  rw [rdV] at hd ⊢
  rw [atV]
  by_cases h6 : t.kind = 6
  ·simp only [h6, if_true] at hd ⊢
   by_cases hn : n = 0
   ·by_cases hl : t.kids.length = ks.length
    ·simp only [hn, hl, if_true] at hd ⊢
     have := zhg hN ks t.kids v.kids 0 (by omega) hvk hd
     simpa using this
    ·simp [hn, hl] at hd
   ·simp [hn] at hd
  ·by_cases h7 : t.kind = 7
   ·simp only [h6, h7, if_false, if_true] at hd ⊢
    by_cases hc : 0 ≤ n ∧ n ≤ 6 ∧ ks.length = 0
    ·simp only [hc, and_self, if_true] at hd ⊢
     simp
     refine Nat.le_trans (zhj _ _) (Nat.pow_le_pow_left ?_ _)
     obtain ⟨a, b, c⟩ := v
     have := VT.len_le c
     simp only [VT.kids, VT.nodes] at hv ⊢
     omega
    ·rw [if_neg hc] at hd; omega
   ·by_cases h5 : t.kind = 5
    ·simp only [h6, h7, h5, if_false, if_true] at hd ⊢
     by_cases hc : n = 0 ∧ ks.length ≤ 6
     ·simp only [hc, and_self, if_true] at hd ⊢
      have hpl := zin (zbd data t.num.toNat) v
      have := znA hN ks t (zbl (zbd data t.num.toNat) v) 0 (by omega) (by omega) (ztn _ N v hv) hd
      simpa using this
     ·rw [if_neg hc] at hd; omega
    ·simp only [h6, h7, h5, if_false] at hd ⊢
     exact Nat.pow_pos hN
theorem zhg {data : List Dat} {N : Nat} (hN : 1 ≤ N) : ∀ (l : List IT) (ts vs : List VT) (a : Int), 0 ≤ a → (∀ x ∈ vs, x.nodes ≤ N) → 0 ≤ rdA data l ts a → atL data l ts vs ≤ N ^ (rdA data l ts a - a).toNat
 | [], ts, vs, a, _, _, _ => by rw [atL]; exact Nat.pow_pos hN
 | i :: l, [], vs, a, _, _, _ => by simp only [atL]; exact Nat.pow_pos hN
 | i :: l, t :: ts, [], a, _, _, _ => by simp only [atL]; exact Nat.pow_pos hN
 | i :: l, t :: ts, v :: vs, a, ha, hv, hd => by
  simp only [rdA] at hd ⊢
  by_cases hc : rdV data i t < 0 ∨ a + rdV data i t > 6
  ·rw [if_pos hc] at hd; omega
  ·rw [if_neg hc] at hd ⊢
   have h1 := zlU (data := data) hN i t v (hv v (by simp)) (by omega)
   have h2 := zhg hN l ts vs (a + rdV data i t) (by omega) (fun x hx => hv x (by simp [hx])) hd
   have hge := (ztx l ts (a + rdV data i t) (by omega) hd)
   simp only [atL]
   refine Nat.le_trans (Nat.mul_le_mul h1 h2) ?_
   rw [← Nat.pow_add]
   exact Nat.pow_le_pow_right hN (by omega)
theorem znA {data : List Dat} {N : Nat} (hN : 1 ≤ N) : ∀ (es : List IT) (t : VT) (nodes : List VT) (a : Int), 0 ≤ a → nodes.length ≤ N → (∀ x ∈ nodes, x.nodes ≤ N) → 0 ≤ rdE data es t a → zaB (wtL data es t) nodes ≤ N ^ (rdE data es t a - a).toNat
 | [], t, nodes, a, _, _, _, _ => by simp only [wtL, zaB]; exact Nat.pow_pos hN
 | .mk c ks :: es, t, nodes, a, ha, hl, hv, hd => by
  rw [zd6] at hd ⊢
  by_cases hc : c < 0 ∨ 8 ≤ c
  ·rw [if_pos hc] at hd; omega
  ·rw [if_neg hc] at hd ⊢
   cases hp : zbn data t c with
   | none => rw [hp] at hd; simp at hd
   | some ps =>
    rw [hp] at hd
    simp only at hd ⊢
    by_cases hlen : ps.length = ks.length
    ·rw [if_pos hlen] at hd ⊢
     by_cases hx : rdA data ks ps 0 < 0 ∨ a + 1 + rdA data ks ps 0 > 6
     ·rw [if_pos hx] at hd; omega
     ·rw [if_neg hx] at hd ⊢
      have h2 := znA hN es t nodes (a + (1 + rdA data ks ps 0)) (by omega) hl hv hd
      have hw : ∀ x ∈ nodes, wtE data (.mk c ks) t x ≤ N ^ (rdA data ks ps 0).toNat := by
       intro x hxm
       rw [wtE]
       split
       ·rw [hp]
        have hpk : ∀ y ∈ pick x.kids ((zbd data t.num.toNat).getD c.toNat []), y.nodes ≤ N := by
         intro y hy
         have h3 := hv x hxm
         obtain ⟨p, q, r⟩ := x
         have hy' : y ∈ r := zeB hy
         have := zeu (k := p) (n := q) y hy'
         omega
        have := zhg (data := data) hN ks ps (pick x.kids ((zbd data t.num.toNat).getD c.toNat [])) 0 (by omega) hpk (by omega)
        simpa using this
       ·exact Nat.zero_le _
      have h3 := ztS (wtE data (.mk c ks) t) (wtL data es t) nodes
      have h4 := zue nodes hw
      have hge : rdE data es t (a + (1 + rdA data ks ps 0)) = -1 ∨ (a + (1 + rdA data ks ps 0)) + es.length ≤ rdE data es t (a + (1 + rdA data ks ps 0)) := zir es t _ (by omega)
      rw [wtL]
      refine Nat.le_trans h3 (Nat.le_trans (Nat.mul_le_mul (Nat.le_trans h4 (Nat.mul_le_mul_right _ hl)) h2) ?_)
      rw [show N * N ^ (rdA data ks ps 0).toNat = N ^ ((rdA data ks ps 0).toNat + 1) by rw [Nat.pow_succ, Nat.mul_comm], ← Nat.pow_add]
      exact Nat.pow_le_pow_right hN (by omega)
    ·rw [if_neg hlen] at hd; omega
end
end Go.Proofs.YtjkkonpjecoieaaGreat
