import Derived.Test.YtacebbdfgbfgiaaGreatKI5
import Derived.Test.YtacebbdfgbfgiaaGreatAbsPu
import Derived.Test.YtacebbdfgbfgiaaGreatKGH
import Derived.Test.YtacebbdfgbfgiaaGreatVO
import Derived.Deep.Slices
import Derived.DataReads
set_option linter.unusedSimpArgs false
set_option linter.unusedVariables false
namespace Go.Proofs.YtacebbdfgbfgiaaGreat
open Go Go.Abs
set_option maxRecDepth 8000
theorem zoC (r : List IT) : zaD (zaG r) = some (zaG r) := by
 induction r with
 | nil => rfl
 | cons x r ih =>
  obtain ⟨n, ks⟩ := x
  rw [zcY]
  simp [IT.cs, zaD, AV.pd, ih]
theorem zi5 {c : List AV} {r : List IT} (h : c ∈ IT.css r) : c.length = 2 := by
 rw [IT.css_map] at h
 obtain ⟨x, _, rfl⟩ := List.mem_map.1 h
 simp
theorem zss (a b : List IT) (he : a.length = b.length) (ha : a.length ≤ 1000) (hn : ∀ x ∈ a, x.nodes ≤ 1000000) (H : zaa) (K : Kt) (hK : K (.int .i64 (IT.cmpL a b)) H) :
  ACalls tP zjN [.sl (IT.css a) .none, .sl (IT.css b) .none] H K := by
 refine ACalls.out (zyJ fun hs => ?_)
 simp [zqB]
 refine zno a b he (by omega) (fun i h h' H K hK => zto _ _ _ (Nat.le_refl _) (hn _ (List.getElem_mem h)) H K hK) _ _ ?_
 exact zem hs rfl rfl hK
theorem zoS {H : zaa} {id : Nat} {b : AB} (h : H[id]? = some b) : H.set id b = H := by
 refine List.ext_getElem? fun i => ?_
 rw [List.getElem?_set]
 split
 ·rename_i hi; subst hi; rw [if_pos (List.getElem?_eq_some_iff.1 h).1, h]
 ·rfl
def zep (rs : List (List IT)) : AV := .sl (rs.map fun r => [.sl (IT.css r) .none]) .none
theorem zo9 {H H1 : zaa} {id w : Nat} {rows : List (List IT)} (hpre : H <+: H1) (hs : HSc H) (hR : RowsH H1 H.length id rows) (hw : ∀ r ∈ rows, r.length = w) (hw8 : w ≤ 1000) (hnd : ∀ r ∈ rows, ∀ x ∈ r, x.nodes ≤ 1000) (hlen : rows.length ≤ 1000000000)
  (K : Kt) (hK : ∀ rs, rs.Perm rows → rs.Pairwise rle → K (.tup [zep rs, .int .i64 0]) H) : zfB (.ov id rows.length) H1 (zd4 H.length K) := by
 obtain ⟨hlo, cs, hcs, hcells⟩ := hR
 have hcl := hcells.length
 unfold zfB
 refine ACalls.sortFunc zvt hcs (by omega) (fun i => IT.css (rows.getD i [])) (fun i j => IT.cmpL (rows.getD i []) (rows.getD j [])) (fun i hi => ?_) (fun args w => rfl) (fun i j hi hj => ?_) (fun i hi => ?_) (fun i j k hi hj hk h1 h2 => ?_) (fun i j k hi hj hk h1 h2 => ?_) (fun p hp hsort => ?_)
 ·obtain ⟨r, hr, hc⟩ := All2.get' hcells (List.getElem?_eq_getElem hi)
  have hrd : rows.getD i [] = r := by simp [List.getD_eq_getElem?_getD, hr]
  simp only [hrd]
  rcases hc with ⟨rfl, h⟩ | ⟨hne, b, h, h1, h2, h3⟩
  ·exact .inl h
  ·exact .inr (.inr ⟨b, zaY, 2, r.length, zaG r, h, h2, h3, zoC r, by simp, fun c hc => zi5 hc⟩)
 ·have ei : rows.getD i [] = rows[i] := by simp [List.getD_eq_getElem?_getD, hi]
  have ej : rows.getD j [] = rows[j] := by simp [List.getD_eq_getElem?_getD, hj]
  rw [ei, ej]
  have m1 := List.getElem_mem hi
  have m2 := List.getElem_mem hj
  exact zss _ _ (by rw [hw _ m1, hw _ m2]) (by rw [hw _ m1]; exact hw8) (fun x hx => by have := hnd _ m1 x hx; omega) _ _ rfl
 ·have := IT.cmpL_anti (rows.getD i []) (rows.getD i [])
  omega
 ·have := IT.cmpL_tri (rows.getD i []) (rows.getD j []) (rows.getD k [])
  unfold Tri at this
  omega
 ·have := IT.cmpL_tri (rows.getD k []) (rows.getD j []) (rows.getD i [])
  have a1 := IT.cmpL_anti (rows.getD i []) (rows.getD j [])
  have a2 := IT.cmpL_anti (rows.getD j []) (rows.getD k [])
  have a3 := IT.cmpL_anti (rows.getD i []) (rows.getD k [])
  unfold Tri at this
  omega
 ·have hplen : p.length = rows.length := by simpa using hp.length_eq
  have hpm : ∀ i ∈ p, i < rows.length := fun i hi => by simpa using hp.subset hi
  have hrs : (p.map fun i => rows.getD i []).Perm rows := by
   have h1 := hp.map fun i => rows.getD i []
   have h2 : (List.range rows.length).map (fun i => rows.getD i []) = rows := List.ext_getElem (by simp) fun i h1 h2 => by simp [List.getD_eq_getElem?_getD, h2]
   rwa [h2] at h1
  have hpw : (p.map fun i => rows.getD i []).Pairwise rle := by
   rw [List.pairwise_iff_getElem]
   intro a b ha hb hab
   simp only [List.getElem_map]
   exact hsort a b (by simpa using ha) (by simpa using hb) hab
  have hK := hK _ hrs hpw
  generalize hrsd : (p.map fun i => rows.getD i []) = rs at *
  have hrl : rs.length = rows.length := hrs.length_eq
  generalize hcsd : (p.map fun i => cs.getD i .unk) = cs' at *
  have hcells' : All2 (CellR H1 H.length id) cs' rs := by
   subst hrsd hcsd
   refine All2.of_get (by simp) fun i x y hx hy => ?_
   simp only [List.getElem?_map, Option.map_eq_some_iff] at hx hy
   obtain ⟨k, hk, rfl⟩ := hx
   obtain ⟨k', hk', rfl⟩ := hy
   rw [hk] at hk'
   cases hk'
   have hlt := hpm k (List.mem_of_getElem? hk)
   obtain ⟨r, hr, hc⟩ := All2.get' hcells (List.getElem?_eq_getElem (by omega : k < cs.length))
   simp only [List.getD_eq_getElem?_getD, hr, Option.getD_some, List.getElem?_eq_getElem (by omega : k < cs.length)]
   exact hc
  have hidl := (List.getElem?_eq_some_iff.1 hcs).1
  have hset : (H1.set id (.vec zbk 1 rows.length cs'))[id]? = some (.vec zbk 1 rows.length cs') := List.getElem?_set_self hidl
  have hcells2 : All2 (CellR (H1.set id (.vec zbk 1 rows.length cs')) H.length id) cs' rs := hcells'.mono fun c r hc => hc.keep (Nat.le_refl _) fun b _ hb _ => ⟨hb, List.getElem?_set_ne (fun h => hb h.symm)⟩
  have hpre2 := zgy (b := .vec zbk 1 rows.length cs') hpre hlo
  have hwr : ∀ r ∈ rs, r.length = w := fun r hr => hw r (hrs.subset hr)
  have hndr : ∀ r ∈ rs, ∀ x ∈ r, x.nodes ≤ 1000 := fun r hr => hnd r (hrs.subset hr)
  generalize H1.set id (.vec zbk 1 rows.length cs') = H2 at *
  clear hcells hcells' hcs hsort hp
  have hcl2 := hcells2.length
  simp
  refine zCA (Inv := fun q t133 H' => ∃ i : Nat, i ≤ rows.length ∧ q = rows.length - i ∧ t133 = .int .i64 i ∧ H' = H2) rows.length ?_ ?_
  ·intro _; exact ⟨0, by omega, by omega, rfl, rfl⟩
  ·rintro q t133 H' ⟨i, hi, rfl, rfl, rfl⟩ hsc hlen' hsF Kb hKb
   by_cases hlt : i < rows.length
   ·have hir : i < cs'.length := by omega
    obtain ⟨r, hr, hc⟩ := All2.get' hcells2 (List.getElem?_eq_getElem hir)
    have hrm := List.mem_of_getElem? hr
    have hrw := hwr r hrm
    simp [zmz, hlt, hset]
    rw [zsz 1 (List.getElem?_eq_getElem hir)]
    have hHn : H.length ≤ H'.length := hpre2.length_le
    have hidn := (List.getElem?_eq_some_iff.1 hset).1
    have hnext : ∀ t138 : AV, Kb (zfA (.ov id rows.length) (.ov id rows.length) (.int .i64 rows.length) (.int .i64 ((i : Int) + 1))) H' := fun _ => by
     refine hKb _ _ ⟨rows.length - (i + 1), by omega, Back.at (J := []) (H2 := H') (by simp) hlen' hsc ?_ ⟨_, rfl, i + 1, by omega, rfl, by simp, rfl⟩⟩
     simp [zfA, AV.sc, AV.scV, AV.scA, AV.scB, hidn]
    have hlen : ∀ k : AV → Prop, k (.int .i64 r.length) → zah 1 cs'[i] k := fun k hk => by
     rcases hc with ⟨rfl, h⟩ | ⟨hne, b, h, h1, h2, h3⟩
     ·rw [h]; simpa using hk
     ·rw [h]; simpa using hk
    refine hlen _ ?_
    refine zCB (Inv := fun q t139 H3 => ∃ k : Nat, k ≤ r.length ∧ q = r.length - k ∧ t139 = .int .i64 k ∧ H3 = H') r.length ?_ ?_
    ·intro _; exact ⟨0, by omega, by omega, rfl, rfl⟩
    ·rintro q t139 H3 ⟨k, hk, rfl, rfl, rfl⟩ hsc3 hlen3 hsF3 Kb3 hKb3
     by_cases hkl : k < r.length
     ·rcases hc with ⟨rfl, h⟩ | ⟨hne, b, h, h1, h2, h3⟩
      ·simp at hkl
      ·obtain ⟨x, y, hvx, hx, hy⟩ := zcU r[k]
       have hself := zfn r k r[k] hkl
       rw [List.set_getElem_self] at hself
       have htk : List.take 2 (List.drop (k * 2) (zaG r)) = (r[k]).cs := by
        rw [← hself]
        have h4 : (List.take (k * 2) (zaG r)).length = k * 2 := by rw [List.length_take, zcH]; omega
        rw [List.append_assoc, List.drop_append_of_le_length (by omega), List.drop_of_length_le (by omega), List.nil_append, hvx]
        simp
       have hbl := (List.getElem?_eq_some_iff.1 h3).1
       simp [zmA, hkl, h, h3]
       rw [htk]
       refine ⟨by rw [zcH]; omega, ?_⟩
       refine zqG _ (r[k]) (Nat.le_refl _) (by have := hndr r hrm _ (List.getElem_mem hkl); omega) _ _ ?_
       simp [h3, hkl]
       refine ⟨by rw [zcH]; omega, ?_⟩
       rw [← List.append_assoc, hself, zoS h3, zan (by omega) (by omega)]
       refine hKb3 _ _ ⟨r.length - (k + 1), by omega, Back.at (J := []) (H2 := H3) (by simp) (by omega) hsc3 ?_ ⟨.int .i64 ((k : Int) + 1), by simp only [h], k + 1, by omega, rfl, by simp, rfl⟩⟩
       simp [ziN, AV.sc, AV.scV, AV.scA, AV.scB, hidn, hbl]
     ·obtain rfl : k = r.length := by omega
      simp [zmA]
      rw [zan (by omega) (by omega)]
      exact hnext (.int .i64 0)
   ·obtain rfl : i = rows.length := by omega
    simp [zmz]
    refine ⟨⟨rfl, rfl⟩, ?_⟩
    obtain ⟨J, hJ⟩ := hpre2
    refine ⟨.tup [zep rs, .int .i64 0], H, J, hJ.symm, Nat.le_refl _, hs, .tup ⟨?_, .one (.wk (.atom (.refl _)) rfl rfl), trivial⟩, hK⟩
    have hrw : zep rs = .sl ((rs.map IT.css).map fun r => [.sl r .none]) .none := by simp [zep]
    rw [hrw]
    refine .rows id zbk rows.length cs' (rs.map IT.css) hlo hset (by simp [hrl]) (All2.of_get (by simpa using hcl2) fun i x y hx hy => ?_)
    obtain ⟨r, hr, hc⟩ := All2.get' hcells2 hx
    simp only [List.map_map, List.getElem?_map, hr, Option.map_some, Function.comp_apply, Option.some.injEq] at hy
    subst hy
    rcases hc with ⟨rfl, rfl⟩ | ⟨hne, b, rfl, h1, h2, h3⟩
    ·exact .wk (.atom (.refl _)) rfl rfl
    ·exact .vfz b zaY 2 r.length (zaG r) (IT.css r) h1 h3 (zoC r) (by simp) (fun c hc => zi5 hc)
theorem zvj {data : List Dat} {tn : Int} {tks : List VT} (ht : za6 data 0 (.mk 5 tn tks) = true) : 0 ≤ tn ∧ tn.toNat < data.length := by
 rw [za6, Bool.and_eq_true] at ht
 have h := ht.2
 simp only [zaH, zaO, Bool.and_eq_true] at h
 have h1 := h.1
 simp at h1
 refine ⟨h1.1, ?_⟩
 have h2 := h1.2
 split at h2
 ·rename_i d hd
  exact (List.getElem?_eq_some_iff.1 hd).1
 ·simp at h2
def zb7 (l : List VT) (P : List Nat) : List IT := fill (List.replicate l.length (.mk 0 [])) P (P.map fun j => zbv (l.getD j (.mk 0 0 [])))
def zcI (base : List IT) (P R : List Nat) (c : Int) : List IT → List (List IT)
 | [] => []
 | .mk c' ps :: rest => if c' = c then za1 (fill base P ps) R rest else []
def zcZ (l : List VT) (bs : List Bool) (c : Int) (kids : List IT) : List (List IT) :=
 za1 (zb7 l (pos false bs bs.length)) (pos true bs bs.length) kids ++ zcI (zb7 l (pos false bs bs.length)) (pos false bs bs.length) (pos true bs bs.length) c kids
def zdK : IT → List IT
 | .mk _ ks => ks
def zcR (data : List Dat) (t : VT) (c : Int) (v : IT) : Option Int :=
 if zbe data t v < 0 then some 1 else if t.kind ≠ 5 then some 6 else if c < 0 ∨ ((data.getD t.num.toNat ⟨[], 0, []⟩).cons.length : Int) ≤ c then some 8 else if zaU data t c = none then some 0 else none
mutual
theorem zpx : ∀ t : VT, (zbv t).nodes ≤ t.nodes
 | .mk k n ks => by
  have := zpw ks
  simp only [zbv, VT.nodes, IT.nodes]
  split
  ·omega
  ·simp [IT.nodesL]
theorem zpw : ∀ ts : List VT, IT.nodesL (zbH ts) ≤ VT.nodesL ts
 | [] => by simp [zbH, IT.nodesL, VT.nodesL]
 | t :: ts => by
  have := zpx t
  have := zpw ts
  simp only [zbH, IT.nodesL, VT.nodesL]
  omega
end
theorem zjh : ∀ (ps : List Nat) (row xs : List IT) (x : IT), x ∈ fill row ps xs → x ∈ row ∨ x ∈ xs
 | [], row, xs, x, h => by simp at h; exact .inl h
 | p :: ps, row, [], x, h => by simp [fill] at h; exact .inl h
 | p :: ps, row, y :: xs, x, h => by
  rw [fill] at h
  rcases zjh ps _ xs x h with h | h
  ·rcases List.mem_or_eq_of_mem_set h with h | rfl
   ·exact .inl h
   ·exact .inr (by simp)
  ·exact .inr (by simp [h])
theorem ztI (l : List IT) (n : Nat) : IT.nodesL (l.drop n) ≤ IT.nodesL l := by
 have := IT.nodesL_app (l.take n) (l.drop n)
 rw [List.take_append_drop] at this
 omega
theorem zja {N : Nat} : ∀ (ps : List Nat) (row l : List IT), (∀ x ∈ row, x.nodes ≤ N) → IT.nodesL l + 1 ≤ N → ∀ r ∈ za1 row ps l, ∀ x ∈ r, x.nodes ≤ N
 | [], row, l, hr, hl, r, h => by
  simp only [za1] at h
  split at h <;> simp at h
  subst h; exact hr
 | p :: ps, row, l, hr, hl, r, h => by
  rw [zs8, List.mem_flatMap] at h
  obtain ⟨n, _, h⟩ := h
  refine zja ps _ _ (fun x hx => ?_) (by have := ztI l n; omega) r h
  rcases List.mem_or_eq_of_mem_set hx with hx | rfl
  ·exact hr x hx
  ·have := IT.nodesL_take_le l n
   simp only [IT.nodes]; omega
theorem zns (ps : List Nat) (row l : List IT) : ∀ r ∈ za1 row ps l, r.length = row.length := by
 rw [zi8]
 intro r h
 obtain ⟨s, _, rfl⟩ := List.mem_map.1 h
 simp
theorem zof {l : List IT} {x : IT} (h : x ∈ l) : x.nodes ≤ IT.nodesL l := by
 induction l with
 | nil => simp at h
 | cons y l ih =>
  simp only [IT.nodesL]
  rcases List.mem_cons.1 h with rfl | h
  ·omega
  ·have := ih h; omega
theorem zsP {l : List VT} {P : List Nat} (h : ∀ x ∈ l, x.nodes ≤ 200) : ∀ x ∈ zb7 l P, x.nodes ≤ 200 := by
 intro x hx
 rcases zjh _ _ _ _ hx with hx | hx
 ·rw [List.eq_of_mem_replicate hx]; simp [IT.nodes, IT.nodesL]
 ·obtain ⟨j, _, rfl⟩ := List.mem_map.1 hx
  refine Nat.le_trans (zpx _) ?_
  rw [List.getD_eq_getElem?_getD]
  cases hj : l[j]? with
  | none => simp [VT.nodes, VT.nodesL]
  | some y => exact h y (List.mem_of_getElem? hj)
theorem zuc (l : List VT) (bs : List Bool) (c : Int) (kids : List IT) : ∀ r ∈ zcZ l bs c kids, r.length = l.length := by
 intro r h
 unfold zcZ at h
 rcases List.mem_append.1 h with h | h
 ·rw [zns _ _ _ r h]; simp [zb7]
 ·unfold zcI at h
  split at h
  ·simp at h
  ·split at h
   ·rw [zns _ _ _ r h]; simp [zb7]
   ·simp at h
theorem zub {l : List VT} {bs : List Bool} {c : Int} {kids : List IT} (hl : ∀ x ∈ l, x.nodes ≤ 200) (hk : IT.nodesL kids + 1 ≤ 1000) : ∀ r ∈ zcZ l bs c kids, ∀ x ∈ r, x.nodes ≤ 1000 := by
 have hb := zsP (P := pos false bs bs.length) hl
 intro r h
 unfold zcZ at h
 rcases List.mem_append.1 h with h | h
 ·exact zja _ _ _ (fun x hx => by have := hb x hx; omega) hk r h
 ·unfold zcI at h
  split at h
  ·simp at h
  ·rename_i c' ps rest
   simp only [IT.nodesL, IT.nodes] at hk
   split at h
   ·refine zja _ _ _ (fun x hx => ?_) (by omega) r h
    rcases zjh _ _ _ _ hx with hx | hx
    ·have := hb x hx; omega
    ·have := zof hx; omega
   ·simp at h
theorem zgx {a n : Nat} (ha : a ≤ 7) (hn : n ≤ 8) : a ^ n ≤ 100000000 :=
 Nat.le_trans (Nat.pow_le_pow_left ha n) (Nat.le_trans (Nat.pow_le_pow_right (by omega) hn) (by decide))
theorem zua {l : List VT} {bs : List Bool} {c : Int} {kids : List IT} (hk : kids.length ≤ 6) (hb : bs.length ≤ 8) : (zcZ l bs c kids).length ≤ 200000000 := by
 have hR := zdn true bs bs.length
 unfold zcZ
 rw [List.length_append]
 have h1 := Nat.le_trans (zi9 (pos true bs bs.length) (zb7 l (pos false bs bs.length)) kids) (zgx (by omega) (by omega))
 have : (zcI (zb7 l (pos false bs bs.length)) (pos false bs bs.length) (pos true bs bs.length) c kids).length ≤ 100000000 := by
  unfold zcI
  split
  ·simp
  ·rename_i c' ps rest
   split
   ·exact Nat.le_trans (zi9 _ _ _) (zgx (by simp at hk; omega) (by omega))
   ·simp
 omega
theorem zvp (n : Nat) : All2 WkA (List.replicate n [AV.int .i64 0, .snil]).flatten (zaG (List.replicate n (.mk 0 []))) := by
 induction n with
 | zero => exact trivial
 | succ n ih =>
  rw [List.replicate_succ, List.replicate_succ, List.flatten_cons, zcY]
  exact ⟨.refl _, .snil, ih⟩
theorem zeL {H J : zaa} {K : Kt} {e : Int} (hs : HSc H) (hK : K (.tup [.sl [] .none, .int .i64 e]) H) : zd4 H.length K (.tup [.snil, .int .i64 e]) (H ++ J) :=
 ⟨.tup [.sl [] .none, .int .i64 e], H, J, rfl, Nat.le_refl _, hs, .tup ⟨.one (.wk (.atom .snil) rfl rfl), .one (.wk (.atom (.refl _)) rfl rfl), trivial⟩, hK⟩
theorem RowsH.weaken {X : zaa} {lo lo' id : Nat} {rows : List (List IT)} (h : RowsH X lo id rows) (hl : lo' ≤ lo) : RowsH X lo' id rows := by
 obtain ⟨h1, cs, h2, h3⟩ := h
 exact ⟨by omega, cs, h2, h3.mono fun c r hc => hc.keep hl fun b _ hb _ => ⟨hb, rfl⟩⟩
theorem RowsH.agree {X Y : zaa} {lo id : Nat} {rows : List (List IT)} (h : RowsH X lo id rows) (ha : ∀ k, lo ≤ k → k < X.length → Y[k]? = X[k]?) : RowsH Y lo id rows := by
 obtain ⟨h1, cs, h2, h3⟩ := h
 exact ⟨h1, cs, by rw [ha _ h1 (List.getElem?_eq_some_iff.1 h2).1]; exact h2, h3.mono fun c r hc => hc.keep (Nat.le_refl _) fun b hb hb2 hb3 => ⟨hb2, ha b hb hb3⟩⟩
theorem zsN {H3 : zaa} {lo1 id1 lo2 id2 : Nat} {rows1 rows2 : List (List IT)} {K : Kt} (h1 : RowsH H3 lo1 id1 rows1) (h2 : RowsH H3 lo2 id2 rows2) (hlt : id1 < lo2) (hlo : lo1 ≤ lo2) (hb : rows1.length + rows2.length ≤ 1000000000) (hs : HSc H3)
  (hK : ∀ H4, HSc H4 → RowsH H4 lo1 id1 (rows1 ++ rows2) → (∀ X, X <+: H3 → X.length ≤ id1 → X <+: H4) → K (.ov id1 (rows1 ++ rows2).length) H4) : zar zbk 1 24 (.ov id1 rows1.length) (.ov id2 rows2.length) H3 K := by
 obtain ⟨g1, cs1, hc1, hx1⟩ := h1
 obtain ⟨g2, cs2, hc2, hx2⟩ := h2
 have hl1 := (List.getElem?_eq_some_iff.1 hc1).1
 have k1 := zeP hx1
 have k2 := zeP hx2
 refine zm0 hc1 hc2 k2.2 (by rw [hx2.length]; simp) (by omega) (by omega) ?_
 rw [← List.length_append]
 have hkp : ∀ b, b ≠ id1 → (H3.set id1 (.vec zbk 1 (rows1 ++ rows2).length (cs1 ++ cs2)))[b]? = H3[b]? := fun b hb => List.getElem?_set_ne (fun h => hb h.symm)
 refine hK _ (hs.set ?_) ⟨g1, cs1 ++ cs2, List.getElem?_set_self hl1, (hx1.mono fun c r hc => hc.keep (Nat.le_refl _) fun b _ hb _ => ⟨hb, hkp b hb⟩).append (hx2.mono fun c r hc => hc.keep hlo fun b hb1 hb2 hb3 => ?_)⟩ (fun X hX hl => zgy hX hl)
 ·simp only [AB.sc, List.all_append, k1.1, k2.1, Bool.and_self]
 ·have : b ≠ id1 := by omega
  exact ⟨this, hkp b this⟩
theorem znI : ∀ (ps : List Nat) (xs row : List IT) (p : Nat) (x : IT), xs.length = ps.length → fill row (ps ++ [p]) (xs ++ [x]) = (fill row ps xs).set p x
 | [], [], row, p, x, _ => by simp [fill]
 | [], _ :: _, _, _, _, h => by simp at h
 | _ :: _, [], _, _, _, h => by simp at h
 | q :: ps, y :: xs, row, p, x, h => by
  simp only [List.cons_append, fill]
  exact znI ps xs _ p x (by simpa using h)
theorem znJ {P : List Nat} {xs row : List IT} {i : Nat} (hi : i < P.length) (hx : i < xs.length) : fill row (P.take (i + 1)) (xs.take (i + 1)) = (fill row (P.take i) (xs.take i)).set P[i] xs[i] := by
 rw [List.take_succ_eq_append_getElem hi, List.take_succ_eq_append_getElem hx]
 exact znI _ _ _ _ _ (by simp; omega)
theorem zCG (data : List Dat) (hk : za8 data) (t : VT) (ht : t.nodes ≤ 1000) (c : Int) (v : IT) (hv : v.nodes ≤ 900) (H : zaa) (K : Kt)
  (hbad : ∀ e, zcR data t c v = some e → K (.tup [.sl [] .none, .int .i64 e]) H)
  (hgood : zcR data t c v = none → ∃ l bs, zaU data t c = some l ∧ l.length = bs.length ∧ l.length ≤ 8 ∧ (∀ x ∈ l, x.nodes ≤ 200) ∧ zbN data t c = some (pick l bs) ∧
   (∀ H K, K (.sl (zbd bs) .none) H → ACalls tP zdl [.sl (data.map Dat.cs) .none, .int .i64 t.num, .int .i64 c] H K) ∧
   ∀ rs, rs.Perm (zcZ l bs c (zdK v)) → rs.Pairwise rle → K (.tup [zep rs, .int .i64 0]) H) :
  ACalls tP zgl [.sl (data.map Dat.cs) .none, .agg t.cs, .int .i64 c, .agg v.cs] H K := by
 refine ACalls.out2 (zCF fun hs => ?_)
 obtain ⟨f1, f2, f3⟩ := zee hk
 obtain ⟨k, n, ks⟩ := t
 obtain ⟨m, vs⟩ := v
 simp [zq8, VT.cs, IT.cs, Nat.add_assoc]
 refine zqp data hk (.mk k n ks) ht (.mk m vs) hv _ _ ?_
 by_cases hd : zbe data (.mk k n ks) (.mk m vs) < 0
 ·have hd' : decide (0 ≤ zbe data (.mk k n ks) (.mk m vs)) = false := by simpa using hd
  simp [hd']
  exact ⟨⟨rfl, rfl⟩, zeL hs (hbad 1 (by simp [zcR, hd]))⟩
 have hd' : decide (0 ≤ zbe data (.mk k n ks) (.mk m vs)) = true := by simpa using hd
 simp [hd']
 by_cases h5 : k = 5
 ·subst h5
  have hfine : zbC data (.mk 5 n ks) = true := by
   unfold zbe at hd
   by_cases h : zbC data (.mk 5 n ks) = true
   ·exact h
   ·rw [if_neg h] at hd; omega
  have hrd : 0 ≤ rdV data (.mk m vs) (.mk 5 n ks) := by
   unfold zbe at hd
   rw [if_pos hfine] at hd
   omega
  obtain ⟨rfl, hl6, hrE⟩ : m = 0 ∧ vs.length ≤ 6 ∧ 0 ≤ rdE data vs (.mk 5 n ks) 0 := by
   simp [rdV, VT.kind] at hrd
   by_cases h : m = 0 ∧ vs.length ≤ 6
   ·rw [if_pos h] at hrd
    exact ⟨h.1, h.2, hrd⟩
   ·rw [if_neg h] at hrd; omega
  obtain ⟨hn0, hnl⟩ := zvj (by unfold zbC at hfine; rw [Bool.and_eq_true] at hfine; exact hfine.2)
  have hbad8 : (c < 0 ∨ (data[n.toNat].cons.length : Int) ≤ c) → K (.tup [.sl [] .none, .int .i64 8]) H := fun h => hbad 8 (by
   simp only [zcR, if_neg hd, VT.kind, VT.num, ne_eq, not_true_eq_false, if_false, List.getD_eq_getElem?_getD, List.getElem?_eq_getElem hnl, Option.getD_some]
   rw [if_pos h])
  by_cases hc0 : c < 0
  ·simp [hc0]
   exact ⟨⟨rfl, rfl⟩, zeL hs (hbad8 (.inl hc0))⟩
  have hnl2 : n < (data.length : Int) := by omega
  by_cases hc8 : (data[n.toNat].cons.length : Int) ≤ c
  ·simp [hc0, hn0, hnl2, List.getElem?_eq_getElem hnl, Dat.cs, hc8]
   exact ⟨⟨rfl, rfl⟩, zeL hs (hbad8 (.inr hc8))⟩
  simp [hc0, hn0, hnl2, List.getElem?_eq_getElem hnl, Dat.cs, hc8]
  refine zlj data f1 f2 f3 (.mk 5 n ks) ht c _ _ ?_
  cases hf : zaU data (.mk 5 n ks) c with
  | none =>
   simp [zbM]
   exact ⟨⟨rfl, rfl⟩, zeL hs (hbad 0 (by
    simp only [zcR, if_neg hd, VT.kind, VT.num, ne_eq, not_true_eq_false, if_false, List.getD_eq_getElem?_getD, List.getElem?_eq_getElem hnl, Option.getD_some]
    rw [if_neg (by omega), if_pos hf]))⟩
  | some l =>
   have hE : zcR data (.mk 5 n ks) c (.mk 0 vs) = none := by
    simp only [zcR, if_neg hd, VT.kind, VT.num, ne_eq, not_true_eq_false, if_false, List.getD_eq_getElem?_getD, List.getElem?_eq_getElem hnl, Option.getD_some]
    rw [if_neg (by omega), if_neg (by simp [hf])]
   obtain ⟨l', bs, hf', hlb, hl8, h200, hpay, hrec, hK⟩ := hgood hE
   rw [hf] at hf'
   cases hf'
   simp [zbM]
   refine zyw data hk 5 n ks ht c hf hlb hl8 hfine hrec _ _ ?_
   have hP8 := zdn false bs bs.length
   have hPl : ∀ j ∈ pos false bs bs.length, j < l.length := fun j hj => by have := zkd hj; omega
   have hPn : (pos false bs bs.length).Nodup := List.Pairwise.filter _ List.nodup_range
   have hRl : ∀ j ∈ pos true bs bs.length, j < l.length := fun j hj => by have := zkd hj; omega
   have hR8 := zdn true bs bs.length
   have hK : ∀ rs, rs.Perm (za1 (zb7 l (pos false bs bs.length)) (pos true bs bs.length) vs ++ zcI (zb7 l (pos false bs bs.length)) (pos false bs bs.length) (pos true bs bs.length) c vs) → rs.Pairwise rle → K (.tup [zep rs, .int .i64 0]) H := hK
   have hwide := zuc l bs c vs
   have hnds := zub (bs := bs) (c := c) (kids := vs) h200 (by simp only [IT.nodes] at hv; omega)
   have hlen := zua (l := l) (c := c) hl6 (by omega : bs.length ≤ 8)
   unfold zcZ at hwide hnds hlen
   have hpk : (pick l bs).length = (pos false bs bs.length).length := by
    have := zkc hlb (.mk 0 0 []) l.length (Nat.le_refl _)
    rw [List.take_length, hlb, List.take_length] at this
    rw [this, List.length_map]
   generalize pos false bs bs.length = P at *
   generalize pos true bs bs.length = R at *
   have hfv : ∀ x ∈ l, zbC data x = true := fun x hx => by
    unfold zbC at hfine ⊢
    rw [Bool.and_eq_true] at hfine ⊢
    refine ⟨hfine.1, ztg hfine.1 (by have := hfine.2; rw [za6, Bool.and_eq_true] at this; exact this.2) hf x hx⟩
   simp [zca]
   simp only [zbm, Int.toNat_natCast]
   refine ⟨by omega, ?_⟩
   unfold ziO
   refine ALoop.reCell (id := H.length + 2) (zaG (List.replicate l.length (.mk 0 []))) (by simp) (zvp _) ?_
   have hset : (H ++ [AB.cells [.int .i64 5, .int .i64 n, .sl (VT.css ks) .none], .cells [.int .i64 0, .sl (IT.css vs) .none]] ++ [AB.cells (List.replicate l.length [AV.int .i64 0, .snil]).flatten]).set (H.length + 2) (.cells (zaG (List.replicate l.length (.mk 0 [])))) =
     H ++ [AB.cells [.int .i64 5, .int .i64 n, .sl (VT.css ks) .none], .cells [.int .i64 0, .sl (IT.css vs) .none], .cells (zaG (List.replicate l.length (.mk 0 [])))] := by simp [List.set_append_right]
   rw [hset]
   have hl2 : (H ++ [AB.cells [AV.int IntKind.i64 5, AV.int IntKind.i64 n, AV.sl (VT.css ks) Tok.none], AB.cells [AV.int IntKind.i64 0, AV.sl (IT.css vs) Tok.none]]).length = H.length + 2 := by simp
   rw [hl2]
   show ziO (.sl (data.map Dat.cs) .none) (.int .i64 c) (.ptr (H.length + 1) 0) (.sl (VT.css l) .none) (.sl (zay P) .none) (.sl (zay R) .none) (.ms (H.length + 2) 0 l.length l.length) (.sl (zay P) .none) (.int .i64 P.length) (.int .i64 0) _ (zd4 H.length K)
   have hZ : ∀ r : List IT, HSc (H ++ [AB.cells [.int .i64 5, .int .i64 n, .sl (VT.css ks) .none], .cells [.int .i64 0, .sl (IT.css vs) .none], .cells (zaG r)]) := fun r => hs.append (by simp [AB.sc, AV.scA, AV.scB, zoK])
   refine zCy (Inv := fun q t67 H' => ∃ i : Nat, i ≤ P.length ∧ q = P.length - i ∧ t67 = .int .i64 i ∧ H' = H ++ [AB.cells [.int .i64 5, .int .i64 n, .sl (VT.css ks) .none], .cells [.int .i64 0, .sl (IT.css vs) .none], .cells (zaG (fill (List.replicate l.length (.mk 0 [])) (P.take i) ((P.map fun j => zbv (l.getD j (.mk 0 0 []))).take i)))]) P.length ?_ ?_
   ·intro _; exact ⟨0, by omega, by omega, rfl, by simp⟩
   ·rintro q t67 H' ⟨i, hi, rfl, rfl, rfl⟩ hsc hlen' hsF Kb hKb
    by_cases hlt : i < P.length
    ·have hPi := hPl _ (List.getElem_mem hlt)
     have hft := znJ (row := List.replicate l.length (.mk 0 [])) hlt (xs := P.map fun j => zbv (l.getD j (.mk 0 0 []))) (by simpa using hlt)
     simp only [List.getElem_map, List.getD_eq_getElem?_getD, List.getElem?_eq_getElem hPi, Option.getD_some] at hft
     simp [zmx, zca, zj6, hlt, hPi]
     have hmem := List.getElem_mem hPi
     refine zyA data hk (l[P[i]]) (by have := h200 _ hmem; omega) _ _ (fun _ => ?_) (hfv _ hmem)
     obtain ⟨x, y, hzz, hx, hy⟩ := zcU (zbv l[P[i]])
     have hrs := zfn (fill (List.replicate l.length (.mk 0 [])) (P.take i) ((P.map fun j => zbv (l[j]?.getD (.mk 0 0 []))).take i)) P[i] (zbv l[P[i]]) (by simpa using hPi)
     rw [← hft] at hrs
     simp [hzz, hx, hy]
     refine ⟨by rw [zcH]; simp; omega, ?_⟩
     rw [zan (by omega) (by omega)]
     refine hKb _ _ ⟨P.length - (i + 1), by omega, Back.at (J := []) (H2 := H ++ [AB.cells [.int .i64 5, .int .i64 n, .sl (VT.css ks) .none], .cells [.int .i64 0, .sl (IT.css vs) .none], .cells (zaG (fill (List.replicate l.length (.mk 0 [])) (P.take (i + 1)) ((P.map fun j => zbv (l[j]?.getD (.mk 0 0 []))).take (i + 1))))]) ?_ (by simp) (hZ _) ?_ ⟨_, rfl, i + 1, by omega, rfl, by simp, by simp [List.getD_eq_getElem?_getD]⟩⟩
     ·rw [← hrs, hzz]; simp [List.set_append_right]
     ·simp [ziL, AV.sc, AV.scV, AV.scA, AV.scB]
    ·obtain rfl : i = P.length := by omega
     rw [List.take_length, List.take_of_length_le (by simp)] at *
     have hbase : fill (List.replicate l.length (.mk 0 [])) P (P.map fun j => zbv (l.getD j (.mk 0 0 []))) = zb7 l P := rfl
     rw [hbase]
     have hbl : (zb7 l P).length = l.length := by simp [zb7]
     generalize zb7 l P = base at *
     have hHB : HSc (H ++ [AB.cells [.int .i64 5, .int .i64 n, .sl (VT.css ks) .none], .cells [.int .i64 0, .sl (IT.css vs) .none], .cells (zaG base)]) := hZ base
     simp [zmx, zca]
     refine zlp R _ _ base vs _ ⟨zcH _, zkh _, .inl ⟨H.length + 2, by rw [hbl], by simp⟩⟩ (fun p hp => by rw [hbl]; exact hRl p hp) (by omega) (by omega) (by omega) (zgx (by omega) (by omega)) ?_
     intro id H1 hp1 hsc1 hR1
     have hp0 : H <+: H1 := List.IsPrefix.trans ⟨_, rfl⟩ hp1
     have hg1 : H1[H.length + 1]? = some (.cells [.int .i64 0, .sl (IT.css vs) .none]) := by rw [zfm hp1 (by simp)]; simp
     have hg2 : H1[H.length + 2]? = some (.cells (zaG base)) := by rw [zfm hp1 (by simp)]; simp
     have hfin1 : zcI base P R c vs = [] → zfB (.ov id (za1 base R vs).length) H1 (zd4 H.length K) := fun h0 => by
      rw [h0, List.append_nil] at hwide hnds hlen hK
      exact zo9 hp0 hs (hR1.weaken (by simp)) hwide (by omega) hnds (by omega) K hK
     simp [hg1]
     cases vs with
     | nil =>
      simp
      exact hfin1 rfl
     | cons x rest =>
      obtain ⟨c', ps⟩ := x
      have hg1' : H1[H.length + 1]? = some (.cells [.int .i64 0, .sl ([.int .i64 c', .sl (IT.css ps) .none] :: IT.css rest) .none]) := by rw [hg1]; simp [IT.css, IT.cs]
      simp [hg1']
      by_cases hcc : c' = c
      ·subst hcc
       have hpsl : ps.length = P.length := by
        rw [← hpk]
        simp only [rdE] at hrE
        by_cases h1 : c' < 0 ∨ 8 ≤ c'
        ·rw [if_pos h1] at hrE; omega
        ·rw [if_neg h1, hpay] at hrE
         by_cases h2 : (pick l bs).length = ps.length
         ·exact h2.symm
         ·simp only [if_neg h2] at hrE; omega
       have hHid : H.length + 3 ≤ id := by have := hR1.1; simpa using this
       have hH1l := (List.getElem?_eq_some_iff.1 hg2).1
       have hcut : ∀ r : List IT, r.length = l.length → HSc (H1.set (H.length + 2) (.cells (zaG r))) := fun r hr => hsc1.set (by simp [AB.sc, zoK])
       simp
       refine zCz (Inv := fun q t104 H' => ∃ i : Nat, i ≤ P.length ∧ q = P.length - i ∧ t104 = .int .i64 i ∧ H' = H1.set (H.length + 2) (.cells (zaG (fill base (P.take i) (ps.take i))))) P.length ?_ ?_
       ·intro _; exact ⟨0, by omega, by omega, rfl, by simp [zoS hg2]⟩
       ·rintro q t104 H' ⟨i, hi, rfl, rfl, rfl⟩ hsc hlen' hsF Kb hKb
        have hga : (H1.set (H.length + 2) (.cells (zaG (fill base (P.take i) (ps.take i)))))[H.length + 1]? = some (.cells [.int .i64 0, .sl ([.int .i64 c', .sl (IT.css ps) .none] :: IT.css rest) .none]) := by
         rw [List.getElem?_set_ne (by omega)]; exact hg1'
        have hgb : (H1.set (H.length + 2) (.cells (zaG (fill base (P.take i) (ps.take i)))))[H.length + 2]? = some (.cells (zaG (fill base (P.take i) (ps.take i)))) := List.getElem?_set_self hH1l
        by_cases hlt : i < P.length
        ·have hlp : i < ps.length := by omega
         obtain ⟨x, y, hzz, hx, hy⟩ := zcU ps[i]
         have hrs := zfn (fill base (P.take i) (ps.take i)) P[i] ps[i] (by rw [zeV, hbl]; exact hPl _ (List.getElem_mem hlt))
         rw [← znJ hlt hlp] at hrs
         have hPi := hPl _ (List.getElem_mem hlt)
         simp [zmy, zca, zj6, hlt, hlp, hga, hgb, hPi, hzz, hx, hy]
         refine ⟨by rw [zcH, zeV, hbl]; omega, ?_⟩
         have hcell : List.take (P[i] * 2) (zaG (fill base (List.take i P) (List.take i ps))) ++ x :: y :: List.drop (P[i] * 2 + 2) (zaG (fill base (List.take i P) (List.take i ps))) = zaG (fill base (P.take (i + 1)) (ps.take (i + 1))) := by rw [← hrs, hzz]; simp
         rw [hcell, zan (by omega) (by omega)]
         refine hKb _ _ ⟨P.length - (i + 1), by omega, Back.at (J := []) (H2 := H1.set (H.length + 2) (.cells (zaG (fill base (P.take (i + 1)) (ps.take (i + 1)))))) (by simp) (by simp) (hcut _ (by rw [zeV, hbl])) ?_ ⟨_, rfl, i + 1, by omega, rfl, by simp, rfl⟩⟩
         have hidl := (List.getElem?_eq_some_iff.1 hR1.2.choose_spec.1).1
         simp [ziM, AV.sc, AV.scV, AV.scA, AV.scB, hidl]
         omega
        ·obtain rfl : i = P.length := by omega
         rw [List.take_length, ← hpsl, List.take_length] at *
         simp [zmy, zca, hg1']
         refine ⟨fun a ha => zi5 ha, ?_⟩
         rw [List.take_of_length_le (show (IT.css rest).length ≤ rest.length by simp)]
         have hrow1 : (fill base P ps).length = l.length := by rw [zeV, hbl]
         refine zlp R _ _ (fill base P ps) rest _ ⟨zcH _, zkh _, .inl ⟨H.length + 2, by rw [hrow1], hgb⟩⟩ (fun p hp => by rw [hrow1]; exact hRl p hp) (by omega) (by simp at hl6; omega) (by omega) (zgx (by simp at hl6; omega) (by omega)) ?_
         intro id2 H2 hp2 hsc2 hR2
         have hlen1 : (H1.set (H.length + 2) (.cells (zaG (fill base P ps)))).length = H1.length := by simp
         have hag : ∀ k, H.length + 3 ≤ k → k < H1.length → H2[k]? = H1[k]? := fun k hk1 hk2 => by
          rw [zfm hp2 (by rw [hlen1]; exact hk2), List.getElem?_set_ne (by omega)]
         have hpH2 : H <+: H2 := List.IsPrefix.trans (zgy hp0 (by omega)) hp2
         have hR1' : RowsH H2 H.length id (za1 base R (.mk c' ps :: rest)) := (RowsH.agree hR1 (fun k hk1 hk2 => hag k (by simpa using hk1) hk2)).weaken (by simp)
         have hidl := (List.getElem?_eq_some_iff.1 hR1.2.choose_spec.1).1
         have hsec : zcI base P R c' (.mk c' ps :: rest) = za1 (fill base P ps) R rest := by simp [zcI]
         rw [hsec] at hwide hnds hlen hK
         rw [List.length_append] at hlen
         refine zsN hR1' hR2 (by rw [hlen1]; exact hidl) (by rw [hlen1]; omega) (by omega) hsc2 fun H4 hs4 hR4 hpre4 => ?_
         exact zo9 (hpre4 H hpH2 (by omega)) hs hR4 hwide (by omega) hnds (by rw [List.length_append]; omega) K hK
      ·have hcb : (c' == c) = false := by simpa using hcc
       simp [hcb]
       exact hfin1 (by simp [zcI, hcc])
 ·have hb : (k != 5) = true := by simpa using h5
  simp [hb]
  exact ⟨⟨rfl, rfl⟩, zeL hs (hbad 6 (by simp [zcR, hd, VT.kind, h5]))⟩
theorem zqc (vs : List IT) (hl : vs.length ≤ 1000000) (hel : ∀ v ∈ vs, ∀ (H : zaa) (K : Kt), K (.bool true) H → ACalls tP ze8 [.agg v.cs, .agg v.cs] H K) (H : zaa) (K : Kt) (hK : K (.bool true) H) : ACalls tP ze7 [.sl (IT.css vs) .none, .sl (IT.css vs) .none] H K := by
 refine ACalls.out (zxK fun hs2 => ?_)
 simp [zqa]
 refine zxI (Inv := fun q t13 H' => ∃ i : Nat, i ≤ vs.length ∧ q = vs.length - i ∧ t13 = .int .i64 i ∧ H' = H) vs.length ?_ ?_
 ·intro _; exact ⟨0, by omega, by omega, rfl, rfl⟩
 ·rintro q t13 H' ⟨i, hi, rfl, rfl, rfl⟩ hsc' hlen hsF Kb hKb
  by_cases hlt : i < vs.length
  ·simp [zk4, hlt]
   refine zbL (.bool true) (fun J => hel _ (List.getElem_mem hlt) _ _ ⟨rfl, rfl⟩) ?_
   simp
   rw [zan (by omega) (by omega)]
   refine hKb _ _ ⟨vs.length - (i + 1), by omega, Back.here (by simp) hsc' ?_ ⟨_, rfl, i + 1, by omega, rfl, by simp, rfl⟩⟩
   simp [zhm, AV.sc, AV.scV, AV.scA, AV.scB]
  ·simp [zk4, hlt]
   exact Out.bool (J := []) (by simp) (Nat.le_refl _) hs2 hK
theorem zxP : ∀ (m : Nat) (v : IT), v.nodes ≤ m → v.nodes ≤ 1000000 → ∀ (H : zaa) (K : Kt), K (.bool true) H → ACalls tP ze8 [.agg v.cs, .agg v.cs] H K := by
 intro m
 induction m with
 | zero => intro v h; have := v.nodes_pos; omega
 | succ m ih =>
  intro v hv hb H K hK
  obtain ⟨n, ks⟩ := v
  have hnl : IT.nodesL ks + 1 ≤ 1000000 := by simpa [IT.nodes] using hb
  have hll := IT.len_le ks
  refine ACalls.out (zxO fun hs2 => ?_)
  simp [zqd, IT.cs, Nat.add_assoc]
  refine zqc ks (by omega) (fun v hvm => by
   obtain ⟨i, hi, rfl⟩ := List.getElem_of_mem hvm
   have := IT.kid_lt (n := n) hi
   exact ih _ (by omega) (by omega)) _ _ ?_
  try simp
  exact Out.bool rfl (Nat.le_refl _) hs2 hK
def dOne : List Dat := [⟨[68], 0, [⟨[67], []⟩]⟩]
theorem znx : za8 dOne := by
 refine ⟨by simp [dOne], fun d hd => ?_⟩
 simp [dOne] at hd
 subst hd
 refine ⟨by simp, by simp, fun c hc => ?_⟩
 simp at hc
 subst hc
 exact ⟨by simp, by simp, by simp⟩
theorem znw : zaU dOne (.mk 5 0 []) 0 = some [] := by kernel_rfl
theorem zs9 : zcR dOne (.mk 5 0 []) 0 (.mk 0 [.mk 0 []]) = none := by kernel_rfl
theorem zsO (H : zaa) (K : Kt) (hK : K (.bool true) H) : ACalls tP zjx [] H K := by
 refine ACalls.out (zwt fun hs => ?_)
 simp [zpE, zav, zaV, zaw, zbp, zaD, AV.pd, AV.known, Nat.add_assoc]
 obtain ⟨bs, hlb, hl8, hpay, h200, _, hsc, _⟩ := zka znx znw
 have hbs : bs = [] := by cases bs <;> simp_all
 subst hbs
 have hgo : ∀ (H : zaa) (K : Kt), K (.tup [.sl [[.sl [] .none]] .none, .int .i64 0]) H → ACalls tP zgl [.sl (dOne.map Dat.cs) .none, .agg (VT.mk 5 0 []).cs, .int .i64 0, .agg (IT.mk 0 [.mk 0 []]).cs] H K := fun H K hK => by
  refine zCG dOne znx (.mk 5 0 []) (by decide) 0 (.mk 0 [.mk 0 []]) (by decide) H K (fun e he => by rw [zs9] at he; cases he) (fun _ => ⟨[], [], znw, rfl, by simp, by simp, hpay, hsc, fun rs hp _ => ?_⟩)
  have hr : zcZ [] [] 0 (zdK (.mk 0 [.mk 0 []])) = [[]] := by kernel_rfl
  rw [hr] at hp
  obtain rfl := List.perm_singleton.1 hp
  exact hK
 refine ACalls.wk (hgo H _ ?_) ⟨.atom (.sl _ _), .agg ⟨.refl _, .refl _, .snil, trivial⟩, .atom (.refl _), .agg ⟨.refl _, .sl _ _, trivial⟩, trivial⟩
 simp
 exact Out.bool (J := []) (by simp) (Nat.le_refl _) hs hK
theorem zuA (data : List Dat) (hlen : data.length ≤ 9223372036854775807) (t : VT) (H : zaa) (K : Kt) (hK : ∀ b, (b = true → za8 data ∧ t.nodes ≤ 250) → K (.bool b) H) : ACalls tP zjS [.sl (data.map Dat.cs) .none, .agg t.cs] H K := by
 refine ACalls.out (zBr fun hs => ?_)
 have hO : ∀ b, (b = true → za8 data ∧ t.nodes ≤ 250) → ∀ J, Out H.length K (.bool b) (H ++ J) := fun b h J => Out.bool rfl (Nat.le_refl _) hs (hK b h)
 obtain ⟨x, y, z, hvx, hx, hy, hz⟩ := zbf t
 simp [zq6, hvx, Nat.add_assoc]
 refine zxY data _ _ hlen fun b1 hb1 => ?_
 cases b1 with
 | false =>
  simp
  exact hO _ (fun h => by cases h) _
 | true =>
  simp [Nat.add_assoc]
  rw [← hvx]
  refine zx2 t _ _ fun b2 hb2 => ?_
  try simp
  exact hO _ (fun h => ⟨hb1 rfl, hb2 h⟩) _
theorem zul (v : IT) (hv : v.nodes ≤ 1000000) (H : zaa) (K : Kt) (hK : K (.bool true) H) : ACalls tP ze8 [.agg v.cs, .agg v.cs] H K := zxP _ v (Nat.le_refl _) hv H K hK
theorem zun (vs : List IT) (hl : vs.length ≤ 1000000) (hv : ∀ v ∈ vs, v.nodes ≤ 1000000) (H : zaa) (K : Kt) (hK : K (.bool true) H) : ACalls tP ze7 [.sl (IT.css vs) .none, .sl (IT.css vs) .none] H K :=
 zqc vs hl (fun v h H K hK => zul v (hv v h) H K hK) H K hK
def zbU (data : List Dat) (t : VT) (v : IT) : Int := if zbe data t v < 0 then 1 else if t.kind ≠ 6 then 6 else 0
def zcy (data : List Dat) (t : VT) (v : IT) : List IT := if zbU data t v = 0 then zdK v else []
theorem zxB (data : List Dat) (hk : za8 data) (t : VT) (ht : t.nodes ≤ 1000) (v : IT) (hv : v.nodes ≤ 900) (H : zaa) (K : Kt) (hK : K (.tup [.sl (IT.css (zcy data t v)) .none, .int .i64 (zbU data t v)]) H) :
  ACalls tP zjG [.sl (data.map Dat.cs) .none, .agg t.cs, .agg v.cs] H K := by
 refine ACalls.out (zxA fun hs => ?_)
 obtain ⟨k, n, ks⟩ := t
 obtain ⟨m, vs⟩ := v
 simp [zp8, VT.cs, IT.cs, Nat.add_assoc]
 refine zqp data hk (.mk k n ks) ht (.mk m vs) hv _ _ ?_
 by_cases hd : zbe data (.mk k n ks) (.mk m vs) < 0
 ·have hd' : decide (0 ≤ zbe data (.mk k n ks) (.mk m vs)) = false := by simpa using hd
  have hE : zbU data (.mk k n ks) (.mk m vs) = 1 := by simp [zbU, hd]
  simp [zcy, hE, IT.css] at hK
  simp [hd']
  exact ⟨⟨rfl, rfl⟩, Out.tup (bs := [.sl [] .none, .int .i64 1]) hs hK ⟨zcw, zaM rfl rfl, trivial⟩⟩
 have hd' : decide (0 ≤ zbe data (.mk k n ks) (.mk m vs)) = true := by simpa using hd
 simp [hd']
 by_cases h6 : k = 6
 ·subst h6
  have hE : zbU data (.mk 6 n ks) (.mk m vs) = 0 := by simp [zbU, hd, VT.kind]
  simp only [zcy, hE, zdK, if_true] at hK
  simp
  refine zqG _ (.mk m vs) (Nat.le_refl _) (by omega) _ _ ?_
  simp [IT.cs]
  exact ⟨⟨rfl, rfl⟩, Out.tup (bs := [.sl (IT.css vs) .none, .int .i64 0]) hs hK ⟨slV, zaM rfl rfl, trivial⟩⟩
 ·have hb : (k != 6) = true := by simpa using h6
  have hE : zbU data (.mk k n ks) (.mk m vs) = 6 := by simp [zbU, hd, VT.kind, h6]
  simp [zcy, hE, IT.css] at hK
  simp [hb]
  exact ⟨⟨rfl, rfl⟩, Out.tup (bs := [.sl [] .none, .int .i64 6]) hs hK ⟨zcw, zaM rfl rfl, trivial⟩⟩
theorem zxF (data : List Dat) (hk : za8 data) (t : VT) (ht : t.nodes ≤ 1000) (v : IT) (hv : v.nodes ≤ 900) (H : zaa) (K : Kt) (hK : K (.tup [.sl (IT.css (zcy data t v)) .none, .int .i64 (zbU data t v)]) H) :
  ACalls tP zjH [.sl (data.map Dat.cs) .none, .agg t.cs, .agg v.cs] H K := by
 refine ACalls.out (zxE fun hs => ?_)
 obtain ⟨k, n, ks⟩ := t
 obtain ⟨m, vs⟩ := v
 simp [zp9, VT.cs, IT.cs, Nat.add_assoc]
 refine zy2 data hk (.mk k n ks) ht (.mk m vs) hv _ _ ?_
 by_cases hd : zbe data (.mk k n ks) (.mk m vs) < 0
 ·have hd' : decide (0 ≤ zbe data (.mk k n ks) (.mk m vs)) = false := by simpa using hd
  have hE : zbU data (.mk k n ks) (.mk m vs) = 1 := by simp [zbU, hd]
  simp [zcy, hE, IT.css] at hK
  simp [hd']
  exact ⟨⟨rfl, rfl⟩, Out.tup (bs := [.sl [] .none, .int .i64 1]) hs hK ⟨zcw, zaM rfl rfl, trivial⟩⟩
 have hd' : decide (0 ≤ zbe data (.mk k n ks) (.mk m vs)) = true := by simpa using hd
 simp [hd']
 by_cases h6 : k = 6
 ·subst h6
  have hE : zbU data (.mk 6 n ks) (.mk m vs) = 0 := by simp [zbU, hd, VT.kind]
  simp only [zcy, hE, zdK, if_true] at hK
  simp
  refine zzA _ (.mk m vs) (Nat.le_refl _) (by omega) _ _ ?_
  simp [IT.cs]
  exact ⟨⟨rfl, rfl⟩, Out.tup (bs := [.sl (IT.css vs) .none, .int .i64 0]) hs hK ⟨slV, zaM rfl rfl, trivial⟩⟩
 ·have hb : (k != 6) = true := by simpa using h6
  have hE : zbU data (.mk k n ks) (.mk m vs) = 6 := by simp [zbU, hd, VT.kind, h6]
  simp [zcy, hE, IT.css] at hK
  simp [hb]
  exact ⟨⟨rfl, rfl⟩, Out.tup (bs := [.sl [] .none, .int .i64 6]) hs hK ⟨zcw, zaM rfl rfl, trivial⟩⟩
theorem zsu (data : List Dat) (hlen : data.length ≤ 9223372036854775807) (t : VT) (v : IT) (H : zaa) (K : Kt) (hK : K (.bool true) H) :
  ACalls tP zjM [.sl (data.map Dat.cs) .none, .agg t.cs, .agg v.cs] H K := by
 refine ACalls.out (zzn fun hs => ?_)
 have hO : ∀ J, Out H.length K (.bool true) (H ++ J) := fun J => Out.bool rfl (Nat.le_refl _) hs hK
 obtain ⟨x, y, z, hvx, hx, hy, hz⟩ := zbf t
 obtain ⟨x2, y2, hvx2, hx2, hy2⟩ := zcU v
 simp [zq3, hvx, hvx2, Nat.add_assoc]
 rw [← hvx]
 refine zuA data hlen t _ _ fun b1 hb1 => ?_
 cases b1 with
 | false =>
  simp
  exact hO _
 | true =>
  obtain ⟨hk, ht⟩ := hb1 rfl
  simp [Nat.add_assoc]
  rw [← hvx2]
  refine zBv v _ _ fun b2 hb2 => ?_
  cases b2 with
  | false =>
   simp
   exact hO _
  | true =>
   have hv := hb2 rfl
   simp [Nat.add_assoc]
   refine zxB data hk t (by omega) v (by omega) _ _ ?_
   simp
   refine zxF data hk t (by omega) v (by omega) _ _ ?_
   simp
   obtain ⟨m, vs⟩ := v
   have hnn : (IT.mk m vs).nodes = IT.nodesL vs + 1 := by simp [IT.nodes]
   have hll := IT.len_le vs
   have hrow : (zcy data t (.mk m vs)).length ≤ 1000000 ∧ ∀ w ∈ zcy data t (.mk m vs), w.nodes ≤ 1000000 := by
    unfold zcy
    split
    ·exact ⟨by simp only [zdK]; omega, fun w hw => by have := zof hw; simp only [zdK] at this; omega⟩
    ·exact ⟨by simp, fun w hw => by simp at hw⟩
   refine zun _ hrow.1 hrow.2 _ _ ?_
   try simp
   refine zsO _ _ ?_
   try simp
   exact hO _
end Go.Proofs.YtacebbdfgbfgiaaGreat
namespace Go.Abs
open Go Go.RowKit

def za9 (P : Program) : Nat → TypeId → List AV → Prop
 | 0, _, _ => False
 | n + 1, t, asx => match P.underlying t with
  | some .bool => ∃ b, asx = [.bool b]
  | some (.int k) => ∃ m, asx = [.int k m] ∧ (Lit.int k m).wf = true
  | some .string => ∃ s, asx = [.str s] ∧ s.length ≤ maxLen
  | some (.slice e) => ∃ es, asx = [.sl es .none] ∧ es.length ≤ maxLen ∧ ∀ c ∈ es, za9 P n e c
  | some (.struct fs) => asx.length = P.cellsOf t ∧ ∀ f ∈ fs.toList, za9 P n f.type ((asx.drop f.offset).take (P.cellsOf f.type))
  | _ => False

def zds (P : Program) : List Field → Nat → Nat → Bool
 | [], at_, n => at_ == n
 | f :: fs, at_, n => f.offset == at_ && zds P fs (at_ + P.cellsOf f.type) n
def zfk (P : Program) (S : List TypeId) : Bool :=
 S.all fun t => match P.underlying t with
  | some .bool | some (.int _) | some .string => P.cellsOf t == 1
  | some (.slice e) => S.contains e && decide (0 < P.cellsOf e) && P.cellsOf t == 1
  | some (.struct fs) => fs.toList.all (fun f => S.contains f.type) && zds P fs.toList 0 (P.cellsOf t)
  | _ => false

section
variable {Hh : Type} {enc : TypeId × Value → Hh} {P : Program} {w : World} {base : Nat} {spare : Nat → Bool} {held : Bool}

theorem zpa {R : Value → AV → Prop} {cs : List Value} : ∀ (fs : List Field) (at_ n : Nat) (T : Field → List AV → Prop), zds P fs at_ n = true → cs.length = n →
  (∀ f ∈ fs, ∃ asx, All2 R ((cs.drop f.offset).take (P.cellsOf f.type)) asx ∧ T f asx) → at_ ≤ n →
  ∃ asx, All2 R (cs.drop at_) asx ∧ ∀ f ∈ fs, T f ((asx.drop (f.offset - at_)).take (P.cellsOf f.type)) ∧ at_ ≤ f.offset
 | [], at_, n, T, ht, hl, hf, hle => by
  simp [zds] at ht
  subst ht
  refine ⟨[], ?_, by simp⟩
  rw [List.drop_eq_nil_of_le (by omega)]
  trivial
 | f :: fs, at_, n, T, ht, hl, hf, hle => by
  simp only [zds, Bool.and_eq_true, beq_iff_eq] at ht
  obtain ⟨h1, h2⟩ := ht
  have hbound : ∀ (fs : List Field) (k n : Nat), zds P fs k n = true → k ≤ n := by
   intro fs
   induction fs with
   | nil => intro k n h; simp [zds] at h; omega
   | cons g gs ih => intro k n h; simp only [zds, Bool.and_eq_true] at h; have := ih _ _ h.2; omega
  have hb := hbound fs _ _ h2
  obtain ⟨as0, ha0, hT0⟩ := hf f (by simp)
  obtain ⟨as1, ha1, hT1⟩ := zpa fs (at_ + P.cellsOf f.type) n T h2 hl (fun g hg => hf g (by simp [hg])) hb
  have hl0 : as0.length = P.cellsOf f.type := by
   have := ha0.length
   rw [List.length_take, List.length_drop] at this
   omega
  refine ⟨as0 ++ as1, ?_, ?_⟩
  ·have : cs.drop at_ = (cs.drop f.offset).take (P.cellsOf f.type) ++ cs.drop (at_ + P.cellsOf f.type) := by
    rw [h1, ← List.drop_drop, List.take_append_drop]
   rw [this]
   exact ha0.append ha1
  ·intro g hg
   rcases List.mem_cons.1 hg with rfl | hg
   ·rw [h1, Nat.sub_self, List.drop_zero, ← hl0, List.take_left]
    exact ⟨hT0, Nat.le_refl _⟩
   ·obtain ⟨k1, k2⟩ := hT1 g hg
    refine ⟨?_, by omega⟩
    have : (as0 ++ as1).drop (g.offset - at_) = as1.drop (g.offset - (at_ + P.cellsOf f.type)) := by
     rw [List.drop_append, List.drop_eq_nil_of_le (by omega), List.nil_append]
     congr 1
     omega
    rw [this]
    exact k1

theorem zfR {a : Addr} {n : Nat} {cs : List Value} (h : w.cells? base a n = some cs) : cs.length = n ∧ ∀ j v, cs[j]? = some v → w.cell? (a.add j) = some v := by
 unfold World.cells? at h
 split at h
 ·have h1 := mapM_some_length h
  refine ⟨by simpa using h1, fun j v hj => ?_⟩
  have hjn : j < n := by
   have := (List.getElem?_eq_some_iff.1 hj).1
   simp at h1
   omega
  have := mapM_some_get h j j (by simp [hjn])
  rw [this]
  exact hj
 ·cases h

theorem ztz {b o : Nat} {v : Value} (h : w.cell? ⟨b, o, none⟩ = some v) : o < zbw w b := by
 unfold World.cell? at h
 unfold zbw
 split at h
 ·rename_i c t fr hb
  simp only [hb]
  simp at h
  exact (Array.getElem?_eq_some_iff.1 h).1
 ·cases h

theorem zpf {S : List TypeId} (hS : zfk P S = true) : ∀ (n : Nat) (t : TypeId) (cs : List Value) (x : DataW Hh × List MemPlace), t ∈ S → DataW.trod enc P w base spare held n t cs = some x →
  ∃ asx, All2 (DRel w (zbw w)) cs asx ∧ za9 P n t asx := by
 intro n
 induction n with
 | zero => intro t cs x _ h; simp [DataW.trod] at h
 | succ n ih =>
  intro t cs x ht h
  have hp := List.all_eq_true.1 hS t ht
  unfold za9
  cases hu : P.underlying t with
  | none => simp [hu] at hp
  | some d =>
   rw [hu] at hp
   cases d <;> simp only [] at hp <;> try (cases hp; done)
   case bool =>
    obtain ⟨b, rfl, _⟩ := DataW.trod_bool hu h
    exact ⟨[.bool b], ⟨.bool b, trivial⟩, b, rfl⟩
   case int k =>
    obtain ⟨m, rfl, _, hw⟩ := DataW.trod_int hu h
    exact ⟨[.int k m], ⟨.int k m, trivial⟩, m, rfl, hw⟩
   case string =>
    obtain ⟨s, rfl, _, hw⟩ := DataW.trod_string hu h
    have hs : (⟨s.data.toList.toArray⟩ : ByteArray) = s := by simp
    refine ⟨[.str s.data.toList], ⟨?_, trivial⟩, s.data.toList, rfl, by rw [Array.length_toList]; exact hw⟩
    have := DRel.str (w := w) (L := zbw w) s.data.toList
    rwa [hs] at this
   case slice e =>
    simp only [Bool.and_eq_true, decide_eq_true_eq] at hp
    obtain ⟨⟨he, hpos⟩, _⟩ := hp
    have he : e ∈ S := by simpa using he
    rcases DataW.trod_slice hu h with ⟨rfl, _⟩ | ⟨a, len, cap, elems, rest, n', hn, rfl, _, hb, hl, hm, hlen, hel, _⟩
    ·exact ⟨[.sl [] .none], ⟨.slE _ _, trivial⟩, [], rfl, by simp, by simp⟩
    ·obtain rfl : n = n' := by omega
     have hat : ∀ i, i < len → ∃ cs asx, w.cells? base (a.add (i * P.cellsOf e)) (P.cellsOf e) = some cs ∧ All2 (DRel w (zbw w)) cs asx ∧ za9 P n e asx := by
      intro i hi
      have h1 := hel i hi
      rw [List.getElem?_eq_getElem (by omega)] at h1
      cases hc : w.cells? base (a.add (i * P.cellsOf e)) (P.cellsOf e) with
      | none => rw [hc] at h1; cases h1
      | some cs =>
       rw [hc] at h1
       obtain ⟨asx, h2, h3⟩ := ih e cs _ he h1
       exact ⟨cs, asx, rfl, h2, h3⟩
     by_cases h0 : len = 0
     ·subst h0
      exact ⟨[.sl [] .none], ⟨.slE _ _, trivial⟩, [], rfl, by simp, by simp⟩
     ·-- the address is a zaD one
      have hspot : a.spot = none := by
       obtain ⟨cs, asx, h1, h2, _⟩ := hat 0 (by omega)
       obtain ⟨h3, h4⟩ := zfR h1
       have h5 := h4 0 cs[0] (by simp)
       have := World.cell?_spot h5
       simpa [Addr.add] using this
      obtain ⟨b, off, sp⟩ := a
      simp only at hspot
      subst hspot
      obtain ⟨f, hf⟩ : ∃ f : Nat → List Value × List AV, ∀ i, i < len → w.cells? base ((⟨b, off, none⟩ : Addr).add (i * P.cellsOf e)) (P.cellsOf e) = some (f i).1 ∧ All2 (DRel w (zbw w)) (f i).1 (f i).2 ∧ za9 P n e (f i).2 :=
       Deep.choose_lt (p := fun i (y : List Value × List AV) => w.cells? base ((⟨b, off, none⟩ : Addr).add (i * P.cellsOf e)) (P.cellsOf e) = some y.1 ∧ All2 (DRel w (zbw w)) y.1 y.2 ∧ za9 P n e y.2)
        (fun i hi => by obtain ⟨cs, asx, h1, h2, h3⟩ := hat i hi; exact ⟨(cs, asx), h1, h2, h3⟩)
      have hcell : ∀ i, i < len → ∀ j v, (f i).1[j]? = some v → w.cell? ⟨b, off + i * P.cellsOf e + j, none⟩ = some v := by
       intro i hi j v hj
       have := (zfR (hf i hi).1).2 j v hj
       rw [add_lit, add_lit] at this
       exact this
      have hlen2 : ∀ i, i < len → (f i).2.length = P.cellsOf e := fun i hi => by
       rw [← (hf i hi).2.1.length]; exact (zfR (hf i hi).1).1
      refine ⟨[.sl ((List.range len).map fun i => (f i).2) .none], ⟨?_, trivial⟩, _, rfl, by simp; omega, ?_⟩
      ·have := DRel.sl (w := w) (L := zbw w) b off cap (P.cellsOf e) ((List.range len).map fun i => (f i).2) (fun i j => (f i).1.getD j undef) (by simp; exact h0) (by simpa using hl) ?_ ?_ ?_ ?_
       ·simpa using this
       ·-- the last cell is there
        have hi : len - 1 < len := by omega
        have hj : P.cellsOf e - 1 < (f (len - 1)).1.length := by rw [(zfR (hf _ hi).1).1]; omega
        have := ztz (hcell (len - 1) hi (P.cellsOf e - 1) _ (List.getElem?_eq_getElem hj))
        have hmul : (len - 1) * P.cellsOf e + P.cellsOf e = len * P.cellsOf e := by
         rw [← Nat.succ_mul]; congr 1; omega
        simp
        omega
       ·intro i hi
        simp at hi
        simpa using hlen2 i hi
       ·intro i j hi hj
        simp at hi hj
        have hjl : j < (f i).1.length := by rw [(hf i hi).2.1.length]; exact hj
        simp only [List.getD_eq_getElem?_getD, List.getElem?_eq_getElem hjl, Option.getD_some]
        exact hcell i hi j _ (List.getElem?_eq_getElem hjl)
       ·intro i j hi hj
        simp at hi hj
        have hjl : j < (f i).1.length := by rw [(hf i hi).2.1.length]; exact hj
        obtain ⟨c, h1, h2⟩ := (hf i hi).2.1.get' (List.getElem?_eq_getElem hjl)
        simp only [List.getD_eq_getElem?_getD, List.getElem?_eq_getElem hjl, Option.getD_some, List.getElem_map, List.getElem_range]
        have : (f i).2[j] = c := by rw [List.getElem?_eq_getElem hj] at h1; exact Option.some.inj h1
        rw [this]
        exact h2
      ·intro c hc
       obtain ⟨i, hi, rfl⟩ := List.mem_map.1 hc
       exact (hf i (by simpa using hi)).2.2
   case struct fs =>
    simp only [Bool.and_eq_true] at hp
    obtain ⟨hfs, htile⟩ := hp
    obtain ⟨xs, n', hn, _, hcl, hxl, hat⟩ := DataW.trod_struct hu h
    obtain rfl : n = n' := by omega
    obtain ⟨asx, h1, h2⟩ := zpa (P := P) (R := DRel w (zbw w)) (cs := cs) fs.toList 0 (P.cellsOf t) (fun f asx => za9 P n f.type asx) htile hcl (fun f hf => by
     obtain ⟨i, hi⟩ := List.mem_iff_getElem?.1 hf
     have hi' : fs[i]? = some f := by simpa using hi
     have h3 := hat i f hi'
     have hlt : i < xs.length := by rw [hxl]; exact (Array.getElem?_eq_some_iff.1 hi').1
     rw [List.getElem?_eq_getElem hlt] at h3
     exact ih f.type _ _ (by simpa using List.all_eq_true.1 hfs f hf) h3) (Nat.zero_le _)
    rw [List.drop_zero] at h1
    refine ⟨asx, h1, by rw [← h1.length]; exact hcl, fun f hf => ?_⟩
    simpa using (h2 f hf).1
end

theorem zot {Hh : Type} {enc : TypeId × Value → Hh} {P : Program} {w : World} {base : Nat} {spare : Nat → Bool} {held : Bool} {S : List TypeId} (hS : zfk P S = true) {t : TypeId} (ht : t ∈ S) {cs : Array Value} {d : DataW Hh} {p : List MemPlace}
  (h : DataW.Trod enc P w base spare held t (.agg cs) d p) : ∃ n asx, za9 P n t asx ∧ TRel w (G0 w) (.agg cs) (.agg asx) := by
 obtain ⟨n, hn⟩ := h
 obtain ⟨asx, h1, h2⟩ := zpf hS n t _ _ ht hn
 exact ⟨n, asx, h2, cs, rfl, h1.mono fun _ _ hd => ARel.of_b (DRel.toB (G := G0 w) hd)⟩
theorem ztY {Hh : Type} {enc : TypeId × Value → Hh} {P : Program} {w : World} {base : Nat} {spare : Nat → Bool} {held : Bool} {S : List TypeId} (hS : zfk P S = true) {t : TypeId} (ht : t ∈ S) {v : Value} {d : DataW Hh} {p : List MemPlace} (hv : v.cells = #[v])
  (h : DataW.Trod enc P w base spare held t v d p) : ∃ n a, za9 P n t [a] ∧ TRel w (G0 w) v a := by
 obtain ⟨n, hn⟩ := h
 obtain ⟨asx, h1, h2⟩ := zpf hS n t _ _ ht hn
 rw [hv] at h1
 match asx, h1, h2 with
 | [a], h1, h2 => exact ⟨n, a, h2, TRel.of_v (VRel.of_a (ARel.of_b (DRel.toB (G := G0 w) h1.1)))⟩
section
variable {P : Program} {n : Nat} {t : TypeId} {l : List AV}
theorem zgJ {k : IntKind} (hu : P.underlying t = some (.int k)) (h : za9 P n t l) : ∃ m, l = [.int k m] ∧ (Lit.int k m).wf = true := by
 cases n with
 | zero => exact h.elim
 | succ n => unfold za9 at h; rw [hu] at h; exact h
theorem zpn (hu : P.underlying t = some .string) (h : za9 P n t l) : ∃ s, l = [.str s] ∧ s.length ≤ maxLen := by
 cases n with
 | zero => exact h.elim
 | succ n => unfold za9 at h; rw [hu] at h; exact h
theorem zfr {e : TypeId} (hu : P.underlying t = some (.slice e)) (h : za9 P n t l) : ∃ es n', n' < n ∧ l = [.sl es .none] ∧ es.length ≤ maxLen ∧ ∀ c ∈ es, za9 P n' e c := by
 cases n with
 | zero => exact h.elim
 | succ n => unfold za9 at h; rw [hu] at h; obtain ⟨es, h1, h2, h3⟩ := h; exact ⟨es, n, by omega, h1, h2, h3⟩
theorem zgK {fs : Array Field} (hu : P.underlying t = some (.struct fs)) (h : za9 P n t l) : ∃ n', n' < n ∧ l.length = P.cellsOf t ∧ ∀ f ∈ fs.toList, za9 P n' f.type ((l.drop f.offset).take (P.cellsOf f.type)) := by
 cases n with
 | zero => exact h.elim
 | succ n => unfold za9 at h; rw [hu] at h; exact ⟨n, by omega, h⟩
theorem zef {α : Type} {cs : α → List AV} : ∀ {es : List (List AV)}, (∀ c ∈ es, ∃ x, c = cs x) → ∃ xs : List α, es = xs.map cs
 | [], _ => ⟨[], rfl⟩
 | e :: es, h => by
  obtain ⟨x, hx⟩ := h e (by simp)
  obtain ⟨xs, hxs⟩ := zef (es := es) (fun c hc => h c (by simp [hc]))
  exact ⟨x :: xs, by simp [hx, hxs]⟩
end
end Go.Abs
