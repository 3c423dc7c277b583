import Derived.Test.YtacebbdfgbfgiaaGreatKUM
import Derived.Test.YtacebbdfgbfgiaaGreatKI2
import Derived.Test.YtacebbdfgbfgiaaGreatKGY3
import Derived.Test.YtacebbdfgbfgiaaGreatKUB
import Derived.Test.YtacebbdfgbfgiaaGreatKGH
import Derived.Test.YtacebbdfgbfgiaaGreatAbsO3
import Derived.Test.YtacebbdfgbfgiaaGreatKNum
import Derived.Test.YtacebbdfgbfgiaaGreatProg
import Derived.KernelRfl
set_option linter.unusedSimpArgs false
set_option linter.unusedVariables false
namespace Go.Proofs.YtacebbdfgbfgiaaGreat
open Go Go.Abs
set_option maxRecDepth 8000
theorem zq5 (n : Nat) : All2 WkA (List.replicate n [AV.int .i64 0, .snil]).flatten (zat (List.replicate n (.mk 0 []))) := by
 induction n with
 | zero => exact trivial
 | succ n ih =>
  rw [List.replicate_succ, List.replicate_succ, List.flatten_cons, zdb]
  exact ⟨.refl _, .snil, ih⟩
theorem zc3 {H J : zaa} {K : Kt} {e : Int} (hs : HSc H) (hK : K (.tup [.sl [] .none, .int .i64 e]) H) : zc0 H.length K (.tup [.snil, .int .i64 e]) (H ++ J) :=
 ⟨.tup [.sl [] .none, .int .i64 e], H, J, rfl, Nat.le_refl _, hs, .tup ⟨.one (.wk (.atom .snil) rfl rfl), .one (.wk (.atom (.refl _)) rfl rfl), trivial⟩, hK⟩
theorem RowsH.weaken {X : zaa} {lo lo' id : Nat} {rows : List (List IT)} (h : RowsH X lo id rows) (hl : lo' ≤ lo) : RowsH X lo' id rows := by
 obtain ⟨h1, cs, h2, h3⟩ := h
 exact ⟨by omega, cs, h2, h3.mono fun c r hc => hc.keep hl fun b _ hb _ => ⟨hb, rfl⟩⟩
theorem RowsH.agree {X Y : zaa} {lo id : Nat} {rows : List (List IT)} (h : RowsH X lo id rows) (ha : ∀ k, lo ≤ k → k < X.length → Y[k]? = X[k]?) : RowsH Y lo id rows := by
 obtain ⟨h1, cs, h2, h3⟩ := h
 exact ⟨h1, cs, by rw [ha _ h1 (List.getElem?_eq_some_iff.1 h2).1]; exact h2, h3.mono fun c r hc => hc.keep (Nat.le_refl _) fun b hb hb2 hb3 => ⟨hb2, ha b hb hb3⟩⟩
theorem zuG {H3 : zaa} {lo1 id1 lo2 id2 : Nat} {rows1 rows2 : List (List IT)} {K : Kt} (h1 : RowsH H3 lo1 id1 rows1) (h2 : RowsH H3 lo2 id2 rows2) (hlt : id1 < lo2) (hlo : lo1 ≤ lo2) (hb : rows1.length + rows2.length ≤ 1000000000) (hs : HSc H3)
  (hK : ∀ H4, HSc H4 → RowsH H4 lo1 id1 (rows1 ++ rows2) → (∀ X, X <+: H3 → X.length ≤ id1 → X <+: H4) → K (.ov id1 (rows1 ++ rows2).length) H4) : zar zay 1 24 (.ov id1 rows1.length) (.ov id2 rows2.length) H3 K := by
 obtain ⟨g1, cs1, hc1, hx1⟩ := h1
 obtain ⟨g2, cs2, hc2, hx2⟩ := h2
 have hl1 := (List.getElem?_eq_some_iff.1 hc1).1
 have k1 := ze3 hx1
 have k2 := ze3 hx2
 refine zf7 hc1 hc2 k2.2 (by rw [hx2.length]; simp) (by omega) (by omega) ?_
 rw [← List.length_append]
 have hkp : ∀ b, b ≠ id1 → (H3.set id1 (.vec zay 1 (rows1 ++ rows2).length (cs1 ++ cs2)))[b]? = H3[b]? := fun b hb => List.getElem?_set_ne (fun h => hb h.symm)
 refine hK _ (hs.set ?_) ⟨g1, cs1 ++ cs2, List.getElem?_set_self hl1, (hx1.mono fun c r hc => hc.keep (Nat.le_refl _) fun b _ hb _ => ⟨hb, hkp b hb⟩).append (hx2.mono fun c r hc => hc.keep hlo fun b hb1 hb2 hb3 => ?_)⟩ (fun X hX hl => zd3 hX hl)
 ·simp only [AB.sc, List.all_append, k1.1, k2.1, Bool.and_self]
 ·have : b ≠ id1 := by omega
  exact ⟨this, hkp b this⟩
theorem zo9 : ∀ (ps : List Nat) (xs row : List IT) (p : Nat) (x : IT), xs.length = ps.length → fill row (ps ++ [p]) (xs ++ [x]) = (fill row ps xs).set p x
 | [], [], row, p, x, _ => by simp [fill]
 | [], _ :: _, _, _, _, h => by simp at h
 | _ :: _, [], _, _, _, h => by simp at h
 | q :: ps, y :: xs, row, p, x, h => by
  simp only [List.cons_append, fill]
  exact zo9 ps xs _ p x (by simpa using h)
theorem zgm {P : List Nat} {xs row : List IT} {i : Nat} (hi : i < P.length) (hx : i < xs.length) : fill row (P.take (i + 1)) (xs.take (i + 1)) = (fill row (P.take i) (xs.take i)).set P[i] xs[i] := by
 rw [List.take_succ_eq_append_getElem hi, List.take_succ_eq_append_getElem hx]
 exact zo9 _ _ _ _ _ (by simp; omega)
theorem ztG (data : List Dat) (hk : za6 data) (t : VT) (ht : t.nodes ≤ 1000) (c : Int) (v : IT) (hv : v.nodes ≤ 900) (H : zaa) (K : Kt)
  (hbad : ∀ e, zbz data t c v = some e → K (.tup [.sl [] .none, .int .i64 e]) H)
  (hgood : zbz data t c v = none → ∃ l bs, zaL data t c = some l ∧ l.length = bs.length ∧ l.length ≤ 8 ∧ (∀ x ∈ l, x.nodes ≤ 200) ∧ zbG data t c = some (pick l bs) ∧
   (∀ H K, K (.sl (zaY bs) .none) H → ACalls tP zc7 [.sl (data.map Dat.cs) .none, .int .i64 t.num, .int .i64 c] H K) ∧
   ∀ rs, rs.Perm (zcd l bs c (zkj v)) → rs.Pairwise rle → K (.tup [zbS rs, .int .i64 0]) H) :
  ACalls tP zfx [.sl (data.map Dat.cs) .none, .agg t.cs, .int .i64 c, .agg v.cs] H K := by
 refine ACalls.out2 (zFq fun hs => ?_)
 obtain ⟨f1, f2, f3⟩ := zc6 hk
 obtain ⟨k, n, ks⟩ := t
 obtain ⟨m, vs⟩ := v
 simp [zq8, VT.cs, IT.cs, Nat.add_assoc]
 refine zAo data hk (.mk k n ks) ht (.mk m vs) hv _ _ ?_
 by_cases hd : zbc data (.mk k n ks) (.mk m vs) < 0
 ·have hd' : decide (0 ≤ zbc data (.mk k n ks) (.mk m vs)) = false := by simpa using hd
  simp [hd']
  exact ⟨⟨rfl, rfl⟩, zc3 hs (hbad 1 (by simp [zbz, hd]))⟩
 have hd' : decide (0 ≤ zbc data (.mk k n ks) (.mk m vs)) = true := by simpa using hd
 simp [hd']
 by_cases h5 : k = 5
 ·subst h5
  have hfine : zbp data (.mk 5 n ks) = true := by
   unfold zbc at hd
   by_cases h : zbp data (.mk 5 n ks) = true
   ·exact h
   ·rw [if_neg h] at hd; omega
  have hrd : 0 ≤ rdV data (.mk m vs) (.mk 5 n ks) := by
   unfold zbc at hd
   rw [if_pos hfine] at hd
   omega
  obtain ⟨rfl, hl6, hrE⟩ : m = 0 ∧ vs.length ≤ 6 ∧ 0 ≤ rdE data vs (.mk 5 n ks) 0 := by
   simp [rdV, VT.kind] at hrd
   by_cases h : m = 0 ∧ vs.length ≤ 6
   ·rw [if_pos h] at hrd
    exact ⟨h.1, h.2, hrd⟩
   ·rw [if_neg h] at hrd; omega
  obtain ⟨hn0, hnl⟩ := zqS (by unfold zbp at hfine; rw [Bool.and_eq_true] at hfine; exact hfine.2)
  have hbad8 : (c < 0 ∨ (data[n.toNat].cons.length : Int) ≤ c) → K (.tup [.sl [] .none, .int .i64 8]) H := fun h => hbad 8 (by
   simp only [zbz, if_neg hd, VT.kind, VT.num, ne_eq, not_true_eq_false, if_false, List.getD_eq_getElem?_getD, List.getElem?_eq_getElem hnl, Option.getD_some]
   rw [if_pos h])
  by_cases hc0 : c < 0
  ·simp [hc0]
   exact ⟨⟨rfl, rfl⟩, zc3 hs (hbad8 (.inl hc0))⟩
  have hnl2 : n < (data.length : Int) := by omega
  by_cases hc8 : (data[n.toNat].cons.length : Int) ≤ c
  ·simp [hc0, hn0, hnl2, List.getElem?_eq_getElem hnl, Dat.cs, hc8]
   exact ⟨⟨rfl, rfl⟩, zc3 hs (hbad8 (.inr hc8))⟩
  simp [hc0, hn0, hnl2, List.getElem?_eq_getElem hnl, Dat.cs, hc8]
  refine zmk data f1 f2 f3 (.mk 5 n ks) ht c _ _ ?_
  cases hf : zaL data (.mk 5 n ks) c with
  | none =>
   simp [zbK]
   exact ⟨⟨rfl, rfl⟩, zc3 hs (hbad 0 (by
    simp only [zbz, if_neg hd, VT.kind, VT.num, ne_eq, not_true_eq_false, if_false, List.getD_eq_getElem?_getD, List.getElem?_eq_getElem hnl, Option.getD_some]
    rw [if_neg (by omega), if_pos hf]))⟩
  | some l =>
   have hE : zbz data (.mk 5 n ks) c (.mk 0 vs) = none := by
    simp only [zbz, if_neg hd, VT.kind, VT.num, ne_eq, not_true_eq_false, if_false, List.getD_eq_getElem?_getD, List.getElem?_eq_getElem hnl, Option.getD_some]
    rw [if_neg (by omega), if_neg (by simp [hf])]
   obtain ⟨l', bs, hf', hlb, hl8, h200, hpay, hrec, hK⟩ := hgood hE
   rw [hf] at hf'
   cases hf'
   simp [zbK]
   refine zAI data hk 5 n ks ht c hf hlb hl8 hfine hrec _ _ ?_
   have hP8 := zcR false bs bs.length
   have hPl : ∀ j ∈ pos false bs bs.length, j < l.length := fun j hj => by have := zfD hj; omega
   have hPn : (pos false bs bs.length).Nodup := List.Pairwise.filter _ List.nodup_range
   have hRl : ∀ j ∈ pos true bs bs.length, j < l.length := fun j hj => by have := zfD hj; omega
   have hR8 := zcR true bs bs.length
   have hK : ∀ rs, rs.Perm (zaN (zba l (pos false bs bs.length)) (pos true bs bs.length) vs ++ zbI (zba l (pos false bs bs.length)) (pos false bs bs.length) (pos true bs bs.length) c vs) → rs.Pairwise rle → K (.tup [zbS rs, .int .i64 0]) H := hK
   have hwide := zk9 l bs c vs
   have hnds := zqe (bs := bs) (c := c) (kids := vs) h200 (by simp only [IT.nodes] at hv; omega)
   have hlen := zk8 (l := l) (c := c) hl6 (by omega : bs.length ≤ 8)
   unfold zcd at hwide hnds hlen
   have hpk : (pick l bs).length = (pos false bs bs.length).length := by
    have := zg6 hlb (.mk 0 0 []) l.length (Nat.le_refl _)
    rw [List.take_length, hlb, List.take_length] at this
    rw [this, List.length_map]
   generalize pos false bs bs.length = P at *
   generalize pos true bs bs.length = R at *
   have hfv : ∀ x ∈ l, zbp data x = true := fun x hx => by
    unfold zbp at hfine ⊢
    rw [Bool.and_eq_true] at hfine ⊢
    refine ⟨hfine.1, zu9 hfine.1 (by have := hfine.2; rw [zbe, Bool.and_eq_true] at this; exact this.2) hf x hx⟩
   simp [zbB]
   simp only [zbo, Int.toNat_natCast]
   refine ⟨by omega, ?_⟩
   unfold zjH
   refine ALoop.reCell (id := H.length + 2) (zat (List.replicate l.length (.mk 0 []))) (by simp) (zq5 _) ?_
   have hset : (H ++ [AB.cells [.int .i64 5, .int .i64 n, .sl (VT.css ks) .none], .cells [.int .i64 0, .sl (IT.css vs) .none]] ++ [AB.cells (List.replicate l.length [AV.int .i64 0, .snil]).flatten]).set (H.length + 2) (.cells (zat (List.replicate l.length (.mk 0 [])))) =
     H ++ [AB.cells [.int .i64 5, .int .i64 n, .sl (VT.css ks) .none], .cells [.int .i64 0, .sl (IT.css vs) .none], .cells (zat (List.replicate l.length (.mk 0 [])))] := by simp [List.set_append_right]
   rw [hset]
   have hl2 : (H ++ [AB.cells [AV.int IntKind.i64 5, AV.int IntKind.i64 n, AV.sl (VT.css ks) Tok.none], AB.cells [AV.int IntKind.i64 0, AV.sl (IT.css vs) Tok.none]]).length = H.length + 2 := by simp
   rw [hl2]
   show zjH (.sl (data.map Dat.cs) .none) (.int .i64 c) (.ptr (H.length + 1) 0) (.sl (VT.css l) .none) (.sl (zaz P) .none) (.sl (zaz R) .none) (.ms (H.length + 2) 0 l.length l.length) (.sl (zaz P) .none) (.int .i64 P.length) (.int .i64 0) _ (zc0 H.length K)
   have hZ : ∀ r : List IT, HSc (H ++ [AB.cells [.int .i64 5, .int .i64 n, .sl (VT.css ks) .none], .cells [.int .i64 0, .sl (IT.css vs) .none], .cells (zat r)]) := fun r => hs.append (by simp [AB.sc, AV.scA, AV.scB, zg9])
   refine zFj (Inv := fun q t67 H' => ∃ i : Nat, i ≤ P.length ∧ q = P.length - i ∧ t67 = .int .i64 i ∧ H' = H ++ [AB.cells [.int .i64 5, .int .i64 n, .sl (VT.css ks) .none], .cells [.int .i64 0, .sl (IT.css vs) .none], .cells (zat (fill (List.replicate l.length (.mk 0 [])) (P.take i) ((P.map fun j => zaG (l.getD j (.mk 0 0 []))).take i)))]) P.length ?_ ?_
   ·intro _; exact ⟨0, by omega, by omega, rfl, by simp⟩
   ·rintro q t67 H' ⟨i, hi, rfl, rfl, rfl⟩ hsc hlen' hsF Kb hKb
    by_cases hlt : i < P.length
    ·have hPi := hPl _ (List.getElem_mem hlt)
     have hft := zgm (row := List.replicate l.length (.mk 0 [])) hlt (xs := P.map fun j => zaG (l.getD j (.mk 0 0 []))) (by simpa using hlt)
     simp only [List.getElem_map, List.getD_eq_getElem?_getD, List.getElem?_eq_getElem hPi, Option.getD_some] at hft
     simp [znT, zbB, zfz, hlt, hPi]
     have hmem := List.getElem_mem hPi
     refine zAM data hk (l[P[i]]) (by have := h200 _ hmem; omega) _ _ (fun _ => ?_) (hfv _ hmem)
     obtain ⟨x, y, hzz, hx, hy⟩ := zcE (zaG l[P[i]])
     have hrs := zdy (fill (List.replicate l.length (.mk 0 [])) (P.take i) ((P.map fun j => zaG (l[j]?.getD (.mk 0 0 []))).take i)) P[i] (zaG l[P[i]]) (by simpa using hPi)
     rw [← hft] at hrs
     simp [hzz, hx, hy]
     refine ⟨by rw [zbR]; simp; omega, ?_⟩
     rw [zal (by omega) (by omega)]
     refine hKb _ _ ⟨P.length - (i + 1), by omega, Back.at (J := []) (H2 := H ++ [AB.cells [.int .i64 5, .int .i64 n, .sl (VT.css ks) .none], .cells [.int .i64 0, .sl (IT.css vs) .none], .cells (zat (fill (List.replicate l.length (.mk 0 [])) (P.take (i + 1)) ((P.map fun j => zaG (l[j]?.getD (.mk 0 0 []))).take (i + 1))))]) ?_ (by simp) (hZ _) ?_ ⟨_, rfl, i + 1, by omega, rfl, by simp, by simp [List.getD_eq_getElem?_getD]⟩⟩
     ·rw [← hrs, hzz]; simp [List.set_append_right]
     ·simp [zjE, AV.sc, AV.scV, AV.scA, AV.scB]
    ·obtain rfl : i = P.length := by omega
     rw [List.take_length, List.take_of_length_le (by simp)] at *
     have hbase : fill (List.replicate l.length (.mk 0 [])) P (P.map fun j => zaG (l.getD j (.mk 0 0 []))) = zba l P := rfl
     rw [hbase]
     have hbl : (zba l P).length = l.length := by simp [zba]
     generalize zba l P = base at *
     have hHB : HSc (H ++ [AB.cells [.int .i64 5, .int .i64 n, .sl (VT.css ks) .none], .cells [.int .i64 0, .sl (IT.css vs) .none], .cells (zat base)]) := hZ base
     simp [znT, zbB]
     refine zmq R _ _ base vs _ ⟨zbR _, zk7 _, .inl ⟨H.length + 2, by rw [hbl], by simp⟩⟩ (fun p hp => by rw [hbl]; exact hRl p hp) (by omega) (by omega) (by omega) (zd1 (by omega) (by omega)) ?_
     intro id H1 hp1 hsc1 hR1
     have hp0 : H <+: H1 := List.IsPrefix.trans ⟨_, rfl⟩ hp1
     have hg1 : H1[H.length + 1]? = some (.cells [.int .i64 0, .sl (IT.css vs) .none]) := by rw [zd2 hp1 (by simp)]; simp
     have hg2 : H1[H.length + 2]? = some (.cells (zat base)) := by rw [zd2 hp1 (by simp)]; simp
     have hfin1 : zbI base P R c vs = [] → zf0 (.ov id (zaN base R vs).length) H1 (zc0 H.length K) := fun h0 => by
      rw [h0, List.append_nil] at hwide hnds hlen hK
      exact zqF hp0 hs (hR1.weaken (by simp)) hwide (by omega) hnds (by omega) K hK
     simp [hg1]
     cases vs with
     | nil =>
      simp
      exact hfin1 rfl
     | cons x rest =>
      obtain ⟨c', ps⟩ := x
      have hg1' : H1[H.length + 1]? = some (.cells [.int .i64 0, .sl ([.int .i64 c', .sl (IT.css ps) .none] :: IT.css rest) .none]) := by rw [hg1]; simp [IT.css, IT.cs]
      simp [hg1']
      by_cases hcc : c' = c
      ·subst hcc
       have hpsl : ps.length = P.length := by
        rw [← hpk]
        simp only [rdE] at hrE
        by_cases h1 : c' < 0 ∨ 8 ≤ c'
        ·rw [if_pos h1] at hrE; omega
        ·rw [if_neg h1, hpay] at hrE
         by_cases h2 : (pick l bs).length = ps.length
         ·exact h2.symm
         ·simp only [if_neg h2] at hrE; omega
       have hHid : H.length + 3 ≤ id := by have := hR1.1; simpa using this
       have hH1l := (List.getElem?_eq_some_iff.1 hg2).1
       have hcut : ∀ r : List IT, r.length = l.length → HSc (H1.set (H.length + 2) (.cells (zat r))) := fun r hr => hsc1.set (by simp [AB.sc, zg9])
       simp
       refine zFk (Inv := fun q t104 H' => ∃ i : Nat, i ≤ P.length ∧ q = P.length - i ∧ t104 = .int .i64 i ∧ H' = H1.set (H.length + 2) (.cells (zat (fill base (P.take i) (ps.take i))))) P.length ?_ ?_
       ·intro _; exact ⟨0, by omega, by omega, rfl, by simp [zle hg2]⟩
       ·rintro q t104 H' ⟨i, hi, rfl, rfl, rfl⟩ hsc hlen' hsF Kb hKb
        have hga : (H1.set (H.length + 2) (.cells (zat (fill base (P.take i) (ps.take i)))))[H.length + 1]? = some (.cells [.int .i64 0, .sl ([.int .i64 c', .sl (IT.css ps) .none] :: IT.css rest) .none]) := by
         rw [List.getElem?_set_ne (by omega)]; exact hg1'
        have hgb : (H1.set (H.length + 2) (.cells (zat (fill base (P.take i) (ps.take i)))))[H.length + 2]? = some (.cells (zat (fill base (P.take i) (ps.take i)))) := List.getElem?_set_self hH1l
        by_cases hlt : i < P.length
        ·have hlp : i < ps.length := by omega
         obtain ⟨x, y, hzz, hx, hy⟩ := zcE ps[i]
         have hrs := zdy (fill base (P.take i) (ps.take i)) P[i] ps[i] (by rw [zfb, hbl]; exact hPl _ (List.getElem_mem hlt))
         rw [← zgm hlt hlp] at hrs
         have hPi := hPl _ (List.getElem_mem hlt)
         simp [znU, zbB, zfz, hlt, hlp, hga, hgb, hPi, hzz, hx, hy]
         refine ⟨by rw [zbR, zfb, hbl]; omega, ?_⟩
         have hcell : List.take (P[i] * 2) (zat (fill base (List.take i P) (List.take i ps))) ++ x :: y :: List.drop (P[i] * 2 + 2) (zat (fill base (List.take i P) (List.take i ps))) = zat (fill base (P.take (i + 1)) (ps.take (i + 1))) := by rw [← hrs, hzz]; simp
         rw [hcell, zal (by omega) (by omega)]
         refine hKb _ _ ⟨P.length - (i + 1), by omega, Back.at (J := []) (H2 := H1.set (H.length + 2) (.cells (zat (fill base (P.take (i + 1)) (ps.take (i + 1)))))) (by simp) (by simp) (hcut _ (by rw [zfb, hbl])) ?_ ⟨_, rfl, i + 1, by omega, rfl, by simp, rfl⟩⟩
         have hidl := (List.getElem?_eq_some_iff.1 hR1.2.choose_spec.1).1
         simp [zjF, AV.sc, AV.scV, AV.scA, AV.scB, hidl]
         omega
        ·obtain rfl : i = P.length := by omega
         rw [List.take_length, ← hpsl, List.take_length] at *
         simp [znU, zbB, hg1']
         refine ⟨fun a ha => zdr ha, ?_⟩
         rw [List.take_of_length_le (show (IT.css rest).length ≤ rest.length by simp)]
         have hrow1 : (fill base P ps).length = l.length := by rw [zfb, hbl]
         refine zmq R _ _ (fill base P ps) rest _ ⟨zbR _, zk7 _, .inl ⟨H.length + 2, by rw [hrow1], hgb⟩⟩ (fun p hp => by rw [hrow1]; exact hRl p hp) (by omega) (by simp at hl6; omega) (by omega) (zd1 (by simp at hl6; omega) (by omega)) ?_
         intro id2 H2 hp2 hsc2 hR2
         have hlen1 : (H1.set (H.length + 2) (.cells (zat (fill base P ps)))).length = H1.length := by simp
         have hag : ∀ k, H.length + 3 ≤ k → k < H1.length → H2[k]? = H1[k]? := fun k hk1 hk2 => by
          rw [zd2 hp2 (by rw [hlen1]; exact hk2), List.getElem?_set_ne (by omega)]
         have hpH2 : H <+: H2 := List.IsPrefix.trans (zd3 hp0 (by omega)) hp2
         have hR1' : RowsH H2 H.length id (zaN base R (.mk c' ps :: rest)) := (RowsH.agree hR1 (fun k hk1 hk2 => hag k (by simpa using hk1) hk2)).weaken (by simp)
         have hidl := (List.getElem?_eq_some_iff.1 hR1.2.choose_spec.1).1
         have hsec : zbI base P R c' (.mk c' ps :: rest) = zaN (fill base P ps) R rest := by simp [zbI]
         rw [hsec] at hwide hnds hlen hK
         rw [List.length_append] at hlen
         refine zuG hR1' hR2 (by rw [hlen1]; exact hidl) (by rw [hlen1]; omega) (by omega) hsc2 fun H4 hs4 hR4 hpre4 => ?_
         exact zqF (hpre4 H hpH2 (by omega)) hs hR4 hwide (by omega) hnds (by rw [List.length_append]; omega) K hK
      ·have hcb : (c' == c) = false := by simpa using hcc
       simp [hcb]
       exact hfin1 (by simp [zbI, hcc])
 ·have hb : (k != 5) = true := by simpa using h5
  simp [hb]
  exact ⟨⟨rfl, rfl⟩, zc3 hs (hbad 6 (by simp [zbz, hd, VT.kind, h5]))⟩
def zeU (X : zaa) (lo id : Nat) (rows : List (List IT)) : Prop := ∃ cs, X[id]? = some (.vec zay 1 rows.length cs) ∧ All2 (CellM X lo id) cs rows
theorem zqf {H0 X : zaa} {K : Kt} {Kb7 : Lt} {lo id pv : Nat} {c ph : Int} {l : List VT} {P R : List Nat} {zs : List IT} {S : List (List (List IT))} {rows : List (List IT)} {vc : List AV}
  (hpre : H0 <+: X) (hid0 : H0.length ≤ id) (hlo : lo ≤ id) (hpv : H0[pv]? = some (.cells vc)) (hR : zeU X lo id rows)
  (hl8 : l.length ≤ 8) (hPl : ∀ p ∈ P, p < l.length) (hRl : ∀ p ∈ R, p < l.length) (hP8 : P.length ≤ 8) (hR8 : R.length ≤ 8)
  (hS : ∀ s ∈ S, s.length = R.length) (hSn : ∀ s ∈ S, ∀ x ∈ s, IT.nodesL x + 1 ≤ 1000) (h200 : ∀ x ∈ l, x.nodes ≤ 200)
  (hph : (ph = 0 ∧ zs = P.map fun j => zaG (l.getD j (.mk 0 0 []))) ∨ (ph = 1 ∧ zs.length = P.length ∧ (∀ x ∈ zs, x.nodes ≤ 1000) ∧ ∃ n c' rest, vc = [.int .i64 n, .sl (IT.css (.mk c' zs :: rest)) .none]))
  (hb : rows.length + S.length ≤ 1000000000)
  (hnext : ∀ X', H0 <+: X' → HSc X' → X.length ≤ X'.length → zeU X' lo id (rows ++ S.map fun s => fill (fill (List.replicate l.length (.mk 0 [])) P zs) R (s.map (IT.mk 0))) →
   Kb7 (zeP (.int .i64 c) (.ptr pv 0) (.sl (VT.css l) .none) (.sl (zaz P) .none) (.sl (zaz R) .none) (.ov id (rows.length + S.length)) (.int .i64 (ph + 1))) X') :
  zmF (.int .i64 c) (.ptr pv 0) (.sl (VT.css l) .none) (.sl (zaz P) .none) (.sl (zaz R) .none) (.ov id rows.length) (.int .i64 ph) (zb4 S) (.int .i64 S.length) (.int .i64 0) X K Kb7 := by
 have hzl : zs.length = P.length := by
  rcases hph with ⟨_, rfl⟩ | ⟨_, h, _⟩
  ·simp
  ·exact h
 have hph1 : 0 ≤ ph ∧ ph ≤ 1 := by rcases hph with ⟨h, _⟩ | ⟨h, _⟩ <;> omega
 obtain ⟨F, hF⟩ : ∃ F : List (List IT) → List IT, F = fun s => fill (fill (List.replicate l.length (.mk 0 [])) P zs) R (s.map (IT.mk 0)) := ⟨_, rfl⟩
 rw [← hF] at hnext
 have hpvl := (List.getElem?_eq_some_iff.1 hpv).1
 refine zBm (Inv := fun q t13 t67 H' => ∃ j : Nat, j ≤ S.length ∧ q = S.length - j ∧ t67 = .int .i64 j ∧ t13 = .ov id (rows.length + j) ∧ H0 <+: H' ∧ X.length ≤ H'.length ∧ zeU H' lo id (rows ++ (S.take j).map F)) S.length ?_ ?_
 ·intro _; exact ⟨0, by omega, by omega, rfl, rfl, hpre, Nat.le_refl _, by simpa using hR⟩
 ·rintro q t13 t67 H' ⟨j, hj, rfl, rfl, rfl, hpre', hXl, hRj⟩ hsc hlen hsF Kb14 hKb14
  have hg0 : H'[pv]? = some (.cells vc) := by rw [zd2 hpre' hpvl]; exact hpv
  by_cases hlt : j < S.length
  ·have hsl := hS _ (List.getElem_mem hlt)
   have hsn := hSn _ (List.getElem_mem hlt)
   obtain ⟨cs2, hcs2, hcells2⟩ := hRj
   have hidl := (List.getElem?_eq_some_iff.1 hcs2).1
   have hHpv : pv < H'.length := (List.getElem?_eq_some_iff.1 hg0).1
   simp [zmx, zb4, hlt, zbB]
   simp only [zbo, Int.toNat_natCast]
   refine ⟨by omega, ?_⟩
   unfold zis
   refine ALoop.reCell (id := H'.length) (zat (List.replicate l.length (.mk 0 []))) (by simp) (zq5 _) ?_
   have hset : (H' ++ [AB.cells (List.replicate l.length [AV.int .i64 0, .snil]).flatten]).set H'.length (.cells (zat (List.replicate l.length (.mk 0 [])))) = H' ++ [.cells (zat (List.replicate l.length (.mk 0 [])))] := by simp [List.set_append_right]
   rw [hset]
   have hZ : ∀ r : List IT, HSc (H' ++ [AB.cells (zat r)]) := fun r => hsc.append (by simp [AB.sc, zg9])
   show zis (.int .i64 c) (.ptr pv 0) (.sl (VT.css l) .none) (.sl (zaz P) .none) (.sl (zaz R) .none) (.ov id (rows.length + j)) (.int .i64 ph) (.sl (S[j].map fun s => [AV.sl (IT.css s) .none]) .none) (.ms H'.length 0 l.length l.length) (zb4 S) (.int .i64 S.length) (.int .i64 j) (.sl (zaz P) .none) (.int .i64 P.length) (.int .i64 0) (H' ++ [.cells (zat (List.replicate l.length (.mk 0 [])))]) K Kb7 Kb14
   refine zBn (Inv := fun q t76 H2 => ∃ k : Nat, k ≤ P.length ∧ q = P.length - k ∧ t76 = .int .i64 k ∧ H2 = H' ++ [.cells (zat (fill (List.replicate l.length (.mk 0 [])) (P.take k) (zs.take k)))]) P.length ?_ ?_
   ·intro _; exact ⟨0, by omega, by omega, rfl, by simp⟩
   ·rintro q t76 H2 ⟨k, hk, rfl, rfl, rfl⟩ hsc2 hlen2 hsF2 Kb18 hKb18
    by_cases hkl : k < P.length
    ·have hPi := hPl _ (List.getElem_mem hkl)
     have hft := zgm (row := List.replicate l.length (.mk 0 [])) hkl (xs := zs) (by omega)
     have hrl : (fill (List.replicate l.length (.mk 0 [])) (P.take k) (zs.take k)).length = l.length := by simp
     have hgo : Kb18 (zfS (.int .i64 c) (.ptr pv 0) (.sl (VT.css l) .none) (.sl (zaz P) .none) (.sl (zaz R) .none) (.ov id (rows.length + j)) (.int .i64 ph) (.sl (S[j].map fun s => [AV.sl (IT.css s) .none]) .none) (.ms H'.length 0 l.length l.length) (zb4 S) (.int .i64 S.length) (.int .i64 j) (.sl (zaz P) .none) (.int .i64 P.length) (.int .i64 ((k : Int) + 1))) (H' ++ [.cells (zat (fill (List.replicate l.length (.mk 0 [])) (P.take (k + 1)) (zs.take (k + 1))))]) := by
      refine hKb18 _ _ ⟨P.length - (k + 1), by omega, Back.at (J := []) (H2 := H' ++ [AB.cells (zat (fill (List.replicate l.length (.mk 0 [])) (P.take (k + 1)) (zs.take (k + 1))))]) (by simp) (by simp) (hZ _) ?_ ⟨_, rfl, k + 1, by omega, rfl, by simp, rfl⟩⟩
      simp [zfS, AV.sc, AV.scV, AV.scA, AV.scB, zb4]
      omega
     rw [hft] at hgo
     generalize hrow : fill (List.replicate l.length (.mk 0 [])) (P.take k) (zs.take k) = row at *
     have hz := zdy row P[k] (zaG l[P[k]]) (by omega)
     simp [zmy, zbB, zfz, hkl, hPi]
     refine zDl _ (l[P[k]]) (Nat.le_refl _) (by have := h200 _ (List.getElem_mem hPi); omega) _ _ ?_
     obtain ⟨x, y, hzz, hx, hy⟩ := zcE (zaG l[P[k]])
     rw [hzz] at hz
     simp [hzz, hx, hy, hPi]
     refine ⟨by rw [zbR]; omega, ?_⟩
     have hz' : List.take (P[k] * 2) (zat row) ++ x :: y :: List.drop (P[k] * 2 + 2) (zat row) = zat (row.set P[k] (zaG l[P[k]])) := by rw [← hz]; simp
     rcases hph with ⟨rfl, rfl⟩ | ⟨rfl, hzl', hzn, n, c', rest, rfl⟩
     ·have hzk : (P.map fun j => zaG (l.getD j (.mk 0 0 [])))[k]'(by simpa using hkl) = zaG l[P[k]] := by simp [List.getD_eq_getElem?_getD, hPi]
      rw [hzk] at hgo
      simp [zir, zmE]
      rw [hz', zal (by omega) (by omega)]
      exact hgo
     ·have hkz : k < zs.length := by omega
      have hgv : (H' ++ [AB.cells (zat (row.set P[k] (zaG l[P[k]])))])[pv]? = some (.cells [.int .i64 n, .sl (IT.css (.mk c' zs :: rest)) .none]) := by rw [List.getElem?_append_left hHpv]; exact hg0
      have hz2 := zdy (row.set P[k] (zaG l[P[k]])) P[k] zs[k] (by simp; omega)
      rw [List.set_set] at hz2
      obtain ⟨x2, y2, hzz2, hx2, hy2⟩ := zcE zs[k]
      rw [hzz2] at hz2
      have hz2' : List.take (P[k] * 2) (zat (row.set P[k] (zaG l[P[k]]))) ++ x2 :: y2 :: List.drop (P[k] * 2 + 2) (zat (row.set P[k] (zaG l[P[k]]))) = zat (row.set P[k] zs[k]) := by rw [← hz2]; simp
      simp
      rw [hz']
      simp [hgv, IT.css, IT.cs, hkz]
      refine zsz _ zs[k] (Nat.le_refl _) (by have := hzn _ (List.getElem_mem hkz); omega) _ _ ?_
      simp [hzz2, hx2, hy2, zir, zmE]
      refine ⟨by rw [zbR]; simp; omega, ?_⟩
      rw [hz2', zal (by omega) (by omega)]
      exact hgo
    ·obtain rfl : k = P.length := by omega
     rw [List.take_length, ← hzl, List.take_length] at *
     have hbl : (fill (List.replicate l.length (.mk 0 [])) P zs).length = l.length := by simp
     generalize hbase : fill (List.replicate l.length (.mk 0 [])) P zs = base at *
     simp [zmy, zbB, hzl]
     refine zBo (Inv := fun q t106 H3 => ∃ k : Nat, k ≤ R.length ∧ q = R.length - k ∧ t106 = .int .i64 k ∧ H3 = H' ++ [.cells (zat (fill base (R.take k) ((S[j].map (IT.mk 0)).take k)))]) R.length ?_ ?_
     ·intro _; exact ⟨0, by omega, by omega, rfl, by simp⟩
     ·rintro q t106 H3 ⟨k, hk, rfl, rfl, rfl⟩ hsc3 hlen3 hsF3 Kb25 hKb25
      by_cases hkl : k < R.length
      ·have hRi := hRl _ (List.getElem_mem hkl)
       have hks : k < S[j].length := by omega
       have hft := zgm (row := base) hkl (xs := S[j].map (IT.mk 0)) (by simpa using hks)
       have hrl : (fill base (R.take k) ((S[j].map (IT.mk 0)).take k)).length = l.length := by simpa using hbl
       generalize hrow : fill base (R.take k) ((S[j].map (IT.mk 0)).take k) = row at *
       have hz := zdy row R[k] (IT.mk 0 S[j][k]) (by omega)
       simp only [List.getElem_map] at hft
       rw [← hft] at hz
       simp [zmz, zbB, zfz, hkl, hks, zav, zaU]
       have hcsx : [AV.int .i64 0, .sl (IT.css S[j][k]) .none] = (IT.mk 0 S[j][k]).cs := by simp [IT.cs]
       rw [hcsx]
       have hnx := hsn _ (List.getElem_mem hks)
       refine zsz _ (IT.mk 0 S[j][k]) (Nat.le_refl _) (by simp only [IT.nodes]; omega) _ _ ?_
       simp [IT.cs, hRi]
       refine ⟨by rw [zbR]; omega, ?_⟩
       have hz' : List.take (R[k] * 2) (zat row) ++ AV.int .i64 0 :: AV.sl (IT.css S[j][k]) .none :: List.drop (R[k] * 2 + 2) (zat row) = zat (fill base (R.take (k + 1)) ((S[j].map (IT.mk 0)).take (k + 1))) := by rw [← hz]; simp [IT.cs]
       rw [hz', zal (by omega) (by omega)]
       refine hKb25 _ _ ⟨R.length - (k + 1), by omega, Back.at (J := []) (H2 := H' ++ [AB.cells (zat (fill base (R.take (k + 1)) ((S[j].map (IT.mk 0)).take (k + 1))))]) (by simp) (by simp) (hZ _) ?_ ⟨_, rfl, k + 1, by omega, rfl, by simp, rfl⟩⟩
       simp [zio, AV.sc, AV.scV, AV.scA, AV.scB, zb4]
       omega
      ·obtain rfl : k = R.length := by omega
       have hsm : (S[j].map (IT.mk 0)).length = R.length := by simpa using hsl
       rw [List.take_length, ← hsm, List.take_length] at *
       have hFj : F S[j] = fill base R (S[j].map (IT.mk 0)) := by rw [hF]
       have hFl : (F S[j]).length = l.length := by rw [hFj]; simpa using hbl
       have hst : rows ++ (S.take (j + 1)).map F = (rows ++ (S.take j).map F) ++ [F S[j]] := by
        rw [List.take_succ_eq_append_getElem hlt, List.map_append, List.append_assoc]; rfl
       rw [← hFj]
       have hWl : (rows ++ (S.take j).map F).length = rows.length + j := by simp <;> omega
       simp [zmz, zbB, ← hsl, zcC, AV.oneK]
       have hcl2 := hcells2.length
       rw [hWl] at hcs2
       have hscN : HSc (H' ++ [AB.cells (zat (F S[j])), AB.vec zay 1 1 [AV.ms H'.length 0 l.length l.length]]) := hsc.append (by simp [AB.sc, zg9, AV.scA, AV.scB])
       have hXn : (H' ++ [AB.cells (zat (F S[j])), AB.vec zay 1 1 [AV.ms H'.length 0 l.length l.length]])[H'.length]? = some (.cells (zat (F S[j]))) := by simp
       have hXv : (H' ++ [AB.cells (zat (F S[j])), AB.vec zay 1 1 [AV.ms H'.length 0 l.length l.length]])[H'.length + 1]? = some (.vec zay 1 1 [AV.ms H'.length 0 l.length l.length]) := by simp
       have hXg : ∀ b, b < H'.length → (H' ++ [AB.cells (zat (F S[j])), AB.vec zay 1 1 [AV.ms H'.length 0 l.length l.length]])[b]? = H'[b]? := fun b hb => List.getElem?_append_left hb
       have hXL : (H' ++ [AB.cells (zat (F S[j])), AB.vec zay 1 1 [AV.ms H'.length 0 l.length l.length]]).length = H'.length + 2 := by simp
       have hHn : H0 <+: (H' ++ [AB.cells (zat (F S[j])), AB.vec zay 1 1 [AV.ms H'.length 0 l.length l.length]]) := hpre'.trans ⟨_, rfl⟩
       generalize (H' ++ [AB.cells (zat (F S[j])), AB.vec zay 1 1 [AV.ms H'.length 0 l.length l.length]]) = Y at *
       refine zf7 (by rw [hXg _ hidl]; exact hcs2) hXv (by simp [AV.known]) (by simp) (by omega) (by omega) ?_
       have hYg : ∀ b, b ≠ id → (Y.set id (.vec zay 1 (rows.length + j + 1) (cs2 ++ [AV.ms H'.length 0 l.length l.length])))[b]? = Y[b]? := fun b hb => List.getElem?_set_ne (fun h => hb h.symm)
       have k2 := CellM.sc hcells2
       rw [zal (by omega) (by omega)]
       refine hKb14 _ _ ⟨S.length - (j + 1), by omega, Back.at (J := []) (H2 := Y.set id (.vec zay 1 (rows.length + j + 1) (cs2 ++ [AV.ms H'.length 0 l.length l.length]))) (by simp) (by simp; omega) (hscN.set ?_) ?_
        ⟨_, _, rfl, j + 1, by omega, rfl, by simp, rfl, zd3 hHn hid0, by simp; omega, ?_⟩⟩
       ·simp only [AB.sc, List.all_append, List.all_cons, List.all_nil, Bool.and_true, Bool.and_eq_true, List.all_eq_true]
        exact ⟨fun c hc => zfG (by omega) (List.all_eq_true.1 k2.1 c hc), by simp [AV.scA, AV.scB]; omega⟩
       ·simp [zin, AV.sc, AV.scV, AV.scA, AV.scB, zb4]; omega
       ·rw [hst]
        refine ⟨cs2 ++ [AV.ms H'.length 0 l.length l.length], ?_, ?_⟩
        ·rw [List.getElem?_set_self (by omega), List.length_append, hWl]; rfl
        ·refine (hcells2.mono fun c r hc => hc.keep fun b _ hb hb2 => by rw [hYg b hb, hXg b hb2]).append ⟨⟨H'.length, by simp [hFl], by omega, by omega, ?_⟩, trivial⟩
         rw [hYg _ (by omega), hXn]
  ·obtain rfl : j = S.length := by omega
   rw [List.take_length] at hRj
   simp [zmx]
   rw [zal (by omega) (by omega)]
   exact hnext _ hpre' hsc hXl hRj
end Go.Proofs.YtacebbdfgbfgiaaGreat
namespace Go.Proofs.YtacebbdfgbfgiaaGreat
open Go Go.Abs
variable {data : List Dat}
def ad (a r : Int) : Int := if r < 0 then -1 else if a + r > 6 then -1 else a + r
theorem zv1 (v : IT) (vs : List IT) (t : VT) (ts : List VT) (a : Int) : rdA data (v :: vs) (t :: ts) a = if rdV data v t < 0 ∨ a + rdV data v t > 6 then -1 else rdA data vs ts (a + rdV data v t) := by simp only [rdA]
end Go.Proofs.YtacebbdfgbfgiaaGreat
namespace Go.Proofs.YtacebbdfgbfgiaaGreat
open Go Go.Abs
set_option maxRecDepth 8000
def d0 : IT := .mk 0 []
def tz : VT := .mk 0 0 []
theorem zvV {data : List Dat} {k n : Int} {ks : List VT} {c : Int} {l : List VT} (hk : za6 data) (hf : zaL data (.mk k n ks) c = some l) :
  ∃ bs, l.length = bs.length ∧ l.length ≤ 8 ∧ zbG data (.mk k n ks) c = some (pick l bs) ∧ (∀ x ∈ l, x.nodes ≤ 200) ∧ k = 5 ∧
   (∀ H K, K (.sl (zaY bs) .none) H → ACalls tP zc7 [.sl (data.map Dat.cs) .none, .int .i64 n, .int .i64 c] H K) ∧
   (∀ H K, K (.sl (zaY bs) .none) H → ACalls tP zc8 [.sl (data.map Dat.cs) .none, .int .i64 n, .int .i64 c] H K) ∧
   (∀ j, bs.getD j false = true → l.getD j tz = .mk 5 n ks) ∧ 0 ≤ c ∧ ∃ (hn : n.toNat < data.length) (hc : c.toNat < (data[n.toNat]).cons.length), l.length = ((data[n.toNat]).cons[c.toNat]).args.length := by
 obtain ⟨k5, n0, c0, hn, hc, hv, rfl, h200⟩ := zfa hf
 obtain ⟨f1, f2, f3⟩ := zc6 hk
 have hd := List.getElem_mem hn
 have hcm := List.getElem_mem hc
 obtain ⟨g1, g2⟩ := f2 _ hd _ hcm
 have g3 := f3 _ hd
 have h8 := ((hk.2 _ hd).2.2 _ hcm).2.1
 refine ⟨zbQ n.toNat data[n.toNat] (data[n.toNat]).cons[c.toNat], by simp [zbQ], by simpa using h8, ?_, h200, k5, fun H K hK => ?_, fun H K hK => ?_, fun j hj => ?_, c0, hn, hc, by simp⟩
 ·simp [zbG, hf, zk5, hn, hc, List.getD_eq_getElem?_getD, VT.num]
 ·have := zm8 data n.toNat c.toNat hn hc f1 g3 (by omega) (fun x hx => by have := g2 x hx; omega) H K (by simpa [zaY, zbQ, Function.comp_def] using hK)
  rwa [Int.toNat_of_nonneg n0, Int.toNat_of_nonneg c0] at this
 ·have := ztv data n.toNat c.toNat hn hc f1 g3 (by omega) (fun x hx => by have := g2 x hx; omega) H K hK
  rwa [Int.toNat_of_nonneg n0, Int.toNat_of_nonneg c0] at this
 ·have hjl : j < ((data[n.toNat]).cons[c.toNat]).args.length := by
   refine Nat.lt_of_not_le fun hle => ?_
   rw [List.getD_eq_getElem?_getD, List.getElem?_eq_none (by simpa [zbQ] using hle)] at hj
   simp at hj
  simp only [List.getD_eq_getElem?_getD, zbQ, List.getElem?_map, List.getElem?_eq_getElem hjl, Option.map_some, Option.getD_some] at hj ⊢
  rw [zwu hj hv, Int.toNat_of_nonneg n0]
theorem zqa {data : List Dat} (m n : Int) (kk : List IT) (ks : List VT) : rdV data (.mk m kk) (.mk 5 n ks) = if m = 0 ∧ kk.length ≤ 6 then rdE data kk (.mk 5 n ks) 0 else -1 := by simp [rdV, VT.kind]
theorem zpI : ∀ (s : List (List IT)) (x : List IT), x ∈ s → IT.nodesL x ≤ IT.nodesL s.flatten
 | [], x, h => by simp at h
 | y :: s, x, h => by
  rw [List.flatten_cons, IT.nodesL_app]
  rcases List.mem_cons.1 h with rfl | h
  ·omega
  ·have := zpI s x h; omega
theorem zBw (data : List Dat) (hk : za6 data) (n : Int) (ks : List VT) (ht : (VT.mk 5 n ks).nodes ≤ 1000) (c : Int) {l : List VT} {bs : List Bool} (hf : zaL data (.mk 5 n ks) c = some l)
  (hlb : l.length = bs.length) (hl8 : l.length ≤ 8) (h200 : ∀ x ∈ l, x.nodes ≤ 200) (hrf : ∀ H K, K (.sl (zaY bs) .none) H → ACalls tP zc8 [.sl (data.map Dat.cs) .none, .int .i64 n, .int .i64 c] H K)
  (m : Int) (kids : List IT) (hk6 : kids.length ≤ 6) (hkn : IT.nodesL kids + 1 ≤ 1000) (hfirst : ∀ c' ps rest, kids = .mk c' ps :: rest → c' = c → ps.length = (pos false bs bs.length).length) (H : zaa) (K : Kt)
  (hK : ∀ rs, rs.Perm (zcd l bs c kids) → rs.Pairwise rle → K (zbS rs) H) :
  ACalls tP zgE [.sl (data.map Dat.cs) .none, .agg (VT.mk 5 n ks).cs, .int .i64 c, .agg (IT.mk m kids).cs] H K := by
 refine ACalls.out2 (zsq fun hs => ?_)
 obtain ⟨f1, f2, f3⟩ := zc6 hk
 simp [zmv, VT.cs, IT.cs, Nat.add_assoc]
 refine zhR data f1 f2 f3 (.mk 5 n ks) ht c _ _ ?_
 rw [hf]
 simp [zbK]
 refine zC8 data hk 5 n ks ht c hf hlb hl8 hrf _ _ ?_
 have hP8 := zcR false bs bs.length
 have hPl : ∀ j ∈ pos false bs bs.length, j < l.length := fun j hj => by have := zfD hj; omega
 have hPn : (pos false bs bs.length).Nodup := List.Pairwise.filter _ List.nodup_range
 have hRl : ∀ j ∈ pos true bs bs.length, j < l.length := fun j hj => by have := zfD hj; omega
 have hR8 := zcR true bs bs.length
 have hwide := zk9 l bs c kids
 have hnds := zqe (bs := bs) (c := c) (kids := kids) h200 hkn
 have hlen := zk8 (l := l) (c := c) hk6 (by omega : bs.length ≤ 8)
 unfold zcd at hK hwide hnds hlen
 generalize pos false bs bs.length = P at *
 generalize pos true bs bs.length = R at *
 simp
 obtain ⟨H0, hH0⟩ : ∃ H0, H0 = H ++ [AB.cells [.int .i64 5, .int .i64 n, .sl (VT.css ks) .none], .cells [.int .i64 m, .sl (IT.css kids) .none]] := ⟨_, rfl⟩
 rw [← hH0]
 have h00 : H <+: H0 := by rw [hH0]; exact ⟨_, rfl⟩
 have h0l : H0.length = H.length + 2 := by rw [hH0]; simp
 have hpv : H0[H.length + 1]? = some (.cells [.int .i64 m, .sl (IT.css kids) .none]) := by rw [hH0]; simp
 clear hH0
 unfold zit
 refine ALoop.vec 13 zay 1 rfl ?_
 show zit (.int .i64 c) (.ptr (H.length + 1) 0) (.sl (VT.css l) .none) (.sl (zaz P) .none) (.sl (zaz R) .none) (.ov H0.length 0) (.int .i64 0) (H0 ++ [.vec zay 1 0 []]) (zc0 H.length K)
 have hfin : ∀ rows X, H0 <+: X → HSc X → zeU X H.length H0.length rows → rows = zaN (zba l P) R kids ++ zbI (zba l P) P R c kids → zfU (.ov H0.length rows.length) X (zc0 H.length K) := fun rows X hX hscX hR hrows => by
  rw [← hrows] at hwide hnds hlen hK
  obtain ⟨cs, hcs, hcells⟩ := hR
  refine zwH (by omega) hcs hcells hscX hwide (by omega) hnds (by omega) _ fun rs cs' hp hso hc' => ?_
  obtain ⟨J, hJ⟩ := zd3 (b := .vec zay 1 rows.length cs') (h00.trans hX) (i := H0.length) (by omega)
  have hset : (X.set H0.length (.vec zay 1 rows.length cs'))[H0.length]? = some (.vec zay 1 rows.length cs') := List.getElem?_set_self (List.getElem?_eq_some_iff.1 hcs).1
  have hc2 : All2 (CellM (X.set H0.length (.vec zay 1 rows.length cs')) H.length H0.length) cs' rs := hc'.mono fun c r hc => hc.keep fun b _ hb _ => List.getElem?_set_ne (fun h => hb h.symm)
  have hcl2 := hc2.length
  refine ⟨zbS rs, H, J, hJ.symm, Nat.le_refl _, hs, .one ?_, hK rs hp hso⟩
  have hrw : zbS rs = .sl ((rs.map IT.css).map fun r => [.sl r .none]) .none := by simp [zbS]
  rw [hrw]
  refine .rows H0.length zay rows.length cs' (rs.map IT.css) (by omega) hset (by simp [hp.length_eq]) (All2.of_get (by simpa using hcl2) fun i x y hx hy => ?_)
  obtain ⟨r, hr, b, rfl, h1, h2, h3⟩ := All2.get' hc2 hx
  simp only [List.map_map, List.getElem?_map, hr, Option.map_some, Function.comp_apply, Option.some.injEq] at hy
  subst hy
  refine .frz b 0 r.length r.length 2 (zat r) (IT.css r) h1 h3 (by rw [zbR]; omega) ?_ (by simp) (fun c hc => zdr hc) (Nat.le_refl _)
  rw [List.drop_zero, List.take_of_length_le (by rw [zbR]; exact Nat.le_refl _)]
  exact zg7 r
 have hSn : ∀ kk : List IT, IT.nodesL kk + 1 ≤ 1000 → ∀ s ∈ za1 kk R.length, ∀ x ∈ s, IT.nodesL x + 1 ≤ 1000 := fun kk hkk s hs x hx => by
  have := zpI s x hx
  rw [zql _ _ s hs] at this
  omega
 have hcnt : ∀ kk : List IT, kk.length ≤ 6 → (za1 kk R.length).length ≤ 100000000 := fun kk hkk => Nat.le_trans (zhd _ _) (zd1 (by omega) (by omega))
 refine zBr (Inv := fun q t13 t14 H' => ∃ (ph : Nat) (rows : List (List IT)), ph ≤ 2 ∧ q = 2 - ph ∧ t14 = .int .i64 ph ∧ t13 = .ov H0.length rows.length ∧ H0 <+: H' ∧ zeU H' H.length H0.length rows ∧
   (ph = 0 → rows = []) ∧ (ph = 1 → rows = zaN (zba l P) R kids) ∧ (ph = 2 → rows = zaN (zba l P) R kids ++ zbI (zba l P) P R c kids)) 2 ?_ ?_
 ·intro _
  exact ⟨0, [], by omega, rfl, rfl, rfl, ⟨_, rfl⟩, ⟨[], by simp, trivial⟩, fun _ => rfl, fun h => by omega, fun h => by omega⟩
 ·rintro q t13 t14 H' ⟨ph, rows, hph, rfl, rfl, rfl, hpre, hR, h0, h1, h2⟩ hsc hlen' hsF Kb7 hKb7
  have hgv : H'[H.length + 1]? = some (.cells [.int .i64 m, .sl (IT.css kids) .none]) := by rw [zd2 hpre (by omega)]; exact hpv
  match ph, hph with
  | 0, _ =>
   obtain rfl := h0 rfl
   simp [zeO, hgv, ziq, zbB]
   refine zng R.length kids _ _ (by omega) (by omega) (zd1 (by omega) (by omega)) ?_
   simp [zb4]
   refine zqf (ph := 0) (zs := P.map fun j => zaG (l.getD j (.mk 0 0 []))) (S := za1 kids R.length) (rows := []) hpre (Nat.le_refl _) (by omega) hpv hR hl8 hPl hRl (by omega) (by omega) (zhe _ _) (hSn kids hkn) h200 (.inl ⟨rfl, rfl⟩) (by have := hcnt kids hk6; simp; omega) ?_
   intro X' hX' hscX hXl hRX
   have hrows : ([] : List (List IT)) ++ (za1 kids R.length).map (fun s => fill (fill (List.replicate l.length (.mk 0 [])) P (P.map fun j => zaG (l.getD j (.mk 0 0 [])))) R (s.map (IT.mk 0))) = zaN (zba l P) R kids := by rw [zep]; rfl
   rw [hrows] at hRX
   have hlenS : (zaN (zba l P) R kids).length = (za1 kids R.length).length := by rw [zep]; simp
   have hXl0 := hX'.length_le
   have hidl := (List.getElem?_eq_some_iff.1 hRX.choose_spec.1).1
   refine hKb7 _ _ ⟨1, by omega, Back.at (J := []) (H2 := X') (by simp) (by omega) hscX ?_ ⟨_, _, rfl, 1, zaN (zba l P) R kids, by omega, rfl, rfl, by rw [hlenS]; simp, hX', hRX, fun h => by omega, fun _ => rfl, fun h => by omega⟩⟩
   simp [zeP, AV.sc, AV.scV, AV.scA, AV.scB]
   omega
  | 1, _ =>
   obtain rfl := h1 rfl
   cases kids with
   | nil =>
    simp [zeO, hgv]
    exact hfin _ H' hpre hsc hR (by simp [zbI])
   | cons x rest =>
    obtain ⟨c', ps⟩ := x
    have hgv' : H'[H.length + 1]? = some (.cells [.int .i64 m, .sl ([.int .i64 c', .sl (IT.css ps) .none] :: IT.css rest) .none]) := by rw [hgv]; simp [IT.css, IT.cs]
    have hr0 : (((rest.length : Int) + 1) == 0) = false := by simp; omega
    by_cases hcc : c' = c
    ·subst hcc
     have hpsl := hfirst c' ps rest rfl rfl
     simp only [IT.nodesL, IT.nodes] at hkn
     simp at hk6
     simp [zeO, hgv', ziq, zbB, hr0]
     refine ⟨fun a ha => zdr ha, ?_⟩
     rw [List.take_of_length_le (show (IT.css rest).length ≤ rest.length by simp)]
     refine zng R.length rest _ _ (by omega) (by omega) (zd1 (by omega) (by omega)) ?_
     simp [zb4]
     have hc1 := hcnt rest (by omega)
     refine zqf (ph := 1) (zs := ps) (S := za1 rest R.length) (rows := zaN (zba l P) R (.mk c' ps :: rest)) hpre (Nat.le_refl _) (by omega) hpv hR hl8 hPl hRl (by omega) (by omega) (zhe _ _) (hSn rest (by omega)) h200 (.inr ⟨rfl, hpsl, fun x hx => by have := zkX hx; omega, m, c', rest, rfl⟩) (by simp only [List.length_append] at hlen; omega) ?_
     intro X' hX' hscX hXl hRX
     have hff : fill (zba l P) P ps = fill (List.replicate l.length (.mk 0 [])) P ps := zo6 P _ _ ps hPn (by simp) hpsl
     have hrows : (za1 rest R.length).map (fun s => fill (fill (List.replicate l.length (.mk 0 [])) P ps) R (s.map (IT.mk 0))) = zbI (zba l P) P R c' (.mk c' ps :: rest) := by
      simp only [zbI, if_true]
      rw [zep, hff]
     have hlenS : (zbI (zba l P) P R c' (.mk c' ps :: rest)).length = (za1 rest R.length).length := by rw [← hrows]; simp
     rw [hrows] at hRX
     have hXl0 := hX'.length_le
     have hidl := (List.getElem?_eq_some_iff.1 hRX.choose_spec.1).1
     refine hKb7 _ _ ⟨0, by omega, Back.at (J := []) (H2 := X') (by simp) (by omega) hscX ?_ ⟨_, _, rfl, 2, zaN (zba l P) R (.mk c' ps :: rest) ++ zbI (zba l P) P R c' (.mk c' ps :: rest), by omega, rfl, rfl, by rw [List.length_append, hlenS], hX', hRX, fun h => by omega, fun h => by omega, fun _ => rfl⟩⟩
     simp [zeP, AV.sc, AV.scV, AV.scA, AV.scB]
     omega
    ·have hcb : (c' != c) = true := by simpa using hcc
     simp [zeO, hgv', hcb, hr0]
     exact hfin _ H' hpre hsc hR (by simp [zbI, hcc])
  | 2, _ =>
   simp [zeO]
   exact hfin rows H' hpre hsc hR (h2 rfl)
def dOne : List Dat := [⟨[68], 0, [⟨[67], []⟩]⟩]
theorem zoW : za6 dOne := by
 refine ⟨by simp [dOne], fun d hd => ?_⟩
 simp [dOne] at hd
 subst hd
 refine ⟨by simp, by simp, fun c hc => ?_⟩
 simp at hc
 subst hc
 exact ⟨by simp, by simp, by simp⟩
theorem zoV : zaL dOne (.mk 5 0 []) 0 = some [] := by kernel_rfl
theorem zu2 : zbz dOne (.mk 5 0 []) 0 (.mk 0 [.mk 0 []]) = none := by kernel_rfl
theorem zoD (H : zaa) (K : Kt) (hK : K (.bool true) H) : ACalls tP zkp [] H K := by
 refine ACalls.out (zyE fun hs => ?_)
 simp [zrl, zav, zaU, zaA, zbt, zaB, AV.pd, AV.known, Nat.add_assoc]
 obtain ⟨bs, hlb, hl8, hpay, h200, _, hsc, _⟩ := zk1 zoW zoV
 have hbs : bs = [] := by cases bs <;> simp_all
 subst hbs
 have hgo : ∀ (H : zaa) (K : Kt), K (.tup [.sl [[.sl [] .none]] .none, .int .i64 0]) H → ACalls tP zfx [.sl (dOne.map Dat.cs) .none, .agg (VT.mk 5 0 []).cs, .int .i64 0, .agg (IT.mk 0 [.mk 0 []]).cs] H K := fun H K hK => by
  refine ztG dOne zoW (.mk 5 0 []) (by decide) 0 (.mk 0 [.mk 0 []]) (by decide) H K (fun e he => by rw [zu2] at he; cases he) (fun _ => ⟨[], [], zoV, rfl, by simp, by simp, hpay, hsc, fun rs hp _ => ?_⟩)
  have hr : zcd [] [] 0 (zkj (.mk 0 [.mk 0 []])) = [[]] := by kernel_rfl
  rw [hr] at hp
  obtain rfl := List.perm_singleton.1 hp
  exact hK
 refine ACalls.wk (hgo H _ ?_) ⟨.atom (.sl _ _), .agg ⟨.refl _, .refl _, .snil, trivial⟩, .atom (.refl _), .agg ⟨.refl _, .sl _ _, trivial⟩, trivial⟩
 simp
 exact Out.bool (J := []) (by simp) (Nat.le_refl _) hs hK
theorem zwD (data : List Dat) (hlen : data.length ≤ 9223372036854775807) (t : VT) (H : zaa) (K : Kt) (hK : ∀ b, (b = true → za6 data ∧ t.nodes ≤ 250) → K (.bool b) H) : ACalls tP zkJ [.sl (data.map Dat.cs) .none, .agg t.cs] H K := by
 refine ACalls.out (zEd fun hs => ?_)
 have hO : ∀ b, (b = true → za6 data ∧ t.nodes ≤ 250) → ∀ J, Out H.length K (.bool b) (H ++ J) := fun b h J => Out.bool rfl (Nat.le_refl _) hs (hK b h)
 obtain ⟨x, y, z, hvx, hx, hy, hz⟩ := zbj t
 simp [zq6, hvx, Nat.add_assoc]
 refine zz9 data _ _ hlen fun b1 hb1 => ?_
 cases b1 with
 | false =>
  simp
  exact hO _ (fun h => by cases h) _
 | true =>
  simp [Nat.add_assoc]
  rw [← hvx]
  refine zAd t _ _ fun b2 hb2 => ?_
  try simp
  exact hO _ (fun h => ⟨hb1 rfl, hb2 h⟩) _
end Go.Proofs.YtacebbdfgbfgiaaGreat
namespace Go.Proofs.YtacebbdfgbfgiaaGreat
open Go Go.Abs
set_option maxRecDepth 8000
open Classical in
theorem zIU {H J : zaa} {K : Kt} {e : Int} (hs : HSc H) (hK : K (.tup [.agg d0.cs, .int .i64 e]) H) : Out H.length K (.tup [.agg [.int .i64 0, .snil], .int .i64 e]) (H ++ J) :=
 Out.tup (bs := [.agg [.int .i64 0, .sl [] .none], .int .i64 e]) hs (by simpa [d0, IT.cs, IT.css] using hK) ⟨⟨WkV.agg ⟨.refl _, .snil, trivial⟩, rfl, rfl⟩, za4 rfl rfl, trivial⟩
end Go.Proofs.YtacebbdfgbfgiaaGreat
namespace Go.Proofs.YtacebbdfgbfgiaaGreat
open Go Go.Abs
set_option maxRecDepth 8000
end Go.Proofs.YtacebbdfgbfgiaaGreat
namespace Go.Proofs.YtacebbdfgbfgiaaGreat
open Go Go.Abs
set_option maxRecDepth 100000
end Go.Proofs.YtacebbdfgbfgiaaGreat
namespace Go.Proofs.YtacebbdfgbfgiaaGreat
open Go Go.Abs
set_option maxRecDepth 8000
theorem zqk (ks ks' : List IT) (hb : ks.length ≤ 1000000)
  (hc : ∀ (i : Nat) (h : i < ks.length) (h' : i < ks'.length) (H : zaa) (K : AV → zaa → Prop), K (.bool (IT.same ks[i] ks'[i])) H → ACalls tP zgA [.agg ks[i].cs, .agg ks'[i].cs] H K)
  (H : zaa) (K : AV → zaa → Prop) (hK : K (.bool (IT.sameL ks ks')) H) : ACalls tP zfp [.sl (IT.css ks) .none, .sl (IT.css ks') .none] H K := by
 refine ACalls.out (zzT fun hs => ?_)
 have fin := zcQ (K := K) (H := H) (r := .bool (IT.sameL ks ks')) hs rfl rfl hK
 by_cases he : ks.length = ks'.length
 ·simp [zl3, he]
  refine zzR (Inv := fun q t13 H' => ∃ i : Nat, i ≤ ks.length ∧ q = ks.length - i ∧ t13 = .int .i64 i ∧ IT.sameL (ks.drop i) (ks'.drop i) = IT.sameL ks ks' ∧ H' = H) ks.length ?_ ?_
  ·intro _; exact ⟨0, by omega, by omega, rfl, by simp, rfl⟩
  ·rintro q t8 H' ⟨i, hi, rfl, rfl, ho, rfl⟩ hsc hlen hsF Kb hKb
   by_cases hlt : i < ks.length
   ·have hlt' : i < ks'.length := by omega
    rw [IT.sameL_drop hlt hlt'] at ho
    simp [zl4, hlt, hlt']
    refine zbE _ (fun J => hc i hlt hlt' _ _ ⟨rfl, rfl⟩) ?_
    cases hz : IT.same ks[i] ks'[i] with
    | true =>
     rw [hz, Bool.true_and] at ho
     simp
     rw [zal (by omega) (by omega)]
     refine hKb _ _ ⟨ks.length - (i + 1), by omega, Back.here (Nat.le_refl _) hs ?_ ⟨_, rfl, i + 1, by omega, rfl, by simp, ho, rfl⟩⟩
     simp [zh0, AV.sc, AV.scV, AV.scA, AV.scB]
    | false =>
     rw [hz, Bool.false_and] at ho
     simp
     rw [← ho] at fin
     exact fin
   ·have hlt' : ¬ i < ks'.length := by omega
    simp [zl4, hlt, hlt']
    obtain rfl : i = ks.length := by omega
    rw [List.drop_length, he, List.drop_length] at ho
    rw [← ho] at fin
    exact fin
 ·have hb : ((ks.length : Int) != ks'.length) = true := by simp; omega
  simp [zl3, hb]
  have e : IT.sameL ks ks' = false := by
   cases h : IT.sameL ks ks' with
   | false => rfl
   | true => exact absurd (IT.sameL_len _ _ h) he
  rw [e] at fin
  exact fin
theorem zwm : ∀ (m : Nat) (v w : IT), v.nodes ≤ m → v.nodes ≤ 1000000 → ∀ (H : zaa) (K : AV → zaa → Prop), K (.bool (IT.same v w)) H → ACalls tP zgA [.agg v.cs, .agg w.cs] H K := by
 intro m
 induction m with
 | zero => intro v w h; have := v.nodes_pos; omega
 | succ m ih =>
  intro v w hv hb H K hK
  obtain ⟨n, ks⟩ := v
  obtain ⟨n', ks'⟩ := w
  have hnl : IT.nodesL ks + 1 ≤ 1000000 := by simpa [IT.nodes] using hb
  have hll := IT.len_le ks
  refine ACalls.out (zz0 fun hs => ?_)
  have fin : ∀ J, Out H.length K (.bool (IT.same (.mk n ks) (.mk n' ks'))) (H ++ J) := fun J => Out.same rfl hs rfl rfl hK
  cases h2 : (n == n') with
  | false =>
   simp [IT.cs, zl6, h2]
   simp only [IT.same, h2, Bool.false_and] at fin
   exact fin _
  | true =>
   simp [IT.cs, zl6, h2]
   simp only [IT.same, h2, Bool.true_and] at fin
   refine zqk ks ks' (by omega) (fun i h h' H K hK => ?_) _ _ ?_
   ·have := IT.kid_lt (n := n) h
    exact ih _ _ (by omega) (by omega) H K hK
   ·exact fin _
theorem zwk (x : List IT) : IT.sameL x x = true := by
 have := IT.cmpL_anti x x
 exact (IT.cmpL_zero x x).1 (by omega)
theorem zum (a b : List IT) (hl : a.length ≤ 1000000) (hn : ∀ x ∈ a, x.nodes ≤ 1000000) (H : zaa) (K : Kt) (hK : K (.bool (IT.sameL a b)) H) : ACalls tP zfp [.sl (IT.css a) .none, .sl (IT.css b) .none] H K :=
 zqk a b hl (fun i h h' H K hK => zwm _ _ _ (Nat.le_refl _) (hn _ (List.getElem_mem h)) H K hK) H K hK
mutual
theorem zxx {data : List Dat} : ∀ x : VT, rdV data (zaG x) x = 0
 | .mk k n ks => by
  have hA := zrc (data := data) ks 0 (by omega) (by omega)
  by_cases h6 : k = 6
  ·subst h6
   have : rdV data (zaG (.mk 6 n ks)) (.mk 6 n ks) = rdA data (za2 ks) ks 0 := by simp [zaG, rdV, VT.kind, VT.kids, zdF]
   rw [this, hA]
  ·by_cases h7 : k = 7
   ·subst h7
    simp [zaG, rdV, VT.kind]
   ·by_cases h5 : k = 5
    ·subst h5
     simp [zaG, rdV, VT.kind, rdE]
    ·simp [zaG, rdV, VT.kind, h6, h7, h5]
theorem zrc {data : List Dat} : ∀ (ts : List VT) (a : Int), 0 ≤ a → a ≤ 6 → rdA data (za2 ts) ts a = a
 | [], a, _, _ => by simp only [za2, rdA]
 | t :: ts, a, h, h6 => by
  have h1 := zxx (data := data) t
  rw [za2, zv1, h1, if_neg (by omega), Int.add_zero, zrc ts a h h6]
end
theorem zwb {N : Nat} {l : List VT} {bs : List Bool} {c : Int} {kids : List IT} (hl : ∀ x ∈ l, x.nodes ≤ 200) (hN : 200 ≤ N) (hk : IT.nodesL kids + 1 ≤ N) : ∀ r ∈ zcd l bs c kids, ∀ x ∈ r, x.nodes ≤ N := by
 have hb := zoF (P := pos false bs bs.length) hl
 intro r h
 unfold zcd at h
 rcases List.mem_append.1 h with h | h
 ·exact ze7 _ _ _ (fun x hx => by have := hb x hx; omega) hk r h
 ·unfold zbI at h
  split at h
  ·simp at h
  ·rename_i c' ps rest
   simp only [IT.nodesL, IT.nodes] at hk
   split at h
   ·refine ze7 _ _ _ (fun x hx => ?_) (by omega) r h
    rcases zgl _ _ _ _ hx with hx | hx
    ·have := hb x hx; omega
    ·have := zkX hx; omega
   ·simp at h
theorem zuZ {data : List Dat} {n : Int} {ks : List VT} {c : Int} {v : IT} (hE : zbz data (.mk 5 n ks) c v = none) : zbp data (.mk 5 n ks) = true ∧ ∃ kids, v = .mk 0 kids ∧ 0 ≤ rdE data kids (.mk 5 n ks) 0 ∧ zbc data (.mk 5 n ks) (.mk 0 kids) = rdE data kids (.mk 5 n ks) 0 ∧ kids.length ≤ 6 := by
 have hd : 0 ≤ zbc data (.mk 5 n ks) v := by
  unfold zbz at hE
  split at hE
  ·cases hE
  ·omega
 have hf : zbp data (.mk 5 n ks) = true := by
  unfold zbc at hd
  by_cases h : zbp data (.mk 5 n ks) = true
  ·exact h
  ·rw [if_neg h] at hd; omega
 obtain ⟨m, kids⟩ := v
 have hr : zbc data (.mk 5 n ks) (.mk m kids) = rdV data (.mk m kids) (.mk 5 n ks) := by unfold zbc; rw [if_pos hf]
 rw [hr, zqa] at hd
 by_cases h : m = 0 ∧ kids.length ≤ 6
 ·rw [if_pos h] at hd
  obtain ⟨rfl, h6⟩ := h
  refine ⟨hf, kids, rfl, hd, ?_, h6⟩
  rw [hr, zqa, if_pos ⟨rfl, h6⟩]
 ·rw [if_neg h] at hd; omega
theorem zBv (data : List Dat) (hk : za6 data) (n : Int) (ks : List VT) (ht : (VT.mk 5 n ks).nodes ≤ 1000) (c : Int) (hf : zaL data (.mk 5 n ks) c = none) (m : Int) (kids : List IT) (H : zaa) (K : Kt) (hK : K (.sl [] .none) H) :
  ACalls tP zgE [.sl (data.map Dat.cs) .none, .agg (VT.mk 5 n ks).cs, .int .i64 c, .agg (IT.mk m kids).cs] H K := by
 refine ACalls.out2 (zsq fun hs => ?_)
 obtain ⟨f1, f2, f3⟩ := zc6 hk
 simp [zmv, VT.cs, IT.cs, Nat.add_assoc]
 refine zhR data f1 f2 f3 (.mk 5 n ks) ht c _ _ ?_
 rw [hf]
 simp [zbK]
 exact ⟨.sl [] .none, H, _, rfl, Nat.le_refl _, hs, .one (.one (.wk (.atom .snil) rfl rfl)), hK⟩
theorem zug (data : List Dat) (hk : za6 data) (t : VT) (ht : t.nodes ≤ 1000) (c : Int) (v : IT) (hv : v.nodes ≤ 900) (H : zaa) (K : Kt)
  (hbad : ∀ e, zbz data t c v = some e → K (.tup [.sl [] .none, .int .i64 e]) H)
  (hgood : zbz data t c v = none → ∃ l bs, zaL data t c = some l ∧ l.length = bs.length ∧ l.length ≤ 8 ∧ (∀ x ∈ l, x.nodes ≤ 200) ∧ zbG data t c = some (pick l bs) ∧
   (∀ H K, K (.sl (zaY bs) .none) H → ACalls tP zc8 [.sl (data.map Dat.cs) .none, .int .i64 t.num, .int .i64 c] H K) ∧
   ∀ rs, rs.Perm (zcd l bs c (zkj v)) → rs.Pairwise rle → K (.tup [zbS rs, .int .i64 0]) H) :
  ACalls tP zkR [.sl (data.map Dat.cs) .none, .agg t.cs, .int .i64 c, .agg v.cs] H K := by
 refine ACalls.out2 (zGj fun hs => ?_)
 obtain ⟨k, n, ks⟩ := t
 obtain ⟨m, vs⟩ := v
 simp [zq9, VT.cs, IT.cs, Nat.add_assoc]
 refine zBf data hk (.mk k n ks) ht (.mk m vs) hv _ _ ?_
 by_cases hd : zbc data (.mk k n ks) (.mk m vs) < 0
 ·have hd' : decide (0 ≤ zbc data (.mk k n ks) (.mk m vs)) = false := by simpa using hd
  simp [hd']
  exact ⟨⟨rfl, rfl⟩, zc3 hs (hbad 1 (by simp [zbz, hd]))⟩
 have hd' : decide (0 ≤ zbc data (.mk k n ks) (.mk m vs)) = true := by simpa using hd
 simp [hd']
 by_cases h5 : k = 5
 ·subst h5
  have hfine : zbp data (.mk 5 n ks) = true := by
   unfold zbc at hd
   by_cases h : zbp data (.mk 5 n ks) = true
   ·exact h
   ·rw [if_neg h] at hd; omega
  have hrd : 0 ≤ rdV data (.mk m vs) (.mk 5 n ks) := by
   unfold zbc at hd
   rw [if_pos hfine] at hd
   omega
  obtain ⟨rfl, hl6, hrE⟩ : m = 0 ∧ vs.length ≤ 6 ∧ 0 ≤ rdE data vs (.mk 5 n ks) 0 := by
   simp [rdV, VT.kind] at hrd
   by_cases h : m = 0 ∧ vs.length ≤ 6
   ·rw [if_pos h] at hrd
    exact ⟨h.1, h.2, hrd⟩
   ·rw [if_neg h] at hrd; omega
  obtain ⟨hn0, hnl⟩ := zqS (by unfold zbp at hfine; rw [Bool.and_eq_true] at hfine; exact hfine.2)
  have hbad8 : (c < 0 ∨ (data[n.toNat].cons.length : Int) ≤ c) → K (.tup [.sl [] .none, .int .i64 8]) H := fun h => hbad 8 (by
   simp only [zbz, if_neg hd, VT.kind, VT.num, ne_eq, not_true_eq_false, if_false, List.getD_eq_getElem?_getD, List.getElem?_eq_getElem hnl, Option.getD_some]
   rw [if_pos h])
  by_cases hc0 : c < 0
  ·simp [hc0]
   exact ⟨⟨rfl, rfl⟩, zc3 hs (hbad8 (.inl hc0))⟩
  have hnl2 : n < (data.length : Int) := by omega
  by_cases hc8 : (data[n.toNat].cons.length : Int) ≤ c
  ·simp [hc0, hn0, hnl2, List.getElem?_eq_getElem hnl, Dat.cs, hc8]
   exact ⟨⟨rfl, rfl⟩, zc3 hs (hbad8 (.inr hc8))⟩
  simp [hc0, hn0, hnl2, List.getElem?_eq_getElem hnl, Dat.cs, hc8]
  cases hf : zaL data (.mk 5 n ks) c with
  | none =>
   refine zBv data hk n ks ht c hf 0 vs _ _ ?_
   refine ⟨⟨rfl, rfl⟩, ⟨.tup [.sl [] .none, .int .i64 0], H, _, rfl, Nat.le_refl _, hs, .tup ⟨.one (.wk (.atom (.sl _ _)) rfl rfl), .one (.wk (.atom (.refl _)) rfl rfl), trivial⟩, hbad 0 ?_⟩⟩
   simp only [zbz, if_neg hd, VT.kind, VT.num, ne_eq, not_true_eq_false, if_false, List.getD_eq_getElem?_getD, List.getElem?_eq_getElem hnl, Option.getD_some]
   rw [if_neg (by omega), if_pos hf]
  | some l =>
   have hE : zbz data (.mk 5 n ks) c (.mk 0 vs) = none := by
    simp only [zbz, if_neg hd, VT.kind, VT.num, ne_eq, not_true_eq_false, if_false, List.getD_eq_getElem?_getD, List.getElem?_eq_getElem hnl, Option.getD_some]
    rw [if_neg (by omega), if_neg (by simp [hf])]
   obtain ⟨l', bs, hf', hlb, hl8, h200, hpay, hrec, hK⟩ := hgood hE
   rw [hf] at hf'
   cases hf'
   have hpk : (pick l bs).length = (pos false bs bs.length).length := by
    have := zg6 hlb (.mk 0 0 []) l.length (Nat.le_refl _)
    rw [List.take_length, hlb, List.take_length] at this
    rw [this, List.length_map]
   refine zBw data hk n ks ht c hf hlb hl8 h200 hrec 0 vs hl6 (by simp only [IT.nodes] at hv; omega) (fun c' ps rest he hcc => ?_) _ _ fun rs hp hso => ?_
   ·subst he hcc
    rw [← hpk]
    simp only [rdE] at hrE
    by_cases h1 : c' < 0 ∨ 8 ≤ c'
    ·rw [if_pos h1] at hrE; omega
    ·rw [if_neg h1, hpay] at hrE
     by_cases h2 : (pick l bs).length = ps.length
     ·exact h2.symm
     ·simp only [if_neg h2] at hrE; omega
   ·refine ⟨⟨rfl, rfl⟩, ⟨.tup [zbS rs, .int .i64 0], H, _, rfl, Nat.le_refl _, hs, .tup ⟨.one (.wk (.atom (.sl _ _)) rfl rfl), .one (.wk (.atom (.refl _)) rfl rfl), trivial⟩, hK rs hp hso⟩⟩
 ·have hb : (k != 5) = true := by simpa using h5
  simp [hb]
  exact ⟨⟨rfl, rfl⟩, zc3 hs (hbad 6 (by simp [zbz, hd, VT.kind, h5]))⟩
theorem zlc (rs : List (List IT)) (hl : rs.length ≤ 1000000000) (hr : ∀ r ∈ rs, r.length ≤ 1000000 ∧ ∀ x ∈ r, x.nodes ≤ 1000000) (H : zaa) (K : Kt) (hK : K (.bool true) H) : ACalls tP zgr [zbS rs, zbS rs] H K := by
 refine ACalls.out (zx6 fun hs => ?_)
 have fin := zcQ (K := K) (H := H) (r := .bool true) hs rfl rfl hK
 simp [zrd, zbS]
 refine zx4 (Inv := fun q t13 H' => ∃ i : Nat, i ≤ rs.length ∧ q = rs.length - i ∧ t13 = .int .i64 i ∧ H' = H) rs.length ?_ ?_
 ·intro _; exact ⟨0, by omega, by omega, rfl, rfl⟩
 ·rintro q t8 H' ⟨i, hi, rfl, rfl, rfl⟩ hsc hlen hsF Kb hKb
  by_cases hlt : i < rs.length
  ·have hm := hr _ (List.getElem_mem hlt)
   simp [zlE, hlt]
   refine zbE (.bool true) (fun J => zum _ _ hm.1 hm.2 _ _ ?_) ?_
   ·rw [zwk]; exact ⟨rfl, rfl⟩
   ·simp
    rw [zal (by omega) (by omega)]
    refine hKb _ _ ⟨rs.length - (i + 1), by omega, Back.here (Nat.le_refl _) hs ?_ ⟨_, rfl, i + 1, by omega, rfl, by simp, rfl⟩⟩
    simp [zhz, AV.sc, AV.scV, AV.scA, AV.scB]
  ·simp [zlE, hlt]
   exact fin
theorem zun (data : List Dat) (hlen : data.length ≤ 9223372036854775807) (t : VT) (c : Int) (v : IT) (H : zaa) (K : Kt) (hK : K (.bool true) H) :
  ACalls tP zkm [.sl (data.map Dat.cs) .none, .agg t.cs, .int .i64 c, .agg v.cs] H K := by
 refine ACalls.out (zzX fun hs => ?_)
 have hO : ∀ J, Out H.length K (.bool true) (H ++ J) := fun J => Out.bool rfl (Nat.le_refl _) hs hK
 obtain ⟨x, y, z, hvx, hx, hy, hz⟩ := zbj t
 obtain ⟨x2, y2, hvx2, hx2, hy2⟩ := zcE v
 simp [zq1, hvx, hvx2, Nat.add_assoc]
 rw [← hvx]
 refine zwD data hlen t _ _ fun b1 hb1 => ?_
 cases b1 with
 | false =>
  simp
  exact hO _
 | true =>
  obtain ⟨hk, ht⟩ := hb1 rfl
  simp [Nat.add_assoc]
  rw [← hvx2]
  refine zEh v _ _ fun b2 hb2 => ?_
  cases b2 with
  | false =>
   simp
   exact hO _
  | true =>
   have hv := hb2 rfl
   simp [hx, hy, hz, hx2, hy2, Nat.add_assoc]
   have hend : ∀ rs : List (List IT), rs.length ≤ 1000000000 → (∀ r ∈ rs, r.length ≤ 1000000 ∧ ∀ x ∈ r, x.nodes ≤ 1000000) → ∀ J, ACalls tP zgr [zbS rs, zbS rs] (H ++ J) fun r H' => r = .bool true ∧ H' = H ++ J := fun rs h1 h2 J => zlc rs h1 h2 _ _ ⟨rfl, rfl⟩
   refine ztG data hk t (by omega) c v (by omega) _ _ (fun e he => ?_) (fun hE => ?_)
   ·simp [hvx, hvx2, hx, hy, hz, hx2, hy2, Nat.add_assoc]
    rw [← hvx, ← hvx2]
    refine zug data hk t (by omega) c v (by omega) _ _ (fun e' he' => ?_) (fun hE => by rw [hE] at he; cases he)
    rw [he] at he'
    cases he'
    simp
    refine zlc [] (by simp) (by simp) _ _ ?_
    simp
    refine zoD _ _ ?_
    try simp
    exact hO _
   ·obtain ⟨k, n, ks⟩ := t
    cases hf : zaL data (.mk k n ks) c with
    | none =>
     exfalso
     unfold zbz at hE
     rw [hf] at hE
     simp only [if_true] at hE
     split at hE
     ·cases hE
     ·split at hE
      ·cases hE
      ·split at hE <;> cases hE
    | some l =>
     obtain ⟨bs, hlb, hl8, hpay, h200, k5, hsc, hrf, hrt, _⟩ := zvV hk hf
     subst k5
     obtain ⟨hfine, kids, rfl, hrE, hdeg, hk6⟩ := zuZ hE
     refine ⟨l, bs, rfl, hlb, hl8, h200, hpay, hsc, fun rs hp hso => ?_⟩
     have hwide : ∀ r ∈ rs, r.length = l.length := fun r hr => zk9 l bs c kids r (hp.subset hr)
     have hnod : ∀ r ∈ rs, ∀ x ∈ r, x.nodes ≤ 200 := fun r hr => zwb (bs := bs) (c := c) h200 (Nat.le_refl _) (by show IT.nodesL kids + 1 ≤ 200; simp only [IT.nodes] at hv; omega) r (hp.subset hr)
     have hrsl : rs.length ≤ 200000000 := by rw [hp.length_eq]; exact zk8 hk6 (by omega)
     simp [VT.cs, IT.cs, Nat.add_assoc]
     refine zug data hk (.mk 5 n ks) (by omega) c (.mk 0 kids) (by omega) _ _ (fun e he => by rw [hE] at he; cases he) (fun _ => ⟨l, bs, hf, hlb, hl8, h200, hpay, hrf, fun rs2 hp2 hso2 => ?_⟩)
     obtain rfl := zwa (hp2.trans hp.symm) hso2 hso
     simp
     refine zlc _ (by omega) (fun r hr => ⟨by rw [hwide r hr]; omega, fun x hx => by have := hnod r hr x hx; omega⟩) _ _ ?_
     simp
     refine zoD _ _ ?_
     try simp
     exact hO _
end Go.Proofs.YtacebbdfgbfgiaaGreat
