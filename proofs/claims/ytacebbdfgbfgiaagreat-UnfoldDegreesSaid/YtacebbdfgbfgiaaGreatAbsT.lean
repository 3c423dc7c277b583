import Derived.Test.YtacebbdfgbfgiaaGreatKUO
import Derived.Test.YtacebbdfgbfgiaaGreatKUA
import Derived.Test.YtacebbdfgbfgiaaGreatKV5
import Derived.Test.YtacebbdfgbfgiaaGreatKNum
import Derived.Test.YtacebbdfgbfgiaaGreatProg
import Derived.KernelRfl
import Derived.Test.YtacebbdfgbfgiaaGreatVO
import Derived.Deep.Slices
import Derived.DataReads
set_option linter.unusedSimpArgs false
set_option linter.unusedVariables false
namespace Go.Proofs.YtacebbdfgbfgiaaGreat
open Go Go.Abs
set_option maxRecDepth 8000
theorem zv5 (n : Nat) : All2 WkA (List.replicate n [AV.int .i64 0, .snil]).flatten (zaF (List.replicate n (.mk 0 []))) := by
 induction n with
 | zero => exact trivial
 | succ n ih =>
  rw [List.replicate_succ, List.replicate_succ, List.flatten_cons, zcY]
  exact ⟨.refl _, .snil, ih⟩
theorem zeW {H J : zaa} {K : Kt} {e : Int} (hs : HSc H) (hK : K (.tup [.sl [] .none, .int .i64 e]) H) : zd9 H.length K (.tup [.snil, .int .i64 e]) (H ++ J) :=
 ⟨.tup [.sl [] .none, .int .i64 e], H, J, rfl, Nat.le_refl _, hs, .tup ⟨.one (.wk (.atom .snil) rfl rfl), .one (.wk (.atom (.refl _)) rfl rfl), trivial⟩, hK⟩
theorem RowsH.weaken {X : zaa} {lo lo' id : Nat} {rows : List (List IT)} (h : RowsH X lo id rows) (hl : lo' ≤ lo) : RowsH X lo' id rows := by
 obtain ⟨h1, cs, h2, h3⟩ := h
 exact ⟨by omega, cs, h2, h3.mono fun c r hc => hc.keep hl fun b _ hb _ => ⟨hb, rfl⟩⟩
theorem RowsH.agree {X Y : zaa} {lo id : Nat} {rows : List (List IT)} (h : RowsH X lo id rows) (ha : ∀ k, lo ≤ k → k < X.length → Y[k]? = X[k]?) : RowsH Y lo id rows := by
 obtain ⟨h1, cs, h2, h3⟩ := h
 exact ⟨h1, cs, by rw [ha _ h1 (List.getElem?_eq_some_iff.1 h2).1]; exact h2, h3.mono fun c r hc => hc.keep (Nat.le_refl _) fun b hb hb2 hb3 => ⟨hb2, ha b hb hb3⟩⟩
theorem ztr {H3 : zaa} {lo1 id1 lo2 id2 : Nat} {rows1 rows2 : List (List IT)} {K : Kt} (h1 : RowsH H3 lo1 id1 rows1) (h2 : RowsH H3 lo2 id2 rows2) (hlt : id1 < lo2) (hlo : lo1 ≤ lo2) (hb : rows1.length + rows2.length ≤ 1000000000) (hs : HSc H3)
  (hK : ∀ H4, HSc H4 → RowsH H4 lo1 id1 (rows1 ++ rows2) → (∀ X, X <+: H3 → X.length ≤ id1 → X <+: H4) → K (.ov id1 (rows1 ++ rows2).length) H4) : zar zbh 1 24 (.ov id1 rows1.length) (.ov id2 rows2.length) H3 K := by
 obtain ⟨g1, cs1, hc1, hx1⟩ := h1
 obtain ⟨g2, cs2, hc2, hx2⟩ := h2
 have hl1 := (List.getElem?_eq_some_iff.1 hc1).1
 have k1 := ze0 hx1
 have k2 := ze0 hx2
 refine znk hc1 hc2 k2.2 (by rw [hx2.length]; simp) (by omega) (by omega) ?_
 rw [← List.length_append]
 have hkp : ∀ b, b ≠ id1 → (H3.set id1 (.vec zbh 1 (rows1 ++ rows2).length (cs1 ++ cs2)))[b]? = H3[b]? := fun b hb => List.getElem?_set_ne (fun h => hb h.symm)
 refine hK _ (hs.set ?_) ⟨g1, cs1 ++ cs2, List.getElem?_set_self hl1, (hx1.mono fun c r hc => hc.keep (Nat.le_refl _) fun b _ hb _ => ⟨hb, hkp b hb⟩).append (hx2.mono fun c r hc => hc.keep hlo fun b hb1 hb2 hb3 => ?_)⟩ (fun X hX hl => zgP hX hl)
 ·simp only [AB.sc, List.all_append, k1.1, k2.1, Bool.and_self]
 ·have : b ≠ id1 := by omega
  exact ⟨this, hkp b this⟩
theorem zn6 : ∀ (ps : List Nat) (xs row : List IT) (p : Nat) (x : IT), xs.length = ps.length → fill row (ps ++ [p]) (xs ++ [x]) = (fill row ps xs).set p x
 | [], [], row, p, x, _ => by simp [fill]
 | [], _ :: _, _, _, _, h => by simp at h
 | _ :: _, [], _, _, _, h => by simp at h
 | q :: ps, y :: xs, row, p, x, h => by
  simp only [List.cons_append, fill]
  exact zn6 ps xs _ p x (by simpa using h)
theorem zn7 {P : List Nat} {xs row : List IT} {i : Nat} (hi : i < P.length) (hx : i < xs.length) : fill row (P.take (i + 1)) (xs.take (i + 1)) = (fill row (P.take i) (xs.take i)).set P[i] xs[i] := by
 rw [List.take_succ_eq_append_getElem hi, List.take_succ_eq_append_getElem hx]
 exact zn6 _ _ _ _ _ (by simp; omega)
theorem zss (data : List Dat) (hk : zbf data) (t : VT) (ht : t.nodes ≤ 1000) (c : Int) (v : IT) (hv : v.nodes ≤ 900) (H : zaa) (K : Kt)
  (hbad : ∀ e, zcq data t c v = some e → K (.tup [.sl [] .none, .int .i64 e]) H)
  (hgood : zcq data t c v = none → ∃ l bs, zaM data t c = some l ∧ l.length = bs.length ∧ l.length ≤ 8 ∧ (∀ x ∈ l, x.nodes ≤ 200) ∧ zbj data t c = some (pick l bs) ∧
   (∀ H K, K (.sl (za6 bs) .none) H → ACalls tP zcV [.sl (data.map Dat.cs) .none, .int .i64 t.num, .int .i64 c] H K) ∧
   ∀ rs, rs.Perm (zbY l bs c (zom v)) → rs.Pairwise rle → K (.tup [zdS rs, .int .i64 0]) H) :
  ACalls tP zfr [.sl (data.map Dat.cs) .none, .agg t.cs, .int .i64 c, .agg v.cs] H K := by
 refine ACalls.out2 (zC7 fun hs => ?_)
 obtain ⟨f1, f2, f3⟩ := zdl hk
 obtain ⟨k, n, ks⟩ := t
 obtain ⟨m, vs⟩ := v
 simp [zq8, VT.cs, IT.cs, Nat.add_assoc]
 refine zyG data hk (.mk k n ks) ht (.mk m vs) hv _ _ ?_
 by_cases hd : zbg data (.mk k n ks) (.mk m vs) < 0
 ·have hd' : decide (0 ≤ zbg data (.mk k n ks) (.mk m vs)) = false := by simpa using hd
  simp [hd']
  exact ⟨⟨rfl, rfl⟩, zeW hs (hbad 1 (by simp [zcq, hd]))⟩
 have hd' : decide (0 ≤ zbg data (.mk k n ks) (.mk m vs)) = true := by simpa using hd
 simp [hd']
 by_cases h5 : k = 5
 ·subst h5
  have hfine : zbo data (.mk 5 n ks) = true := by
   unfold zbg at hd
   by_cases h : zbo data (.mk 5 n ks) = true
   ·exact h
   ·rw [if_neg h] at hd; omega
  have hrd : 0 ≤ rdV data (.mk m vs) (.mk 5 n ks) := by
   unfold zbg at hd
   rw [if_pos hfine] at hd
   omega
  obtain ⟨rfl, hl6, hrE⟩ : m = 0 ∧ vs.length ≤ 6 ∧ 0 ≤ rdE data vs (.mk 5 n ks) 0 := by
   simp [rdV, VT.kind] at hrd
   by_cases h : m = 0 ∧ vs.length ≤ 6
   ·rw [if_pos h] at hrd
    exact ⟨h.1, h.2, hrd⟩
   ·rw [if_neg h] at hrd; omega
  obtain ⟨hn0, hnl⟩ := zvZ (by unfold zbo at hfine; rw [Bool.and_eq_true] at hfine; exact hfine.2)
  have hbad8 : (c < 0 ∨ (data[n.toNat].cons.length : Int) ≤ c) → K (.tup [.sl [] .none, .int .i64 8]) H := fun h => hbad 8 (by
   simp only [zcq, if_neg hd, VT.kind, VT.num, ne_eq, not_true_eq_false, if_false, List.getD_eq_getElem?_getD, List.getElem?_eq_getElem hnl, Option.getD_some]
   rw [if_pos h])
  by_cases hc0 : c < 0
  ·simp [hc0]
   exact ⟨⟨rfl, rfl⟩, zeW hs (hbad8 (.inl hc0))⟩
  have hnl2 : n < (data.length : Int) := by omega
  by_cases hc8 : (data[n.toNat].cons.length : Int) ≤ c
  ·simp [hc0, hn0, hnl2, List.getElem?_eq_getElem hnl, Dat.cs, hc8]
   exact ⟨⟨rfl, rfl⟩, zeW hs (hbad8 (.inr hc8))⟩
  simp [hc0, hn0, hnl2, List.getElem?_eq_getElem hnl, Dat.cs, hc8]
  refine zlB data f1 f2 f3 (.mk 5 n ks) ht c _ _ ?_
  cases hf : zaM data (.mk 5 n ks) c with
  | none =>
   simp [zbE]
   exact ⟨⟨rfl, rfl⟩, zeW hs (hbad 0 (by
    simp only [zcq, if_neg hd, VT.kind, VT.num, ne_eq, not_true_eq_false, if_false, List.getD_eq_getElem?_getD, List.getElem?_eq_getElem hnl, Option.getD_some]
    rw [if_neg (by omega), if_pos hf]))⟩
  | some l =>
   have hE : zcq data (.mk 5 n ks) c (.mk 0 vs) = none := by
    simp only [zcq, if_neg hd, VT.kind, VT.num, ne_eq, not_true_eq_false, if_false, List.getD_eq_getElem?_getD, List.getElem?_eq_getElem hnl, Option.getD_some]
    rw [if_neg (by omega), if_neg (by simp [hf])]
   obtain ⟨l', bs, hf', hlb, hl8, h200, hpay, hrec, hK⟩ := hgood hE
   rw [hf] at hf'
   cases hf'
   simp [zbE]
   refine zy0 data hk 5 n ks ht c hf hlb hl8 hfine hrec _ _ ?_
   have hP8 := zdq false bs bs.length
   have hPl : ∀ j ∈ pos false bs bs.length, j < l.length := fun j hj => by have := zeu hj; omega
   have hPn : (pos false bs bs.length).Nodup := List.Pairwise.filter _ List.nodup_range
   have hRl : ∀ j ∈ pos true bs bs.length, j < l.length := fun j hj => by have := zeu hj; omega
   have hR8 := zdq true bs bs.length
   have hK : ∀ rs, rs.Perm (zaV (zaQ l (pos false bs bs.length)) (pos true bs bs.length) vs ++ zb7 (zaQ l (pos false bs bs.length)) (pos false bs bs.length) (pos true bs bs.length) c vs) → rs.Pairwise rle → K (.tup [zdS rs, .int .i64 0]) H := hK
   have hwide := zph l bs c vs
   have hnds := zuP (bs := bs) (c := c) (kids := vs) h200 (by simp only [IT.nodes] at hv; omega)
   have hlen := zpg (l := l) (c := c) hl6 (by omega : bs.length ≤ 8)
   unfold zbY at hwide hnds hlen
   have hpk : (pick l bs).length = (pos false bs bs.length).length := by
    have := zgN hlb (.mk 0 0 []) l.length (Nat.le_refl _)
    rw [List.take_length, hlb, List.take_length] at this
    rw [this, List.length_map]
   generalize pos false bs bs.length = P at *
   generalize pos true bs bs.length = R at *
   have hfv : ∀ x ∈ l, zbo data x = true := fun x hx => by
    unfold zbo at hfine ⊢
    rw [Bool.and_eq_true] at hfine ⊢
    refine ⟨hfine.1, zn1 hfine.1 (by have := hfine.2; rw [za3, Bool.and_eq_true] at this; exact this.2) hf x hx⟩
   simp [zce]
   simp only [zbr, Int.toNat_natCast]
   refine ⟨by omega, ?_⟩
   unfold zi2
   refine ALoop.reCell (id := H.length + 2) (zaF (List.replicate l.length (.mk 0 []))) (by simp) (zv5 _) ?_
   have hset : (H ++ [AB.cells [.int .i64 5, .int .i64 n, .sl (VT.css ks) .none], .cells [.int .i64 0, .sl (IT.css vs) .none]] ++ [AB.cells (List.replicate l.length [AV.int .i64 0, .snil]).flatten]).set (H.length + 2) (.cells (zaF (List.replicate l.length (.mk 0 [])))) =
     H ++ [AB.cells [.int .i64 5, .int .i64 n, .sl (VT.css ks) .none], .cells [.int .i64 0, .sl (IT.css vs) .none], .cells (zaF (List.replicate l.length (.mk 0 [])))] := by simp [List.set_append_right]
   rw [hset]
   have hl2 : (H ++ [AB.cells [AV.int IntKind.i64 5, AV.int IntKind.i64 n, AV.sl (VT.css ks) Tok.none], AB.cells [AV.int IntKind.i64 0, AV.sl (IT.css vs) Tok.none]]).length = H.length + 2 := by simp
   rw [hl2]
   show zi2 (.sl (data.map Dat.cs) .none) (.int .i64 c) (.ptr (H.length + 1) 0) (.sl (VT.css l) .none) (.sl (zaz P) .none) (.sl (zaz R) .none) (.ms (H.length + 2) 0 l.length l.length) (.sl (zaz P) .none) (.int .i64 P.length) (.int .i64 0) _ (zd9 H.length K)
   have hZ : ∀ r : List IT, HSc (H ++ [AB.cells [.int .i64 5, .int .i64 n, .sl (VT.css ks) .none], .cells [.int .i64 0, .sl (IT.css vs) .none], .cells (zaF r)]) := fun r => hs.append (by simp [AB.sc, AV.scA, AV.scB, zpf])
   refine zC0 (Inv := fun q t67 H' => ∃ i : Nat, i ≤ P.length ∧ q = P.length - i ∧ t67 = .int .i64 i ∧ H' = H ++ [AB.cells [.int .i64 5, .int .i64 n, .sl (VT.css ks) .none], .cells [.int .i64 0, .sl (IT.css vs) .none], .cells (zaF (fill (List.replicate l.length (.mk 0 [])) (P.take i) ((P.map fun j => za4 (l.getD j (.mk 0 0 []))).take i)))]) P.length ?_ ?_
   ·intro _; exact ⟨0, by omega, by omega, rfl, by simp⟩
   ·rintro q t67 H' ⟨i, hi, rfl, rfl, rfl⟩ hsc hlen' hsF Kb hKb
    by_cases hlt : i < P.length
    ·have hPi := hPl _ (List.getElem_mem hlt)
     have hft := zn7 (row := List.replicate l.length (.mk 0 [])) hlt (xs := P.map fun j => za4 (l.getD j (.mk 0 0 []))) (by simpa using hlt)
     simp only [List.getElem_map, List.getD_eq_getElem?_getD, List.getElem?_eq_getElem hPi, Option.getD_some] at hft
     simp [zmR, zce, zki, hlt, hPi]
     have hmem := List.getElem_mem hPi
     refine zy4 data hk (l[P[i]]) (by have := h200 _ hmem; omega) _ _ (fun _ => ?_) (hfv _ hmem)
     obtain ⟨x, y, hzz, hx, hy⟩ := zdk (za4 l[P[i]])
     have hrs := zfy (fill (List.replicate l.length (.mk 0 [])) (P.take i) ((P.map fun j => za4 (l[j]?.getD (.mk 0 0 []))).take i)) P[i] (za4 l[P[i]]) (by simpa using hPi)
     rw [← hft] at hrs
     simp [hzz, hx, hy]
     refine ⟨by rw [zcK]; simp; omega, ?_⟩
     rw [zal (by omega) (by omega)]
     refine hKb _ _ ⟨P.length - (i + 1), by omega, Back.at (J := []) (H2 := H ++ [AB.cells [.int .i64 5, .int .i64 n, .sl (VT.css ks) .none], .cells [.int .i64 0, .sl (IT.css vs) .none], .cells (zaF (fill (List.replicate l.length (.mk 0 [])) (P.take (i + 1)) ((P.map fun j => za4 (l[j]?.getD (.mk 0 0 []))).take (i + 1))))]) ?_ (by simp) (hZ _) ?_ ⟨_, rfl, i + 1, by omega, rfl, by simp, by simp [List.getD_eq_getElem?_getD]⟩⟩
     ·rw [← hrs, hzz]; simp [List.set_append_right]
     ·simp [ziZ, AV.sc, AV.scV, AV.scA, AV.scB]
    ·obtain rfl : i = P.length := by omega
     rw [List.take_length, List.take_of_length_le (by simp)] at *
     have hbase : fill (List.replicate l.length (.mk 0 [])) P (P.map fun j => za4 (l.getD j (.mk 0 0 []))) = zaQ l P := rfl
     rw [hbase]
     have hbl : (zaQ l P).length = l.length := by simp [zaQ]
     generalize zaQ l P = base at *
     have hHB : HSc (H ++ [AB.cells [.int .i64 5, .int .i64 n, .sl (VT.css ks) .none], .cells [.int .i64 0, .sl (IT.css vs) .none], .cells (zaF base)]) := hZ base
     simp [zmR, zce]
     refine zlH R _ _ base vs _ ⟨zcK _, zkw _, .inl ⟨H.length + 2, by rw [hbl], by simp⟩⟩ (fun p hp => by rw [hbl]; exact hRl p hp) (by omega) (by omega) (by omega) (zgO (by omega) (by omega)) ?_
     intro id H1 hp1 hsc1 hR1
     have hp0 : H <+: H1 := List.IsPrefix.trans ⟨_, rfl⟩ hp1
     have hg1 : H1[H.length + 1]? = some (.cells [.int .i64 0, .sl (IT.css vs) .none]) := by rw [zfx hp1 (by simp)]; simp
     have hg2 : H1[H.length + 2]? = some (.cells (zaF base)) := by rw [zfx hp1 (by simp)]; simp
     have hfin1 : zb7 base P R c vs = [] → zfR (.ov id (zaV base R vs).length) H1 (zd9 H.length K) := fun h0 => by
      rw [h0, List.append_nil] at hwide hnds hlen hK
      exact zpM hp0 hs (hR1.weaken (by simp)) hwide (by omega) hnds (by omega) K hK
     simp [hg1]
     cases vs with
     | nil =>
      simp
      exact hfin1 rfl
     | cons x rest =>
      obtain ⟨c', ps⟩ := x
      have hg1' : H1[H.length + 1]? = some (.cells [.int .i64 0, .sl ([.int .i64 c', .sl (IT.css ps) .none] :: IT.css rest) .none]) := by rw [hg1]; simp [IT.css, IT.cs]
      simp [hg1']
      by_cases hcc : c' = c
      ·subst hcc
       have hpsl : ps.length = P.length := by
        rw [← hpk]
        simp only [rdE] at hrE
        by_cases h1 : c' < 0 ∨ 8 ≤ c'
        ·rw [if_pos h1] at hrE; omega
        ·rw [if_neg h1, hpay] at hrE
         by_cases h2 : (pick l bs).length = ps.length
         ·exact h2.symm
         ·simp only [if_neg h2] at hrE; omega
       have hHid : H.length + 3 ≤ id := by have := hR1.1; simpa using this
       have hH1l := (List.getElem?_eq_some_iff.1 hg2).1
       have hcut : ∀ r : List IT, r.length = l.length → HSc (H1.set (H.length + 2) (.cells (zaF r))) := fun r hr => hsc1.set (by simp [AB.sc, zpf])
       simp
       refine zC1 (Inv := fun q t104 H' => ∃ i : Nat, i ≤ P.length ∧ q = P.length - i ∧ t104 = .int .i64 i ∧ H' = H1.set (H.length + 2) (.cells (zaF (fill base (P.take i) (ps.take i))))) P.length ?_ ?_
       ·intro _; exact ⟨0, by omega, by omega, rfl, by simp [zps hg2]⟩
       ·rintro q t104 H' ⟨i, hi, rfl, rfl, rfl⟩ hsc hlen' hsF Kb hKb
        have hga : (H1.set (H.length + 2) (.cells (zaF (fill base (P.take i) (ps.take i)))))[H.length + 1]? = some (.cells [.int .i64 0, .sl ([.int .i64 c', .sl (IT.css ps) .none] :: IT.css rest) .none]) := by
         rw [List.getElem?_set_ne (by omega)]; exact hg1'
        have hgb : (H1.set (H.length + 2) (.cells (zaF (fill base (P.take i) (ps.take i)))))[H.length + 2]? = some (.cells (zaF (fill base (P.take i) (ps.take i)))) := List.getElem?_set_self hH1l
        by_cases hlt : i < P.length
        ·have hlp : i < ps.length := by omega
         obtain ⟨x, y, hzz, hx, hy⟩ := zdk ps[i]
         have hrs := zfy (fill base (P.take i) (ps.take i)) P[i] ps[i] (by rw [zdh, hbl]; exact hPl _ (List.getElem_mem hlt))
         rw [← zn7 hlt hlp] at hrs
         have hPi := hPl _ (List.getElem_mem hlt)
         simp [zmS, zce, zki, hlt, hlp, hga, hgb, hPi, hzz, hx, hy]
         refine ⟨by rw [zcK, zdh, hbl]; omega, ?_⟩
         have hcell : List.take (P[i] * 2) (zaF (fill base (List.take i P) (List.take i ps))) ++ x :: y :: List.drop (P[i] * 2 + 2) (zaF (fill base (List.take i P) (List.take i ps))) = zaF (fill base (P.take (i + 1)) (ps.take (i + 1))) := by rw [← hrs, hzz]; simp
         rw [hcell, zal (by omega) (by omega)]
         refine hKb _ _ ⟨P.length - (i + 1), by omega, Back.at (J := []) (H2 := H1.set (H.length + 2) (.cells (zaF (fill base (P.take (i + 1)) (ps.take (i + 1)))))) (by simp) (by simp) (hcut _ (by rw [zdh, hbl])) ?_ ⟨_, rfl, i + 1, by omega, rfl, by simp, rfl⟩⟩
         have hidl := (List.getElem?_eq_some_iff.1 hR1.2.choose_spec.1).1
         simp [zi0, AV.sc, AV.scV, AV.scA, AV.scB, hidl]
         omega
        ·obtain rfl : i = P.length := by omega
         rw [List.take_length, ← hpsl, List.take_length] at *
         simp [zmS, zce, hg1']
         refine ⟨fun a ha => zjk ha, ?_⟩
         rw [List.take_of_length_le (show (IT.css rest).length ≤ rest.length by simp)]
         have hrow1 : (fill base P ps).length = l.length := by rw [zdh, hbl]
         refine zlH R _ _ (fill base P ps) rest _ ⟨zcK _, zkw _, .inl ⟨H.length + 2, by rw [hrow1], hgb⟩⟩ (fun p hp => by rw [hrow1]; exact hRl p hp) (by omega) (by simp at hl6; omega) (by omega) (zgO (by simp at hl6; omega) (by omega)) ?_
         intro id2 H2 hp2 hsc2 hR2
         have hlen1 : (H1.set (H.length + 2) (.cells (zaF (fill base P ps)))).length = H1.length := by simp
         have hag : ∀ k, H.length + 3 ≤ k → k < H1.length → H2[k]? = H1[k]? := fun k hk1 hk2 => by
          rw [zfx hp2 (by rw [hlen1]; exact hk2), List.getElem?_set_ne (by omega)]
         have hpH2 : H <+: H2 := List.IsPrefix.trans (zgP hp0 (by omega)) hp2
         have hR1' : RowsH H2 H.length id (zaV base R (.mk c' ps :: rest)) := (RowsH.agree hR1 (fun k hk1 hk2 => hag k (by simpa using hk1) hk2)).weaken (by simp)
         have hidl := (List.getElem?_eq_some_iff.1 hR1.2.choose_spec.1).1
         have hsec : zb7 base P R c' (.mk c' ps :: rest) = zaV (fill base P ps) R rest := by simp [zb7]
         rw [hsec] at hwide hnds hlen hK
         rw [List.length_append] at hlen
         refine ztr hR1' hR2 (by rw [hlen1]; exact hidl) (by rw [hlen1]; omega) (by omega) hsc2 fun H4 hs4 hR4 hpre4 => ?_
         exact zpM (hpre4 H hpH2 (by omega)) hs hR4 hwide (by omega) hnds (by rw [List.length_append]; omega) K hK
      ·have hcb : (c' == c) = false := by simpa using hcc
       simp [hcb]
       exact hfin1 (by simp [zb7, hcc])
 ·have hb : (k != 5) = true := by simpa using h5
  simp [hb]
  exact ⟨⟨rfl, rfl⟩, zeW hs (hbad 6 (by simp [zcq, hd, VT.kind, h5]))⟩
def dOne : List Dat := [⟨[68], 0, [⟨[67], []⟩]⟩]
theorem znS : zbf dOne := by
 refine ⟨by simp [dOne], fun d hd => ?_⟩
 simp [dOne] at hd
 subst hd
 refine ⟨by simp, by simp, fun c hc => ?_⟩
 simp at hc
 subst hc
 exact ⟨by simp, by simp, by simp⟩
theorem znR : zaM dOne (.mk 5 0 []) 0 = some [] := by kernel_rfl
theorem ztM : zcq dOne (.mk 5 0 []) 0 (.mk 0 [.mk 0 []]) = none := by kernel_rfl
theorem zji (H : zaa) (K : Kt) (hK : K (.bool true) H) : ACalls tP zge [] H K := by
 refine ACalls.out (zw9 fun hs => ?_)
 simp [zqj, zau, zaX, zax, zbv, zaA, AV.pd, AV.known, Nat.add_assoc]
 obtain ⟨bs, hlb, hl8, hpay, h200, _, hsc, _⟩ := zkm znS znR
 have hbs : bs = [] := by cases bs <;> simp_all
 subst hbs
 have hgo : ∀ (H : zaa) (K : Kt), K (.tup [.sl [[.sl [] .none]] .none, .int .i64 0]) H → ACalls tP zfr [.sl (dOne.map Dat.cs) .none, .agg (VT.mk 5 0 []).cs, .int .i64 0, .agg (IT.mk 0 [.mk 0 []]).cs] H K := fun H K hK => by
  refine zss dOne znS (.mk 5 0 []) (by decide) 0 (.mk 0 [.mk 0 []]) (by decide) H K (fun e he => by rw [ztM] at he; cases he) (fun _ => ⟨[], [], znR, rfl, by simp, by simp, hpay, hsc, fun rs hp _ => ?_⟩)
  have hr : zbY [] [] 0 (zom (.mk 0 [.mk 0 []])) = [[]] := by kernel_rfl
  rw [hr] at hp
  obtain rfl := List.perm_singleton.1 hp
  exact hK
 refine ACalls.wk (hgo H _ ?_) ⟨.atom (.sl _ _), .agg ⟨.refl _, .refl _, .snil, trivial⟩, .atom (.refl _), .agg ⟨.refl _, .sl _ _, trivial⟩, trivial⟩
 simp
 exact Out.bool (J := []) (by simp) (Nat.le_refl _) hs hK
theorem zvf (data : List Dat) (hlen : data.length ≤ 9223372036854775807) (t : VT) (H : zaa) (K : Kt) (hK : ∀ b, (b = true → zbf data ∧ t.nodes ≤ 250) → K (.bool b) H) : ACalls tP zj4 [.sl (data.map Dat.cs) .none, .agg t.cs] H K := by
 refine ACalls.out (zBU fun hs => ?_)
 have hO : ∀ b, (b = true → zbf data ∧ t.nodes ≤ 250) → ∀ J, Out H.length K (.bool b) (H ++ J) := fun b h J => Out.bool rfl (Nat.le_refl _) hs (hK b h)
 obtain ⟨x, y, z, hvx, hx, hy, hz⟩ := zbk t
 simp [zq6, hvx, Nat.add_assoc]
 refine zyr data _ _ hlen fun b1 hb1 => ?_
 cases b1 with
 | false =>
  simp
  exact hO _ (fun h => by cases h) _
 | true =>
  simp [Nat.add_assoc]
  rw [← hvx]
  refine zyv t _ _ fun b2 hb2 => ?_
  try simp
  exact hO _ (fun h => ⟨hb1 rfl, hb2 h⟩) _
def zu5 (r : List (List IT)) : List AV := r.map fun s => .sl (IT.css s) .none
def CellS (H : zaa) (lo id : Nat) (c : AV) (r : List (List IT)) : Prop := ∃ b, c = .ov b r.length ∧ lo ≤ b ∧ b ≠ id ∧ H[b]? = some (.vec zbh 1 r.length (zu5 r))
theorem CellS.keep {H H' : zaa} {lo id : Nat} {c : AV} {r : List (List IT)} (h : CellS H lo id c r) (hid : ∀ b, lo ≤ b → b ≠ id → b < H.length → H'[b]? = H[b]?) : CellS H' lo id c r := by
 obtain ⟨b, rfl, h1, h2, h3⟩ := h
 exact ⟨b, rfl, h1, h2, by rw [hid b h1 h2 (List.getElem?_eq_some_iff.1 h3).1]; exact h3⟩
end Go.Proofs.YtacebbdfgbfgiaaGreat
namespace Go.Proofs.YtacebbdfgbfgiaaGreat
open Go Go.Abs
set_option maxRecDepth 8000
open Classical in
theorem zGy {H J : zaa} {K : Kt} {e : Int} (hs : HSc H) (hK : K (.tup [.agg d0.cs, .int .i64 e]) H) : Out H.length K (.tup [.agg [.int .i64 0, .snil], .int .i64 e]) (H ++ J) :=
 Out.tup (bs := [.agg [.int .i64 0, .sl [] .none], .int .i64 e]) hs (by simpa [d0, IT.cs, IT.css] using hK) ⟨⟨WkV.agg ⟨.refl _, .snil, trivial⟩, rfl, rfl⟩, zaY rfl rfl, trivial⟩
theorem zpJ (f : Nat → Int) (hf : ∀ j, f j ≤ 6) (hf0 : ∀ j, -1 ≤ f j) : ∀ i : Nat, -(i : Int) ≤ ((List.range i).map f).sum ∧ ((List.range i).map f).sum ≤ 6 * i
 | 0 => by simp
 | i + 1 => by
  have := zpJ f hf hf0 i
  have h1 := hf i
  have h2 := hf0 i
  rw [List.range_succ, List.map_append, List.sum_append]
  simp; omega
end Go.Proofs.YtacebbdfgbfgiaaGreat
namespace Go.Proofs.YtacebbdfgbfgiaaGreat
open Go Go.Abs
set_option maxRecDepth 8000
end Go.Proofs.YtacebbdfgbfgiaaGreat
namespace Go.Proofs.YtacebbdfgbfgiaaGreat
open Go Go.Abs
set_option maxRecDepth 100000
def zd2 : Nat → List Bool
 | 9 => rl false [0,1,8,1,1,2,36,3,64]
 | 13 => rl false [0,1,8,1,1,2,1,3,32,3,5,2,57]
 | _ => []
noncomputable def zlI : Code := Tryz.f4.body.getD .skip
noncomputable def zzg : List ResultVar := Tryz.f4.results.toList
def zfL (t0 t9 t11 t12 t49 t50 t51 : AV) : List AV := t0 :: ux 8 (t9 :: ux 1 (t11 :: t12 :: ux 36 (t49 :: t50 :: t51 :: ux 64 [])))
def zrh : List Bool := zd2 9
noncomputable def zlJ : Code := zao [1, 1, 1, 1, 1, 1, 0, 1, 0, 0] zlI
def zrd (K : Kt) : AExit → List AV → zaa → Prop := zap tP zd2 [1, 1, 1, 1, 1, 1, 0, 1, 0] zlI (zaw tP zzg K)
def zrf (t0 t9 t11 t12 t49 t50 t51 : AV) (H : zaa) (K : Kt) : Prop := ALoop tP zlJ (zrd K) (zfL t0 t9 t11 t12 t49 t50 t51) H
def zhU (t0 t9 t11 t12 t14 t15 t16 t49 t50 t51 t57 t58 : AV) : List AV := t0 :: ux 8 (t9 :: ux 1 (t11 :: t12 :: ux 1 (t14 :: t15 :: t16 :: ux 32 (t49 :: t50 :: t51 :: ux 5 (t57 :: t58 :: ux 57 [])))))
def zze : List Bool := zd2 13
noncomputable def zzc : Code := zao [1, 1, 0, 0, 1, 1, 0, 1, 0, 0] zlJ
def zzb (K : Kt) (Kb9 : Lt) : AExit → List AV → zaa → Prop := zap tP zd2 [1, 1, 0, 0, 1, 1, 0, 1, 0] zlJ (zbz zrh Kb9 (zrd K))
def zre (t0 t9 t11 t12 t14 t15 t16 t49 t50 t51 t57 t58 : AV) (H : zaa) (K : Kt) (Kb9 : Lt) : Prop := ALoop tP zzc (zzb K Kb9) (zhU t0 t9 t11 t12 t14 t15 t16 t49 t50 t51 t57 t58) H
def zeL (t0 t9 t11 t12 t14 t15 t16 t49 t50 t51 t57 t58 : AV) (H : zaa) (K : Kt) (Kb9 : Lt) (Kb13 : Lt) : Prop :=
 zac .lss false t58 t57 fun t59 =>
 zag t59
 (zae H (fun K' => K' t58 H) fun t61 =>
 zae H (fun K' => K' t12 H) fun t62 =>
 zae H (fun K' => zah 1 t62 (K' · H)) fun t63 =>
 zae H (fun K' => zac .geq false t61 t63 (K' · H)) fun t64 =>
 zae H (fun K' => K' t64 H) fun t65 =>
 zab t65 false H (fun K' => zae H (fun K'' => K'' t0 H) (K' · H)) fun t66 H =>
 zab t65 false H (fun K' => zae H (fun K'' => K'' t12 H) (K' · H)) fun t67 H =>
 zab t65 false H (fun K' => zae H (fun K'' => K'' t58 H) (K' · H)) fun t68 H =>
 zab t65 false H (fun K' => zae H (fun K'' => zaj 3 t67 t68 (K'' · H)) (K' · H)) fun t69 H =>
 zab t65 false H (fun K' => zae H (fun K'' => zam true 3 t69 H (K'' · H)) (K' · H)) fun t70 H =>
 zab t65 false H (fun K' => zae H (fun K'' => K'' t15 H) (K' · H)) fun t71 H =>
 zab t65 false H (fun K' => zae H (fun K'' => K'' t58 H) (K' · H)) fun t72 H =>
 zab t65 false H (fun K' => zae H (fun K'' => zaj 2 t71 t72 (K'' · H)) (K' · H)) fun t73 H =>
 zab t65 false H (fun K' => zae H (fun K'' => zam true 2 t73 H (K'' · H)) (K' · H)) fun t74 H =>
 zab t65 false H (fun K' => zbs H (fun H K'' => ACalls tP zeo [t66, t70, t74] H K'') (K' · H)) fun t75 H =>
 zab t65 false H (fun K' => zae H (fun K'' => zac .lss false t75 (.int .i64 0) (K'' · H)) (K' · H)) fun t76 H =>
 zae H (fun K' => zai t65 (.bool true) t76 (K' · H)) fun t77 =>
 zag t77
 (K (.bool false) H)
 (zae H (fun K' => K' t16 H) fun t78 =>
 zae H (fun K' => K' t0 H) fun t79 =>
 zae H (fun K' => K' t12 H) fun t80 =>
 zae H (fun K' => K' t58 H) fun t81 =>
 zae H (fun K' => zaj 3 t80 t81 (K' · H)) fun t82 =>
 zae H (fun K' => zam true 3 t82 H (K' · H)) fun t83 =>
 zae H (fun K' => K' t15 H) fun t84 =>
 zae H (fun K' => K' t58 H) fun t85 =>
 zae H (fun K' => zaj 2 t84 t85 (K' · H)) fun t86 =>
 zae H (fun K' => zam true 2 t86 H (K' · H)) fun t87 =>
 zbs H (fun H K' => ACalls tP zeo [t79, t83, t87] H K') fun t88 =>
 zae H (fun K' => zac .add false t78 t88 (K' · H)) fun t89 =>
 zae H (fun K' => K' t89 H) fun t16 =>
 zac .add false t58 (.int .i64 1) fun t90 =>
 Kb13 (zhU t0 t9 t11 t12 t14 t15 t16 t49 t50 t51 t57 t90) H))
 (zac .neq false t16 t11 fun t93 =>
 zab t93 true H (fun K' => K' t16 H) fun t95 H =>
 zab t93 true H (fun K' => K' t11 H) fun t96 H =>
 zab t93 true H (fun K' => zac .sub false t96 (.int .i64 1) (K' · H)) fun t97 H =>
 zab t93 true H (fun K' => zac .neq false t95 t97 (K' · H)) fun t98 H =>
 zai t93 t98 (.bool false) fun t99 =>
 zab t99 false H (fun K' => K' t14 H) fun t101 H =>
 zab t99 false H (fun K' => zac .gtr false t101 (.int .i64 0) (K' · H)) fun t102 H =>
 zab t99 false H (fun K' => K' t102 H) fun t103 H =>
 zab t103 true H (fun K' => K' t9 H) fun t104 H =>
 zab t103 true H (fun K' => K' t14 H) fun t105 H =>
 zab t103 true H (fun K' => zac .sub false t105 (.int .i64 1) (K' · H)) fun t106 H =>
 zab t103 true H (fun K' => zaj 1 t104 t106 (K' · H)) fun t107 H =>
 zab t103 true H (fun K' => zad false 1 t107 H (K' · H)) fun t108 H =>
 zab t103 true H (fun K' => K' t15 H) fun t109 H =>
 zab t103 true H (fun K' => ACalls tP zep [t108, t109] H K') fun t110 H =>
 zab t103 true H (fun K' => zac .geq false t110 (.int .i64 0) (K' · H)) fun t111 H =>
 zab t99 false H (fun K' => zai t103 t111 (.bool false) (K' · H)) fun t112 H =>
 zai t99 (.bool true) t112 fun t113 =>
 zag t113
 (K (.bool false) H)
 (zac .add false t51 (.int .i64 1) fun t114 =>
 Kb9 (zfL t0 t9 t11 t12 t49 t50 t114) H))
def zhT (t0 t9 t11 t12 t49 t50 t51 : AV) (H : zaa) (K : Kt) (Kb9 : Lt) : Prop :=
 zac .lss false t51 t50 fun t52 =>
 zag t52
 (zaj 1 t49 t51 fun t54 =>
 zad false 1 t54 H fun t55 =>
 zah 1 t55 fun t57 =>
 zre t0 t9 t11 t12 t51 t55 (.int .i64 0) t49 t50 t51 t57 (.int .i64 0) H K Kb9)
 (ACalls tP zge [] H fun t115 H =>
 K t115 H)
def zq2 (t0 t1 t2 t3 : AV) (H : zaa) (K : Kt) : Prop :=
 zaq t1 H fun t5 H =>
 zaq t3 H fun t7 H =>
 zad true 3 t5 H fun t19 =>
 ACalls tP zj4 [t0, t19] H fun t20 H =>
 aUn .not t20 fun t21 =>
 zab t21 false H (fun K' => zad true 2 t7 H (K' · H)) fun t23 H =>
 zab t21 false H (fun K' => ACalls tP zj9 [t23] H K') fun t24 H =>
 zab t21 false H (fun K' => aUn .not t24 (K' · H)) fun t25 H =>
 zai t21 (.bool true) t25 fun t26 =>
 zag t26
 (K (.bool true) H)
 (zad true 3 t5 H fun t29 =>
 zad true 2 t7 H fun t31 =>
 ACalls tP zfr [t0, t29, t2, t31] H fun t32 H =>
 zas t32 0 fun t33 =>
 zas t32 1 fun t34 =>
 zac .neq false t34 (.int .i64 0) fun t36 =>
 zag t36
 (ACalls tP zge [] H fun t37 H =>
 K t37 H)
 (zad true 3 t5 H fun t39 =>
 zad true 2 t7 H fun t40 =>
 ACalls tP zeo [t0, t39, t40] H fun t41 H =>
 zad true 3 t5 H fun t44 =>
 ACalls tP zfh [t0, t44, t2] H fun t46 H =>
 zas t46 0 fun t47 =>
 zas t46 1 fun t48 =>
 zah 1 t33 fun t50 =>
 zrf t0 t33 t41 t47 t33 t50 (.int .i64 0) H K))
theorem zzd {t0 t9 t11 t12 t14 t15 t16 t49 t50 t51 t57 t58 : AV} {H : zaa} {K : Kt} {Kb9 : Lt} (Inv : Nat → AV → AV → zaa → Prop) (n : Nat) (h0 : HSc H → Inv n t16 t58 H)
  (round : Rd2 (fun t16 => fun t58 => zhU t0 t9 t11 t12 t14 t15 t16 t49 t50 t51 t57 t58) (fun t16 => fun t58 => fun H Kb13 => zeL t0 t9 t11 t12 t14 t15 t16 t49 t50 t51 t57 t58 H K Kb9 Kb13) H Inv) : zre t0 t9 t11 t12 t14 t15 t16 t49 t50 t51 t57 t58 H K Kb9 :=
 lp2 (M := zd2) zze t16 t58 (by kernel_rfl) Inv n h0 round
theorem zrg {t0 t9 t11 t12 t49 t50 t51 : AV} {H : zaa} {K : Kt} (Inv : Nat → AV → zaa → Prop) (n : Nat) (h0 : HSc H → Inv n t51 H)
  (round : Rd1 (fun t51 => zfL t0 t9 t11 t12 t49 t50 t51) (fun t51 => fun H Kb9 => zhT t0 t9 t11 t12 t49 t50 t51 H K Kb9) H Inv) : zrf t0 t9 t11 t12 t49 t50 t51 H K :=
 lp1 (M := zd2) zrh t51 (by kernel_rfl) Inv n h0 round
theorem zzf {t0 t1 t2 t3 : AV} {H : zaa} {K : Kt} (h : HSc H → zq2 t0 t1 t2 t3 H K) : ACalls tP zjU [t0, t1, t2, t3] H K :=
 zan (M := zd2) Tryz.func4 (c := zlI) (by kernel_rfl) (fun hs => Eq.mpr (by kernel_rfl) (h hs))
end Go.Proofs.YtacebbdfgbfgiaaGreat
namespace Go.Proofs.YtacebbdfgbfgiaaGreat
open Go Go.Abs
set_option maxRecDepth 8000
theorem zo3 {v : Bool} {bs : List Bool} {j : Nat} (h : j < bs.length) (hb : bs.getD j false = v) : j ∈ pos v bs bs.length := by
 simp [List.getD_eq_getElem?_getD, h] at hb
 simp [pos, h, hb]
mutual
theorem zqa {data : List Dat} : ∀ x : VT, rdV data (za4 x) x = 0
 | .mk k n ks => by
  have hA := zqb (data := data) ks 0 (by omega) (by omega)
  by_cases h6 : k = 6
  ·subst h6
   have : rdV data (za4 (.mk 6 n ks)) (.mk 6 n ks) = rdA data (zbx ks) ks 0 := by simp [za4, rdV, VT.kind, VT.kids, zfG]
   rw [this, hA]
  ·by_cases h7 : k = 7
   ·subst h7
    simp [za4, rdV, VT.kind]
   ·by_cases h5 : k = 5
    ·subst h5
     simp [za4, rdV, VT.kind, rdE]
    ·simp [za4, rdV, VT.kind, h6, h7, h5]
theorem zqb {data : List Dat} : ∀ (ts : List VT) (a : Int), 0 ≤ a → a ≤ 6 → rdA data (zbx ts) ts a = a
 | [], a, _, _ => by simp only [zbx, rdA]
 | t :: ts, a, h, h6 => by
  have h1 := zqa (data := data) t
  rw [zbx, zo7, h1, if_neg (by omega), Int.add_zero, zqb ts a h h6]
end
theorem zkr {data : List Dat} (h8 : ∀ D ∈ data, D.cons.length ≤ 8) (t : VT) : ∀ (rs : List (List IT)) (a : Int), 0 ≤ a → a ≤ 6 → 0 ≤ rdE data rs.flatten t a → (∀ r ∈ rs, 0 ≤ rdE data r t 0) ∧ rdE data rs.flatten t a = a + (rs.map fun r => rdE data r t 0).sum
 | [], a, h, h6, _ => by simp only [List.flatten_nil, rdE]; simp
 | r :: rs, a, h, h6, hd => by
  rw [List.flatten_cons, zo9 h8 _ _ _ _ h h6, zkp r t a h h6] at hd ⊢
  by_cases hr : rdE data r t 0 < 0 ∨ a + rdE data r t 0 > 6
  ·rw [zcc hr] at hd; simp at hd
  ·rw [zee (by omega) (by omega)] at hd ⊢
   rw [if_neg (by omega)] at hd ⊢
   obtain ⟨g1, g2⟩ := zkr h8 t rs _ (by omega) (by omega) hd
   refine ⟨fun x hx => ?_, by rw [g2]; simp; omega⟩
   rcases List.mem_cons.1 hx with rfl | hx
   ·omega
   ·exact g1 x hx
theorem zo8 {data : List Dat} : ∀ (vs : List IT) (ts : List VT) (a : Int), 0 ≤ a → vs.length = ts.length → 0 ≤ rdA data vs ts a → (∀ k (h1 : k < vs.length) (h2 : k < ts.length), 0 ≤ rdV data vs[k] ts[k]) ∧ rdA data vs ts a = a + (List.zipWith (rdV data) vs ts).sum
 | [], [], a, h, _, _ => by simp only [rdA]; simp
 | [], _ :: _, _, _, hl, _ => by simp at hl
 | _ :: _, [], _, _, hl, _ => by simp at hl
 | v :: vs, t :: ts, a, h, hl, hd => by
  rw [zo7] at hd ⊢
  by_cases hr : rdV data v t < 0 ∨ a + rdV data v t > 6
  ·rw [if_pos hr] at hd; omega
  ·rw [if_neg hr] at hd ⊢
   obtain ⟨g1, g2⟩ := zo8 vs ts _ (by omega) (by simpa using hl) hd
   refine ⟨fun k h1 h2 => ?_, by rw [g2]; simp; omega⟩
   cases k with
   | zero => simp; omega
   | succ k => simpa using g1 k (by simpa using h1) (by simpa using h2)
theorem zdg {R : List Nat} {row xs : List IT} (hn : R.Nodup) (hl : xs.length = R.length) (hr : ∀ p ∈ R, p < row.length) : (R.map fun j => (fill row R xs).getD j d0) = xs := by
 refine List.ext_getElem (by simp [hl]) fun k h1 h2 => ?_
 have := zn3 R row xs hn hl hr k (by simpa using h1) h2
 simp [List.getD_eq_getElem?_getD, this]
theorem zn4 {R P : List Nat} {row xs : List IT} (hd : ∀ p ∈ P, p ∉ R) : (P.map fun j => (fill row R xs).getD j d0) = P.map fun j => row.getD j d0 :=
 List.map_congr_left fun j hj => by rw [List.getD_eq_getElem?_getD, zjv R row xs j (hd j hj), List.getD_eq_getElem?_getD]
theorem zjK : ∀ {a b : List (List IT)}, a.map (IT.mk 0) = b.map (IT.mk 0) → a = b
 | [], [], _ => rfl
 | [], _ :: _, h => by simp at h
 | _ :: _, [], h => by simp at h
 | x :: a, y :: b, h => by
  simp only [List.map_cons, List.cons.injEq, IT.mk.injEq, true_and] at h
  rw [h.1, zjK h.2]
theorem znM {R : List Nat} {row l : List IT} (hn : R.Nodup) (hr : ∀ p ∈ R, p < row.length) : (zaV row R l).Nodup := by
 rw [zdK]
 have key : ∀ S : List (List (List IT)), S.Nodup → (∀ r ∈ S, r.length = R.length) → (S.map fun r => fill row R (r.map (IT.mk 0))).Nodup := by
  intro S
  induction S with
  | nil => intro _ _; simp
  | cons x S ih =>
   intro h1 h2
   rw [List.nodup_cons] at h1
   rw [List.map_cons, List.nodup_cons]
   refine ⟨fun hm => ?_, ih h1.2 (fun r hr => h2 r (by simp [hr]))⟩
   obtain ⟨y, hy, he⟩ := List.mem_map.1 hm
   have e1 := zdg (row := row) hn (xs := x.map (IT.mk 0)) (by simpa using h2 x (by simp)) hr
   have e2 := zdg (row := row) hn (xs := y.map (IT.mk 0)) (by simpa using h2 y (by simp [hy])) hr
   rw [he, e1] at e2
   exact h1.1 (by rw [zjK e2]; exact hy)
 exact key _ (zpo _ _) (fun r hr => zeA _ _ r hr)
theorem zuR {l : List VT} {bs : List Bool} (hlb : l.length = bs.length) (c : Int) (kids : List IT) : (zbY l bs c kids).Nodup := by
 have hRn : (pos true bs bs.length).Nodup := List.Pairwise.filter _ List.nodup_range
 have hRl : ∀ j ∈ pos true bs bs.length, j < l.length := fun j hj => by have := zeu hj; omega
 unfold zbY
 have hbl : ∀ P, (zaQ l P).length = l.length := fun P => by simp [zaQ]
 generalize pos false bs bs.length = P at *
 generalize pos true bs bs.length = R at *
 have h1 := znM (R := R) (row := zaQ l P) (l := kids) hRn (fun p hp => by rw [hbl]; exact hRl p hp)
 unfold zb7
 split
 ·simpa using h1
 ·rename_i c' ps rest
  split
  ·have h2 := znM (R := R) (row := fill (zaQ l P) P ps) (l := rest) hRn (fun p hp => by rw [zdh, hbl]; exact hRl p hp)
   rw [List.nodup_append]
   refine ⟨h1, h2, ?_⟩
   rintro a ha b hb rfl
   rw [zdK] at ha hb
   obtain ⟨s1, hs1, e1⟩ := List.mem_map.1 ha
   obtain ⟨s2, hs2, e2⟩ := List.mem_map.1 hb
   have g1 := zdg (row := zaQ l P) hRn (xs := s1.map (IT.mk 0)) (by simpa using zeA _ _ s1 hs1) (fun p hp => by rw [hbl]; exact hRl p hp)
   have g2 := zdg (row := fill (zaQ l P) P ps) hRn (xs := s2.map (IT.mk 0)) (by simpa using zeA _ _ s2 hs2) (fun p hp => by rw [zdh, hbl]; exact hRl p hp)
   rw [e1] at g1
   rw [e2, g1] at g2
   have hs := zjK g2
   have f1 := zfA _ _ s1 hs1
   have f2 := zfA _ _ s2 hs2
   rw [hs, f2] at f1
   have := congrArg List.length f1
   simp at this
  ·simpa using h1
theorem zpL : ∀ P : List Nat, (P.map fun _ => (0 : Int)).sum = 0
 | [] => rfl
 | p :: P => by simp only [List.map_cons, List.sum_cons, zpL P, Int.zero_add]
theorem zqc {data : List Dat} (f : Nat → IT) (g : Nat → VT) : ∀ P : List Nat, (P.map fun j => rdV data (f j) (g j)) = List.zipWith (rdV data) (P.map f) (P.map g)
 | [] => rfl
 | p :: P => by simp only [List.map_cons, List.zipWith_cons_cons, zqc f g P]
theorem zpm {data : List Dat} {n : Int} {ks : List VT} {l : List VT} {R : List Nat} {r : List IT} {s : List (List IT)} (h8 : ∀ D ∈ data, D.cons.length ≤ 8) (hrt : ∀ j ∈ R, l.getD j tz = .mk 5 n ks) (hm : (R.map fun j => r.getD j d0) = s.map (IT.mk 0)) (hs : ∀ x ∈ s, 0 ≤ rdE data x (.mk 5 n ks) 0) :
  (∀ j ∈ R, 0 ≤ rdV data (r.getD j d0) (l.getD j tz)) ∧ (R.map fun j => rdV data (r.getD j d0) (l.getD j tz)).sum = (s.map fun x => rdE data x (.mk 5 n ks) 0).sum := by
 have h5 : ∀ x ∈ s, rdV data (IT.mk 0 x) (.mk 5 n ks) = rdE data x (.mk 5 n ks) 0 := fun x hx => by
  have h1 := zkq (data := data) x (.mk 5 n ks) 0 (by omega)
  have h2 := zpa (h8 := h8) x (.mk 5 n ks)
  have h3 := hs x hx
  rw [zks, if_pos ⟨rfl, by omega⟩]
 have e1 : (R.map fun j => rdV data (r.getD j d0) (l.getD j tz)) = (R.map fun j => r.getD j d0).map fun x => rdV data x (.mk 5 n ks) := by
  rw [List.map_map]
  exact List.map_congr_left fun j hj => by simp only [Function.comp_apply]; rw [hrt j hj]
 have e2 : (R.map fun j => rdV data (r.getD j d0) (l.getD j tz)) = s.map fun x => rdE data x (.mk 5 n ks) 0 := by
  rw [e1, hm, List.map_map]
  exact List.map_congr_left fun x hx => h5 x hx
 refine ⟨fun j hj => ?_, by rw [e2]⟩
 have : rdV data (r.getD j d0) (l.getD j tz) ∈ R.map fun j => rdV data (r.getD j d0) (l.getD j tz) := List.mem_map.2 ⟨j, hj, rfl⟩
 rw [e2] at this
 obtain ⟨x, hx, he⟩ := List.mem_map.1 this
 rw [← he]
 exact hs x hx
theorem zuO {data : List Dat} (h8 : ∀ D ∈ data, D.cons.length ≤ 8) {n : Int} {ks : List VT} {c : Int} {l : List VT} {bs : List Bool} {kids : List IT} (hlb : l.length = bs.length) (hpay : zbj data (.mk 5 n ks) c = some (pick l bs))
  (hrt : ∀ j, bs.getD j false = true → l.getD j tz = .mk 5 n ks) (hd : 0 ≤ rdE data kids (.mk 5 n ks) 0) (r : List IT) (hr : r ∈ zbY l bs c kids) :
  (∀ j, j < bs.length → 0 ≤ rdV data (r.getD j d0) (l.getD j tz)) ∧ (((List.range bs.length).map fun j => rdV data (r.getD j d0) (l.getD j tz)).sum = rdE data kids (.mk 5 n ks) 0 ∨ ((List.range bs.length).map fun j => rdV data (r.getD j d0) (l.getD j tz)).sum = rdE data kids (.mk 5 n ks) 0 - 1) := by
 have hsum := zpK (fun j => rdV data (r.getD j d0) (l.getD j tz)) (fun j => bs.getD j false) (List.range bs.length)
 have hpk := zgN hlb tz l.length (Nat.le_refl _)
 rw [List.take_length, hlb, List.take_length] at hpk
 have hPn : (pos false bs bs.length).Nodup := List.Pairwise.filter _ List.nodup_range
 have hRn : (pos true bs bs.length).Nodup := List.Pairwise.filter _ List.nodup_range
 have hPl : ∀ j ∈ pos false bs bs.length, j < l.length := fun j hj => by have := zeu hj; omega
 have hRl : ∀ j ∈ pos true bs bs.length, j < l.length := fun j hj => by have := zeu hj; omega
 have hRb : ∀ j ∈ pos true bs bs.length, bs.getD j false = true := fun j hj => by
  simp [pos] at hj; rw [List.getD_eq_getElem?_getD]; exact hj.2
 have hPb : ∀ j ∈ pos false bs bs.length, bs.getD j false = false := fun j hj => by
  simp [pos] at hj; rw [List.getD_eq_getElem?_getD]; exact hj.2
 have hPR : ∀ j ∈ pos false bs bs.length, j ∉ pos true bs bs.length := fun j hj h => by
  have h1 := hPb j hj
  have h2 := hRb j h
  rw [h1] at h2
  cases h2
 have hall : ∀ j, j < bs.length → j ∈ pos false bs bs.length ∨ j ∈ pos true bs bs.length := fun j hj => by
  cases hb : bs.getD j false with
  | true => exact .inr (zo3 hj hb)
  | false => exact .inl (zo3 hj hb)
 have hrt' : ∀ j ∈ pos true bs bs.length, l.getD j tz = .mk 5 n ks := fun j hj => hrt j (hRb j hj)
 rw [show ((List.range bs.length).filter fun j => bs.getD j false == false) = pos false bs bs.length from rfl, show ((List.range bs.length).filter fun j => bs.getD j false == true) = pos true bs bs.length from rfl] at hsum
 rw [hsum]
 have hbl : ∀ P, (zaQ l P).length = l.length := fun P => by simp [zaQ]
 unfold zbY at hr
 generalize pos false bs bs.length = P at *
 generalize pos true bs bs.length = R at *
 have hr0 := List.mem_append.1 hr
 clear hr
 rcases hr0 with hr | hr
 ·rw [zdK] at hr
  obtain ⟨s, hs, rfl⟩ := List.mem_map.1 hr
  have hfl := zfA _ _ s hs
  have hsl := zeA _ _ s hs
  rw [← hfl] at hd
  obtain ⟨g1, g2⟩ := zkr h8 (.mk 5 n ks) s 0 (by omega) (by omega) hd
  rw [hfl] at g2
  have hm := zdg (row := zaQ l P) (xs := s.map (IT.mk 0)) hRn (by simpa using hsl) (fun p hp => by rw [hbl]; exact hRl p hp)
  obtain ⟨d1, d2⟩ := zpm h8 hrt' hm g1
  have hz : ∀ j ∈ P, rdV data ((fill (zaQ l P) R (s.map (IT.mk 0))).getD j d0) (l.getD j tz) = 0 := by
   have e1 := zn4 (row := zaQ l P) (xs := s.map (IT.mk 0)) hPR
   have e2 := zdg (row := List.replicate l.length (.mk 0 [])) (xs := P.map fun j => za4 (l.getD j (.mk 0 0 []))) hPn (by simp) (fun p hp => by simpa using hPl p hp)
   rw [show fill (List.replicate l.length (.mk 0 [])) P (P.map fun j => za4 (l.getD j (.mk 0 0 []))) = zaQ l P from rfl] at e2
   rw [e2] at e1
   intro j hj
   rw [List.map_inj_left.1 e1 j hj]
   exact zqa _
  have hzs : (P.map fun j => rdV data ((fill (zaQ l P) R (s.map (IT.mk 0))).getD j d0) (l.getD j tz)).sum = 0 := by
   have : (P.map fun j => rdV data ((fill (zaQ l P) R (s.map (IT.mk 0))).getD j d0) (l.getD j tz)) = P.map fun _ => (0 : Int) := List.map_congr_left hz
   rw [this, zpL]
  refine ⟨fun j hj => ?_, .inl ?_⟩
  ·rcases hall j hj with h | h
   ·rw [hz j h]; exact Int.le_refl _
   ·exact d1 j h
  ·rw [hzs, d2, g2]
 ·cases kids with
  | nil => simp [zb7] at hr
  | cons x rest =>
   obtain ⟨c', ps⟩ := x
   simp only [zb7] at hr
   split at hr
   ·rename_i hcc
    subst hcc
    rw [zdK] at hr
    obtain ⟨s, hs, rfl⟩ := List.mem_map.1 hr
    have hfl := zfA _ _ s hs
    have hsl := zeA _ _ s hs
    rw [zew] at hd ⊢
    by_cases h1 : c' < 0 ∨ 8 ≤ c'
    ·rw [if_pos h1] at hd; omega
    ·rw [if_neg h1, hpay] at hd ⊢
     simp only at hd ⊢
     by_cases h2 : (pick l bs).length = ps.length
     ·rw [if_pos h2] at hd ⊢
      by_cases h3 : rdA data ps (pick l bs) 0 < 0 ∨ 0 + 1 + rdA data ps (pick l bs) 0 > 6
      ·rw [if_pos h3] at hd; omega
      ·rw [if_neg h3] at hd ⊢
       rw [← hfl] at hd
       obtain ⟨g1, g2⟩ := zkr h8 (.mk 5 n ks) s _ (by omega) (by omega) hd
       rw [hfl] at g2
       rw [hpk] at h2 h3 g2 ⊢
       obtain ⟨p1, p2⟩ := zo8 (data := data) ps (P.map fun j => l.getD j tz) 0 (by omega) h2.symm (by omega)
       have hm := zdg (row := fill (zaQ l P) P ps) (xs := s.map (IT.mk 0)) hRn (by simpa using hsl) (fun p hp => by rw [zdh, hbl]; exact hRl p hp)
       obtain ⟨d1, d2⟩ := zpm h8 hrt' hm g1
       have e1 := zn4 (row := fill (zaQ l P) P ps) (xs := s.map (IT.mk 0)) hPR
       have e2 := zdg (row := zaQ l P) (xs := ps) hPn (by simpa using h2.symm) (fun p hp => by rw [hbl]; exact hPl p hp)
       rw [e2] at e1
       have e3 : (P.map fun j => rdV data ((fill (fill (zaQ l P) P ps) R (s.map (IT.mk 0))).getD j d0) (l.getD j tz)) = List.zipWith (rdV data) ps (P.map fun j => l.getD j tz) := by
        rw [zqc, e1]
       refine ⟨fun j hj => ?_, .inr ?_⟩
       ·rcases hall j hj with h | h
        ·obtain ⟨k, hk, rfl⟩ := List.getElem_of_mem h
         have := p1 k (by rw [← h2]; simpa using hk) (by simpa using hk)
         have e4 : (fill (fill (zaQ l P) P ps) R (s.map (IT.mk 0))).getD P[k] d0 = ps[k]'(by rw [← h2]; simpa using hk) := by
          have := congrArg (fun x => x[k]?) e1
          simp only [List.getElem?_map, List.getElem?_eq_getElem hk, Option.map_some, List.getElem?_eq_getElem (show k < ps.length by rw [← h2]; simpa using hk), Option.some.injEq] at this
          exact this
         rw [e4]
         simpa using this
        ·exact d1 j h
       ·rw [e3, d2, g2]
        omega
     ·rw [if_neg h2] at hd; omega
   ·simp at hr
theorem zuQ {N : Nat} {l : List VT} {bs : List Bool} {c : Int} {kids : List IT} (hl : ∀ x ∈ l, x.nodes ≤ 200) (hN : 200 ≤ N) (hk : IT.nodesL kids + 1 ≤ N) : ∀ r ∈ zbY l bs c kids, ∀ x ∈ r, x.nodes ≤ N := by
 have hb := znA (P := pos false bs bs.length) hl
 intro r h
 unfold zbY at h
 rcases List.mem_append.1 h with h | h
 ·exact ze4 _ _ _ (fun x hx => by have := hb x hx; omega) hk r h
 ·unfold zb7 at h
  split at h
  ·simp at h
  ·rename_i c' ps rest
   simp only [IT.nodesL, IT.nodes] at hk
   split at h
   ·refine ze4 _ _ _ (fun x hx => ?_) (by omega) r h
    rcases zf9 _ _ _ _ hx with hx | hx
    ·have := hb x hx; omega
    ·have := zoD hx; omega
   ·simp at h
theorem zvP {rs : List (List IT)} (hn : rs.Nodup) (hp : rs.Pairwise rle) {k : Nat} (h0 : 0 < k) (hk : k < rs.length) : IT.cmpL (rs[k - 1]'(by omega)) rs[k] < 0 := by
 have h1 := List.pairwise_iff_getElem.1 hp (k - 1) k (by omega) hk (by omega)
 have h2 := List.pairwise_iff_getElem.1 hn (k - 1) k (by omega) hk (by omega)
 unfold rle at h1
 have h3 := IT.cmpL_anti (rs[k - 1]'(by omega)) rs[k]
 have h4 : IT.cmpL (rs[k - 1]'(by omega)) rs[k] ≠ 0 := fun h => h2 (IT.sameL_eq _ _ ((IT.cmpL_zero _ _).1 h))
 omega
theorem zs4 (a b : List IT) (he : a.length = b.length) (ha : a.length ≤ 1000000) (hn : ∀ x ∈ a, x.nodes ≤ 1000000) (H : zaa) (K : Kt) (hK : K (.int .i64 (IT.cmpL a b)) H) :
  ACalls tP zep [.sl (IT.css a) .none, .sl (IT.css b) .none] H K := by
 refine zns a b ha (fun i h h' H K hK => zuK _ _ _ (Nat.le_refl _) (hn _ (List.getElem_mem h)) H K hK) H K ?_
 have e : cor (icmp a.length b.length) (IT.cmpL a b) = IT.cmpL a b := by simp [he, zjE, cor]
 rw [e]; exact hK
theorem ztJ {data : List Dat} {n : Int} {ks : List VT} {c : Int} {v : IT} (hE : zcq data (.mk 5 n ks) c v = none) : zbo data (.mk 5 n ks) = true ∧ ∃ kids, v = .mk 0 kids ∧ 0 ≤ rdE data kids (.mk 5 n ks) 0 ∧ zbg data (.mk 5 n ks) (.mk 0 kids) = rdE data kids (.mk 5 n ks) 0 ∧ kids.length ≤ 6 := by
 have hd : 0 ≤ zbg data (.mk 5 n ks) v := by
  unfold zcq at hE
  split at hE
  ·cases hE
  ·omega
 have hf : zbo data (.mk 5 n ks) = true := by
  unfold zbg at hd
  by_cases h : zbo data (.mk 5 n ks) = true
  ·exact h
  ·rw [if_neg h] at hd; omega
 obtain ⟨m, kids⟩ := v
 have hr : zbg data (.mk 5 n ks) (.mk m kids) = rdV data (.mk m kids) (.mk 5 n ks) := by unfold zbg; rw [if_pos hf]
 rw [hr, zks] at hd
 by_cases h : m = 0 ∧ kids.length ≤ 6
 ·rw [if_pos h] at hd
  obtain ⟨rfl, h6⟩ := h
  refine ⟨hf, kids, rfl, hd, ?_, h6⟩
  rw [hr, zks, if_pos ⟨rfl, h6⟩]
 ·rw [if_neg h] at hd; omega
theorem zs7 (data : List Dat) (hlen : data.length ≤ 9223372036854775807) (t : VT) (c : Int) (v : IT) (H : zaa) (K : Kt) (hK : K (.bool true) H) :
  ACalls tP zjU [.sl (data.map Dat.cs) .none, .agg t.cs, .int .i64 c, .agg v.cs] H K := by
 refine ACalls.out (zzf fun hs => ?_)
 have hO : ∀ J, Out H.length K (.bool true) (H ++ J) := fun J => Out.bool rfl (Nat.le_refl _) hs hK
 obtain ⟨x, y, z, hvx, hx, hy, hz⟩ := zbk t
 obtain ⟨x2, y2, hvx2, hx2, hy2⟩ := zdk v
 simp [zq2, hvx, hvx2, Nat.add_assoc]
 rw [← hvx]
 refine zvf data hlen t _ _ fun b1 hb1 => ?_
 cases b1 with
 | false =>
  simp
  exact hO _
 | true =>
  obtain ⟨hk, ht⟩ := hb1 rfl
  obtain ⟨f1, f2, f3⟩ := zdl hk
  simp [Nat.add_assoc]
  rw [← hvx2]
  refine zBY v _ _ fun b2 hb2 => ?_
  cases b2 with
  | false =>
   simp
   exact hO _
  | true =>
   have hv := hb2 rfl
   simp [hx, hy, hz, hx2, hy2, Nat.add_assoc]
   refine zss data hk t (by omega) c v (by omega) _ _ (fun e he => ?_) (fun hE => ?_)
   ·by_cases h0 : e = 0
    ·subst h0
     simp [hvx, hvx2, hx, hy, hz, hx2, hy2, Nat.add_assoc]
     rw [← hvx, ← hvx2]
     refine zld data hk t (by omega) v (by omega) _ _ ?_
     simp [hvx, hvx2, hx, hy, hz, hx2, hy2, Nat.add_assoc]
     rw [← hvx, ← hvx2]
     refine zhu data f1 f2 f3 t (by omega) c _ _ ?_
     have hfe : ∃ (ls : List (List AV)) (b : Bool), zbE (zaM data t c) = .tup [.sl ls .none, .bool b] := by
      cases zaM data t c with
      | none => exact ⟨_, _, rfl⟩
      | some l => exact ⟨_, _, rfl⟩
     obtain ⟨ls, b, hfe⟩ := hfe
     rw [hfe]
     simp
     refine zrg (Inv := fun q t51 H' => t51 = .int .i64 0 ∧ H' = H ++ [.cells t.cs, .cells v.cs]) 0 ?_ ?_
     ·intro _; exact ⟨rfl, rfl⟩
     ·rintro q t51 H' ⟨rfl, rfl⟩ hsc' hlen' hsF Kb hKb
      simp [zhT]
      refine zji _ _ ?_
      try simp
      exact hO _
    ·have h0b : (e != 0) = true := by simpa using h0
     simp [h0b]
     refine zji _ _ ?_
     try simp
     exact hO _
   ·obtain ⟨k, n, ks⟩ := t
    cases hf : zaM data (.mk k n ks) c with
    | none =>
     exfalso
     unfold zcq at hE
     rw [hf] at hE
     simp only [if_true] at hE
     split at hE
     ·cases hE
     ·split at hE
      ·cases hE
      ·split at hE <;> cases hE
    | some l =>
     obtain ⟨bs, hlb, hl8, hpay, h200, k5, hsc, hrf, hrt, _⟩ := zuC hk hf
     subst k5
     obtain ⟨hfine, kids, rfl, hrE, hdeg, hk6⟩ := ztJ hE
     refine ⟨l, bs, rfl, hlb, hl8, h200, hpay, hsc, fun rs hp hso => ?_⟩
     have h8 := zjx hfine
     have hrd := fun r hr => zuO h8 hlb hpay hrt hrE r (hp.subset hr)
     have hnd : rs.Nodup := hp.nodup_iff.2 (zuR hlb c kids)
     have hwide : ∀ r ∈ rs, r.length = l.length := fun r hr => zph l bs c kids r (hp.subset hr)
     have hnod : ∀ r ∈ rs, ∀ x ∈ r, x.nodes ≤ 200 := fun r hr => zuQ (bs := bs) (c := c) h200 (Nat.le_refl _) (by show IT.nodesL kids + 1 ≤ 200; simp only [IT.nodes] at hv; omega) r (hp.subset hr)
     have hrsl : rs.length ≤ 200000000 := by rw [hp.length_eq]; exact zpg hk6 (by omega)
     have hfv : ∀ x ∈ l, zbo data x = true := fun x hx => by
      unfold zbo at hfine ⊢
      rw [Bool.and_eq_true] at hfine ⊢
      refine ⟨hfine.1, zn1 hfine.1 (by have := hfine.2; rw [za3, Bool.and_eq_true] at this; exact this.2) hf x hx⟩
     simp [zdS, VT.cs, IT.cs, Nat.add_assoc]
     refine zld data hk (.mk 5 n ks) (by omega) (.mk 0 kids) (by omega) _ _ ?_
     rw [hdeg]
     simp [Nat.add_assoc]
     refine zhu data f1 f2 f3 (.mk 5 n ks) (by omega) c _ _ ?_
     rw [hf]
     simp [zbE]
     have hd6 := zpa (h8 := h8) kids (.mk 5 n ks)
     generalize rdE data kids (.mk 5 n ks) 0 = d at *
     have hbl : bs.length = l.length := hlb.symm
     rw [hbl] at hrd
     refine zrg (Inv := fun q t51 H' => ∃ i : Nat, i ≤ rs.length ∧ q = rs.length - i ∧ t51 = .int .i64 i ∧ H' = H ++ [AB.cells [.int .i64 5, .int .i64 n, .sl (VT.css ks) .none], .cells [.int .i64 0, .sl (IT.css kids) .none]]) rs.length ?_ ?_
     ·intro _; exact ⟨0, by omega, by omega, rfl, rfl⟩
     ·rintro q t51 H' ⟨i, hi, rfl, rfl, rfl⟩ hsc' hlen' hsF Kb hKb
      by_cases hlt : i < rs.length
      ·have hmr := List.getElem_mem hlt
       obtain ⟨hval, hsumd⟩ := hrd _ hmr
       have hrw := hwide _ hmr
       have hrn := hnod _ hmr
       have hjd : ∀ j (hj : j < l.length), zbg data l[j] (rs[i][j]'(by omega)) = rdV data (rs[i].getD j d0) (l.getD j tz) := fun j hj => by
        unfold zbg
        rw [if_pos (hfv _ (List.getElem_mem hj))]
        simp [List.getD_eq_getElem?_getD, hj, hrw]
       have hv6 : ∀ j, rdV data (rs[i].getD j d0) (l.getD j tz) ≤ 6 := fun j => (zpb (h8 := h8) _ _).2
       have hv1 : ∀ j, -1 ≤ rdV data (rs[i].getD j d0) (l.getD j tz) := fun j => (zpb (h8 := h8) _ _).1
       have hSl := zpJ _ hv6 hv1
       obtain ⟨F, hFe⟩ : ∃ F : Nat → Int, F = fun j => rdV data (rs[i].getD j d0) (l.getD j tz) := ⟨_, rfl⟩
       rw [← hFe] at hSl hsumd
       have hFj : ∀ j, rdV data (rs[i].getD j d0) (l.getD j tz) = F j := fun j => by rw [hFe]
       simp only [hFj] at hjd hval hv6 hv1
       have hnext : Kb (zfL (.sl (data.map Dat.cs) .none) (.sl (rs.map fun r => [.sl (IT.css r) .none]) .none) (.int .i64 d) (.sl (VT.css l) .none) (.sl (rs.map fun r => [.sl (IT.css r) .none]) .none) (.int .i64 rs.length) (.int .i64 ((i : Int) + 1))) (H ++ [AB.cells [.int .i64 5, .int .i64 n, .sl (VT.css ks) .none], .cells [.int .i64 0, .sl (IT.css kids) .none]]) := by
        refine hKb _ _ ⟨rs.length - (i + 1), by omega, Back.at (J := []) (H2 := H ++ [AB.cells [.int .i64 5, .int .i64 n, .sl (VT.css ks) .none], .cells [.int .i64 0, .sl (IT.css kids) .none]]) (by simp) (by simp) hsc' ?_ ⟨_, rfl, i + 1, by omega, rfl, by simp, rfl⟩⟩
        simp [zfL, AV.sc, AV.scV, AV.scA, AV.scB]
       simp [zhT, hlt]
       refine zzd (Inv := fun q t16 t58 H' => ∃ j : Nat, j ≤ l.length ∧ q = l.length - j ∧ t16 = .int .i64 ((List.range j).map F).sum ∧ t58 = .int .i64 j ∧ H' = H ++ [AB.cells [.int .i64 5, .int .i64 n, .sl (VT.css ks) .none], .cells [.int .i64 0, .sl (IT.css kids) .none]]) l.length ?_ ?_
       ·intro _; exact ⟨0, by omega, by omega, by simp, rfl, rfl⟩
       ·rintro q t16 t58 H' ⟨j, hj, rfl, rfl, rfl, rfl⟩ hsc2 hlen2 hsF2 Kb2 hKb2
        have hSj := hSl j
        by_cases hjl : j < l.length
        ·have hjr : j < rs[i].length := by omega
         have hd1 := hjd j hjl
         have hd0 := hval j hjl
         have hdf := hv6 j
         have hle : ¬ ((l.length : Int) ≤ j) := by omega
         have hn0 : decide (F j < 0) = false := by simp; omega
         have hcall : ∀ (H : zaa) (K : Kt), K (.int .i64 (F j)) H → ACalls tP zeo [.sl (data.map Dat.cs) .none, .agg l[j].cs, .agg rs[i][j].cs] H K := fun H K hK =>
          zld data hk _ (by have := h200 _ (List.getElem_mem hjl); omega) _ (by have := hrn _ (List.getElem_mem hjr); omega) _ _ (by rw [hd1]; exact hK)
         simp [zeL, hjl, hjr, hle]
         refine zbI (.int .i64 (F j)) (fun J => hcall _ _ ⟨rfl, rfl⟩) ?_
         simp [hn0]
         refine zbI (.int .i64 (F j)) (fun J => hcall _ _ ⟨rfl, rfl⟩) ?_
         simp
         rw [zal (by omega) (by omega), zal (by omega) (by omega)]
         have hsum : ((List.range j).map F).sum + F j = ((List.range (j + 1)).map F).sum := by
          rw [List.range_succ, List.map_append, List.sum_append]; simp
         rw [hsum]
         refine hKb2 _ _ ⟨l.length - (j + 1), by omega, Back.at (J := []) (H2 := H ++ [AB.cells [.int .i64 5, .int .i64 n, .sl (VT.css ks) .none], .cells [.int .i64 0, .sl (IT.css kids) .none]]) (by simp) (by simp) hsc2 ?_ ⟨_, _, rfl, j + 1, by omega, rfl, rfl, by simp, rfl⟩⟩
         simp [zhU, AV.sc, AV.scV, AV.scA, AV.scB]
        ·obtain rfl : j = l.length := by omega
         generalize ((List.range l.length).map F).sum = S at *
         have hwd : IntKind.i64.wrap (d - 1) = d - 1 := zal (by omega) (by omega)
         have hwi : IntKind.i64.wrap ((i : Int) + 1) = (i : Int) + 1 := zal (by omega) (by omega)
         have hwm : IntKind.i64.wrap ((i - 1 : Nat) : Int) = ((i - 1 : Nat) : Int) := zal (by omega) (by omega)
         have hbool : (S != d) = false ∨ ((S != d) = true ∧ (S != d - 1) = false) := by
          rcases hsumd with hS | hS
          ·left; simp [hS]
          ·right
           refine ⟨by simp; omega, by simp [hS]⟩
         by_cases hi0 : i = 0
         ·have hi0' : ¬ 0 < i := by omega
          rcases hbool with hb | ⟨hb, hb2⟩
          ·simp [zeL, hrw, hb, hi0', hwi]
           exact hnext
          ·simp [zeL, hrw, hb, hb2, hwd, hi0', hwi]
           exact hnext
         ·have hi1 : 0 < i := by omega
          have him : i - 1 < rs.length := by omega
          have hstr := zvP hnd hso hi1 hlt
          have hsub : (i : Int) - 1 = ((i - 1 : Nat) : Int) := by omega
          have hfin : ∀ (H : zaa) (K : Kt), (∀ z : Int, z < 0 → K (.int .i64 z) H) → ACalls tP zep [.sl (IT.css (rs[i - 1]'him)) .none, .sl (IT.css rs[i]) .none] H K := fun H K hK => by
           have hm2 := List.getElem_mem him
           refine zs4 _ _ (by rw [hwide _ hm2, hrw]) (by rw [hwide _ hm2]; omega) (fun x hx => by have := hnod _ hm2 x hx; omega) H K (hK _ hstr)
          rcases hbool with hb | ⟨hb, hb2⟩
          ·simp [zeL, hrw, hb, hi1, hwi, hwm, hsub, him]
           refine hfin _ _ fun z hz => ?_
           have hz' : decide (0 ≤ z) = false := by simp; omega
           simp [hz']
           exact hnext
          ·simp [zeL, hrw, hb, hb2, hwd, hi1, hwi, hwm, hsub, him]
           refine hfin _ _ fun z hz => ?_
           have hz' : decide (0 ≤ z) = false := by simp; omega
           simp [hz']
           exact hnext
      ·obtain rfl : i = rs.length := by omega
       simp [zhT]
       refine zji _ _ ?_
       try simp
       exact hO _
end Go.Proofs.YtacebbdfgbfgiaaGreat
namespace Go.Abs
open Go Go.RowKit

def zba (P : Program) : Nat → TypeId → List AV → Prop
 | 0, _, _ => False
 | n + 1, t, asx => match P.underlying t with
  | some .bool => ∃ b, asx = [.bool b]
  | some (.int k) => ∃ m, asx = [.int k m] ∧ (Lit.int k m).wf = true
  | some .string => ∃ s, asx = [.str s] ∧ s.length ≤ maxLen
  | some (.slice e) => ∃ es, asx = [.sl es .none] ∧ es.length ≤ maxLen ∧ ∀ c ∈ es, zba P n e c
  | some (.struct fs) => asx.length = P.cellsOf t ∧ ∀ f ∈ fs.toList, zba P n f.type ((asx.drop f.offset).take (P.cellsOf f.type))
  | _ => False

def zdw (P : Program) : List Field → Nat → Nat → Bool
 | [], at_, n => at_ == n
 | f :: fs, at_, n => f.offset == at_ && zdw P fs (at_ + P.cellsOf f.type) n
def zfv (P : Program) (S : List TypeId) : Bool :=
 S.all fun t => match P.underlying t with
  | some .bool | some (.int _) | some .string => P.cellsOf t == 1
  | some (.slice e) => S.contains e && decide (0 < P.cellsOf e) && P.cellsOf t == 1
  | some (.struct fs) => fs.toList.all (fun f => S.contains f.type) && zdw P fs.toList 0 (P.cellsOf t)
  | _ => false

section
variable {Hh : Type} {enc : TypeId × Value → Hh} {P : Program} {w : World} {base : Nat} {spare : Nat → Bool} {held : Bool}

theorem zpN {R : Value → AV → Prop} {cs : List Value} : ∀ (fs : List Field) (at_ n : Nat) (T : Field → List AV → Prop), zdw P fs at_ n = true → cs.length = n →
  (∀ f ∈ fs, ∃ asx, All2 R ((cs.drop f.offset).take (P.cellsOf f.type)) asx ∧ T f asx) → at_ ≤ n →
  ∃ asx, All2 R (cs.drop at_) asx ∧ ∀ f ∈ fs, T f ((asx.drop (f.offset - at_)).take (P.cellsOf f.type)) ∧ at_ ≤ f.offset
 | [], at_, n, T, ht, hl, hf, hle => by
  simp [zdw] at ht
  subst ht
  refine ⟨[], ?_, by simp⟩
  rw [List.drop_eq_nil_of_le (by omega)]
  trivial
 | f :: fs, at_, n, T, ht, hl, hf, hle => by
  simp only [zdw, Bool.and_eq_true, beq_iff_eq] at ht
  obtain ⟨h1, h2⟩ := ht
  have hbound : ∀ (fs : List Field) (k n : Nat), zdw P fs k n = true → k ≤ n := by
   intro fs
   induction fs with
   | nil => intro k n h; simp [zdw] at h; omega
   | cons g gs ih => intro k n h; simp only [zdw, Bool.and_eq_true] at h; have := ih _ _ h.2; omega
  have hb := hbound fs _ _ h2
  obtain ⟨as0, ha0, hT0⟩ := hf f (by simp)
  obtain ⟨as1, ha1, hT1⟩ := zpN fs (at_ + P.cellsOf f.type) n T h2 hl (fun g hg => hf g (by simp [hg])) hb
  have hl0 : as0.length = P.cellsOf f.type := by
   have := ha0.length
   rw [List.length_take, List.length_drop] at this
   omega
  refine ⟨as0 ++ as1, ?_, ?_⟩
  ·have : cs.drop at_ = (cs.drop f.offset).take (P.cellsOf f.type) ++ cs.drop (at_ + P.cellsOf f.type) := by
    rw [h1, ← List.drop_drop, List.take_append_drop]
   rw [this]
   exact ha0.append ha1
  ·intro g hg
   rcases List.mem_cons.1 hg with rfl | hg
   ·rw [h1, Nat.sub_self, List.drop_zero, ← hl0, List.take_left]
    exact ⟨hT0, Nat.le_refl _⟩
   ·obtain ⟨k1, k2⟩ := hT1 g hg
    refine ⟨?_, by omega⟩
    have : (as0 ++ as1).drop (g.offset - at_) = as1.drop (g.offset - (at_ + P.cellsOf f.type)) := by
     rw [List.drop_append, List.drop_eq_nil_of_le (by omega), List.nil_append]
     congr 1
     omega
    rw [this]
    exact k1

theorem zf6 {a : Addr} {n : Nat} {cs : List Value} (h : w.cells? base a n = some cs) : cs.length = n ∧ ∀ j v, cs[j]? = some v → w.cell? (a.add j) = some v := by
 unfold World.cells? at h
 split at h
 ·have h1 := mapM_some_length h
  refine ⟨by simpa using h1, fun j v hj => ?_⟩
  have hjn : j < n := by
   have := (List.getElem?_eq_some_iff.1 hj).1
   simp at h1
   omega
  have := mapM_some_get h j j (by simp [hjn])
  rw [this]
  exact hj
 ·cases h

theorem zuc {b o : Nat} {v : Value} (h : w.cell? ⟨b, o, none⟩ = some v) : o < zbB w b := by
 unfold World.cell? at h
 unfold zbB
 split at h
 ·rename_i c t fr hb
  simp only [hb]
  simp at h
  exact (Array.getElem?_eq_some_iff.1 h).1
 ·cases h

theorem zpS {S : List TypeId} (hS : zfv P S = true) : ∀ (n : Nat) (t : TypeId) (cs : List Value) (x : DataW Hh × List MemPlace), t ∈ S → DataW.trod enc P w base spare held n t cs = some x →
  ∃ asx, All2 (DRel w (zbB w)) cs asx ∧ zba P n t asx := by
 intro n
 induction n with
 | zero => intro t cs x _ h; simp [DataW.trod] at h
 | succ n ih =>
  intro t cs x ht h
  have hp := List.all_eq_true.1 hS t ht
  unfold zba
  cases hu : P.underlying t with
  | none => simp [hu] at hp
  | some d =>
   rw [hu] at hp
   cases d <;> simp only [] at hp <;> try (cases hp; done)
   case bool =>
    obtain ⟨b, rfl, _⟩ := DataW.trod_bool hu h
    exact ⟨[.bool b], ⟨.bool b, trivial⟩, b, rfl⟩
   case int k =>
    obtain ⟨m, rfl, _, hw⟩ := DataW.trod_int hu h
    exact ⟨[.int k m], ⟨.int k m, trivial⟩, m, rfl, hw⟩
   case string =>
    obtain ⟨s, rfl, _, hw⟩ := DataW.trod_string hu h
    have hs : (⟨s.data.toList.toArray⟩ : ByteArray) = s := by simp
    refine ⟨[.str s.data.toList], ⟨?_, trivial⟩, s.data.toList, rfl, by rw [Array.length_toList]; exact hw⟩
    have := DRel.str (w := w) (L := zbB w) s.data.toList
    rwa [hs] at this
   case slice e =>
    simp only [Bool.and_eq_true, decide_eq_true_eq] at hp
    obtain ⟨⟨he, hpos⟩, _⟩ := hp
    have he : e ∈ S := by simpa using he
    rcases DataW.trod_slice hu h with ⟨rfl, _⟩ | ⟨a, len, cap, elems, rest, n', hn, rfl, _, hb, hl, hm, hlen, hel, _⟩
    ·exact ⟨[.sl [] .none], ⟨.slE _ _, trivial⟩, [], rfl, by simp, by simp⟩
    ·obtain rfl : n = n' := by omega
     have hat : ∀ i, i < len → ∃ cs asx, w.cells? base (a.add (i * P.cellsOf e)) (P.cellsOf e) = some cs ∧ All2 (DRel w (zbB w)) cs asx ∧ zba P n e asx := by
      intro i hi
      have h1 := hel i hi
      rw [List.getElem?_eq_getElem (by omega)] at h1
      cases hc : w.cells? base (a.add (i * P.cellsOf e)) (P.cellsOf e) with
      | none => rw [hc] at h1; cases h1
      | some cs =>
       rw [hc] at h1
       obtain ⟨asx, h2, h3⟩ := ih e cs _ he h1
       exact ⟨cs, asx, rfl, h2, h3⟩
     by_cases h0 : len = 0
     ·subst h0
      exact ⟨[.sl [] .none], ⟨.slE _ _, trivial⟩, [], rfl, by simp, by simp⟩
     ·-- the address is a zaA one
      have hspot : a.spot = none := by
       obtain ⟨cs, asx, h1, h2, _⟩ := hat 0 (by omega)
       obtain ⟨h3, h4⟩ := zf6 h1
       have h5 := h4 0 cs[0] (by simp)
       have := World.cell?_spot h5
       simpa [Addr.add] using this
      obtain ⟨b, off, sp⟩ := a
      simp only at hspot
      subst hspot
      obtain ⟨f, hf⟩ : ∃ f : Nat → List Value × List AV, ∀ i, i < len → w.cells? base ((⟨b, off, none⟩ : Addr).add (i * P.cellsOf e)) (P.cellsOf e) = some (f i).1 ∧ All2 (DRel w (zbB w)) (f i).1 (f i).2 ∧ zba P n e (f i).2 :=
       Deep.choose_lt (p := fun i (y : List Value × List AV) => w.cells? base ((⟨b, off, none⟩ : Addr).add (i * P.cellsOf e)) (P.cellsOf e) = some y.1 ∧ All2 (DRel w (zbB w)) y.1 y.2 ∧ zba P n e y.2)
        (fun i hi => by obtain ⟨cs, asx, h1, h2, h3⟩ := hat i hi; exact ⟨(cs, asx), h1, h2, h3⟩)
      have hcell : ∀ i, i < len → ∀ j v, (f i).1[j]? = some v → w.cell? ⟨b, off + i * P.cellsOf e + j, none⟩ = some v := by
       intro i hi j v hj
       have := (zf6 (hf i hi).1).2 j v hj
       rw [add_lit, add_lit] at this
       exact this
      have hlen2 : ∀ i, i < len → (f i).2.length = P.cellsOf e := fun i hi => by
       rw [← (hf i hi).2.1.length]; exact (zf6 (hf i hi).1).1
      refine ⟨[.sl ((List.range len).map fun i => (f i).2) .none], ⟨?_, trivial⟩, _, rfl, by simp; omega, ?_⟩
      ·have := DRel.sl (w := w) (L := zbB w) b off cap (P.cellsOf e) ((List.range len).map fun i => (f i).2) (fun i j => (f i).1.getD j undef) (by simp; exact h0) (by simpa using hl) ?_ ?_ ?_ ?_
       ·simpa using this
       ·-- the last cell is there
        have hi : len - 1 < len := by omega
        have hj : P.cellsOf e - 1 < (f (len - 1)).1.length := by rw [(zf6 (hf _ hi).1).1]; omega
        have := zuc (hcell (len - 1) hi (P.cellsOf e - 1) _ (List.getElem?_eq_getElem hj))
        have hmul : (len - 1) * P.cellsOf e + P.cellsOf e = len * P.cellsOf e := by
         rw [← Nat.succ_mul]; congr 1; omega
        simp
        omega
       ·intro i hi
        simp at hi
        simpa using hlen2 i hi
       ·intro i j hi hj
        simp at hi hj
        have hjl : j < (f i).1.length := by rw [(hf i hi).2.1.length]; exact hj
        simp only [List.getD_eq_getElem?_getD, List.getElem?_eq_getElem hjl, Option.getD_some]
        exact hcell i hi j _ (List.getElem?_eq_getElem hjl)
       ·intro i j hi hj
        simp at hi hj
        have hjl : j < (f i).1.length := by rw [(hf i hi).2.1.length]; exact hj
        obtain ⟨c, h1, h2⟩ := (hf i hi).2.1.get' (List.getElem?_eq_getElem hjl)
        simp only [List.getD_eq_getElem?_getD, List.getElem?_eq_getElem hjl, Option.getD_some, List.getElem_map, List.getElem_range]
        have : (f i).2[j] = c := by rw [List.getElem?_eq_getElem hj] at h1; exact Option.some.inj h1
        rw [this]
        exact h2
      ·intro c hc
       obtain ⟨i, hi, rfl⟩ := List.mem_map.1 hc
       exact (hf i (by simpa using hi)).2.2
   case struct fs =>
    simp only [Bool.and_eq_true] at hp
    obtain ⟨hfs, htile⟩ := hp
    obtain ⟨xs, n', hn, _, hcl, hxl, hat⟩ := DataW.trod_struct hu h
    obtain rfl : n = n' := by omega
    obtain ⟨asx, h1, h2⟩ := zpN (P := P) (R := DRel w (zbB w)) (cs := cs) fs.toList 0 (P.cellsOf t) (fun f asx => zba P n f.type asx) htile hcl (fun f hf => by
     obtain ⟨i, hi⟩ := List.mem_iff_getElem?.1 hf
     have hi' : fs[i]? = some f := by simpa using hi
     have h3 := hat i f hi'
     have hlt : i < xs.length := by rw [hxl]; exact (Array.getElem?_eq_some_iff.1 hi').1
     rw [List.getElem?_eq_getElem hlt] at h3
     exact ih f.type _ _ (by simpa using List.all_eq_true.1 hfs f hf) h3) (Nat.zero_le _)
    rw [List.drop_zero] at h1
    refine ⟨asx, h1, by rw [← h1.length]; exact hcl, fun f hf => ?_⟩
    simpa using (h2 f hf).1
end

theorem zoT {Hh : Type} {enc : TypeId × Value → Hh} {P : Program} {w : World} {base : Nat} {spare : Nat → Bool} {held : Bool} {S : List TypeId} (hS : zfv P S = true) {t : TypeId} (ht : t ∈ S) {cs : Array Value} {d : DataW Hh} {p : List MemPlace}
  (h : DataW.Trod enc P w base spare held t (.agg cs) d p) : ∃ n asx, zba P n t asx ∧ TRel w (G0 w) (.agg cs) (.agg asx) := by
 obtain ⟨n, hn⟩ := h
 obtain ⟨asx, h1, h2⟩ := zpS hS n t _ _ ht hn
 exact ⟨n, asx, h2, cs, rfl, h1.mono fun _ _ hd => ARel.of_b (DRel.toB (G := G0 w) hd)⟩
theorem zoS {Hh : Type} {enc : TypeId × Value → Hh} {P : Program} {w : World} {base : Nat} {spare : Nat → Bool} {held : Bool} {S : List TypeId} (hS : zfv P S = true) {t : TypeId} (ht : t ∈ S) {v : Value} {d : DataW Hh} {p : List MemPlace} (hv : v.cells = #[v])
  (h : DataW.Trod enc P w base spare held t v d p) : ∃ n a, zba P n t [a] ∧ TRel w (G0 w) v a := by
 obtain ⟨n, hn⟩ := h
 obtain ⟨asx, h1, h2⟩ := zpS hS n t _ _ ht hn
 rw [hv] at h1
 match asx, h1, h2 with
 | [a], h1, h2 => exact ⟨n, a, h2, TRel.of_v (VRel.of_a (ARel.of_b (DRel.toB (G := G0 w) h1.1)))⟩
section
variable {P : Program} {n : Nat} {t : TypeId} {l : List AV}
theorem zfD {k : IntKind} (hu : P.underlying t = some (.int k)) (h : zba P n t l) : ∃ m, l = [.int k m] ∧ (Lit.int k m).wf = true := by
 cases n with
 | zero => exact h.elim
 | succ n => unfold zba at h; rw [hu] at h; exact h
theorem zp0 (hu : P.underlying t = some .string) (h : zba P n t l) : ∃ s, l = [.str s] ∧ s.length ≤ maxLen := by
 cases n with
 | zero => exact h.elim
 | succ n => unfold zba at h; rw [hu] at h; exact h
theorem zfE {e : TypeId} (hu : P.underlying t = some (.slice e)) (h : zba P n t l) : ∃ es n', n' < n ∧ l = [.sl es .none] ∧ es.length ≤ maxLen ∧ ∀ c ∈ es, zba P n' e c := by
 cases n with
 | zero => exact h.elim
 | succ n => unfold zba at h; rw [hu] at h; obtain ⟨es, h1, h2, h3⟩ := h; exact ⟨es, n, by omega, h1, h2, h3⟩
theorem zg0 {fs : Array Field} (hu : P.underlying t = some (.struct fs)) (h : zba P n t l) : ∃ n', n' < n ∧ l.length = P.cellsOf t ∧ ∀ f ∈ fs.toList, zba P n' f.type ((l.drop f.offset).take (P.cellsOf f.type)) := by
 cases n with
 | zero => exact h.elim
 | succ n => unfold zba at h; rw [hu] at h; exact ⟨n, by omega, h⟩
theorem zek {α : Type} {cs : α → List AV} : ∀ {es : List (List AV)}, (∀ c ∈ es, ∃ x, c = cs x) → ∃ xs : List α, es = xs.map cs
 | [], _ => ⟨[], rfl⟩
 | e :: es, h => by
  obtain ⟨x, hx⟩ := h e (by simp)
  obtain ⟨xs, hxs⟩ := zek (es := es) (fun c hc => h c (by simp [hc]))
  exact ⟨x :: xs, by simp [hx, hxs]⟩
end
end Go.Abs
