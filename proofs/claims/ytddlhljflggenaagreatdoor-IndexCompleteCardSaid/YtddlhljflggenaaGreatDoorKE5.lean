import Derived.Test.YtddlhljflggenaaGreatDoorKM6
import Derived.Test.YtddlhljflggenaaGreatDoorKNB
set_option linter.unusedSimpArgs false
set_option linter.unusedVariables false
namespace Go.Proofs.YtddlhljflggenaaGreatDoor
open Go Go.Abs
set_option maxRecDepth 8000
theorem zAa {t40 t41 : AV} {k : Int} {K : Kt} {Kb15 : Lt} (H : zaa) (hs : HSc H) (A : Nat) (pre l : List IT) (hA : H[A]? = some (.perm zak 2 pre.length)) (c : AV) (hk : -1000000 ≤ k ∧ k ≤ 1000000)
  (hc : (l = [] ∧ c = .snil) ∨ ∃ b, c = .ov b l.length ∧ b ≠ A ∧ H[b]? = some (.vec zak 2 l.length (l.flatMap IT.cs))) (hn : pre.length + l.length ≤ 1000000) (hnd : ∀ x ∈ l, x.nodes ≤ 1000000)
  (hpost : Kb15 (zhc (.sl (IT.css (pre ++ l)) (.own A)) t40 t41 (.int .i64 (k + 1))) (H.set A (.perm zak 2 (pre.length + l.length)))) :
  zky (.sl (IT.css pre) (.own A)) t40 t41 (.int .i64 k) c (.int .i64 l.length) (.int .i64 0) H K Kb15 := by
 have hAl := (List.getElem?_eq_some_iff.1 hA).1
 refine zJz (Inv := fun q t11 t50 H' => ∃ i : Nat, i ≤ l.length ∧ q = l.length - i ∧ t50 = .int .i64 i ∧ t11 = .sl (IT.css (pre ++ l.take i)) (.own A) ∧ H' = H.set A (.perm zak 2 (pre.length + i))) l.length ?_ ?_
 ·intro _; exact ⟨0, by omega, by omega, rfl, by simp, by rw [Nat.add_zero, ztH hA]⟩
 ·rintro q t11 t50 H' ⟨i, hi, rfl, rfl, rfl, rfl⟩ hsc hlen hsF Kb hKb
  by_cases hlt : i < l.length
  ·rcases hc with ⟨rfl, _⟩ | ⟨b, rfl, hbA, hb⟩
   ·simp at hlt
   have hbl := (List.getElem?_eq_some_iff.1 hb).1
   have hb' : (H.set A (.perm zak 2 (pre.length + i)))[b]? = some (.vec zak 2 l.length (l.flatMap IT.cs)) := by rw [List.getElem?_set_ne (fun h => hbA h.symm)]; exact hb
   have hA' : ∀ J, (H.set A (.perm zak 2 (pre.length + i)) ++ J)[A]? = some (.perm zak 2 (pre.length + i)) := fun J => by
    rw [List.getElem?_append_left (by simpa using hAl), List.getElem?_set_self hAl]
   have hat := zhE hlt
   have hfl := zcs l
   have hb1 : i * 2 + 2 ≤ l.length * 2 := by omega
   obtain ⟨u, v, hvu, hu, hv⟩ := zbE l[i]
   simp only [zpV]
   simp [hlt, hb', hfl, -List.length_flatMap]
   rw [hat]
   refine ⟨by omega, ?_⟩
   simp [hvu, hu, hv]
   rw [← hvu]
   refine ⟨by omega, by omega, ?_⟩
   refine zFP _ l[i] (Nat.le_refl _) (hnd _ (List.getElem_mem hlt)) _ _ ?_
   rw [zdK]
   have hcl : (IT.css (pre ++ l.take i)).length = pre.length + i := by rw [css_len]; simp; omega
   simp [zat, zaI, zaE, hcl, hA']
   have hcs : IT.css (pre ++ l.take i) ++ [(l[i]).cs] = IT.css (pre ++ l.take (i + 1)) := by
    rw [List.take_succ_eq_append_getElem hlt]
    simp only [IT.css_map, List.map_append, List.map_cons, List.map_nil, List.append_assoc]
   rw [hcs, zam (by omega) (by omega)]
   refine ⟨by omega, ?_⟩
   have hst : (H.set A (.perm zak 2 (pre.length + i)) ++ [AB.cells (l[i]).cs]).set A (.perm zak 2 (pre.length + i + 1)) = H.set A (.perm zak 2 (pre.length + (i + 1))) ++ [AB.cells (l[i]).cs] := by
    rw [List.set_append_left _ _ (by simpa using hAl), List.set_set, Nat.add_assoc]
   rw [hst]
   refine hKb _ _ ⟨l.length - (i + 1), by omega, Back.at (J := [AB.cells (l[i]).cs]) (H2 := H.set A (.perm zak 2 (pre.length + (i + 1)))) rfl (by simp) (hs.set rfl) ?_ ⟨_, _, rfl, i + 1, by omega, rfl, by simp, rfl, rfl⟩⟩
   simp only [List.length_set] at hsF ⊢
   simpa [zkw, AV.sc, AV.scV, AV.scA, AV.scB] using hsF
  ·obtain rfl : i = l.length := by omega
   rw [List.take_length] at *
   simp only [zpV]
   simp
   rw [zam (by omega) (by omega)]
   exact hpost
theorem zsr {ls : LL} {k : Nat} (h : k < ls.length) : zaB (ls.take (k + 1)) = zaB (ls.take k) ++ zaW ls[k] := by
 rw [List.take_succ_eq_append_getElem h, zsq]
theorem zz9 {K : Kt} (H0 H1 : zaa) (hs0 : HSc H0) (hp : H0 <+: H1) (ls : LL) (t8 : AV) (h8 : RdD H1 H0.length t8 ls) (hs1 : HSc H1) (ht : zaq ls ≤ 500) (hl1 : ls.length ≤ 1000) (hnod : ∀ l ∈ ls, l.Nodup) (hnd : ∀ l ∈ ls, ∀ x ∈ l, x.nodes ≤ 1000000)
  (hK : K (.tup [.sl (IT.css (zaB ls)) .none, .int .i64 0]) H0) :
  zhd .snil t8 (.int .i64 ls.length) (.int .i64 0) H1 (Out H0.length K) := by
 obtain ⟨id, cs, hid0, rfl, hid, hall, hpw⟩ := h8
 have hpl := hp.length_le
 have hidl := (List.getElem?_eq_some_iff.1 hid).1
 have hcl := hall.length
 unfold zhd
 refine ALoop.own 11 zak 2 rfl ?_
 show zhd (.sl [] (.own H1.length)) (.ms id 0 ls.length ls.length) (.int .i64 ls.length) (.int .i64 0) (H1 ++ [.perm zak 2 0]) (Out H0.length K)
 refine zJy (Inv := fun q t11 t42 H' => ∃ k : Nat, k ≤ ls.length ∧ q = ls.length - k ∧ t42 = .int .i64 k ∧ t11 = .sl (IT.css (zaB (ls.take k))) (.own H1.length) ∧ H'.length = H1.length + 1 ∧ H0 <+: H' ∧ H'[id]? = some (.cells cs) ∧ H'[H1.length]? = some (.perm zak 2 (zaB (ls.take k)).length) ∧
  ∀ j, k ≤ j → ∀ (hj : j < ls.length), ∃ c, cs[j]? = some c ∧ ((ls[j] = [] ∧ c = .snil) ∨ ∃ b, c = .ov b ls[j].length ∧ H0.length ≤ b ∧ b < H1.length ∧ H'[b]? = some (.vec zak 2 ls[j].length (ls[j].flatMap IT.cs)))) ls.length ?_ ?_
 ·intro _
  refine ⟨0, by omega, by omega, rfl, by simp [zaB, IT.css], by simp, List.IsPrefix.trans hp ⟨_, rfl⟩, by rw [List.getElem?_append_left hidl]; exact hid, by simp [zaB], fun j _ hj => ?_⟩
  obtain ⟨c, hc1, hc2⟩ := All2.get hall (List.getElem?_eq_getElem hj)
  refine ⟨c, hc1, ?_⟩
  rcases hc2 with h | ⟨b, h1, h2, h3⟩
  ·exact .inl h
  ·have := (List.getElem?_eq_some_iff.1 h3).1
   exact .inr ⟨b, h2, h1, this, by rw [List.getElem?_append_left this]; exact h3⟩
 ·rintro q t11 t42 H' ⟨k, hk, rfl, rfl, rfl, hHl, hpre, hid', hA, hsl⟩ hsc hlen hsF Kb hKb
  have htk := zgF ls k
  by_cases hlt : k < ls.length
  ·obtain ⟨c, hc1, hc2⟩ := hsl k (Nat.le_refl _) hlt
   have hmem := List.getElem_mem hlt
   have hmt := zeV hmem
   have hsl2 : (zaW ls[k]).length = ls[k].length := (zcl _).length_eq
   have htk1 := zt8 hlt
   have htk2 := zgF ls (k + 1)
   simp only [zpU]
   simp [hlt, hid']
   rw [zcW _ hc1]
   -- the loop behind the sort
   have hafter : ∀ H2, HSc H2 → H2.length = H1.length + 1 → H0 <+: H2 → H2[id]? = some (.cells cs) → H2[H1.length]? = some (.perm zak 2 (zaB (ls.take k)).length) →
     ((zaW ls[k] = [] ∧ c = .snil) ∨ ∃ b, c = .ov b (zaW ls[k]).length ∧ b ≠ H1.length ∧ H2[b]? = some (.vec zak 2 (zaW ls[k]).length ((zaW ls[k]).flatMap IT.cs))) →
     (∀ j, k + 1 ≤ j → ∀ (hj : j < ls.length), ∃ c, cs[j]? = some c ∧ ((ls[j] = [] ∧ c = .snil) ∨ ∃ b, c = .ov b ls[j].length ∧ H0.length ≤ b ∧ b < H1.length ∧ H2[b]? = some (.vec zak 2 ls[j].length (ls[j].flatMap IT.cs)))) →
     zky (.sl (IT.css (zaB (ls.take k))) (.own H1.length)) (.ms id 0 ls.length ls.length) (.int .i64 ls.length) (.int .i64 k) c (.int .i64 (zaW ls[k]).length) (.int .i64 0) H2 (Out H0.length K) Kb := by
    intro H2 hs2 hl2 hp2 hi2 hA2 hc2 hsl2'
    have hAl : H1.length < H2.length := by omega
    refine zAa H2 hs2 H1.length (zaB (ls.take k)) (zaW ls[k]) hA2 c (by omega) hc2 (by rw [zf6]; omega) (fun x hx => hnd _ hmem x ((zcl _).mem_iff.1 hx)) ?_
    rw [← zsr hlt]
    have hlen2 : (zaB (ls.take k)).length + (zaW ls[k]).length = (zaB (ls.take (k + 1))).length := by rw [zsr hlt, List.length_append]
    rw [hlen2]
    have hne : ∀ {b : Nat}, b < H1.length → ∀ v, (H2.set H1.length v)[b]? = H2[b]? := fun hb v => List.getElem?_set_ne (by omega)
    refine hKb _ _ ⟨ls.length - (k + 1), by omega, Back.at (J := []) (H2 := H2.set H1.length (.perm zak 2 (zaB (ls.take (k + 1))).length)) (by simp) (by simp; omega) (hs2.set rfl) ?_ ⟨_, _, rfl, k + 1, by omega, rfl, by simp, rfl, by simpa using hl2, ?_, by rw [hne hidl]; exact hi2, List.getElem?_set_self hAl, fun j hj1 hj2 => ?_⟩⟩
    ·simp only [List.length_set, hl2]
     simp [zhc, AV.sc, AV.scV, AV.scA, AV.scB]
     omega
    ·obtain ⟨J, rfl⟩ := hp2
     rw [List.set_append_right _ _ hpl]
     exact ⟨_, rfl⟩
    ·obtain ⟨c', h1, h2⟩ := hsl2' j hj1 hj2
     refine ⟨c', h1, ?_⟩
     rcases h2 with h2 | ⟨b, g1, g2, g3, g4⟩
     ·exact .inl h2
     ·exact .inr ⟨b, g1, g2, g3, by rw [hne g3]; exact g4⟩
   rcases hc2 with ⟨hz, rfl⟩ | ⟨b, rfl, hb0, hb1, hb⟩
   ·refine zBK _ _ _ ?_
    have hz2 : zaW ls[k] = [] := by rw [hz]; rfl
    simp
    have := hafter H' hsc hHl hpre hid' hA (.inl ⟨hz2, rfl⟩) (fun j hj1 hj2 => hsl j (by omega) hj2)
    rw [hz2] at this
    simpa using this
   ·refine zBL hb (by omega) (hnod _ hmem) (hnd _ hmem) _ ?_
    simp
    have hbl := (List.getElem?_eq_some_iff.1 hb).1
    have hid2 : (H'.set b (.vec zak 2 ls[k].length ((zaW ls[k]).flatMap IT.cs)))[id]? = some (.cells cs) := by
     by_cases hbi : b = id
     ·subst hbi; rw [hb] at hid'; cases hid'
     ·rw [List.getElem?_set_ne hbi]; exact hid'
    have := hafter (H'.set b (.vec zak 2 ls[k].length ((zaW ls[k]).flatMap IT.cs))) (hsc.set (by simp only [AB.sc, List.all_flatMap, zco]; simp)) (by simpa using hHl) (by
     obtain ⟨J, rfl⟩ := hpre
     rw [List.set_append_right _ _ hb0]
     exact ⟨_, rfl⟩) hid2 (by rw [List.getElem?_set_ne (by omega)]; exact hA) (.inr ⟨b, by rw [hsl2], by omega, by rw [hsl2]; exact List.getElem?_set_self hbl⟩) (fun j hj1 hj2 => by
      obtain ⟨c', h1, h2⟩ := hsl j (by omega) hj2
      refine ⟨c', h1, ?_⟩
      rcases h2 with h2 | ⟨b', g1, g2, g3, g4⟩
      ·exact .inl h2
      ·have hbb : b ≠ b' := by
        obtain ⟨hk1, hk2⟩ := List.getElem?_eq_some_iff.1 hc1
        obtain ⟨hj3, hj4⟩ := List.getElem?_eq_some_iff.1 h1
        exact List.pairwise_iff_getElem.1 hpw k j hk1 hj3 (by omega) b _ b' _ hk2 (hj4.trans g1)
       exact .inr ⟨b', g1, g2, g3, by rw [List.getElem?_set_ne hbb]; exact g4⟩)
    rw [hsl2] at this
    exact this
  ·obtain rfl : k = ls.length := by omega
   rw [List.take_length] at *
   simp only [zpU]
   simp
   obtain ⟨J, rfl⟩ := hpre
   refine ⟨⟨rfl, rfl⟩, ?_⟩
   exact Out.tup hs0 hK ⟨slV, zaC rfl rfl, trivial⟩
mutual
theorem zfX {P : VT → Int → Option (List VT)} {M : Nat} (hP : ∀ t c ps, P t c = some ps → VT.nodesL ps + 1 ≤ M) : ∀ (x : IT) (t : VT) (k : Nat), dV P x t = some k → x.nodes ≤ t.nodes + M * k
 | .mk n ks, .mk tk tn ts, k, h => by
  have e1 : (IT.mk n ks).nodes = IT.nodesL ks + 1 := by simp [IT.nodes]
  have e2 : (VT.mk tk tn ts).nodes = VT.nodesL ts + 1 := by simp [VT.nodes]
  by_cases h6 : tk = 6
  ·subst h6
   simp [dV, VT.kind, VT.kids] at h
   have := zlA hP ks ts k h.2; omega
  by_cases h7 : tk = 7
  ·subst h7
   simp [dV, VT.kind] at h
   obtain ⟨⟨_, rfl⟩, _⟩ := h
   simp [IT.nodesL] at e1; omega
  by_cases h5 : tk = 5
  ·subst h5
   simp [dV, VT.kind] at h
   have := zrM hP ks _ k h.2; omega
  ·simp [dV, VT.kind, h6, h7, h5] at h
   obtain ⟨⟨_, rfl⟩, _⟩ := h
   simp [IT.nodesL] at e1; omega
theorem zlA {P : VT → Int → Option (List VT)} {M : Nat} (hP : ∀ t c ps, P t c = some ps → VT.nodesL ps + 1 ≤ M) : ∀ (xs : List IT) (ts : List VT) (k : Nat), dA P xs ts = some k → IT.nodesL xs ≤ VT.nodesL ts + M * k
 | [], ts, k, h => by simp [IT.nodesL]
 | x :: xs, [], k, h => by simp [dA] at h
 | x :: xs, t :: ts, k, h => by
  obtain ⟨a, b, h1, h2, rfl⟩ := dA_cons.1 h
  have := zfX hP x t a h1
  have := zlA hP xs ts b h2
  simp only [IT.nodesL, VT.nodesL, Nat.mul_add]
  omega
theorem zrM {P : VT → Int → Option (List VT)} {M : Nat} (hP : ∀ t c ps, P t c = some ps → VT.nodesL ps + 1 ≤ M) : ∀ (es : List IT) (t : VT) (k : Nat), dE P es t = some k → IT.nodesL es ≤ M * k
 | [], t, k, h => by simp [IT.nodesL]
 | .mk c ks :: es, t, k, h => by
  obtain ⟨ps, a, b, h0, h1, h2, rfl⟩ := dE_cons.1 h
  have := hP _ _ _ h0
  have := zlA hP ks ps a h1
  have := zrM hP es t b h2
  simp only [IT.nodesL, IT.nodes, Nat.mul_add, Nat.mul_one]
  omega
end
theorem zsP : ∀ (l : List VT) (m : Nat), (∀ x ∈ l, x.nodes ≤ m) → VT.nodesL l ≤ m * l.length
 | [], m, _ => by simp [VT.nodesL]
 | x :: l, m, h => by
  have := zsP l m fun y hy => h y (by simp [hy])
  have := h x (by simp)
  simp only [VT.nodesL, List.length_cons, Nat.mul_succ]
  omega
theorem zAN {data : List Dat} (hk : zaP data) {t : VT} {c : Int} {ps : List VT} (h : zan data t c = some ps) : ps.length ≤ 8 := by
 obtain ⟨k, n, ks⟩ := t
 unfold zan at h
 cases hf : za7 data (.mk k n ks) c with
 | none => rw [hf] at h; simp at h
 | some l =>
  rw [hf] at h
  simp at h
  obtain ⟨_, _, h2, hn, hc, _, hl, _⟩ := zem hf
  have := ((hk.2 _ (List.getElem_mem hn)).2.2 _ (List.getElem_mem hc)).2.1
  have h3 := ziq l ((zis data (VT.mk k n ks).num.toNat).getD c.toNat [])
  simp only [List.getD_eq_getElem?_getD] at h3
  rw [h] at h3
  rw [hl] at h3
  simp at h3
  omega
theorem zip {data : List Dat} (hk : zaP data) : ∀ t c ps, zan data t c = some ps → VT.nodesL ps + 1 ≤ 8001 := fun t c ps h => by
 have h1 := zAN hk h
 have h2 := zsP ps 1000 (zs3 h)
 have h3 : 1000 * ps.length ≤ 1000 * 8 := Nat.mul_le_mul_left _ h1
 omega
def zf7 : Option LL → AV
 | none => .tup [.snil, .int .i64 9]
 | some ls => .tup [.sl (IT.css (zaB ls)) .none, .int .i64 0]
theorem zCv {data : List Dat} {t : VT} {k d : Nat} (hk : k ≤ d) (hd : d ≤ 499) (h : upF (zan data) (ncF data) k t = none) : upF (zan data) (ncF data) d t = none := by
 have h1 := zdz (P := zan data) (nc := ncF data) (fun t c ps h => zc7 h) k t (by omega)
 have h2 := zdz (P := zan data) (nc := ncF data) (fun t c ps h => zc7 h) d t hd
 rw [h] at h1
 cases hu : upF (zan data) (ncF data) d t with
 | none => rfl
 | some ls =>
  rw [hu] at h2
  have := znn h2.1 (h1.mono hk)
  have := h2.2
  omega
theorem zAb {data : List Dat} (hk : zaP data) {Gd : VT → Prop} (hG : GdOk data Gd) (t : VT) (hg : Gd t) (d : Nat) (hd : d ≤ 6) (H : zaa) (hs : HSc H) (K : Kt) (hK : K (zf7 (upF (zan data) (ncF data) d t)) H) :
  zpY (.sl (data.map Dat.cs) .none) (.int .i64 d) (.ptr H.length 0) .snil (.int .i64 0) (H ++ [.cells t.cs]) (Out H.length K) := by
 have ht := hG.nodes _ hg
 refine zJA (Inv := fun q t8 t9 H' => ∃ k : Nat, k ≤ d + 1 ∧ q = d + 1 - k ∧ t9 = .int .i64 k ∧ H ++ [.cells t.cs] <+: H' ∧ ((k = 0 ∧ t8 = .snil) ∨ (0 < k ∧ ∃ ls, upF (zan data) (ncF data) (k - 1) t = some ls ∧ RdD H' H.length t8 ls))) (d + 1) ?_ ?_
 ·intro _; exact ⟨0, by omega, by omega, rfl, ⟨[], by simp⟩, .inl ⟨rfl, rfl⟩⟩
 ·rintro q t8 t9 H' ⟨k, hk1, rfl, rfl, hpre, h8⟩ hsc hlen hsF Kb hKb
  have hpre0 : H <+: H' := List.IsPrefix.trans ⟨_, rfl⟩ hpre
  have hid : H'[H.length]? = some (.cells t.cs) := by
   obtain ⟨J, rfl⟩ := hpre
   simp
  by_cases hlt : k < d + 1
  ·have hkd : (k : Int) ≤ d := by omega
   obtain ⟨x, y, z, hvx, hx, hy, hz⟩ := zaX t
   simp only [zpW]
   simp [hkd, hid, hvx, hx, hy, hz]
   rw [← hvx]
   refine ACalls.mono' (zFF hk hG k (by omega) t hg H' (fun r H2 => H' <+: H2 ∧ UpO H2 H'.length r (upF (zan data) (ncF data) k t)) (fun r H2 hp hr => ⟨hp, hr⟩)) (fun r H2 hs2 hl2 hh => ?_)
   obtain ⟨hp, hr⟩ := hh
   have hp2 : H <+: H2 := List.IsPrefix.trans hpre0 hp
   cases hu : upF (zan data) (ncF data) k t with
   | none =>
    rw [hu] at hr
    obtain ⟨x, hxv, rfl⟩ := hr
    rw [zCv (by omega) (by omega) hu] at hK
    simp
    obtain ⟨J, rfl⟩ := hp2
    exact ⟨⟨rfl, rfl⟩, Out.tup hs hK ⟨zaC rfl rfl, zaC rfl rfl, trivial⟩⟩
   | some ls =>
    rw [hu] at hr
    obtain ⟨x, rfl, hrd⟩ := hr
    simp
    rw [zam (by omega) (by omega)]
    have hpl := hpre0.length_le
    have hrd2 := hrd.lower hpl
    have hrd3 := hrd2
    obtain ⟨id, cs, h1, rfl, h3, _⟩ := hrd3
    have hidl := (List.getElem?_eq_some_iff.1 h3).1
    refine hKb _ _ ⟨d + 1 - (k + 1), by omega, Back.at (J := []) (H2 := H2) (by simp) (by simp at hlen; simp; omega) hs2 ?_ ⟨_, _, rfl, k + 1, by omega, rfl, by simp, List.IsPrefix.trans hpre hp, .inr ⟨by omega, ls, by simpa using hu, hrd2⟩⟩⟩
    have hHl : H.length < H2.length := by
     have := List.IsPrefix.length_le (List.IsPrefix.trans hpre hp)
     simp at this; omega
    simp [zkx, AV.sc, AV.scV, AV.scA, AV.scB]
    omega
  ·obtain rfl : k = d + 1 := by omega
   rcases h8 with ⟨h0, _⟩ | ⟨_, ls, hls, hrd⟩
   ·omega
   rw [Nat.add_sub_cancel] at hls
   rw [hls] at hK
   have hok := zdz (P := zan data) (nc := ncF data) (fun t c ps h => zc7 h) d t (by omega)
   rw [hls] at hok
   have hll := hok.1.len
   have hkd : ¬ ((d : Int) + 1 ≤ d) := by omega
   simp only [zpW]
   simp [hkd]
   have hrd2 := hrd
   obtain ⟨id, cs, h1, rfl, h3⟩ := hrd2
   simp
   refine zz9 H H' hs hpre0 ls _ hrd hsc hok.2 (by omega) (fun l hl => ?_) (fun l hl x hx => ?_) hK
   ·obtain ⟨i, hi, rfl⟩ := List.mem_iff_getElem.1 hl
    rw [← zc4 hi]
    exact hok.1.nodup i (by omega)
   ·obtain ⟨i, hi, rfl⟩ := List.mem_iff_getElem.1 hl
    rw [← zc4 hi] at hx
    have h2 := (hok.1.mem i (by omega) x).1 hx
    have h3 := zfX (zip hk) x t i h2
    have : 8001 * i ≤ 8001 * 6 := Nat.mul_le_mul_left _ (by omega)
    omega
theorem zCt {data : List Dat} {t : VT} (h : zaT data 0 t = true) (h5 : t.kind = 5) : 0 ≤ t.num ∧ t.num.toNat < data.length := by
 obtain ⟨k, n, ks⟩ := t
 have h5' : k = 5 := h5
 subst h5'
 simp only [zaT, zaN, Bool.and_eq_true, zaV] at h
 have h2 := h.2.1
 show 0 ≤ n ∧ n.toNat < data.length
 simp at h2
 refine ⟨h2.1, ?_⟩
 by_cases hl : n.toNat < data.length
 ·exact hl
 ·have h3 := h2.2
  rw [List.getElem?_eq_none (by omega)] at h3
  simp at h3
theorem zlO {data : List Dat} (hD : zbd data = true) : GdOk data fun t => zaT data 0 t = true where
 nodes := fun t h => by
  simp only [zaT, Bool.and_eq_true, decide_eq_true_eq] at h
  omega
 kids := fun k n ks h x hx => zCu h x hx
 num := fun t h h5 => zCt h h5
 pay := fun t c ps h hp x hx => by
  unfold zan at hp
  cases hf : za7 data t c with
  | none => rw [hf] at hp; simp at hp
  | some l =>
   rw [hf] at hp
   simp at hp
   subst hp
   simp only [zaT, Bool.and_eq_true] at h
   exact zzE hD h.2 hf x (zir hx)
def zb9 (data : List Dat) (t : VT) (d : Int) : AV :=
 if zbm data t then (if d < 0 ∨ 6 < d then .tup [.snil, .int .i64 8] else zf7 (upF (zan data) (ncF data) d.toNat t)) else .tup [.snil, .int .i64 1]
theorem zkz (data : List Dat) (hk : zaP data) (t : VT) (ht : t.nodes ≤ 1000) (d : Int) (H : zaa) (K : Kt) (hK : K (zb9 data t d) H) : ACalls tP ze2 [.sl (data.map Dat.cs) .none, .agg t.cs, .int .i64 d] H K := by
 refine ACalls.out (zJD fun hs => ?_)
 obtain ⟨x, y, z, hvx, hx, hy, hz⟩ := zaX t
 simp [zq5, hvx, hx, hy, hz]
 rw [← hvx]
 refine zjr data hk t (by omega) _ _ ?_
 unfold zb9 at hK
 cases hf : zbm data t with
 | false =>
  rw [hf] at hK
  simp
  exact ⟨⟨rfl, rfl⟩, Out.tup hs hK ⟨zaC rfl rfl, zaC rfl rfl, trivial⟩⟩
 | true =>
  rw [hf, if_pos rfl] at hK
  simp
  by_cases h0 : d < 0
  ·rw [if_pos (.inl h0)] at hK
   simp [h0, zai]
   exact ⟨⟨rfl, rfl⟩, Out.tup hs hK ⟨zaC rfl rfl, zaC rfl rfl, trivial⟩⟩
  ·by_cases h6 : 6 < d
   ·rw [if_pos (.inr h6)] at hK
    simp [h0, h6, zai]
    exact ⟨⟨rfl, rfl⟩, Out.tup hs hK ⟨zaC rfl rfl, zaC rfl rfl, trivial⟩⟩
   ·rw [if_neg (by omega)] at hK
    simp [h0, h6, zai]
    simp only [zbm, Bool.and_eq_true] at hf
    have hdn : d = (d.toNat : Int) := by omega
    have key := zAb hk (zlO hf.1) t hf.2 d.toNat (by omega) H hs K hK
    rw [← hdn] at key
    exact key
def NV (H : zaa) (out : List IT) : zaa := H ++ [.vec zak 2 out.length (out.flatMap IT.cs)]
@[simp] theorem zeb (H : zaa) (out : List IT) : (NV H out).length = H.length + 1 := by simp [NV]
theorem zeG {H : zaa} {out : List IT} (h : HSc H) : HSc (NV H out) := h.append (by simp only [AB.sc, List.all_cons, List.all_nil, List.all_flatMap, zco]; simp)
theorem zqJ (H J : zaa) (out : List IT) : (NV H out ++ J)[H.length]? = some (.vec zak 2 out.length (out.flatMap IT.cs)) := by simp [NV]
theorem zyk (H J : zaa) (out : List IT) (x : IT) : (NV H out ++ J).set H.length (.vec zak 2 (out.length + 1) (out.flatMap IT.cs ++ x.cs)) = NV H (out ++ [x]) ++ J := by
 simp [NV, List.set_append_right]
theorem zrp {H J : zaa} {out : List IT} {x : IT} (hb : out.length ≤ 1000000) {K : Kt} (hK : K (.ov H.length (out ++ [x]).length) (NV H (out ++ [x]) ++ J)) : zat zak 2 32 (.ov H.length out.length) (.sl [x.cs] .full) (NV H out ++ J) K := by
 have hg := zqJ H J out
 simp only [zat, zaI, zaE, hg]
 refine ⟨by simp, ⟨⟨trivial, trivial, trivial⟩, by simp; omega, by simp; omega⟩, ?_⟩
 simp only [List.length_cons, List.length_nil, List.flatten_cons, List.flatten_nil, List.append_nil]
 rw [zyk]
 simpa using hK
theorem zro (e : IT) (ks : List IT) (hk : ks.length ≤ 1000000) (H : zaa) (K : Kt) (h0 : ks = [] → K (.sl [e.cs] .full) H) (h1 : ks ≠ [] → K (.sl (IT.css (e :: ks)) (.own H.length)) (H ++ [.perm zak 2 (1 + ks.length)])) :
  zat zak 2 32 (.sl [e.cs] .full) (.sl (IT.css ks) .none) H K := by
 cases ks with
 | nil => simpa [zat, zaI, zaE, IT.css] using h0 rfl
 | cons v r =>
  have h2 := zfT (l := v :: r)
  have hll := css_len r
  simp only [List.length_cons] at hk
  have hK := h1 (by simp)
  simp only [IT.css] at h2 hK ⊢
  simp [zat, zaI, zaE, hll]
  refine ⟨fun c hc => h2 c (by simp [hc]), ⟨by omega, by omega⟩, ?_⟩
  simpa using hK
theorem zzA {t0 t2 t4 t14 t86 t87 t119 t120 : AV} {q : Int} {K : Kt} {Kb18 Kb24 Kb32 : Lt} (H1 : zaa) (hs1 : HSc H1) (out : List IT) (c : Int) (r : List IT) (rest : List IT) (hn : out.length + rest.length ≤ 100000) (hkids : ∀ x ∈ rest, x.kids.length ≤ 100000) (hq : -1000000 ≤ q ∧ q ≤ 1000000)
  (hpost : Kb32 (zgS t0 t2 t4 (.ov H1.length (out ++ rest.map fun s => IT.mk 0 (.mk c r :: s.kids)).length) t14 (.sl (IT.css rest) .none) (.int .i64 c) t86 t87 t119 t120 (.int .i64 (q + 1))) (NV H1 (out ++ rest.map fun s => IT.mk 0 (.mk c r :: s.kids)))) :
  zor t0 t2 t4 (.ov H1.length out.length) t14 (.sl (IT.css rest) .none) (.int .i64 c) (.sl (IT.css r) .none) t86 t87 t119 t120 (.int .i64 q) (.sl (IT.css rest) .none) (.int .i64 rest.length) (.int .i64 0) (NV H1 out) K Kb18 Kb24 Kb32 := by
 refine zF1 (Inv := fun qq t13 t127 H' => ∃ i : Nat, i ≤ rest.length ∧ qq = rest.length - i ∧ t127 = .int .i64 i ∧ t13 = .ov H1.length (out ++ (rest.take i).map fun s => IT.mk 0 (.mk c r :: s.kids)).length ∧ H' = NV H1 (out ++ (rest.take i).map fun s => IT.mk 0 (.mk c r :: s.kids))) rest.length ?_ ?_
 ·intro _; exact ⟨0, by omega, by omega, rfl, by simp, by simp⟩
 ·rintro qq t13 t127 H' ⟨i, hi, rfl, rfl, rfl, rfl⟩ hsc hlen hsF Kb hKb
  by_cases hlt : i < rest.length
  ·have hnx : out ++ (rest.take (i + 1)).map (fun s => IT.mk 0 (.mk c r :: s.kids)) = (out ++ (rest.take i).map fun s => IT.mk 0 (.mk c r :: s.kids)) ++ [IT.mk 0 (.mk c r :: rest[i].kids)] := by
    rw [List.take_succ_eq_append_getElem hlt, List.map_append, List.append_assoc]; rfl
   have hlb : (out ++ (rest.take i).map fun s => IT.mk 0 (.mk c r :: s.kids)).length ≤ 100000 := by
    simp only [List.length_append, List.length_map, List.length_take]; omega
   generalize (out ++ (rest.take i).map fun s => IT.mk 0 (.mk c r :: s.kids)) = M at *
   obtain ⟨x, y, hvx, hx, hy⟩ := zbE rest[i]
   have hfin : ∀ J, Kb (zfr t0 t2 t4 (.ov H1.length (M ++ [IT.mk 0 (.mk c r :: rest[i].kids)]).length) t14 (.sl (IT.css rest) .none) (.int .i64 c) (.sl (IT.css r) .none) t86 t87 t119 t120 (.int .i64 q) (.sl (IT.css rest) .none) (.int .i64 rest.length) (.int .i64 (i + 1))) (NV H1 (M ++ [IT.mk 0 (.mk c r :: rest[i].kids)]) ++ J) := by
    intro J
    refine hKb _ _ ⟨rest.length - (i + 1), by omega, Back.at (J := J) (H2 := NV H1 (M ++ [IT.mk 0 (.mk c r :: rest[i].kids)])) rfl (by simp) (zeG hs1) ?_ ⟨_, _, rfl, i + 1, by omega, rfl, by simp, by rw [hnx], by rw [hnx]⟩⟩
    simp only [zeb] at hsF ⊢
    simpa [zfr, AV.sc, AV.scV, AV.scA, AV.scB] using hsF
   have hcs : ∀ tok : Tok, ∀ k : AV → Prop, k (.sl [(IT.mk 0 (.mk c r :: rest[i].kids)).cs] .full) → zay 2 [.int .i64 0, .snil] 1 [(0, .agg [.int .i64 0, .sl (IT.css (.mk c r :: rest[i].kids)) tok])] k := fun tok k hk => by
    simpa [zay, za8, plain, AV.pd, IT.cs] using hk
   simp only [zok]
   simp [hlt, zlY rest[i], AV.known]
   rw [zam (by omega) (by omega)]
   have hbc : zau [.int .i64 0, .snil] [(0, 1), (1, 1)] [(0, .int .i64 c), (1, .sl (IT.css r) .none)] = fun k => k (.agg (IT.mk c r).cs) := by
    funext k; simp [zau, zaH, IT.cs]
   simp only [hbc, zdK]
   have key : ∀ J, zat zak 2 32 (.ov H1.length M.length) (.sl [(IT.mk 0 (.mk c r :: rest[i].kids)).cs] .full) (NV H1 M ++ J) (fun t141 H => Kb (zfr t0 t2 t4 t141 t14 (.sl (IT.css rest) .none) (.int .i64 c) (.sl (IT.css r) .none) t86 t87 t119 t120 (.int .i64 q) (.sl (IT.css rest) .none) (.int .i64 rest.length) (.int .i64 (i + 1))) H) := fun J => zrp (by omega) (hfin J)
   refine zro (.mk c r) rest[i].kids (by have := hkids _ (List.getElem_mem hlt); omega) _ _ (fun h0 => ?_) (fun h1 => ?_)
   ·simp [zau, zaH]
    refine hcs .full _ ?_ |> fun h => by simpa [h0, IT.css] using h
    exact key _
   ·simp [zau, zaH]
    refine hcs (.own _) _ ?_
    exact key _
  ·obtain rfl : i = rest.length := by omega
   rw [List.take_length] at *
   simp only [zok]
   simp
   rw [zam (by omega) (by omega)]
   simpa using hpost
def zb6 (l : List (List IT)) : AV := .sl (l.map fun r => [.sl (IT.css r) .none]) .none
def exR : Option (List IT) → AV
 | none => .tup [.unk, .bool false]
 | some l => .tup [.sl (IT.css l) .none, .bool true]
def prR : Option (List (List IT)) → AV
 | none => .tup [.snil, .bool false]
 | some l => .tup [zb6 l, .bool true]
def ExC (data : List Dat) (d : Nat) (t : VT) : Prop := ∀ (H : zaa) (K : Kt), (∀ o, zk6 (zan data) d t o → K (exR o) H) → ACalls tP ze0 [.sl (data.map Dat.cs) .none, .agg t.cs, .int .i64 d] H K
def PrC (data : List Dat) (d : Nat) (ts : List VT) : Prop := ∀ (H : zaa) (K : Kt), (∀ o, zym (zan data) d ts o → K (prR o) H) → ACalls tP zgl [.sl (data.map Dat.cs) .none, .sl (VT.css ts) .none, .int .i64 d] H K
theorem zzz {t0 t2 t4 t14 t86 : AV} {K : Kt} {Kb18 Kb24 : Lt} (H1 : zaa) (hs1 : HSc H1) (out : List IT) (c : Nat) (hc : c ≤ 1000) (rows : List (List IT)) (rest : List IT) (hn : out.length + rows.length * rest.length ≤ 500) (hrl : rows.length ≤ 500) (hrs : rest.length ≤ 500) (hkids : ∀ x ∈ rest, x.kids.length ≤ 100000)
  (hpost : Kb24 (zfq t0 t2 t4 (.ov H1.length (out ++ zbp c rows rest).length) t14 (.sl (IT.css rest) .none) t86 (.int .i64 (c + 1 : Nat))) (NV H1 (out ++ zbp c rows rest))) :
  zoq t0 t2 t4 (.ov H1.length out.length) t14 (.sl (IT.css rest) .none) (.int .i64 c) t86 (.int .i64 c) (zb6 rows) (.int .i64 rows.length) (.int .i64 0) (NV H1 out) K Kb18 Kb24 := by
 refine zF0 (Inv := fun qq t13 t121 H' => ∃ i : Nat, i ≤ rows.length ∧ qq = rows.length - i ∧ t121 = .int .i64 i ∧ t13 = .ov H1.length (out ++ zbp c (rows.take i) rest).length ∧ H' = NV H1 (out ++ zbp c (rows.take i) rest)) rows.length ?_ ?_
 ·intro _; exact ⟨0, by omega, by omega, rfl, by simp [zbp], by simp [zbp]⟩
 ·rintro qq t13 t121 H' ⟨i, hi, rfl, rfl, rfl, rfl⟩ hsc hlen hsF Kb hKb
  by_cases hlt : i < rows.length
  ·have hnx : out ++ zbp c (rows.take (i + 1)) rest = (out ++ zbp c (rows.take i) rest) ++ rest.map fun s => IT.mk 0 (.mk c rows[i] :: s.kids) := by
    rw [List.take_succ_eq_append_getElem hlt, zbp, List.flatMap_append, ← List.append_assoc]; simp [zbp]
   have hm : (rows.take i).length * rest.length ≤ rows.length * rest.length := Nat.mul_le_mul_right _ (by simp; omega)
   have hlb : (out ++ zbp c (rows.take i) rest).length ≤ 500 := by
    rw [List.length_append, ztF]; omega
   generalize out ++ zbp c (rows.take i) rest = M at *
   simp only [zoj]
   simp [zb6, hlt]
   refine zzA (q := (i : Int)) H1 hs1 M c rows[i] rest (by omega) hkids (by omega) ?_
   rw [← hnx]
   refine hKb _ _ ⟨rows.length - (i + 1), by omega, Back.at (J := []) (H2 := NV H1 (out ++ zbp c (rows.take (i + 1)) rest)) (by simp) (by simp) (zeG hs1) ?_ ⟨_, _, rfl, i + 1, by omega, rfl, by simp, rfl, rfl⟩⟩
   simp only [zeb] at hsF ⊢
   simpa [zgS, zb6, AV.sc, AV.scV, AV.scA, AV.scB] using hsF
  ·obtain rfl : i = rows.length := by omega
   rw [List.take_length] at *
   simp only [zoj]
   simp [zjA, zoo]
   rw [zam (by omega) (by omega)]
   simpa using hpost
theorem zzt {P : VT → Int → Option (List VT)} {k : Nat} {t : VT} (h5 : t.kind = 5) {l : List IT} (h : SetOf (fun v => dV P v t) k l) : ∀ x ∈ l, x.kids.length ≤ k := fun x hx => zfW ((zbI h5 x k).1 ((h.mem x).1 hx)).2
theorem zzy (data : List Dat) (hk : zaP data) (H1 : zaa) (hs1 : HSc H1) (id : Nat) (t : VT) (ht : t.nodes ≤ 1000) (h5 : t.kind = 5) (hid : H1[id]? = some (.cells t.cs)) {d : Nat} (hd : d ≤ 6) (p : Nat) (hp : p < d) (nc : Nat) (hnc : nc ≤ 1000) (hP : ∀ c ps, zan data t c = some ps → 0 ≤ c ∧ c < nc) (out0 rest : List IT)
  (hPr : ∀ (c : Nat) ps, zan data t c = some ps → PrC data p ps) (hrest : SetOf (fun v => dV (zan data) v t) (d - 1 - p) rest) (hrl : rest.length ≤ 500) (h0 : DaPart (zan data) d t p 0 out0) (hout : out0.length ≤ 500) {K : Kt} {Kb18 : Lt}
  (h1 : WitV (zan data) d t → ∀ X, H1 <+: X → K (.tup [.snil, .bool false]) X)
  (h2 : ∀ out, DaPart (zan data) d t (p + 1) 0 out → out.length ≤ 500 → Kb18 (zgR (.sl (data.map Dat.cs) .none) (.int .i64 d) (.ptr id 0) (.ov H1.length out.length) (.int .i64 (p + 1 : Nat))) (NV H1 out)) :
  zop (.sl (data.map Dat.cs) .none) (.int .i64 d) (.ptr id 0) (.ov H1.length out0.length) (.int .i64 p) (.sl (IT.css rest) .none) (.int .i64 nc) (.int .i64 0) (NV H1 out0) K Kb18 := by
 have hidl := (List.getElem?_eq_some_iff.1 hid).1
 refine zFZ (Inv := fun qq t13 t87 H' => ∃ (c : Nat) (out : List IT), c ≤ nc ∧ qq = nc - c ∧ t87 = .int .i64 c ∧ t13 = .ov H1.length out.length ∧ H' = NV H1 out ∧ DaPart (zan data) d t p c out ∧ out.length ≤ 500) nc ?_ ?_
 ·intro _; exact ⟨0, out0, by omega, by omega, rfl, rfl, rfl, h0, hout⟩
 ·rintro qq t13 t87 H' ⟨c, out, hc, rfl, rfl, rfl, rfl, hda, hol⟩ hsc hlen hsF Kb hKb
  have hid0 : (NV H1 out)[id]? = some (.cells t.cs) := by rw [NV, List.getElem?_append_left hidl]; exact hid
  by_cases hlt : c < nc
  ·obtain ⟨x, y, z, hvx, hx, hy, hz⟩ := zaX t
   simp only [zoi]
   simp [hlt, hid0, hvx, hx, hy, hz]
   rw [← hvx]
   refine zvV data hk t ht c _ _ ?_
   cases hps : zan data t c with
   | none =>
    simp [zbL, zjA, zoo]
    rw [zam (by omega) (by omega)]
    refine hKb _ _ ⟨nc - (c + 1), by omega, Back.at (J := []) (H2 := NV H1 out) (by simp) (by simp) hsc ?_ ⟨_, _, rfl, c + 1, out, by omega, rfl, by simp, rfl, rfl, hda.skip hps, hol⟩⟩
    simpa [zfq, AV.sc, AV.scV, AV.scA, AV.scB] using hsF
   | some ps =>
    simp [zbL]
    refine hPr c ps hps _ _ fun o ho => ?_
    cases o with
    | none =>
     have ho : WitA (zan data) p ps := ho
     have hw : WitV (zan data) d t := (zur h5 hps ho).mono (by omega)
     simp [prR, zai]
     exact ⟨⟨rfl, rfl⟩, h1 hw _ ⟨_, rfl⟩⟩
    | some rows =>
     obtain ⟨hset, hrows⟩ := ho
     have hstep := hda.step h5 hp hps hset hrest
     have hmul : rows.length * rest.length ≤ 500 * 500 := Nat.mul_le_mul hrows hrl
     simp [prR, zai, zb6]
     have hmi : (rows.length : Int) * (rest.length : Int) = ((rows.length * rest.length : Nat) : Int) := by simp
     rw [hmi]
     have hsl : (out ++ zbp c rows rest).length = out.length + rows.length * rest.length := by rw [List.length_append, ztF]
     generalize hm : rows.length * rest.length = m at *
     have hw1 : IntKind.i64.wrap (m : Int) = m := zam (by omega) (by omega)
     rw [hw1, zam (by omega) (by omega)]
     refine zfJ (fun hb => ?_) (fun hb => ?_)
     ·simp at hb
      exact ⟨⟨rfl, rfl⟩, h1 (hstep.wit h5 (by omega)) _ ⟨_, rfl⟩⟩
     ·simp at hb
      refine zzz H1 hs1 out c (by omega) rows rest (by omega) hrows hrl (fun x hx => by have := zzt h5 hrest x hx; omega) ?_
      refine hKb _ _ ⟨nc - (c + 1), by omega, Back.at (J := []) (H2 := NV H1 (out ++ zbp c rows rest)) (by simp) (by simp) (zeG hs1) ?_ ⟨_, _, rfl, c + 1, out ++ zbp c rows rest, by omega, rfl, rfl, rfl, rfl, hstep, by omega⟩⟩
      simp only [zeb] at hsF ⊢
      simpa [zfq, AV.sc, AV.scV, AV.scA, AV.scB] using hsF
  ·obtain rfl : c = nc := by omega
   simp only [zoi]
   simp
   rw [zam (by omega) (by omega)]
   exact h2 out (hda.next fun c ps h => hP c ps h) hol
def SlR (H' : zaa) (lo : Nat) (x : AV) (l : List IT) : Prop :=
 (l = [] ∧ x = .snil) ∨ (l.length = 1 ∧ x = .sl (IT.css l) .full) ∨ ∃ b, lo ≤ b ∧ x = .ov b l.length ∧ H'[b]? = some (.vec zak 2 l.length (l.flatMap IT.cs))
def ExR (H' : zaa) (lo : Nat) (r : AV) : Option (List IT) → Prop
 | none => ∃ x, x.isV = true ∧ r = .tup [x, .bool false]
 | some l => ∃ x, r = .tup [x, .bool true] ∧ SlR H' lo x l
def ExO (data : List Dat) (d : Nat) (t : VT) : Prop := ∀ (H : zaa) (K : Kt), (∀ o r H', zk6 (zan data) d t o → H <+: H' → ExR H' H.length r o → K r H') → ACalls tP ze0 [.sl (data.map Dat.cs) .none, .agg t.cs, .int .i64 d] H K
theorem zzx (data : List Dat) (hk : zaP data) (H1 : zaa) (hs1 : HSc H1) (id : Nat) (t : VT) (ht : t.nodes ≤ 1000) (h5 : t.kind = 5) (hn0 : 0 ≤ t.num) (hn1 : t.num.toNat < data.length) (hid : H1[id]? = some (.cells t.cs)) (d : Nat) (hd0 : 0 < d) (hd : d ≤ 6)
  (hPr : ∀ p, p < d → ∀ (c : Nat) ps, zan data t c = some ps → PrC data p ps) (hEx : ∀ p, p < d → ExC data p t) {K : Kt}
  (h1 : WitV (zan data) d t → ∀ X, H1 <+: X → K (.tup [.snil, .bool false]) X)
  (h2 : ∀ out, SetOf (fun v => dV (zan data) v t) d out → out.length ≤ 500 → K (.tup [.ov H1.length out.length, .bool true]) (NV H1 out)) :
  zgT (.sl (data.map Dat.cs) .none) (.int .i64 d) (.ptr id 0) .snil (.int .i64 0) H1 K := by
 have hidl := (List.getElem?_eq_some_iff.1 hid).1
 have hP : ∀ c ps, zan data t c = some ps → 0 ≤ c ∧ c < ncF data t := fun c ps h => zc7 h
 unfold zgT
 refine ALoop.vec 13 zak 2 rfl ?_
 show zgT (.sl (data.map Dat.cs) .none) (.int .i64 d) (.ptr id 0) (.ov H1.length 0) (.int .i64 0) (NV H1 []) K
 refine zFY (Inv := fun qq t13 t14 H' => ∃ (p : Nat) (out : List IT), p ≤ d ∧ qq = d - p ∧ t14 = .int .i64 p ∧ t13 = .ov H1.length out.length ∧ H' = NV H1 out ∧ DaPart (zan data) d t p 0 out ∧ out.length ≤ 500) d ?_ ?_
 ·intro _; exact ⟨0, [], by omega, by omega, rfl, rfl, rfl, DaPart.start d t fun c ps h => (hP c ps h).1, by simp⟩
 ·rintro qq t13 t14 H' ⟨p, out, hp, rfl, rfl, rfl, rfl, hda, hol⟩ hsc hlen hsF Kb hKb
  have hid0 : (NV H1 out)[id]? = some (.cells t.cs) := by rw [NV, List.getElem?_append_left hidl]; exact hid
  by_cases hlt : p < d
  ·obtain ⟨k, n, ks⟩ := t
   have hn1' : n.toNat < data.length := hn1
   have hn0' : 0 ≤ n := hn0
   have hnl : n < (data.length : Int) := by omega
   have hnc : ncF data (.mk k n ks) = data[n.toNat].cons.length := by simp [ncF, VT.num, hn1']
   have hncb : data[n.toNat].cons.length ≤ 20 := by
    have := (hk.2 _ (List.getElem_mem hn1')).2.1; omega
   simp only [zoh]
   simp [hlt, hid0, VT.cs]
   have hw1 : IntKind.i64.wrap ((d : Int) - 1) = (d : Int) - 1 := zam (by omega) (by omega)
   rw [hw1, zam (by omega) (by omega), show (d : Int) - 1 - p = ((d - 1 - p : Nat) : Int) by omega]
   refine hEx (d - 1 - p) (by omega) _ _ fun o ho => ?_
   cases o with
   | none =>
    have ho : WitV (zan data) (d - 1 - p) (.mk k n ks) := ho
    simp [exR]
    exact ⟨⟨rfl, rfl⟩, h1 (ho.mono (by omega)) _ ⟨_, rfl⟩⟩
   | some rest =>
    obtain ⟨hset, hrl⟩ := ho
    simp [exR, hid0, VT.cs, hn0', hnl, hn1', Dat.cs]
    refine zzy data hk H1 hs1 id (.mk k n ks) ht h5 hid hd p hlt data[n.toNat].cons.length (by omega) (fun c ps h => by rw [← hnc]; exact hP c ps h) out rest (fun c ps h => hPr p hlt c ps h) hset hrl hda hol h1 (fun out2 hd2 ho2 => ?_)
    refine hKb _ _ ⟨d - (p + 1), by omega, Back.at (J := []) (H2 := NV H1 out2) (by simp) (by simp) (zeG hs1) ?_ ⟨_, _, rfl, p + 1, out2, by omega, rfl, rfl, rfl, rfl, hd2, ho2⟩⟩
    simp only [zeb] at hsF ⊢
    simpa [zgR, AV.sc, AV.scV, AV.scA, AV.scB] using hsF
  ·obtain rfl : p = d := by omega
   simp only [zoh]
   simp
   exact ⟨⟨rfl, rfl⟩, h2 out (hda.fin h5 hd0 fun c ps h => (hP c ps h).1) hol⟩
def zaR (l : List (List IT)) : List (List AV) := l.map fun r => [.sl (IT.css r) .none]
def NP (H : zaa) (n : Nat) : zaa := H ++ [.perm za1 1 n]
@[simp] theorem zho (H : zaa) (n : Nat) : (NP H n).length = H.length + 1 := by simp [NP]
theorem zk9 {H : zaa} {n : Nat} (h : HSc H) : HSc (NP H n) := h.append (by simp [AB.sc])
theorem zyL {H J : zaa} {out : List (List IT)} {x : List IT} (hb : out.length ≤ 1000000) {K : Kt} (hK : K (.sl (zaR (out ++ [x])) (.own H.length)) (NP H (out ++ [x]).length ++ J)) : zat za1 1 24 (.sl (zaR out) (.own H.length)) (.sl [[.sl (IT.css x) .none]] .full) (NP H out.length ++ J) K := by
 have hg : (NP H out.length ++ J)[H.length]? = some (.perm za1 1 out.length) := by simp [NP]
 have hl : (zaR out).length = out.length := by simp [zaR]
 have hs : (NP H out.length ++ J).set H.length (.perm za1 1 (out.length + 1)) = NP H (out ++ [x]).length ++ J := by simp [NP, List.set_append_right]
 simp only [zat, zaI, zaE, hg, hl]
 refine ⟨by simp, trivial, ⟨by simp; omega, by simp; omega⟩, ?_⟩
 simp only [List.length_cons, List.length_nil]
 rw [hs]
 simpa [zaR] using hK
theorem zAX {t0 t1 t2 t9 t65 t66 t67 : AV} {q : Int} {K : Kt} {Kb7 Kb17 : Lt} (H1 : zaa) (hs1 : HSc H1) (out : List (List IT)) (f : IT) (rest : List (List IT)) (hn : out.length + rest.length ≤ 100000) (hrow : ∀ r ∈ rest, r.length ≤ 100000) (hq : -1000000 ≤ q ∧ q ≤ 1000000) (h67 : t67 = .int .i64 q)
  (hpost : Kb17 (zg7 t0 t1 t2 (.sl (zaR (out ++ rest.map (f :: ·))) (.own H1.length)) t9 (.sl (zaR rest) .none) t65 t66 (.int .i64 (q + 1))) (NP H1 (out ++ rest.map (f :: ·)).length ++ [.cells f.cs])) :
  zpv t0 t1 t2 (.sl (zaR out) (.own H1.length)) t9 (.sl (zaR rest) .none) (.ptr (H1.length + 1) 0) t65 t66 t67 (.sl (zaR rest) .none) (.int .i64 rest.length) (.int .i64 0) (NP H1 out.length ++ [.cells f.cs]) K Kb7 Kb17 := by
 subst h67
 refine zH3 (Inv := fun qq t8 t73 H' => ∃ i : Nat, i ≤ rest.length ∧ qq = rest.length - i ∧ t73 = .int .i64 i ∧ t8 = .sl (zaR (out ++ (rest.take i).map (f :: ·))) (.own H1.length) ∧ H' = NP H1 (out ++ (rest.take i).map (f :: ·)).length ++ [.cells f.cs]) rest.length ?_ ?_
 ·intro _; exact ⟨0, by omega, by omega, rfl, by simp, by simp⟩
 ·rintro qq t8 t73 H' ⟨i, hi, rfl, rfl, rfl, rfl⟩ hsc hlen hsF Kb hKb
  by_cases hlt : i < rest.length
  ·have hnx : out ++ (rest.take (i + 1)).map (f :: ·) = (out ++ (rest.take i).map (f :: ·)) ++ [f :: rest[i]] := by
    rw [List.take_succ_eq_append_getElem hlt, List.map_append, List.append_assoc]; rfl
   have hlb : (out ++ (rest.take i).map (f :: ·)).length ≤ 100000 := by
    simp only [List.length_append, List.length_map, List.length_take]; omega
   generalize out ++ (rest.take i).map (f :: ·) = M at *
   have hfin : ∀ J, Kb (zfw t0 t1 t2 (.sl (zaR (M ++ [f :: rest[i]])) (.own H1.length)) t9 (.sl (zaR rest) .none) (.ptr (H1.length + 1) 0) t65 t66 (.int .i64 q) (.sl (zaR rest) .none) (.int .i64 rest.length) (.int .i64 (i + 1))) (NP H1 (M ++ [f :: rest[i]]).length ++ (AB.cells f.cs :: J)) := by
    intro J
    refine hKb _ _ ⟨rest.length - (i + 1), by omega, Back.at (J := J) (H2 := NP H1 (M ++ [f :: rest[i]]).length ++ [.cells f.cs]) (by simp) (by simp) ((zk9 hs1).append (by simp [AB.sc])) ?_ ⟨_, _, rfl, i + 1, by omega, rfl, by simp, by rw [hnx], by rw [hnx]⟩⟩
    simp only [zho, List.length_append] at hsF ⊢
    simpa [zfw, AV.sc, AV.scV, AV.scA, AV.scB] using hsF
   have key : ∀ J, zat za1 1 24 (.sl (zaR M) (.own H1.length)) (.sl [[.sl (IT.css (f :: rest[i])) .none]] .full) (NP H1 M.length ++ (AB.cells f.cs :: J)) (fun t83 H => Kb (zfw t0 t1 t2 t83 t9 (.sl (zaR rest) .none) (.ptr (H1.length + 1) 0) t65 t66 (.int .i64 q) (.sl (zaR rest) .none) (.int .i64 rest.length) (.int .i64 (i + 1))) H) := fun J => zyL (by omega) (hfin J)
   have hrl : (zaR rest).length = rest.length := by simp [zaR]
   have hrg : (zaR rest)[i]? = some [.sl (IT.css rest[i]) .none] := by simp [zaR, hlt]
   have hp : ∀ J, (NP H1 M.length ++ AB.cells f.cs :: J)[H1.length + 1]? = some (.cells f.cs) := fun J => by rw [← zho H1 M.length]; simp
   obtain ⟨x, y, hvx, hx, hy⟩ := zbE f
   simp only [zpo]
   simp [hlt, hp, zaR, hvx, hx, hy]
   rw [← hvx, zdK, zam (by omega) (by omega)]
   refine zro f rest[i] (by have := hrow _ (List.getElem_mem hlt); omega) _ _ (fun h0 => ?_) (fun h1 => ?_)
   ·simp [zay, za8, plain, AV.pd]
    have := key []
    rw [h0] at this
    simpa [zaR, IT.css] using this
   ·simp [zay, za8, plain, AV.pd]
    have := key [.perm zak 2 (1 + rest[i].length)]
    simpa [zaR] using this
  ·obtain rfl : i = rest.length := by omega
   rw [List.take_length] at *
   simp only [zpo]
   simp
   rw [zam (by omega) (by omega)]
   simpa using hpost
theorem zAW {t0 t1 t2 : AV} {K : Kt} {Kb7 : Lt} (H1 : zaa) (hs1 : HSc H1) (out : List (List IT)) (k : Nat) (hk : k ≤ 1000) (first : List IT) (rest : List (List IT)) (hn : out.length + first.length * rest.length ≤ 500) (hfl : first.length ≤ 500) (hrl : rest.length ≤ 500) (hrow : ∀ r ∈ rest, r.length ≤ 100000)
  (hpost : Kb7 (zfx t0 t1 t2 (.sl (zaR (out ++ zbt first rest)) (.own H1.length)) (.int .i64 (k + 1 : Nat))) (NP H1 (out ++ zbt first rest).length)) :
  zpu t0 t1 t2 (.sl (zaR out) (.own H1.length)) (.int .i64 k) (.sl (zaR rest) .none) (.sl (IT.css first) .none) (.int .i64 first.length) (.int .i64 0) (NP H1 out.length) K Kb7 := by
 refine zH2 (Inv := fun qq t8 t67 H' => ∃ i : Nat, i ≤ first.length ∧ qq = first.length - i ∧ t67 = .int .i64 i ∧ t8 = .sl (zaR (out ++ zbt (first.take i) rest)) (.own H1.length) ∧ H' = NP H1 (out ++ zbt (first.take i) rest).length) first.length ?_ ?_
 ·intro _; exact ⟨0, by omega, by omega, rfl, by simp [zbt], by simp [zbt]⟩
 ·rintro qq t8 t67 H' ⟨i, hi, rfl, rfl, rfl, rfl⟩ hsc hlen hsF Kb hKb
  by_cases hlt : i < first.length
  ·have hnx : out ++ zbt (first.take (i + 1)) rest = (out ++ zbt (first.take i) rest) ++ rest.map (first[i] :: ·) := by
    rw [List.take_succ_eq_append_getElem hlt, zbt, List.flatMap_append, ← List.append_assoc]; simp [zbt]
   have hm : (first.take i).length * rest.length ≤ first.length * rest.length := Nat.mul_le_mul_right _ (by simp; omega)
   have hlb : (out ++ zbt (first.take i) rest).length ≤ 500 := by
    rw [List.length_append, ztg]; omega
   generalize out ++ zbt (first.take i) rest = M at *
   obtain ⟨x, y, hvx, hx, hy⟩ := zbE first[i]
   have hrl2 : (zaR rest).length = rest.length := by simp [zaR]
   simp only [zpn]
   simp [hlt, hvx, hx, hy, hrl2]
   rw [← hvx]
   refine zAX (q := (i : Int)) H1 hs1 M first[i] rest (by omega) hrow (by omega) rfl ?_
   rw [← hnx]
   refine hKb _ _ ⟨first.length - (i + 1), by omega, Back.at (J := [.cells (first[i]).cs]) (H2 := NP H1 (out ++ zbt (first.take (i + 1)) rest).length) rfl (by simp) (zk9 hs1) ?_ ⟨_, _, rfl, i + 1, by omega, rfl, by simp, rfl, rfl⟩⟩
   simp only [zho] at hsF ⊢
   simpa [zg7, AV.sc, AV.scV, AV.scA, AV.scB] using hsF
  ·obtain rfl : i = first.length := by omega
   rw [List.take_length] at *
   simp only [zpn]
   simp [zkc, zpt]
   rw [zam (by omega) (by omega)]
   simpa using hpost
theorem zAT {P : VT → Int → Option (List VT)} {k : Nat} {ts : List VT} {l : List (List IT)} (h : SetOf (fun v => dA P v ts) k l) : ∀ r ∈ l, r.length = ts.length := fun r hr => zdM ((h.mem r).1 hr)
theorem zth (data : List Dat) (d : Nat) (hd : d ≤ 6) (t : VT) (ts : List VT) (htl : ts.length ≤ 100000) (hEx : ∀ k, k ≤ d → ExC data k t) (hPr : ∀ k, k ≤ d → PrC data k ts) : PrC data d (t :: ts) := by
 intro H K hK
 refine ACalls.out (zwD fun hs => ?_)
 have hfail : WitA (zan data) d (t :: ts) → ∀ J, Out H.length K (.tup [.snil, .bool false]) (H ++ J) := fun hw J => Out.tup hs (hK none hw) ⟨zaC rfl rfl, zaC rfl rfl, trivial⟩
 have hl0 : (VT.css (t :: ts)).length = ts.length + 1 := by simp [VT.css_map]
 simp [zkb, hl0]
 have hne : ¬ ((ts.length : Int) + 1 = 0) := by omega
 have hne2 : ((ts.length : Int) + 1 == 0) = false := by simpa using hne
 simp only [hne2, zcq]
 unfold zkd
 refine ALoop.own 8 za1 1 rfl ?_
 show zkd (.sl (data.map Dat.cs) .none) (.sl (VT.css (t :: ts)) .none) (.int .i64 d) (.sl (zaR []) (.own H.length)) (.int .i64 0) (NP H 0) (Out H.length K)
 refine zH4 (Inv := fun qq t8 t9 H' => ∃ (k : Nat) (out : List (List IT)), k ≤ d + 1 ∧ qq = d + 1 - k ∧ t9 = .int .i64 k ∧ t8 = .sl (zaR out) (.own H.length) ∧ H' = NP H out.length ∧ PrPart (zan data) d t ts k out ∧ out.length ≤ 500) (d + 1) ?_ ?_
 ·intro _; exact ⟨0, [], by omega, by omega, rfl, rfl, rfl, PrPart.start d t ts, by simp⟩
 ·rintro qq t8 t9 H' ⟨k, out, hk, rfl, rfl, rfl, rfl, hpp, hol⟩ hsc hlen hsF Kb hKb
  have hnp : ∀ n, NP H n = H ++ [.perm za1 1 n] := fun n => rfl
  by_cases hlt : k < d + 1
  ·have hkd : (k : Int) ≤ d := by omega
   obtain ⟨x, y, z, hvx, hx, hy, hz⟩ := zaX t
   have hc0 : VT.css (t :: ts) = t.cs :: VT.css ts := by simp [VT.css_map]
   have hback : ∀ out2 : List (List IT), PrPart (zan data) d t ts (k + 1) out2 → out2.length ≤ 500 → Kb (zfx (.sl (data.map Dat.cs) .none) (.sl (VT.css (t :: ts)) .none) (.int .i64 d) (.sl (zaR out2) (.own H.length)) (.int .i64 (k + 1 : Nat))) (NP H out2.length) := fun out2 h1 h2 => by
    refine hKb _ _ ⟨d + 1 - (k + 1), by omega, Back.at (J := []) (H2 := NP H out2.length) (by simp) (by simp) (zk9 hs) ?_ ⟨_, _, rfl, k + 1, out2, by omega, rfl, rfl, rfl, rfl, h1, h2⟩⟩
    simp only [zho]
    simp [zfx, AV.sc, AV.scV, AV.scA, AV.scB]
   simp only [zpp]
   simp [hkd, hc0, hvx, hx, hy, hz]
   rw [← hvx]
   refine hEx k (by omega) _ _ fun o ho => ?_
   cases o with
   | none =>
    simp [exR]
    exact ⟨⟨rfl, rfl⟩, hfail (zCF ho (by omega)) _⟩
   | some first =>
    obtain ⟨hset, hfl⟩ := ho
    simp [exR, css_len]
    by_cases hf0 : first.length = 0
    ·have hf : first = [] := List.length_eq_zero_iff.1 hf0
     subst hf
     simp [zkc, zpt]
     rw [zam (by omega) (by omega)]
     have := hback out (hpp.skip hset) hol
     rw [hc0] at this
     simpa using this
    ·have hfi : ((first.length : Int) == 0) = false := by simpa using hf0
     simp only [hfi, zcq]
     have htk : List.take ts.length (VT.css ts) = VT.css ts := List.take_of_length_le (by simp [VT.css_map])
     have h3 : ∀ a ∈ VT.css ts, a.length = 3 := fun a ha => by
      rw [VT.css_map] at ha
      obtain ⟨x, _, rfl⟩ := List.mem_map.1 ha
      simp
     rw [htk, zam (by omega) (by omega), show (d : Int) - k = ((d - k : Nat) : Int) by omega]
     refine ⟨h3, hPr (d - k) (by omega) _ _ fun o ho => ?_⟩
     obtain ⟨f0, hf0m⟩ : ∃ f, f ∈ first := by
      cases first with
      | nil => exact absurd rfl hf0
      | cons f _ => exact ⟨f, by simp⟩
     have hf0d := (hset.mem f0).1 hf0m
     cases o with
     | none =>
      have ho : WitA (zan data) (d - k) ts := ho
      simp [prR, zai]
      exact ⟨⟨rfl, rfl⟩, hfail (zCG hf0d (by omega) ho) _⟩
     | some rest =>
      obtain ⟨hset2, hrl⟩ := ho
      have hstep := hpp.step (by omega) hset hset2
      have hmul : first.length * rest.length ≤ 500 * 500 := Nat.mul_le_mul hfl hrl
      have hmi : (first.length : Int) * (rest.length : Int) = ((first.length * rest.length : Nat) : Int) := by simp
      have hsl : (out ++ zbt first rest).length = out.length + first.length * rest.length := by rw [List.length_append, ztg]
      have hol2 : (zaR out).length = out.length := by simp [zaR]
      simp [prR, zai, zb6, css_len, hol2]
      rw [hmi]
      generalize hm : first.length * rest.length = m at *
      have hw1 : IntKind.i64.wrap (m : Int) = m := zam (by omega) (by omega)
      rw [hw1, zam (by omega) (by omega)]
      refine zfJ (fun hb => ?_) (fun hb => ?_)
      ·simp at hb
       exact ⟨⟨rfl, rfl⟩, hfail (hstep.wit (by omega)) _⟩
      ·simp at hb
       refine zAW H hs out k (by omega) first rest (by omega) hfl hrl (fun r hr => by rw [zAT hset2 r hr]; omega) ?_
       have := hback _ hstep (by omega)
       rw [hc0] at this
       exact this
  ·obtain rfl : k = d + 1 := by omega
   have hkd : ¬ ((d : Int) + 1 ≤ d) := by omega
   simp only [zpp]
   simp [hkd]
   refine ⟨⟨rfl, rfl⟩, ?_⟩
   exact Out.tup hs (hK (some out) ⟨hpp.fin, hol⟩) ⟨slV, zaC rfl rfl, trivial⟩
theorem zti (data : List Dat) (d : Nat) : PrC data d [] := by
 intro H K hK
 refine ACalls.out (zwD fun hs => ?_)
 by_cases h0 : 0 < d
 ·have := hK (some []) ⟨zAR h0, by simp⟩
  simp [zkb, VT.css, h0]
  exact ⟨⟨rfl, rfl⟩, Out.tup0 hs this ⟨zdY, zaC rfl rfl, trivial⟩⟩
 ·obtain rfl : d = 0 := by omega
  have := hK (some [[]]) ⟨zAS, by simp⟩
  simp [zkb, VT.css, zay, za8, plain, AV.pd]
  exact ⟨⟨rfl, rfl⟩, Out.tup0 hs this ⟨slV, zaC rfl rfl, trivial⟩⟩
theorem ExR.out {data : List Dat} {H H' : zaa} {K : Kt} {r : AV} {o : Option (List IT)} (hs : HSc H) (hp : H <+: H') (h : ExR H' H.length r o) (hK : K (exR o) H) : zfE H.length K r H' := by
 obtain ⟨J, rfl⟩ := hp
 cases o with
 | none =>
  obtain ⟨x, _, rfl⟩ := h
  exact ⟨.tup [.unk, .bool false], H, J, rfl, Nat.le_refl _, hs, .tup ⟨.two (.one (.wk (.unk _) rfl rfl)), .two (.one (.wk (.atom (.refl _)) rfl rfl)), trivial⟩, hK⟩
 | some l =>
  obtain ⟨x, rfl, hx⟩ := h
  refine ⟨.tup [.sl (IT.css l) .none, .bool true], H, J, rfl, Nat.le_refl _, hs, .tup ⟨.two (.one ?_), .two (.one (.wk (.atom (.refl _)) rfl rfl)), trivial⟩, hK⟩
  rcases hx with ⟨rfl, rfl⟩ | ⟨_, rfl⟩ | ⟨b, hb, rfl, hg⟩
  ·exact .wk (.atom .snil) rfl rfl
  ·exact .wk (.atom (.sl _ _)) rfl rfl
  ·refine .vfz b zak 2 l.length _ _ hb hg ?_ (by simp [IT.css_map]) zfT
   rw [IT.css_map]; exact zmL l
theorem ExO.closed {data : List Dat} {d : Nat} {t : VT} (h : ExO data d t) : ExC data d t := fun H K hK => ACalls.out3 (ACalls.preSc fun hs => h H _ fun o r H' ho hp hr => ExR.out (data := data) hs hp hr (hK o ho))
theorem zzB {K : Kt} (H1 : zaa) (hs1 : HSc H1) (rows : List (List IT)) (hrl : rows.length ≤ 500) (hpost : K (.tup [.ov H1.length rows.length, .bool true]) (NV H1 (rows.map (IT.mk 0)))) :
  zgU (.bool true) .snil (zb6 rows) (.int .i64 rows.length) (.int .i64 0) H1 K := by
 unfold zgU
 refine ALoop.vec 10 zak 2 rfl ?_
 show zgU (.bool true) (.ov H1.length 0) (zb6 rows) (.int .i64 rows.length) (.int .i64 0) (NV H1 []) K
 refine zvw (Inv := fun qq t10 t40 H' => ∃ i : Nat, i ≤ rows.length ∧ qq = rows.length - i ∧ t40 = .int .i64 i ∧ t10 = .ov H1.length ((rows.take i).map (IT.mk 0)).length ∧ H' = NV H1 ((rows.take i).map (IT.mk 0))) rows.length ?_ ?_
 ·intro _; exact ⟨0, by omega, by omega, rfl, by simp, by simp⟩
 ·rintro qq t10 t40 H' ⟨i, hi, rfl, rfl, rfl, rfl⟩ hsc hlen hsF Kb hKb
  by_cases hlt : i < rows.length
  ·have hnx : (rows.take (i + 1)).map (IT.mk 0) = (rows.take i).map (IT.mk 0) ++ [IT.mk 0 rows[i]] := by
    rw [List.take_succ_eq_append_getElem hlt, List.map_append]; rfl
   have hlb : ((rows.take i).map (IT.mk 0)).length ≤ 500 := by
    simp only [List.length_map, List.length_take]; omega
   generalize (rows.take i).map (IT.mk 0) = M at *
   have hfin : Kb (zfs (.bool true) (.ov H1.length (M ++ [IT.mk 0 rows[i]]).length) (zb6 rows) (.int .i64 rows.length) (.int .i64 (i + 1))) (NV H1 (M ++ [IT.mk 0 rows[i]]) ++ []) := by
    refine hKb _ _ ⟨rows.length - (i + 1), by omega, Back.at (J := []) (H2 := NV H1 (M ++ [IT.mk 0 rows[i]])) rfl (by simp) (zeG hs1) ?_ ⟨_, _, rfl, i + 1, by omega, rfl, by simp, by rw [hnx], by rw [hnx]⟩⟩
    simp only [zeb] at hsF ⊢
    simp [zfs, zb6, AV.sc, AV.scV, AV.scA, AV.scB]
   have key : zat zak 2 32 (.ov H1.length M.length) (.sl [(IT.mk 0 rows[i]).cs] .full) (NV H1 M ++ []) (fun t48 H => Kb (zfs (.bool true) t48 (zb6 rows) (.int .i64 rows.length) (.int .i64 (i + 1))) H) := zrp (by omega) hfin
   simp only [zjz]
   simp [zb6, hlt]
   rw [zam (by omega) (by omega)]
   have hbc : zau [.int .i64 0, .snil] [(0, 1), (1, 1)] [(1, .sl (IT.css rows[i]) .none)] = fun k => k (.agg (IT.mk 0 rows[i]).cs) := by
    funext k; simp [zau, zaH, IT.cs]
   simp only [hbc, zdK]
   simpa [zb6] using key
  ·obtain rfl : i = rows.length := by omega
   rw [List.take_length] at *
   simp only [zjz]
   simp [zb6]
   exact ⟨⟨rfl, rfl⟩, by simpa using hpost⟩
theorem zF5 (data : List Dat) (hk : zaP data) (d : Nat) (hd : d ≤ 6) (t : VT) (ht : t.nodes ≤ 1000) (hnum : t.kind = 5 → 0 ≤ t.num ∧ t.num.toNat < data.length)
  (h6 : ∀ n ks, t = .mk 6 n ks → PrC data d ks) (hPr : ∀ p, p < d → ∀ (c : Nat) ps, zan data t c = some ps → PrC data p ps) (hEx : ∀ p, p < d → ExC data p t) : ExO data d t := by
 intro H K hK
 refine zF4 fun hs => ?_
 obtain ⟨k, n, ks⟩ := t
 have hs1 : HSc (H ++ [AB.cells [AV.int IntKind.i64 k, AV.int IntKind.i64 n, AV.sl (VT.css ks) Tok.none]]) := hs.append (by simp [AB.sc, AV.scA, AV.scB])
 simp [zvs, VT.cs]
 by_cases hk6 : k = 6
 ·subst hk6
  simp
  refine h6 n ks rfl _ _ fun o ho => ?_
  cases o with
  | none =>
   simp [prR]
   refine zvw (Inv := fun qq t10 t40 H' => t10 = .snil ∧ t40 = .int .i64 0 ∧ H <+: H') 1 (fun _ => ⟨rfl, rfl, _, rfl⟩) ?_
   rintro qq t10 t40 H' ⟨rfl, rfl, hp⟩ _ _ _ Kb _
   simp only [zjz]
   simp
   exact ⟨⟨rfl, rfl⟩, hK none _ _ (zCI ho) hp ⟨_, rfl, rfl⟩⟩
  | some rows =>
   simp [prR, zb6]
   refine zzB _ hs1 rows ho.2 ?_
   refine hK (some (rows.map (IT.mk 0))) _ _ ⟨zzw ho.1, by simpa using ho.2⟩ ⟨_, by simp [NV]; rfl⟩ ⟨_, rfl, .inr (.inr ⟨H.length + 1, by omega, by simp, by simp [NV]⟩)⟩
 ·have hb6 : (k == 6) = false := by simpa using hk6
  simp only [hb6, zcq]
  by_cases hk7 : k = 7
  ·subst hk7
   simp [zau, zaH, zay, za8, plain, AV.pd]
   exact ⟨⟨rfl, rfl⟩, hK (some [.mk (d : Int) []]) _ _ ⟨zzr d n ks, by simp⟩ ⟨_, rfl⟩ ⟨_, rfl, .inr (.inl ⟨rfl, rfl⟩)⟩⟩
  ·have hb7 : (k == 7) = false := by simpa using hk7
   simp only [hb7, zcq]
   by_cases hk5 : k = 5
   ·subst hk5
    simp
    by_cases hd0 : d = 0
    ·subst hd0
     simp [zau, zaH, zay, za8, plain, AV.pd]
     exact ⟨⟨rfl, rfl⟩, hK (some [.mk 0 []]) _ _ ⟨zzs rfl, by simp⟩ ⟨_, rfl⟩ ⟨_, rfl, .inr (.inl ⟨rfl, rfl⟩)⟩⟩
    ·have hdb : ((d : Int) == 0) = false := by simpa using hd0
     simp only [hdb, zcq]
     obtain ⟨hn0, hn1⟩ := hnum rfl
     refine zzx data hk _ hs1 H.length (.mk 5 n ks) ht rfl hn0 hn1 (by simp [VT.cs]) d (by omega) hd hPr hEx (fun hw X hp => hK none _ _ hw (List.IsPrefix.trans ⟨_, rfl⟩ hp) ⟨_, rfl, rfl⟩) (fun out hset hol => ?_)
     refine hK (some out) _ _ ⟨hset, hol⟩ ⟨_, by simp [NV]; rfl⟩ ⟨_, rfl, .inr (.inr ⟨H.length + 1, by omega, by simp, by simp [NV]⟩)⟩
   ·have hb5 : (k == 5) = false := by simpa using hk5
    simp only [hb5, zcq]
    by_cases hd0 : 0 < d
    ·simp [hd0]
     exact ⟨⟨rfl, rfl⟩, hK (some []) _ _ ⟨zzu (t := .mk k n ks) hk6 hk7 hk5 hd0, by simp⟩ ⟨_, rfl⟩ ⟨_, rfl, .inl ⟨rfl, rfl⟩⟩⟩
    ·obtain rfl : d = 0 := by omega
     simp [zau, zaH, zay, za8, plain, AV.pd]
     exact ⟨⟨rfl, rfl⟩, hK (some [.mk 0 []]) _ _ ⟨zzv (t := .mk k n ks) hk6 hk7 hk5, by simp⟩ ⟨_, rfl⟩ ⟨_, rfl, .inr (.inl ⟨rfl, rfl⟩)⟩⟩
theorem zA1 {data : List Dat} (hk : zaP data) {Gd : VT → Prop} (hG : GdOk data Gd) : ∀ d, d ≤ 6 → (∀ t, Gd t → ExO data d t) ∧ (∀ ts : List VT, ts.length ≤ 100000 → (∀ t ∈ ts, Gd t) → PrC data d ts) := by
 intro d
 induction d using Nat.strongRecOn with
 | ind d ihd =>
  intro hd
  have main : ∀ m, (∀ t : VT, t.nodes ≤ m → Gd t → ExO data d t) := by
   intro m
   induction m with
   | zero => intro t h; have := t.nodes_pos; omega
   | succ m ih =>
    intro t hm hg
    refine zF5 data hk d hd t (hG.nodes _ hg) (fun h => hG.num _ hg h) (fun n ks e => ?_) (fun p hp c ps h => (ihd p hp (by omega)).2 ps (by have := zs1 hk h; omega) (hG.pay _ _ _ hg h)) (fun p hp => ((ihd p hp (by omega)).1 t hg).closed)
    subst e
    have hnn : (VT.mk 6 n ks).nodes = VT.nodesL ks + 1 := by simp [VT.nodes]
    have hgk := hG.kids _ _ _ hg
    have hall : ∀ ts : List VT, ts.length ≤ 100000 → VT.nodesL ts ≤ m → (∀ x ∈ ts, Gd x) → PrC data d ts := by
     intro ts
     induction ts with
     | nil => intro _ _ _; exact zti data d
     | cons u us ihl =>
      intro hl hmm hgu
      simp only [VT.nodesL, List.length_cons] at hmm hl
      refine zth data d hd u us (by omega) (fun k hk2 => ?_) (fun k hk2 => ?_)
      ·by_cases hkd : k = d
       ·subst hkd; exact (ih u (by omega) (hgu u (by simp))).closed
       ·exact ((ihd k (by omega) (by omega)).1 u (hgu u (by simp))).closed
      ·by_cases hkd : k = d
       ·subst hkd; exact ihl (by omega) (by omega) fun x hx => hgu x (by simp [hx])
       ·exact (ihd k (by omega) (by omega)).2 us (by omega) fun x hx => hgu x (by simp [hx])
    refine hall ks ?_ (by omega) hgk
    have := VT.len_le ks
    have := hG.nodes _ hg
    omega
  refine ⟨fun t hg => main _ t (Nat.le_refl _) hg, ?_⟩
  intro ts
  induction ts with
  | nil => intro _ _; exact zti data d
  | cons u us ihl =>
   intro hl hgu
   simp only [List.length_cons] at hl
   refine zth data d hd u us (by omega) (fun k hk2 => ?_) (fun k hk2 => ?_)
   ·by_cases hkd : k = d
    ·subst hkd; exact (main _ u (Nat.le_refl _) (hgu u (by simp))).closed
    ·exact ((ihd k (by omega) (by omega)).1 u (hgu u (by simp))).closed
   ·by_cases hkd : k = d
    ·subst hkd; exact ihl (by omega) fun x hx => hgu x (by simp [hx])
    ·exact (ihd k (by omega) (by omega)).2 us (by omega) fun x hx => hgu x (by simp [hx])
abbrev nlt (a b : IT) : Prop := ¬ IT.cmp b a < 0
theorem zAp {x y z : IT} (h1 : nlt x y) (h2 : nlt y z) : nlt x z := by
 have := IT.cmp_tri x y z
 have a1 := IT.cmp_anti x y
 have a2 := IT.cmp_anti y z
 have a3 := IT.cmp_anti x z
 unfold Tri at this
 unfold nlt at *
 omega
theorem zlJ (a b : List IT) : (a ++ b).flatMap IT.cs = a.flatMap IT.cs ++ b.flatMap IT.cs := by simp
theorem zlL {A B : List IT} {e : IT} : ((A ++ e :: B).flatMap IT.cs).drop (A.length * 2) = e.cs ++ B.flatMap IT.cs := by
 rw [zlJ, List.drop_append_of_le_length (by rw [zcs]; omega), List.drop_of_length_le (by rw [zcs]; omega), List.flatMap_cons, List.nil_append]
theorem zt1 (e : IT) (l : List AV) : (e.cs ++ l).take 2 = e.cs := by
 obtain ⟨x, y, h, _, _⟩ := zbE e
 rw [h]; rfl
theorem zr5 {A B : List IT} {e x : IT} : ((A ++ e :: B).flatMap IT.cs).take (A.length * 2) ++ x.cs ++ ((A ++ e :: B).flatMap IT.cs).drop (A.length * 2 + 2) = (A ++ x :: B).flatMap IT.cs := by
 have h1 : ((A ++ e :: B).flatMap IT.cs).take (A.length * 2) = A.flatMap IT.cs := by
  rw [zlJ, List.take_append_of_le_length (by rw [zcs]; omega), List.take_of_length_le (by rw [zcs]; omega)]
 have h2 : ((A ++ e :: B).flatMap IT.cs).drop (A.length * 2 + 2) = B.flatMap IT.cs := by
  rw [← List.drop_drop, zlL]
  obtain ⟨a, b, h, _, _⟩ := zbE e
  rw [h]; rfl
 rw [h1, h2, zlJ, List.flatMap_cons, List.append_assoc]
theorem zGa {H : zaa} {id : Nat} {l : List IT} (hb : H[id]? = some (.vec zak 2 l.length (l.flatMap IT.cs))) (hs0 : HSc H) (hn : l.length ≤ 1000000) (hnod : l.Nodup) (hnd : ∀ x ∈ l, x.nodes ≤ 1000000) (K : Kt)
  (hK : K (.tup []) (H.set id (.vec zak 2 l.length ((zaW l).flatMap IT.cs)))) : ACalls tP zgg [.ov id l.length] H K := by
 refine zvG fun hs => ?_
 have hidl := (List.getElem?_eq_some_iff.1 hb).1
 have hscv : ∀ m : List IT, HSc (H.set id (.vec zak 2 l.length (m.flatMap IT.cs))) := fun m => hs0.set (by simp only [AB.sc, List.all_flatMap, zco]; simp)
 simp only [zos]
 refine zvE (Inv := fun q t2 H' => ∃ (x : Nat) (rs : List IT), 1 ≤ x ∧ q = l.length + 1 - x ∧ (x ≤ l.length ∨ x = 1) ∧ t2 = .int .i64 x ∧ H' = H.set id (.vec zak 2 l.length (rs.flatMap IT.cs)) ∧ rs.Perm l ∧ (rs.take x).Pairwise nlt) l.length ?_ ?_
 ·intro _
  refine ⟨1, l, by omega, by omega, by omega, rfl, (ztH hb).symm, List.Perm.refl _, ?_⟩
  cases l <;> simp
 ·rintro q t2 H' ⟨x, rs, hx1, rfl, hxn, rfl, rfl, hp, hso⟩ hsc hlen' hsF Kb hKb
  have hrl : rs.length = l.length := hp.length_eq
  by_cases hlt : x < l.length
  ·simp only [zjB]
   simp [hlt]
   have hA0 : rs = rs.take x ++ rs[x]'(by omega) :: ([] ++ rs.drop (x + 1)) := by
    rw [List.nil_append, ← List.drop_eq_getElem_cons (by omega), List.take_append_drop]
   refine zF8 (Inv := fun q t3 H' => ∃ (A : List IT) (e : IT) (B C : List IT), q = A.length + 1 ∧ t3 = .int .i64 A.length ∧ H' = H.set id (.vec zak 2 l.length ((A ++ e :: (B ++ C)).flatMap IT.cs)) ∧ (A ++ e :: (B ++ C)).Perm l ∧ A.length + B.length = x ∧ (A ++ B).Pairwise nlt ∧ (∀ b ∈ B, nlt e b)) (x + 1) ?_ ?_
   ·intro _
    refine ⟨rs.take x, rs[x]'(by omega), [], rs.drop (x + 1), by simp; omega, by simp; omega, by rw [← hA0], by rw [← hA0]; exact hp, by simp; omega, by simpa using hso, by simp⟩
   ·rintro q t3 H' ⟨A, e, B, C, rfl, rfl, rfl, hp2, hAB, hso2, hB⟩ hsc2 hlen2 hsF2 Kb2 hKb2
    have hl2 := hp2.length_eq
    simp only [List.length_append, List.length_cons] at hl2
    have hg : ∀ m : List IT, (H.set id (.vec zak 2 l.length (m.flatMap IT.cs)))[id]? = some (.vec zak 2 l.length (m.flatMap IT.cs)) := fun m => List.getElem?_set_self hidl
    have hfin : (A ++ e :: B).Pairwise nlt → Kb (zft (.ov id l.length) (.int .i64 ((x : Int) + 1))) (H.set id (.vec zak 2 l.length ((A ++ e :: (B ++ C)).flatMap IT.cs))) := fun hS => by
     refine hKb _ _ ⟨l.length + 1 - (x + 1), by omega, Back.at (J := []) (H2 := H.set id (.vec zak 2 l.length ((A ++ e :: (B ++ C)).flatMap IT.cs))) (by simp) (by simp) hsc2 ?_ ⟨_, rfl, x + 1, A ++ e :: (B ++ C), by omega, rfl, .inl (by omega), by simp, rfl, hp2, ?_⟩⟩
     ·simp [zft, AV.sc, AV.scV, AV.scA, AV.scB, hidl]
     ·have : (A ++ e :: (B ++ C)).take (x + 1) = A ++ e :: B := by
       have h0 : A ++ e :: (B ++ C) = (A ++ e :: B) ++ C := by simp
       rw [h0, List.take_append_of_le_length (by simp; omega), List.take_of_length_le (by simp; omega)]
      rw [this]; exact hS
    have hwx : IntKind.i64.wrap ((x : Int) + 1) = (x : Int) + 1 := zam (by omega) (by omega)
    cases hA : A.reverse with
    | nil =>
     have hA' : A = [] := by simpa using hA
     subst hA'
     simp only [zot]
     simp
     rw [hwx]
     have := hfin (by
      rw [List.nil_append] at hso2 ⊢
      exact List.pairwise_cons.2 ⟨hB, hso2⟩)
     simpa using this
    | cons a Ar =>
     have hA' : A = Ar.reverse ++ [a] := by rw [← List.reverse_reverse A, hA, List.reverse_cons]
     generalize Ar.reverse = A0 at *
     subst hA'
     have hl3 : A0.length + 1 + (B.length + C.length + 1) = l.length := by simpa [Nat.add_assoc] using hl2
     have hma : a ∈ l := hp2.subset (by simp)
     have hme : e ∈ l := hp2.subset (by simp)
     have hw0 : IntKind.i64.wrap (A0.length : Int) = A0.length := zam (by omega) (by omega)
     have hb1 : (A0.length : Int) + 1 < l.length := by omega
     have hb2 : (A0.length : Int) < l.length := by omega
     have hb3 : (0 : Int) ≤ (A0.length : Int) + 1 := by omega
     have hMl : ((A0 ++ [a] ++ e :: (B ++ C)).flatMap IT.cs).length = l.length * 2 := by rw [zcs]; simp; omega
     have hd1 : ((A0 ++ [a] ++ e :: (B ++ C)).flatMap IT.cs).drop ((A0.length + 1) * 2) = e.cs ++ (B ++ C).flatMap IT.cs := by
      have := zlL (A := A0 ++ [a]) (e := e) (B := B ++ C)
      simpa using this
     have hd2 : ((A0 ++ [a] ++ e :: (B ++ C)).flatMap IT.cs).drop (A0.length * 2) = a.cs ++ (e :: (B ++ C)).flatMap IT.cs := by
      rw [List.append_assoc]; exact zlL
     have hs1 : ((A0 ++ [a] ++ e :: (B ++ C)).flatMap IT.cs).take ((A0.length + 1) * 2) ++ a.cs ++ ((A0 ++ [a] ++ e :: (B ++ C)).flatMap IT.cs).drop ((A0.length + 1) * 2 + 2) = (A0 ++ [a] ++ a :: (B ++ C)).flatMap IT.cs := by
      have := zr5 (A := A0 ++ [a]) (e := e) (x := a) (B := B ++ C)
      simpa using this
     have hs2 : ((A0 ++ [a] ++ a :: (B ++ C)).flatMap IT.cs).take (A0.length * 2) ++ e.cs ++ ((A0 ++ [a] ++ a :: (B ++ C)).flatMap IT.cs).drop (A0.length * 2 + 2) = (A0 ++ e :: ((a :: B) ++ C)).flatMap IT.cs := by
      have := zr5 (A := A0) (e := a) (x := e) (B := a :: (B ++ C))
      simpa using this
     have hnewp : (A0 ++ e :: ((a :: B) ++ C)).Perm l := by
      refine List.Perm.trans ?_ hp2
      simpa using List.Perm.append_left A0 (List.Perm.swap a e (B ++ C))
     simp only [zot]
     have htk1 : List.take 2 (((A0 ++ [a] ++ e :: (B ++ C)).flatMap IT.cs).drop ((A0.length + 1) * 2)) = e.cs := by rw [hd1, zt1]
     have htk2 : List.take 2 (((A0 ++ [a] ++ e :: (B ++ C)).flatMap IT.cs).drop (A0.length * 2)) = a.cs := by rw [hd2, zt1]
     have hkn : ∀ u : IT, ∀ y ∈ u.cs, y.known = true := fun u y hy => by
      obtain ⟨a1, a2, h, h1, h2⟩ := zbE u
      rw [h] at hy
      rcases List.mem_cons.1 hy with rfl | hy
      ·exact h1
      ·simp at hy; subst hy; exact h2
     have hM2l : ((A0 ++ [a] ++ a :: (B ++ C)).flatMap IT.cs).length = l.length * 2 := by rw [zcs]; simp; omega
     have hgM := hg (A0 ++ [a] ++ e :: (B ++ C))
     have hgM2 := hg (A0 ++ [a] ++ a :: (B ++ C))
     have hb4 : A0.length * 2 + 2 ≤ l.length * 2 := by omega
     have hb5 : (A0.length + 1) * 2 + 2 ≤ l.length * 2 := by omega
     simp only [List.append_assoc] at hs1 hs2
     have hfin2 : Kb2 (zgV (.ov id l.length) (.int .i64 x) (.int .i64 A0.length)) (H.set id (.vec zak 2 l.length ((A0 ++ e :: ((a :: B) ++ C)).flatMap IT.cs))) ∨ ¬ IT.cmp e a < 0 := by
      by_cases hlt2 : IT.cmp e a < 0
      ·left
       refine hKb2 _ _ ⟨A0.length + 1, by simp, Back.at (J := []) (H2 := H.set id (.vec zak 2 l.length ((A0 ++ e :: ((a :: B) ++ C)).flatMap IT.cs))) (by simp) (by simp) (hscv _) ?_ ⟨_, rfl, A0, e, a :: B, C, rfl, rfl, rfl, hnewp, ?_, ?_, ?_⟩⟩
       ·simp [zgV, AV.sc, AV.scV, AV.scA, AV.scB, hidl]
       ·simp at hAB ⊢; omega
       ·simpa using hso2
       ·intro b hb
        rcases List.mem_cons.1 hb with rfl | hb
        ·have := IT.cmp_anti e b; unfold nlt; omega
        ·exact hB b hb
      ·exact .inr hlt2
     have hfin3 : ¬ IT.cmp e a < 0 → Kb (zft (.ov id l.length) (.int .i64 ((x : Int) + 1))) (H.set id (.vec zak 2 l.length ((A0 ++ [a] ++ e :: (B ++ C)).flatMap IT.cs))) := fun hlt2 => by
      refine hfin ?_
      have hae : nlt a e := hlt2
      have h1 := List.pairwise_append.1 hso2
      refine List.pairwise_append.2 ⟨h1.1, List.pairwise_cons.2 ⟨hB, h1.2.1⟩, fun x hx y hy => ?_⟩
      rcases List.mem_cons.1 hy with rfl | hy
      ·rcases List.mem_append.1 hx with hx | hx
       ·exact zAp ((List.pairwise_append.1 h1.1).2.2 x hx a (by simp)) hae
       ·simp at hx; subst hx; exact hae
      ·exact h1.2.2 x hx y hy
     simp only [List.append_assoc] at hMl htk1 htk2 hM2l hgM hgM2 hfin3 ⊢
     generalize (A0 ++ ([a] ++ e :: (B ++ C))).flatMap IT.cs = FM at *
     generalize (A0 ++ ([a] ++ a :: (B ++ C))).flatMap IT.cs = FM2 at *
     generalize (A0 ++ e :: (a :: B ++ C)).flatMap IT.cs = FM3 at *
     simp [hgM, hw0, hb1, hb2, hb3, htk1, htk2, hMl, hb4, hb5, hkn a, hs1, hgM2, hM2l]
     rw [hs2]
     refine zbH (.int .i64 (IT.cmp e a)) (fun J => zA2 _ e a (Nat.le_refl _) (hnd _ hme) _ _ ⟨rfl, rfl⟩) ?_
     by_cases hlt2 : IT.cmp e a < 0
     ·rcases hfin2 with h | h
      ·simpa [hlt2] using h
      ·exact absurd hlt2 h
     ·simp [hlt2, hwx]
      exact hfin3 hlt2
  ·have hnx : rs.take x = rs := List.take_of_length_le (by omega)
   rw [hnx] at hso
   simp only [zjB]
   simp [hlt]
   have hnod2 : rs.Nodup := hp.nodup_iff.2 hnod
   have := zm0 hnod (zru hnod2 hso) fun y => hp.mem_iff
   rw [this]
   simpa [zaw] using hK
end Go.Proofs.YtddlhljflggenaaGreatDoor
