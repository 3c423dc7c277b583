import Derived.Test.YtkdmpbhbmmhijaaKB10
set_option linter.unusedSimpArgs false
set_option linter.unusedVariables false
namespace Go.Proofs.Ytkdmpbhbmmhijaa
open Go Go.Abs
set_option maxRecDepth 8000
def zb2 (c : Cor) (i : Nat) : List Int := (c.exprs.take i).foldl (fun us e => zcw e us) (List.replicate c.codes.length 0)
theorem zGW (e : CEx) (us : List Int) : (zcw e us).length = us.length := by unfold zcw; split <;> simp
theorem zGZ (l : List CEx) : ∀ us : List Int, (l.foldl (fun us e => zcw e us) us).length = us.length := by
 induction l with
 | nil => intro us; rfl
 | cons e l ih => intro us; rw [List.foldl_cons, ih, zGW]
theorem zGY (c : Cor) (i : Nat) : (zb2 c i).length = c.codes.length := by rw [zb2, zGZ]; simp
theorem zpH {c : Cor} {i : Nat} (h : i < c.exprs.length) : zb2 c (i + 1) = zcw c.exprs[i] (zb2 c i) := by
 rw [zb2, zbR h, List.foldl_append]; rfl
theorem zGV {e : CEx} {us : List Int} {B : Int} (h : ∀ x ∈ us, 0 ≤ x ∧ x ≤ B) (hB : 0 ≤ B) : ∀ x ∈ zcw e us, 0 ≤ x ∧ x ≤ B + 1 := by
 intro x hx
 unfold zcw at hx
 split at hx
 ·rcases List.mem_or_eq_of_mem_set hx with h1 | h1
  ·have := h x h1; omega
  ·have : 0 ≤ us.getD e.num.toNat 0 ∧ us.getD e.num.toNat 0 ≤ B := by
    rw [List.getD_eq_getElem?_getD]
    by_cases hh : e.num.toNat < us.length
    ·rw [List.getElem?_eq_getElem hh]; exact h _ (List.getElem_mem hh)
    ·rw [List.getElem?_eq_none (by omega)]; simp; omega
   omega
 ·have := h x hx; omega
theorem zGX (c : Cor) : ∀ i, i ≤ c.exprs.length → ∀ x ∈ zb2 c i, 0 ≤ x ∧ x ≤ (i : Int) := by
 intro i
 induction i with
 | zero => intro _ x hx; simp [zb2] at hx; omega
 | succ i ih =>
  intro hi x hx
  rw [zpH (by omega)] at hx
  have := zGV (ih (by omega)) (by omega) x hx
  omega
structure ExprsP (c : Cor) : Prop where
 rule : ∀ i (h : i < c.exprs.length), progRule c c.exprs[i] = true
 uses : ∀ i (h : i < c.codes.length), (c.codes[i]).name = [] → (zb2 c c.exprs.length).getD i 0 = 1
def zbE (H : zaa) (c : Cor) (us : List Int) : zaa := H ++ [za7 c, usB us, ckB c (H.length + 1)]
theorem zth {H : zaa} (hs : HSc H) (c : Cor) (us : List Int) : HSc (zbE H c us) := hs.append (by simp [AB.sc, za7, usB, ckB, AV.scA, AV.scB])
@[simp] theorem zSf (H : zaa) (c : Cor) (us : List Int) : (zbE H c us).length = H.length + 3 := by simp [zbE]
theorem zpe (n : Nat) : (List.replicate n [AV.int .i64 0]).flatten = (List.replicate n (0 : Int)).map fun n => AV.int .i64 n := by
 induction n with
 | zero => rfl
 | succ n ih => rw [List.replicate_succ, List.flatten_cons, ih, List.replicate_succ, List.map_cons]; rfl
theorem zK8 (c : Cor) (hc : zaR c) (hx : ∀ i (h : i < c.exprs.length), ExIn c c.exprs[i]) (H : zaa) (K : AV → zaa → Prop) (hK : ∀ b, (b = true ↔ ExprsP c) → K (.bool b) H) : ACalls tP zoP [.agg c.cs] H K := by
 refine ACalls.out (zK7 fun hs => ?_)
 obtain ⟨k1, k2, k3, ⟨k4, k5⟩, k6, k7⟩ := hc
 have hF : ¬ ExprsP c → ∀ J, Out H.length K (.bool false) (H ++ J) := fun h J => Out.bool rfl (Nat.le_refl _) hs (hK _ (by simp [h]))
 have hT : ExprsP c → ∀ J, Out H.length K (.bool true) (H ++ J) := fun h J => Out.bool rfl (Nat.le_refl _) hs (hK _ (by simp [h]))
 simp [zq4, Cor.cs]
 simp only [zbd, Int.toNat_natCast]
 refine ⟨⟨by omega, by omega, by omega, by omega⟩, ?_⟩
 rw [zpe]
 simp [zaL, zbw]
 refine zK5 (Inv := fun q t18 H' => ∃ i : Nat, i ≤ c.exprs.length ∧ q = c.exprs.length - i ∧ t18 = .int .i64 i ∧ (∀ j (h : j < c.exprs.length), j < i → progRule c c.exprs[j] = true) ∧ H' = zbE H c (zb2 c i)) c.exprs.length ?_ ?_
 ·intro _; exact ⟨0, by omega, by omega, rfl, by omega, by simp [zbE, za7, usB, ckB, zb2]⟩
 ·rintro q t18 H' ⟨i, hi, rfl, rfl, hok, rfl⟩ hsc hlen hsF Kb hKb
  have hul := zGY c i
  have hub := zGX c i hi
  by_cases hlt : i < c.exprs.length
  ·obtain ⟨x, y, z, hv, hx', hy, hz, hat⟩ := zdH hlt
   have hsu := zpH hlt
   have hxi := hx i hlt
   have hbad : progRule c c.exprs[i] = false → ¬ ExprsP c := fun h hp => by rw [hp.rule i hlt] at h; cases h
   have hgood : progRule c c.exprs[i] = true → ∀ j (h : j < c.exprs.length), j < i + 1 → progRule c c.exprs[j] = true := fun h j hj hji => by
    by_cases e : j = i
    ·subst e; exact h
    ·exact hok j hj (by omega)
   simp [zme, hlt, hat, hx', hy, hz]
   rw [← hat]
   have hset : ∀ us', (zbE H c (zb2 c i)).set (H.length + 1) (usB us') = zbE H c us' := fun us' => by simp [zbE]
   refine zG0 (us := zb2 c i) (u := H.length + 1) hxi (by simp [zbE]) (by simp [zbE]) (by omega) hul (fun x hx => by have := hub x hx; omega) _ (fun h => ?_) (fun h us' hl => ?_)
   ·simp
    rw [hset, zar (by omega) (by omega), ← hsu]
    refine hKb _ _ ⟨c.exprs.length - (i + 1), by omega, Back.at (J := [_]) (H2 := zbE H c (zb2 c (i + 1))) rfl (by simp) (zth hs _ _) ?_ ⟨_, rfl, i + 1, by omega, rfl, by simp, hgood h, rfl⟩⟩
    simp [zgn, AV.sc, AV.scV, AV.scA, AV.scB]
   ·simp
    rw [hset]
    simp [zbE]
    exact hF (hbad h) _
  ·obtain rfl : i = c.exprs.length := by omega
   simp [zme, zbE, za7]
   refine zK6 (Inv := fun q t30 H' => ∃ i : Nat, i ≤ c.codes.length ∧ q = c.codes.length - i ∧ t30 = .int .i64 i ∧ (∀ j (h : j < c.codes.length), j < i → (c.codes[j]).name = [] → (zb2 c c.exprs.length).getD j 0 = 1) ∧ H' = zbE H c (zb2 c c.exprs.length)) c.codes.length ?_ ?_
   ·intro _; exact ⟨0, by omega, by omega, rfl, by omega, by simp [zbE, za7]⟩
   ·rintro q t30 H' ⟨i, hi, rfl, rfl, hok2, rfl⟩ hsc1 hlen1 hsF1 Kb1 hKb1
    generalize hU : zb2 c c.exprs.length = us at *
    by_cases hlt : i < c.codes.length
    ·obtain ⟨x, y, z, hv, hx', hy, hz, hat⟩ := zet hlt
     have hiu : i < us.length := by omega
     have hgd : us.getD i 0 = us[i] := by rw [List.getD_eq_getElem?_getD, List.getElem?_eq_getElem hiu]; rfl
     have hck : ∀ J, (zbE H c us ++ J)[H.length + 2]? = some (ckB c (H.length + 1)) := fun J => by simp [zbE]
     have hcu : ∀ J, (zbE H c us ++ J)[H.length + 1]? = some (.cells (us.map fun n => .int .i64 n)) := fun J => by simp [zbE, usB]
     have hck' : ∀ h, (zbE H c us)[H.length + 2]'h = ckB c (H.length + 1) := fun h => by simp [zbE]
     have hcu' : ∀ h, (zbE H c us)[H.length + 1]'h = .cells (us.map fun n => .int .i64 n) := fun h => by simp [zbE, usB]
     have hu1 : ∀ k : AV → Prop, zaP false 1 i (us.map fun n => AV.int .i64 n) k = k (.int .i64 us[i]) := fun k => zfa 1 (zfv hiu)
     have good : (¬ ((c.codes[i]).name = [] ∧ us[i] ≠ 1)) → Kb1 (zeS (.ptr (H.length + 2) 0) (.sl (c.codes.map Cod.cs) .none) (.int .i64 c.codes.length) (.int .i64 ((i : Int) + 1))) (zbE H c us ++ [.cells [.str (c.codes[i]).name, .sl (ints (c.codes[i]).params) .none, .sl (ints (c.codes[i]).capt) .none, x, y, z, .int .i64 (c.codes[i]).body]]) := fun h => by
      refine hKb1 _ _ ⟨c.codes.length - (i + 1), by omega, Back.at (J := [_]) (H2 := zbE H c us) rfl (by simp) (zth hs _ _) ?_ ⟨_, rfl, i + 1, by omega, rfl, by simp, fun j hj hji hn => ?_, rfl⟩⟩
      ·simp [zeS, AV.sc, AV.scV, AV.scA, AV.scB]
      ·by_cases e : j = i
       ·subst e
        rw [hgd]
        by_cases h1 : us[j] = 1
        ·exact h1
        ·exact absurd ⟨hn, h1⟩ h
       ·exact hok2 j hj (by omega) hn
     cases hnm : (c.codes[i]).name.isEmpty with
     | false =>
      have hnm' : (c.codes[i]).name ≠ [] := by intro h; simp [h] at hnm
      simp [zh0, hlt, hat, hx', hy, hz, hnm]
      rw [zar (by omega) (by omega)]
      exact good fun h => hnm' h.1
     | true =>
      have hnm' : (c.codes[i]).name = [] := by simpa using hnm
      by_cases h1 : us[i] = 1
      ·simp [zh0, hlt, hat, hx', hy, hz, hnm, hck', ckB, hcu', hu1, h1]
       rw [zar (by omega) (by omega)]
       exact good fun h => h.2 h1
      ·simp [zh0, hlt, hat, hx', hy, hz, hnm, hck', ckB, hcu', hu1, nbt h1]
       simp [zbE]
       exact hF (fun hp => h1 (by have := hp.uses i hlt hnm'; rw [hU, hgd] at this; exact this)) _
    ·obtain rfl : i = c.codes.length := by omega
     simp [zh0, zbE]
     exact hT ⟨fun j hj => hok j hj hj, fun j hj hn => by rw [hU]; exact hok2 j hj hj hn⟩ _
theorem ztW {n : Nat} {S : List Int} (hS : S.Nodup) (hr : ∀ x ∈ S, 0 ≤ x ∧ x < n) (hl : S.length = n) (i : Nat) (hi : i < n) : (i : Int) ∈ S := by
 by_cases hm : (i : Int) ∈ S
 ·exact hm
 ·have := zkz n ((i : Int) :: S) (List.nodup_cons.2 ⟨hm, hS⟩) (fun x hx => by
   rcases List.mem_cons.1 hx with rfl | hx
   ·omega
   ·exact hr x hx)
  rw [List.length_cons] at this
  omega
theorem zHb {c : Cor} {m : Nat} (ih : ∀ i st st', za1 c m i st = some st' → st'.length = st.length) : ∀ (bs : List (List Int)) (ks : List Int) (st st' : List Bool), zbA c m bs ks st = some st' → st'.length = st.length := by
 intro bs
 induction bs with
 | nil => intro ks st st' h; rw [zbA] at h; cases h; rfl
 | cons b bs ihb =>
  intro ks st st' h
  cases ks with
  | nil => rw [zbA] at h; cases h; rfl
  | cons k ks =>
   rw [zbA] at h
   cases hv : za1 c m k.toNat (zaB st b true) with
   | none => rw [hv] at h; cases h
   | some s2 =>
    rw [hv] at h
    have h1 := ih _ _ _ hv
    have h2 := ihb _ _ _ h
    simp at h1 h2
    omega
theorem zpK (c : Cor) : ∀ (m i : Nat) (st st' : List Bool), za1 c m i st = some st' → st'.length = st.length := by
 intro m
 induction m with
 | zero => intro i st st' h; rw [za1] at h; cases h
 | succ m ih =>
  intro i st st' h
  rw [za1] at h
  split at h
  ·cases h
  ·split at h
   ·exact zHb ih _ _ _ _ h
   ·cases h
theorem zG9 {c : Cor} {m : Nat} {N : Nat} : ∀ (bs : List (List Int)) (ks : List Int) (st st' : List Bool), zbA c m bs ks st = some st' → bs.length = ks.length → st.length = N → ∀ k ∈ ks, ∃ s1 s2, s1.length = N ∧ za1 c m k.toNat s1 = some s2 := by
 intro bs
 induction bs with
 | nil =>
  intro ks st st' h hl _ k hk
  cases ks with
  | nil => cases hk
  | cons a ks => simp at hl
 | cons b bs ihb =>
  intro ks st st' h hl hN k hk
  cases ks with
  | nil => cases hk
  | cons a ks =>
   rw [zbA] at h
   cases hv : za1 c m a.toNat (zaB st b true) with
   | none => rw [hv] at h; cases h
   | some s2 =>
    rw [hv] at h
    rcases List.mem_cons.1 hk with rfl | hk
    ·exact ⟨_, _, by simpa using hN, hv⟩
    ·have := zpK c _ _ _ _ hv
     exact ihb ks _ _ h (by simpa using hl) (by simp at this ⊢; omega) k hk
theorem zF5 {c : Cor} : ∀ (fs : List Cod) (st : List Bool), zcv c fs st = true → st.length = c.vars.length → ∀ f ∈ fs, ∃ s1 s2, s1.length = c.vars.length ∧ za1 c c.exprs.length f.body.toNat s1 = some s2 := by
 intro fs
 induction fs with
 | nil => intro st _ _ f hf; cases hf
 | cons g fs ih =>
  intro st h hN f hf
  rw [zcv] at h
  cases hv : za1 c c.exprs.length g.body.toNat (zaB (zaB st g.params true) g.capt true) with
  | none => rw [hv] at h; cases h
  | some s2 =>
   rw [hv] at h
   rcases List.mem_cons.1 hf with rfl | hf
   ·exact ⟨_, _, by simpa using hN, hv⟩
   ·have := zpK c _ _ _ _ hv
    exact ih _ h (by simp at this ⊢; omega) f hf
def Vis (c : Cor) (i : Nat) : Prop := ∃ m s1 s2, s1.length = c.vars.length ∧ za1 c m i s1 = some s2
theorem zuM {c : Cor} (hc : zdn c) (ht : TreeP c) : ∀ x ∈ zbI c, 0 ≤ x ∧ x < c.exprs.length := by
 intro x hx
 rw [zbI] at hx
 rcases List.mem_append.1 hx with h | h
 ·obtain ⟨f, hf, rfl⟩ := List.mem_map.1 h
  obtain ⟨i, hi, rfl⟩ := List.getElem_of_mem hf
  obtain ⟨_, _, _, _, b, hb, hbl, _⟩ := hc i hi
  omega
 ·obtain ⟨e, he, hx⟩ := List.mem_flatMap.1 h
  obtain ⟨i, hi, rfl⟩ := List.getElem_of_mem he
  have := ht.kids i hi x hx
  omega
theorem zuL {c : Cor} (hc : zdn c) (ht : TreeP c) (i : Nat) (hi : i < c.exprs.length) : (∃ f ∈ c.codes, f.body = i) ∨ ∃ j, ∃ h : j < c.exprs.length, j < i ∧ (i : Int) ∈ (c.exprs[j]).kids := by
 have := ztW ht.nodup (zuM hc ht) ht.len i hi
 rw [zbI] at this
 rcases List.mem_append.1 this with h | h
 ·obtain ⟨f, hf, h2⟩ := List.mem_map.1 h
  exact .inl ⟨f, hf, h2⟩
 ·obtain ⟨e, he, hx⟩ := List.mem_flatMap.1 h
  obtain ⟨j, hj, rfl⟩ := List.getElem_of_mem he
  have := ht.kids j hj _ hx
  exact .inr ⟨j, hj, by omega, hx⟩
theorem zuX {c : Cor} (hc : zdn c) (ht : TreeP c) (hs : zcv c c.codes (List.replicate c.vars.length false) = true) : ∀ i, i < c.exprs.length → Vis c i := by
 intro i
 induction i using Nat.strongRecOn with
 | _ i ih =>
  intro hi
  rcases zuL hc ht i hi with ⟨f, hf, h⟩ | ⟨j, hj, hji, hm⟩
  ·obtain ⟨s1, s2, h1, h2⟩ := zF5 _ _ hs (by simp) f hf
   rw [h, Int.toNat_natCast] at h2
   exact ⟨_, s1, s2, h1, h2⟩
  ·obtain ⟨m, s1, s2, h1, h2⟩ := ih j hji hj
   cases m with
   | zero => rw [za1] at h2; cases h2
   | succ m =>
    rw [za1, List.getElem?_eq_getElem hj] at h2
    simp only [] at h2
    split at h2
    ·obtain ⟨s3, s4, h3, h4⟩ := zG9 _ _ _ _ h2 (ht.binds j hj) h1 _ hm
     exact ⟨m, s3, s4, h3, by simpa using h4⟩
    ·cases h2
theorem zuY {c : Cor} {i : Nat} (h : Vis c i) (hi : i < c.exprs.length) : inV c (c.exprs[i]).vars := by
 obtain ⟨m, s1, s2, h1, h2⟩ := h
 cases m with
 | zero => rw [za1] at h2; cases h2
 | succ m =>
  rw [za1, List.getElem?_eq_getElem hi] at h2
  simp only [] at h2
  split at h2
  ·rename_i hall
   intro x hx
   have := List.all_eq_true.1 hall x hx
   simp only [Bool.and_eq_true, decide_eq_true_eq] at this
   obtain ⟨h3, h4⟩ := this
   refine ⟨h3, ?_⟩
   by_cases hh : x.toNat < s1.length
   ·omega
   ·rw [List.getD_eq_getElem?_getD, List.getElem?_eq_none (by omega)] at h4
    simp at h4
  ·cases h2
theorem znY {c : Cor} (hb : BindP c) : ∀ f ∈ c.codes, inV c f.params ∧ inV c f.capt := by
 intro f hf
 refine ⟨fun x hx => hb.range x ?_, fun x hx => hb.range x ?_⟩ <;>
 ·rw [zbS]
  exact List.mem_append_left _ (List.mem_flatMap.2 ⟨f, hf, by simp [hx]⟩)
theorem zsL {c : Cor} (hb : BindP c) : ∀ e ∈ c.exprs, ∀ l ∈ e.binds, inV c l := by
 intro e he l hl x hx
 refine hb.range x ?_
 rw [zbS]
 exact List.mem_append_right _ (List.mem_flatMap.2 ⟨e, he, List.mem_flatten.2 ⟨l, hl, hx⟩⟩)
theorem zEC {c : Cor} (hk : zaR c) (hc : zdn c) (ht : TreeP c) (hb : BindP c) : InP c where
 kcore := hk
 binds := ht.binds
 kids := ht.kids
 brange := fun i h l hl => zsL hb _ (List.getElem_mem h) l hl
 crange := fun i h => znY hb _ (List.getElem_mem h)
 body := fun i h => by
  obtain ⟨_, _, _, _, b, hb, hbl, _⟩ := hc i h
  exact ⟨b, hb, hbl⟩
theorem zog {c : Cor} (hk : zaR c) (hv : zeM c = true) (hc : zdn c) (ht : TreeP c) (hb : BindP c) (hr : ∀ i (h : i < c.exprs.length), inV c (c.exprs[i]).vars) (i : Nat) (h : i < c.exprs.length) : ExIn c c.exprs[i] where
 kcore := hk
 kex := hk.2.2.2.2.2 _ (List.getElem_mem h)
 vars := hr i h
 kids := fun x hx => by have := ht.kids i h x hx; omega
 bk := ht.binds i h
 binds := zsL hb _ (List.getElem_mem h)
 codes := znY hb
 vtys := fun v hv' => by
  unfold zeM at hv
  rw [Bool.and_eq_true] at hv
  exact List.all_eq_true.1 hv.2 v hv'
structure ProgV (c : Cor) : Prop where
 data : zcn c.data = true
 vars : zeM c = true
 codes : zdn c
 tree : TreeP c
 bind : BindP c
 scopes : zcv c c.codes (List.replicate c.vars.length false) = true
 exprs : ExprsP c
theorem zqd (c : Cor) (hc : zaR c) (H : zaa) (K : AV → zaa → Prop) (hK : ∀ b, (b = true ↔ ProgV c) → K (.bool b) H) : ACalls tP zhi [.agg c.cs] H K := by
 refine ACalls.out (zIE fun hs => ?_)
 have hF : ¬ ProgV c → ∀ J, Out H.length K (.bool false) (H ++ J) := fun h J => Out.bool rfl (Nat.le_refl _) hs (hK _ (by simp [h]))
 have hT : ProgV c → ∀ J, Out H.length K (.bool true) (H ++ J) := fun h J => Out.bool rfl (Nat.le_refl _) hs (hK _ (by simp [h]))
 have hcs : ∀ v : AV, v = .agg c.cs → v = .agg c.cs := fun _ h => h
 have hd : zsw c.data := fun D hD => by
  obtain ⟨k1, k2⟩ := ziN hc
  refine ⟨k2 D hD, fun k hk => ?_⟩
  obtain ⟨h1, h2⟩ := k1 D hD k hk
  exact ⟨by omega, fun x hx => by have := h2 x hx; omega⟩
 have hat : c.cs = [.sl (c.data.map Dat.cs) .none, .sl (c.codes.map Cod.cs) .none, .sl (VT.css c.vars) .none, .sl (c.exprs.map CEx.cs) .none] := rfl
 simp [zp1, hat]
 refine zKv c.data hd (by obtain ⟨⟨k1, _⟩, _⟩ := hc; omega) _ _ ?_
 cases h1 : zcn c.data with
 | false => simp; exact hF (fun h => by have := h.data; rw [h1] at this; cases this) _
 | true =>
 simp
 rw [← hat]
 refine zKz c hc _ _ ?_
 cases h2 : zeM c with
 | false => simp; exact hF (fun h => by have := h.vars; rw [h2] at this; cases this) _
 | true =>
 simp [hat]
 rw [← hat]
 refine zKE c hc _ _ fun b hb => ?_
 cases b with
 | false => simp; exact hF (fun h => by have := hb.2 h.codes; cases this) _
 | true =>
 have h3 := hb.1 rfl
 simp [hat]
 rw [← hat]
 refine zKN c hc (fun i h => by obtain ⟨_, _, _, _, b, hb, hbl, _⟩ := h3 i h; exact ⟨b, hb, hbl⟩) _ _ fun b hb => ?_
 cases b with
 | false => simp; exact hF (fun h => by have := hb.2 h.tree; cases this) _
 | true =>
 have h4 := hb.1 rfl
 simp [hat]
 rw [← hat]
 refine zKW c hc _ _ fun b hb => ?_
 cases b with
 | false => simp; exact hF (fun h => by have := hb.2 h.bind; cases this) _
 | true =>
 have h5 := hb.1 rfl
 simp [hat]
 rw [← hat]
 refine zK1 c (zEC hc h3 h4 h5) _ _ ?_
 cases h6 : zcv c c.codes (List.replicate c.vars.length false) with
 | false => simp; exact hF (fun h => by have := h.scopes; rw [h6] at this; cases this) _
 | true =>
 simp [hat]
 rw [← hat]
 refine zK8 c hc (zog hc h2 h3 h4 h5 fun i h => zuY (zuX h3 h4 h6 i h) h) _ _ fun b hb => ?_
 cases b with
 | false => exact hF (fun h => by have := hb.2 h.exprs; cases this) _
 | true => exact hT ⟨h1, h2, h3, h4, h5, h6, hb.1 rfl⟩ _
def zea (data : List Dat) (d : Nat) (vars : Int) (t : VT) : Bool := zcd d vars t || zax (data.take d) vars t
structure RCon (data : List Dat) (d : Nat) (vars : Int) (c : Con) : Prop where
 up : zcL c.name = true
 len : c.args.length ≤ 6
 args : ∀ x ∈ c.args, zea data d vars x = true
structure RDat (data : List Dat) (d : Nat) (D : Dat) : Prop where
 v0 : 0 ≤ D.vars
 v6 : D.vars ≤ 6
 c1 : 1 ≤ D.cons.length
 c8 : D.cons.length ≤ 8
 up : zcL D.name = true
 cons : ∀ c ∈ D.cons, RCon data d D.vars c
structure RData (data : List Dat) : Prop where
 len : data.length ≤ 12
 dats : ∀ d (h : d < data.length), RDat data d data[d]
 names : (zbp data).Nodup
 cons : (zaS data).Nodup
theorem zsX : ∀ l : List Dat, (∀ D ∈ l, D.cons.length ≤ 10) → (zaS l).length ≤ l.length * 10
 | [], _ => by simp [zaS]
 | D :: l, h => by
  have h1 := zsX l (fun D hD => h D (by simp [hD]))
  have h2 := h D (by simp)
  rw [zaS] at h1 ⊢
  rw [List.flatMap_cons, List.length_append, List.length_map, List.length_cons]; omega
theorem zEp {data : List Dat} {d : Nat} (h : d < data.length) : zbp (data.take (d + 1)) = zbp (data.take d) ++ [(data[d]).name] := by
 rw [zbp, zbR h, List.map_append]; rfl
theorem zEg {data : List Dat} {d : Nat} (h : d < data.length) : zaS (data.take (d + 1)) = zaS (data.take d) ++ (data[d]).cons.map Con.name := by
 rw [zaS, zbR h, List.flatMap_append]; simp [zaS]
theorem zps (l : List (List UInt8)) (s : List UInt8) : strs (l ++ [s]) = strs l ++ [[.str s]] := by simp [strs]
theorem zn2 {s : List UInt8} {k : AV → Prop} : zaA 1 [.str []] 1 [(0, .str s)] k = k (.sl [[.str s]] .full) := propext Iff.rfl
theorem zpf (l : List (List UInt8)) (hl : l.length ≤ 1000000) {tok : Tok} (H : zaa) (K : AV → zaa → Prop) (hK : K (.bool (zb0 l)) H) : ACalls tP zhl [.sl (strs l) tok] H K :=
 ACalls.wk (zLz l hl H K hK) ⟨.atom (.sl _ _), trivial⟩
theorem zEk {D : Dat} {i : Nat} (h : i < D.cons.length) : (D.cons.map Con.cs)[i]?.getD [] = [.str (D.cons[i]).name, .sl (VT.css (D.cons[i]).args) .none] := by simp [h, Con.cs]
theorem zLh (data : List Dat) (hkd : znR data) (H : zaa) (K : AV → zaa → Prop) (hK : ∀ b, (b = true ↔ RData data) → K (.bool b) H) : ACalls tP zoQ [.sl (data.map Dat.cs) .none] H K := by
 refine ACalls.out (zLg fun hs => ?_)
 obtain ⟨kl, kd⟩ := hkd
 have hF : ¬ RData data → ∀ J, Out H.length K (.bool false) (H ++ J) := fun h J => Out.bool rfl (Nat.le_refl _) hs (hK _ (by simp [h]))
 have hT : ∀ b : Bool, (b = true ↔ RData data) → ∀ J, Out H.length K (.bool b) (H ++ J) := fun b h J => Out.bool rfl (Nat.le_refl _) hs (hK _ h)
 by_cases h12 : data.length > 12
 ·have h12' : (12 : Int) < data.length := by omega
  simp [zmf, h12']
  have := hF (fun h => by have := h.len; omega) []
  simpa using this
 have h12' : ¬ (12 : Int) < data.length := by omega
 simp [zmf, h12']
 unfold zmm
 refine ALoop.own 3 zbD 1 rfl ?_
 refine ALoop.own 4 zbD 1 rfl ?_
 rw [List.append_assoc]
 have hcn : ∀ d, (zaS (data.take d)).length ≤ 140 := fun d => by
  have := zsX (data.take d) (fun D hD => (kd D (List.mem_of_mem_take hD)).2.1)
  rw [List.length_take] at this
  have : min d data.length * 10 ≤ 14 * 10 := Nat.mul_le_mul_right _ (by omega)
  omega
 have hl1 : (H ++ [AB.perm zbD 1 0]).length = H.length + 1 := by simp
 rw [hl1]
 show zmm (.sl (data.map Dat.cs) .none) (.sl [] (.own H.length)) (.sl [] (.own (H.length + 1))) (.int .i64 0) (H ++ [.perm zbD 1 0, .perm zbD 1 0]) (Out H.length K)
 have hsP : ∀ m n, HSc (H ++ [.perm zbD 1 m, .perm zbD 1 n]) := fun m n => hs.append rfl
 refine zLf (Inv := fun q t3 t4 t5 H' => ∃ d : Nat, d ≤ data.length ∧ q = data.length - d ∧ t5 = .int .i64 d ∧ t3 = .sl (strs (zbp (data.take d))) (.own H.length) ∧ t4 = .sl (strs (zaS (data.take d))) (.own (H.length + 1)) ∧ (∀ j (h : j < data.length), j < d → RDat data j data[j]) ∧ H' = H ++ [.perm zbD 1 d, .perm zbD 1 (zaS (data.take d)).length]) data.length ?_ ?_
 ·intro _; exact ⟨0, by omega, by omega, rfl, by simp [zbp, strs], by simp [zaS, strs], by omega, by simp [zaS]⟩
 ·rintro q t3 t4 t5 H' ⟨d, hd, rfl, rfl, rfl, rfl, hok, rfl⟩ hsc hlen hsF Kb hKb
  by_cases hlt : d < data.length
  ·have hbad : ¬ RDat data d data[d] → ∀ J, Out H.length K (.bool false) (H ++ J) := fun h => hF fun hh => h (hh.dats d hlt)
   have hcd := hcn d
   have hds := zEp hlt
   have hcs := zEg hlt
   obtain ⟨kn, kc, kcc⟩ := kd _ (List.getElem_mem hlt)
   have hdl : (zbp (data.take d)).length = d := by simp [zbp]; omega
   generalize hD : data[d] = D at *
   have hge : (data.map Dat.cs)[d]?.getD [] = [.str D.name, .int .i64 D.vars, .sl (D.cons.map Con.cs) .none] := by simp [hlt, hD, Dat.cs]
   by_cases hv0 : D.vars < 0
   ·simp [zeT, hlt, hD, Dat.cs, hv0]
    exact hbad (fun h => by have := h.v0; omega) _
   by_cases hv6 : 6 < D.vars
   ·simp [zeT, hlt, hD, Dat.cs, hv0, hv6]
    exact hbad (fun h => by have := h.v6; omega) _
   by_cases hc1 : D.cons.length < 1
   ·have hc1' : (D.cons.length : Int) < 1 := by omega
    simp [zeT, hlt, hD, Dat.cs, hv0, hv6, hc1']
    exact hbad (fun h => by have := h.c1; omega) _
   have hc1' : ¬ (D.cons.length : Int) < 1 := by omega
   by_cases hc8 : 8 < D.cons.length
   ·have hc8' : (8 : Int) < D.cons.length := by omega
    simp [zeT, hlt, hD, Dat.cs, hv0, hv6, hc1', hc8']
    exact hbad (fun h => by have := h.c8; omega) _
   have hc8' : ¬ (8 : Int) < D.cons.length := by omega
   simp [zeT, hlt, hD, Dat.cs, hv0, hv6, hc1', hc8']
   refine zBf _ _ _ ?_
   cases hup : zcL D.name with
   | false => simp; exact hbad (fun h => by have := h.up; rw [hup] at this; cases this) _
   | true =>
   simp [zn2]
   simp [zaJ, zbH, zbh, hdl]
   refine ⟨by omega, ?_⟩
   rw [← zps, ← hds]
   refine zLd (Inv := fun q t4 t7 H' => ∃ k : Nat, k ≤ D.cons.length ∧ q = D.cons.length - k ∧ t7 = .int .i64 k ∧ t4 = .sl (strs (zaS (data.take d) ++ (D.cons.map Con.name).take k)) (.own (H.length + 1)) ∧ (∀ c ∈ D.cons.take k, RCon data d D.vars c) ∧ H' = H ++ [.perm zbD 1 (d + 1), .perm zbD 1 ((zaS (data.take d)).length + k), .cells [.str D.name, .int .i64 D.vars, .sl (D.cons.map Con.cs) .none]]) D.cons.length ?_ ?_
   ·intro _; exact ⟨0, by omega, by omega, rfl, by simp, by simp, by simp⟩
   ·rintro q t4 t7 H' ⟨k, hk, rfl, rfl, rfl, hck, rfl⟩ hsc1 hlen1 hsF1 Kb1 hKb1
    have hlk : (zaS (data.take d) ++ (D.cons.map Con.name).take k).length = (zaS (data.take d)).length + k := by simp; omega
    by_cases hkl : k < D.cons.length
    ·have hkI : (k : Int) < D.cons.length := by omega
     have hca := zEk hkl
     have hcbad : ¬ RCon data d D.vars D.cons[k] → ∀ J, Out H.length K (.bool false) (H ++ J) := fun h => hbad fun hh => h (hh.cons _ (List.getElem_mem hkl))
     have hns : zaS (data.take d) ++ (D.cons.map Con.name).take (k + 1) = (zaS (data.take d) ++ (D.cons.map Con.name).take k) ++ [(D.cons[k]).name] := by rw [zbR (by simpa using hkl)]; simp
     obtain ⟨_, ka, kan⟩ := kcc _ (List.getElem_mem hkl)
     generalize hC : D.cons[k] = C at *
     simp [zmg, hkl, hC, Con.cs]
     refine zBf _ _ _ ?_
     cases hupc : zcL C.name with
     | false => simp; exact hcbad (fun h => by have := h.up; rw [hupc] at this; cases this) _
     | true =>
     by_cases ha6 : 6 < C.args.length
     ·have ha6' : (6 : Int) < C.args.length := by omega
      simp [hkl, hC, Con.cs, ha6']
      exact hcbad (fun h => by have := h.len; omega) _
     have ha6' : ¬ (6 : Int) < C.args.length := by omega
     simp [hkl, hC, Con.cs, ha6', zn2]
     generalize hA : zaS (data.take d) ++ (D.cons.map Con.name).take k = A at *
     have hAl : A.length = (zaS (data.take d)).length + k := hlk
     simp [zaJ, zbH, zbh, hAl, hkl, hC, Con.cs]
     refine ⟨by omega, ?_⟩
     rw [← zps, ← hns]
     refine zLe (Inv := fun q t95 H' => ∃ i : Nat, i ≤ C.args.length ∧ q = C.args.length - i ∧ t95 = .int .i64 i ∧ (∀ x ∈ C.args.take i, zea data d D.vars x = true) ∧ H' = H ++ [.perm zbD 1 (d + 1), .perm zbD 1 ((zaS (data.take d)).length + k + 1), .cells [.str D.name, .int .i64 D.vars, .sl (D.cons.map Con.cs) .none]]) C.args.length ?_ ?_
     ·intro _; exact ⟨0, by omega, by omega, rfl, by simp, rfl⟩
     ·rintro q t95 H' ⟨i, hi, rfl, rfl, hok3, rfl⟩ hsc2 hlen2 hsF2 Kb2 hKb2
      by_cases hil : i < C.args.length
      ·have hxn := kan _ (List.getElem_mem hil)
       have habad : zea data d D.vars C.args[i] = false → ∀ J, Out H.length K (.bool false) (H ++ J) := fun h => hcbad fun hh => by
        have := hh.args _ (List.getElem_mem hil)
        rw [h] at this; cases this
       obtain ⟨x, y, z, hvx, hx, hy, hz⟩ := vt3 C.args[i]
       have good : zea data d D.vars C.args[i] = true → zml (.sl (data.map Dat.cs) .none) (.sl (strs (zbp (data.take (d + 1)))) (.own H.length)) (.sl (strs (zaS (data.take d) ++ (D.cons.map Con.name).take (k + 1))) (.own (H.length + 1))) (.int .i64 d) (.ptr (H.length + 2) 0) (.int .i64 k) (.sl (VT.css C.args) .none) (.int .i64 C.args.length) (.int .i64 i) (H ++ [.perm zbD 1 (d + 1), .perm zbD 1 ((zaS (data.take d)).length + k + 1), .cells [.str D.name, .int .i64 D.vars, .sl (D.cons.map Con.cs) .none], .cells [x, y, z]]) (Out H.length K) Kb Kb1 Kb2 := fun hg => by
        simp [zml, zyW]
        rw [zar (by omega) (by omega)]
        refine hKb2 _ _ ⟨C.args.length - (i + 1), by omega, Back.at (J := [_]) (H2 := H ++ [.perm zbD 1 (d + 1), .perm zbD 1 ((zaS (data.take d)).length + k + 1), .cells [.str D.name, .int .i64 D.vars, .sl (D.cons.map Con.cs) .none]]) (by simp; rfl) (by simp) hsc2 ?_ ⟨_, rfl, i + 1, by omega, rfl, by simp, zb8 hil hok3 hg, rfl⟩⟩
        simp [zgp, AV.sc, AV.scV, AV.scA, AV.scB]
       simp [zmh, hil, hvx, hx, hy, hz]
       rw [← hvx]
       refine zDg _ _ _ (by omega) _ _ ?_
       cases hself : zcd d D.vars C.args[i] with
       | true =>
        rw [hvx]
        simp
        exact good (by simp [zea, hself])
       | false =>
        simp [hvx]
        refine ⟨⟨by omega, fun a _ => rfl⟩, ?_⟩
        rw [← List.map_take, ← hvx]
        refine zaz (.bool (zax (data.take d) D.vars C.args[i])) (fun J => zh2 (data.take d) (by simp; omega) _ _ (by omega) _ _ ⟨rfl, rfl⟩) ?_
        cases hty : zax (data.take d) D.vars C.args[i] with
        | false => simp; exact habad (by simp [zea, hself, hty]) _
        | true =>
         rw [hvx]
         simp
         exact good (by simp [zea, hty])
      ·obtain rfl : i = C.args.length := by omega
       rw [List.take_length] at *
       simp [zmh]
       rw [zar (by omega) (by omega)]
       refine hKb1 _ _ ⟨D.cons.length - (k + 1), by omega, Back.here (by simp) hsc2 ?_ ⟨_, _, rfl, k + 1, by omega, rfl, by simp, rfl, ?_, by simp [Nat.add_assoc]⟩⟩
       ·simp [zgo, AV.sc, AV.scV, AV.scA, AV.scB]
       ·exact zb8 hkl hck (by rw [hC]; exact ⟨hupc, by omega, hok3⟩)
    ·obtain rfl : k = D.cons.length := by omega
     rw [List.take_length] at *
     simp [zmg]
     rw [zar (by omega) (by omega)]
     refine hKb _ _ ⟨data.length - (d + 1), by omega, Back.at (J := [_]) (H2 := H ++ [.perm zbD 1 (d + 1), .perm zbD 1 (zaS (data.take (d + 1))).length]) (by rw [hcs]; simp; rfl) (by simp) (hsP _ _) ?_ ⟨_, _, _, rfl, d + 1, by omega, rfl, by simp, rfl, by rw [hcs]; exact congrArg (fun l => AV.sl (strs (zaS (data.take d) ++ l)) (.own (H.length + 1))) (List.take_of_length_le (Nat.le_of_eq (List.length_map _))), fun j hj hji => ?_, rfl⟩⟩
     ·simp [zgq, AV.sc, AV.scV, AV.scA, AV.scB]
     ·by_cases hjd : j = d
      ·subst hjd; rw [hD]; exact ⟨by omega, by omega, by omega, by omega, hup, hck⟩
      ·exact hok j hj (by omega)
  ·obtain rfl : d = data.length := by omega
   rw [List.take_length] at *
   have hdn : (zbp data).length = data.length := by simp [zbp]
   have hcn' := hcn data.length
   rw [List.take_length] at hcn'
   simp [zeT]
   refine zpf _ (by omega) _ _ ?_
   cases hr : zb0 (zbp data) with
   | true =>
    simp
    refine hT _ ?_ _
    simp
    intro h
    have := zkE h.names
    rw [hr] at this; cases this
   | false =>
    simp
    refine zpf _ (by omega) _ _ ?_
    refine hT _ ?_ _
    simp only [zb0, Bool.not_eq_false', decide_eq_true_eq, Bool.not_not] at hr ⊢
    exact ⟨fun h => ⟨by omega, fun j hj => hok j hj hj, hr, h⟩, fun h => h.cons⟩
def cnt (n : Nat) (S : List Int) : List Int := (List.range n).map fun (i : Nat) => ((S.count (i : Int) : Nat) : Int)
@[simp] theorem zRZ (n : Nat) (S : List Int) : (cnt n S).length = n := by simp [cnt]
theorem zd5 {n i : Nat} {S : List Int} (h : i < (cnt n S).length) : (cnt n S)[i] = ((S.count (i : Int) : Nat) : Int) := by simp [cnt]
theorem zn7 (n : Nat) : List.replicate n (0 : Int) = cnt n [] := by
 apply List.ext_getElem <;> simp [cnt]
theorem zn8 {n e : Nat} (S : List Int) (h : e < n) : (cnt n S).set e (((S.count (e : Int) : Nat) : Int) + 1) = cnt n (S ++ [(e : Int)]) := by
 apply List.ext_getElem
 ·simp
 ·intro k h1 h2
  rw [List.getElem_set, zd5, zd5, List.count_append]
  by_cases hk : e = k
  ·subst hk; simp
  ·have : ¬ (e : Int) = k := by omega
   simp [hk, List.count_singleton, this]
def boB (st : List Bool) : AB := .cells (zaV st)
theorem zj7 {H : zaa} {id n : Nat} {l : List Int} {st : List Bool} {b : Bool} (hid : H[id]? = some (boB st)) (hst : st.length = n) (hl : l.length ≤ 1000000) (hr : ∀ x ∈ l, 0 ≤ x ∧ x < (n : Int)) (K : AV → zaa → Prop)
  (hK : K (.tup []) (H.set id (boB (zaB st l b)))) : ACalls tP zhm [.ms id 0 n n, .sl (ints l) .none, .bool b] H K := by
 refine zMd fun hs => ?_
 have hil := zbW hid
 simp [zrx]
 refine zMc (Inv := fun q t10 H' => ∃ j : Nat, j ≤ l.length ∧ q = l.length - j ∧ t10 = .int .i64 j ∧ H' = H.set id (boB (zaB st (l.take j) b))) l.length ?_ ?_
 ·intro _; exact ⟨0, by omega, by omega, rfl, by simp [zaB, zec hid]⟩
 ·rintro q t10 H' ⟨j, hj, rfl, rfl, rfl⟩ hsc hlen hsF Kb hKb
  have hg : ∀ st, (H.set id (boB st))[id]? = some (.cells (zaV st)) := fun us => by rw [zc3 _ hid]; rfl
  by_cases hjl : j < l.length
  ·have hrr := hr _ (List.getElem_mem hjl)
   obtain ⟨e, he⟩ : ∃ e : Nat, l[j] = e := ⟨(l[j]).toNat, by omega⟩
   have hen : e < n := by omega
   have hnx : zaB st (l.take (j + 1)) b = (zaB st (l.take j) b).set e b := by rw [zbR hjl, zpo, he]; rfl
   have hsl : (zaB st (l.take j) b).length = n := by rw [zpn, hst]
   generalize zaB st (l.take j) b = st1 at *
   simp [zmH, hjl, he, hen, hg, hsl]
   rw [zar (by omega) (by omega), zer (by omega)]
   refine ⟨by omega, hKb _ _ ⟨l.length - (j + 1), by omega, Back.here (by simp) (hs.set (by simp [AB.sc, zdp])) ?_ ⟨_, rfl, j + 1, by omega, rfl, by simp, by rw [hnx]; rfl⟩⟩⟩
   simp [zgD, AV.sc, AV.scV, AV.scA, AV.scB]; omega
  ·obtain rfl : j = l.length := by omega
   rw [List.take_length] at *
   simp [zmH]
   simpa [zaY] using hK
mutual
def zbz (c : Cor) : Nat → Nat → List Bool → Bool × List Bool
 | 0, _, st => (false, st)
 | m + 1, i, st => match c.exprs[i]? with
  | none => (false, st)
  | some e => if e.vars.all (fun v => decide (0 ≤ v) && st.getD v.toNat false) = true then zb6 c m e.binds e.kids st else (false, st)
termination_by m _ _ => (m, 0)
def zb6 (c : Cor) (m : Nat) : List (List Int) → List Int → List Bool → Bool × List Bool
 | b :: bs, k :: ks, st => match zbz c m k.toNat (zaB st b true) with
  | (false, st') => (false, zaB st' b false)
  | (true, st') => zb6 c m bs ks (zaB st' b false)
 | [], _, st => (true, st)
 | _ :: _, [], st => (true, st)
termination_by bs _ _ => (m, bs.length + 1)
end
theorem zG4 {c : Cor} {m : Nat} (ih : ∀ i st, za1 c m i st = if (zbz c m i st).1 = true then some (zbz c m i st).2 else none) : ∀ (bs : List (List Int)) (ks : List Int) (st : List Bool), zbA c m bs ks st = if (zb6 c m bs ks st).1 = true then some (zb6 c m bs ks st).2 else none := by
 intro bs
 induction bs with
 | nil => intro ks st; simp [zbA, zb6]
 | cons b bs ihb =>
  intro ks st
  cases ks with
  | nil => simp [zbA, zb6]
  | cons k ks =>
   rw [zbA, zb6, ih]
   cases hv : zbz c m k.toNat (zaB st b true) with
   | mk b1 s1 => cases b1 <;> simp [ihb]
theorem zu0 (c : Cor) : ∀ (m i : Nat) (st : List Bool), za1 c m i st = if (zbz c m i st).1 = true then some (zbz c m i st).2 else none := by
 intro m
 induction m with
 | zero => intro i st; simp [za1, zbz]
 | succ m ih =>
  intro i st
  rw [za1, zbz]
  cases c.exprs[i]? with
  | none => simp
  | some e =>
   simp only []
   by_cases hh : (e.vars.all fun v => decide (0 ≤ v) && st.getD v.toNat false) = true
   ·rw [if_pos hh, if_pos hh]; exact zG4 ih _ _ _
   ·rw [if_neg hh, if_neg hh]; simp
theorem zG6 {c : Cor} {m : Nat} (ih : ∀ i st, (zbz c m i st).2.length = st.length) : ∀ (bs : List (List Int)) (ks : List Int) (st : List Bool), (zb6 c m bs ks st).2.length = st.length := by
 intro bs
 induction bs with
 | nil => intro ks st; simp [zb6]
 | cons b bs ihb =>
  intro ks st
  cases ks with
  | nil => simp [zb6]
  | cons k ks =>
   rw [zb6]
   have h1 := ih k.toNat (zaB st b true)
   cases hv : zbz c m k.toNat (zaB st b true) with
   | mk b1 s1 =>
    rw [hv] at h1
    simp at h1
    cases b1 <;> simp [ihb, h1]
theorem zG7 (c : Cor) : ∀ (m i : Nat) (st : List Bool), (zbz c m i st).2.length = st.length := by
 intro m
 induction m with
 | zero => intro i st; simp [zbz]
 | succ m ih =>
  intro i st
  rw [zbz]
  split
  ·rfl
  ·split
   ·exact zG6 ih _ _ _
   ·rfl
theorem zG5 (c : Cor) (m : Nat) {bs : List (List Int)} {ks : List Int} {j : Nat} (h1 : j < bs.length) (h2 : j < ks.length) (st : List Bool) : zb6 c m (bs.drop j) (ks.drop j) st = match zbz c m (ks[j]).toNat (zaB st bs[j] true) with
  | (false, st') => (false, zaB st' bs[j] false)
  | (true, st') => zb6 c m (bs.drop (j + 1)) (ks.drop (j + 1)) (zaB st' bs[j] false) := by
 rw [List.drop_eq_getElem_cons h1, List.drop_eq_getElem_cons h2, zb6]
theorem zF4 {c : Cor} (hp : InP c) (hvv : ∀ i (h : i < c.exprs.length), inV c (c.exprs[i]).vars) : ∀ (m i : Nat), c.exprs.length - i ≤ m → i < c.exprs.length → ∀ (st : List Bool) (H : zaa) (id : Nat), H[id]? = some (boB st) → st.length = c.vars.length → ∀ (K : AV → zaa → Prop),
  K (.bool (zbz c m i st).1) (H.set id (boB (zbz c m i st).2)) →
  ACalls tP zkl [.agg c.cs, .int .i64 i, .ms id 0 c.vars.length c.vars.length] H K := by
 intro m
 induction m with
 | zero => intro i h1 h2; omega
 | succ m ih =>
 intro i hm hi st H id hid hst K hK1
 refine ACalls.out (zMj fun hs => ?_)
 have hil := zbW hid
 obtain ⟨x, y, z, hv, hx, hy, hz, hat⟩ := zdH hi
 obtain ⟨k1, k2, k3, ⟨k4, k5⟩, k6, k7⟩ := hp.kcore
 obtain ⟨kv, kb, kk, _, kbl⟩ := k7 _ (List.getElem_mem hi)
 have hbk := hp.binds i hi
 have hkd := hp.kids i hi
 have hbr := hp.brange i hi
 have hvr := hvv i hi
 have hvis : zbz c (m + 1) i st = if (c.exprs[i]).vars.all (fun v => decide (0 ≤ v) && st.getD v.toNat false) = true then zb6 c m (c.exprs[i]).binds (c.exprs[i]).kids st else (false, st) := by
  rw [zbz, List.getElem?_eq_getElem hi]
 rw [hvis] at hK1
 have hC : c.cs = [.sl (c.data.map Dat.cs) .none, .sl (c.codes.map Cod.cs) .none, .sl (VT.css c.vars) .none, .sl (c.exprs.map CEx.cs) .none] := rfl
 have scB : ∀ st : List Bool, (boB st).sc H.length = true := fun st => by simp [boB, AB.sc, zdp]
 have hset : ∀ st J, (H.set id (boB st) ++ J)[id]? = some (.cells (zaV st)) := fun st J => zaT (zc3 _ hid)
 have hlen1 : ∀ st J k, (H.set id (boB st) ++ J)[H.length + k]? = J[k]? := fun st J k => by
  have := zj0 (H.set id (boB st)) J k
  rwa [List.length_set] at this
 have hss : ∀ st st2 J, (H.set id (boB st) ++ J).set id (boB st2) = H.set id (boB st2) ++ J := fun st st2 J => by
  rw [zdE _ (zc3 _ hid), List.set_set]
 have hO : ∀ b st' J, (if (c.exprs[i]).vars.all (fun v => decide (0 ≤ v) && st.getD v.toNat false) = true then zb6 c m (c.exprs[i]).binds (c.exprs[i]).kids st else (false, st)) = (b, st') → Out H.length K (.bool b) (H.set id (boB st') ++ J) := fun b st' J h => by
  rw [h] at hK1
  exact Out.bool rfl (by simp) (hs.set (scB _)) hK1
 simp [zry, hC, hi, hat, hx, hy, hz]
 generalize hE : c.exprs[i] = E at *
 have hscX : ∀ st', HSc (H.set id (boB st') ++ [.cells [.sl (c.data.map Dat.cs) .none, .sl (c.codes.map Cod.cs) .none, .sl (VT.css c.vars) .none, .sl (c.exprs.map CEx.cs) .none], .cells [.int .i64 E.op, .int .i64 E.num, .sl (ints E.vars) .none, .sl (rows E.binds) .none, .sl (ints E.kids) .none, x, y, z]]) := fun st' => by
  refine (hs.set (scB _)).append ?_
  have := VT.cs_scA E.ty (H.length + 2)
  rw [hv] at this
  simp at this
  simp [AB.sc, this]
 have hH0 : H = H.set id (boB st) := (zec hid).symm
 refine zMh (Inv := fun q t20 H' => ∃ j : Nat, j ≤ E.vars.length ∧ q = E.vars.length - j ∧ t20 = .int .i64 j ∧ (∀ v ∈ E.vars.take j, (decide (0 ≤ v) && st.getD v.toNat false) = true) ∧ H' = H.set id (boB st) ++ [.cells [.sl (c.data.map Dat.cs) .none, .sl (c.codes.map Cod.cs) .none, .sl (VT.css c.vars) .none, .sl (c.exprs.map CEx.cs) .none], .cells [.int .i64 E.op, .int .i64 E.num, .sl (ints E.vars) .none, .sl (rows E.binds) .none, .sl (ints E.kids) .none, x, y, z]]) E.vars.length ?_ ?_
 ·intro _; exact ⟨0, by omega, by omega, rfl, by simp, by rw [zec hid]⟩
 ·rintro q t20 H' ⟨j, hj, rfl, rfl, hok, rfl⟩ hsc hlen hsF Kb hKb
  by_cases hjl : j < E.vars.length
  ·have hrr := hvr _ (List.getElem_mem hjl)
   obtain ⟨e, he⟩ : ∃ e : Nat, E.vars[j] = e := ⟨(E.vars[j]).toNat, by omega⟩
   have hen : e < c.vars.length := by omega
   have hes : e < st.length := by omega
   cases hse : st[e] with
   | false =>
    simp [zjw, hjl, he, hen, hset, zaP, hes, hse]
    refine hO _ _ _ ?_
    rw [if_neg]
    intro h'
    rw [List.all_eq_true] at h'
    have := h' _ (List.getElem_mem hjl)
    rw [he] at this; simp [hes, hse] at this
   | true =>
    simp [zjw, hjl, he, hen, hset, zaP, hes, hse]
    rw [zar (by omega) (by omega)]
    refine hKb _ _ ⟨E.vars.length - (j + 1), by omega, Back.here (by simp) (hscX _) ?_ ⟨_, rfl, j + 1, by omega, rfl, by simp, ?_, rfl⟩⟩
    ·simp [zgE, AV.sc, AV.scV, AV.scA, AV.scB]; omega
    ·exact zb8 hjl hok (by rw [he]; simp [hes, hse])
  ·obtain rfl : j = E.vars.length := by omega
   rw [List.take_length] at hok
   have hall : E.vars.all (fun v => decide (0 ≤ v) && st.getD v.toNat false) = true := by rw [List.all_eq_true]; exact hok
   simp [zjw, hlen1]
   refine zMi (Inv := fun q t33 H' => ∃ (j : Nat) (st1 : List Bool), j ≤ E.kids.length ∧ q = E.kids.length - j ∧ t33 = .int .i64 j ∧ st1.length = c.vars.length ∧ zb6 c m (E.binds.drop j) (E.kids.drop j) st1 = zb6 c m E.binds E.kids st ∧ H' = H.set id (boB st1) ++ [.cells [.sl (c.data.map Dat.cs) .none, .sl (c.codes.map Cod.cs) .none, .sl (VT.css c.vars) .none, .sl (c.exprs.map CEx.cs) .none], .cells [.int .i64 E.op, .int .i64 E.num, .sl (ints E.vars) .none, .sl (rows E.binds) .none, .sl (ints E.kids) .none, x, y, z]]) E.kids.length ?_ ?_
   ·intro _; exact ⟨0, st, by omega, by omega, rfl, hst, by simp, rfl⟩
   ·rintro q t33 H' ⟨j, st1, hj, rfl, rfl, hs1, hvk, rfl⟩ hsc1 hlen2 hsF1 Kb1 hKb1
    by_cases hjl : j < E.kids.length
    ·have hjb : j < E.binds.length := by omega
     rw [zG5 c m hjb hjl] at hvk
     have hkr := hkd _ (List.getElem_mem hjl)
     obtain ⟨k, hk⟩ : ∃ k : Nat, E.kids[j] = k := ⟨(E.kids[j]).toNat, by omega⟩
     have hbl := kbl _ (List.getElem_mem hjb)
     have hbr' := hbr _ (List.getElem_mem hjb)
     rw [hk, Int.toNat_natCast] at hvk
     simp [zmJ, hjl, hk, hlen1, hjb]
     refine zj7 (hset st1 _) hs1 (by omega) hbr' _ ?_
     rw [hss]
     simp [hlen1, hjl, hk]
     rw [← hC]
     have hs2 : (zaB st1 E.binds[j] true).length = c.vars.length := by simpa using hs1
     have hs3 := zG7 c m k (zaB st1 E.binds[j] true)
     rw [hs2] at hs3
     cases hvg : zbz c m k (zaB st1 E.binds[j] true) with
     | mk ok st2 =>
     rw [hvg] at hvk hs3
     refine zdo (.bool ok) (H.set id (boB st2) ++ [.cells c.cs, .cells [.int .i64 E.op, .int .i64 E.num, .sl (ints E.vars) .none, .sl (rows E.binds) .none, .sl (ints E.kids) .none, x, y, z]]) (ih k (by omega) (by omega) _ _ id (hset _ _) hs2 _ (by rw [hvg]; exact ⟨rfl, hss _ _ _⟩)) ?_
     simp [hlen1, hjb]
     refine zj7 (hset st2 _) hs3 (by omega) hbr' _ ?_
     rw [hss]
     cases ok with
     | false =>
      simp
      refine hO _ _ _ ?_
      rw [if_pos hall]; exact hvk.symm
     | true =>
      simp
      rw [zar (by omega) (by omega)]
      refine hKb1 _ _ ⟨E.kids.length - (j + 1), by omega, Back.here (by simp) (hscX _) ?_ ⟨_, rfl, j + 1, zaB st2 E.binds[j] false, by omega, rfl, by simp, by simpa using hs3, hvk, rfl⟩⟩
      simp [zgF, AV.sc, AV.scV, AV.scA, AV.scB]; omega
    ·obtain rfl : j = E.kids.length := by omega
     rw [List.drop_length, ← hbk, List.drop_length, zb6] at hvk
     simp [zmJ]
     refine hO _ _ _ ?_
     rw [if_pos hall]; exact hvk.symm
end Go.Proofs.Ytkdmpbhbmmhijaa
