import Derived.Test.YtkdmpbhbmmhijaaKP2
import Derived.Test.YtkdmpbhbmmhijaaKNum
import Derived.Test.YtkdmpbhbmmhijaaProg
import Derived.KernelRfl
set_option linter.unusedSimpArgs false
set_option linter.unusedVariables false
namespace Go.Proofs.Ytkdmpbhbmmhijaa
open Go Go.Abs
set_option maxRecDepth 8000
def leB (s t : List Bool) : Prop := ∀ v : Nat, s.getD v false = true → t.getD v false = true
theorem zfL (st : List Bool) (i v : Nat) (b : Bool) : (st.set i b).getD v false = if i = v ∧ v < st.length then b else st.getD v false := by
 rw [List.getD_eq_getElem?_getD, List.getElem?_set, List.getD_eq_getElem?_getD]
 by_cases h : i = v
 ·subst h
  by_cases h2 : i < st.length
  ·simp [h2]
  ·simp [h2]
 ·simp [h]
theorem zmZ (l : List Int) : ∀ st v, (zaz st l false).getD v false = true → st.getD v false = true ∧ ∀ x ∈ l, x.toNat ≠ v := by
 induction l with
 | nil => intro st v h; exact ⟨h, by simp⟩
 | cons a l ih =>
  intro st v h
  rw [zie] at h
  obtain ⟨h1, h2⟩ := ih _ _ h
  rw [zfL] at h1
  by_cases hh : a.toNat = v ∧ v < st.length
  ·rw [if_pos hh] at h1; cases h1
  ·rw [if_neg hh] at h1
   refine ⟨h1, fun x hx => ?_⟩
   rcases List.mem_cons.1 hx with rfl | hx
   ·intro e
    refine hh ⟨e, ?_⟩
    by_cases h3 : v < st.length
    ·exact h3
    ·rw [List.getD_eq_getElem?_getD, List.getElem?_eq_none (by omega)] at h1; simp at h1
   ·exact h2 x hx
theorem zfK (l : List Int) : ∀ st v, (zaz st l true).getD v false = true → st.getD v false = true ∨ ∃ x ∈ l, x.toNat = v := by
 induction l with
 | nil => intro st v h; exact .inl h
 | cons a l ih =>
  intro st v h
  rw [zie] at h
  rcases ih _ _ h with h1 | ⟨x, hx, hv⟩
  ·rw [zfL] at h1
   by_cases hh : a.toNat = v ∧ v < st.length
   ·exact .inr ⟨a, by simp, hh.1⟩
   ·rw [if_neg hh] at h1; exact .inl h1
  ·exact .inr ⟨x, by simp [hx], hv⟩
theorem zse {s st : List Bool} {l : List Int} (h : leB s (zaz st l true)) : leB (zaz s l false) st := by
 intro v hv
 obtain ⟨h1, h2⟩ := zmZ l _ _ hv
 rcases zfK l _ _ (h v h1) with h3 | ⟨x, hx, e⟩
 ·exact h3
 ·exact absurd e (h2 x hx)
theorem zAt {c : Cor} {m : Nat} (ih : ∀ i st st', zaZ c m i st = some st' → leB st' st) : ∀ (bs : List (List Int)) (ks : List Int) (st st' : List Bool), zby c m bs ks st = some st' → leB st' st := by
 intro bs
 induction bs with
 | nil => intro ks st st' h; rw [zby] at h; cases h; exact fun v h => h
 | cons b bs ihb =>
  intro ks st st' h
  cases ks with
  | nil => rw [zby] at h; cases h; exact fun v h => h
  | cons k ks =>
   rw [zby] at h
   cases hv : zaZ c m k.toNat (zaz st b true) with
   | none => rw [hv] at h; cases h
   | some s2 =>
    rw [hv] at h
    exact fun v h3 => zse (ih _ _ _ hv) v (ihb _ _ _ h v h3)
theorem zsL (c : Cor) : ∀ (m i : Nat) (st st' : List Bool), zaZ c m i st = some st' → leB st' st := by
 intro m
 induction m with
 | zero => intro i st st' h; rw [zaZ] at h; cases h
 | succ m ih =>
  intro i st st' h
  rw [zaZ] at h
  split at h
  ·cases h
  ·split at h
   ·exact zAt ih _ _ _ _ h
   ·cases h
theorem zwN {n : Nat} {s : List Bool} (hl : s.length = n) (h : leB s (List.replicate n false)) : s = List.replicate n false := by
 apply List.ext_getElem
 ·simpa using hl
 ·intro i h1 h2
  cases hs : s[i] with
  | false => simp
  | true =>
   have h3 := h i (by simp [h1, hs])
   have h4 : (List.replicate n false).getD i false = false := by
    rw [List.getD_eq_getElem?_getD, List.getElem?_replicate]
    split <;> rfl
   rw [h4] at h3; cases h3
theorem zmW (c : Cor) : ∀ fs : List Cod, zct c fs (List.replicate c.vars.length false) = true ↔ ∀ f ∈ fs, ((zaZ c c.exprs.length f.body.toNat (zcI c f)).isSome = true)
 | [] => by simp [zct]
 | f :: fs => by
  rw [zct]
  cases hv : zaZ c c.exprs.length f.body.toNat (zaz (zaz (List.replicate c.vars.length false) f.params true) f.capt true) with
  | none => simp [zcI, hv]
  | some s =>
   have hle := zsL c _ _ _ _ hv
   have hln := znn c _ _ _ _ hv
   have h2 : leB (zaz (zaz s f.params false) f.capt false) (List.replicate c.vars.length false) := by
    intro v hv2
    obtain ⟨h3, h4⟩ := zmZ _ _ _ hv2
    obtain ⟨h5, h6⟩ := zmZ _ _ _ h3
    rcases zfK _ _ _ (hle v h5) with h7 | ⟨x, hx, e⟩
    ·rcases zfK _ _ _ h7 with h8 | ⟨x, hx, e⟩
     ·exact h8
     ·exact absurd e (h6 x hx)
    ·exact absurd e (h4 x hx)
   have h3 := zwN (by simp at hln ⊢; exact hln) h2
   simp only []
   rw [h3, zmW c fs]
   simp [zcI, hv]
theorem zsN (c : Cor) (m i : Nat) (st : List Bool) : (zbx c m i st).1 = true ↔ (zaZ c m i st).isSome = true := by
 rw [zsM]
 cases (zbx c m i st).1 <;> simp
theorem zxN : ∀ (n : Nat) (S : List Int), (∀ i : Nat, i < n → (i : Int) ∈ S) → n ≤ S.length := by
 intro n
 induction n with
 | zero => intro S _; omega
 | succ n ih =>
  intro S h
  have hm := h n (by omega)
  have := ih (S.erase n) (fun i hi => (List.mem_erase_of_ne (by omega)).2 (h i (by omega)))
  rw [List.length_erase_of_mem hm] at this
  have := List.length_pos_of_mem hm
  omega
theorem zhu {n : Nat} {S : List Int} (hr : ∀ x ∈ S, 0 ≤ x ∧ x < n) : (∀ v : Nat, v < n → S.count (v : Int) = 1) ↔ S.Nodup ∧ S.length = n := by
 constructor
 ·intro h
  have hm : ∀ v : Nat, v < n → (v : Int) ∈ S := fun v hv => List.count_pos_iff.1 (by rw [h v hv]; omega)
  have hnd : S.Nodup := by
   rw [List.nodup_iff_count]
   intro a
   by_cases ha : a ∈ S
   ·obtain ⟨v, rfl⟩ : ∃ v : Nat, a = v := ⟨a.toNat, by have := hr a ha; omega⟩
    rw [h v (by have := hr _ ha; omega)]; omega
   ·rw [List.count_eq_zero_of_not_mem ha]; omega
  exact ⟨hnd, Nat.le_antisymm (zh3 n S hnd hr) (zxN n S hm)⟩
 ·rintro ⟨h1, h2⟩ v hv
  have hm := zrJ h1 hr h2 v hv
  have := List.nodup_iff_count.1 h1 (v : Int)
  have := List.count_pos_iff.2 hm
  omega
theorem zsH (c : Cor) : ∀ i, i ≤ c.exprs.length → (∀ j (h : j < c.exprs.length), (c.exprs[j]).op = 11 → 0 ≤ (c.exprs[j]).num ∧ (c.exprs[j]).num < c.codes.length) → zb2 c i = cnt c.codes.length (zb3 (c.exprs.take i)) := by
 intro i
 induction i with
 | zero => intro _ _; simp [zb2, zb3, zlF]
 | succ i ih =>
  intro hi hr
  have hlt : i < c.exprs.length := by omega
  rw [znj hlt, ih (by omega) hr, zrq hlt]
  by_cases h11 : (c.exprs[i]).op = 11
  ·obtain ⟨h1, h2⟩ := hr i hlt h11
   obtain ⟨n, hn⟩ : ∃ n : Nat, (c.exprs[i]).num = n := ⟨(c.exprs[i]).num.toNat, by omega⟩
   have hnl : n < c.codes.length := by omega
   rw [zcu, if_pos h11, if_pos h11, hn, Int.toNat_natCast, ← zlG _ hnl]
   congr 1
   rw [List.getD_eq_getElem?_getD, List.getElem?_eq_getElem (by simpa using hnl), Option.getD_some, zdR]
  ·rw [zcu, if_neg h11, if_neg h11, List.append_nil]
theorem zqM {n i : Nat} (S : List Int) (h : i < n) : (cnt n S).getD i 0 = ((S.count (i : Int) : Nat) : Int) := by
 rw [List.getD_eq_getElem?_getD, List.getElem?_eq_getElem (by simpa using h), Option.getD_some, zdR]
theorem lams_mem {l : List CEx} {n : Int} : n ∈ zb3 l ↔ ∃ e ∈ l, e.op = 11 ∧ e.num = n := by
 simp [zb3, and_assoc]
theorem zmI {c : Cor} {e : CEx} (h11 : e.op = 11) (h : progRule c e = true) : ∃ n : Nat, e.num = n ∧ ∃ h : n < c.codes.length, (c.codes[n]).name = [] := by
 rw [progRule, if_pos (.inr (.inl h11)), numR] at h
 split at h
 ·cases h
 ·rename_i hn
  rw [if_neg (by omega), if_neg (by omega)] at h
  obtain ⟨n, hn'⟩ : ∃ n : Nat, e.num = n := ⟨e.num.toNat, by omega⟩
  refine ⟨n, hn', ?_⟩
  rw [hn', Int.toNat_natCast] at h
  by_cases hl : n < c.codes.length
  ·rw [List.getElem?_eq_getElem hl] at h
   simp only [] at h
   rw [if_neg (by omega)] at h
   simp only [Bool.and_eq_true, beq_iff_eq] at h
   exact ⟨hl, h.1.1⟩
  ·rw [List.getElem?_eq_none (by omega)] at h; cases h
theorem zxZ {c : Cor} {e : CEx} (hx : ExIn c e) (h : progRule c e = true) : ∀ k ∈ e.kids, ety c k = e.ty ∨ zav c.data 0 (ety c k) = true := by
 intro k hk
 have hne : e.kids ≠ [] := by intro h; rw [h] at hk; cases hk
 have hkl : e.kids.length ≠ 0 := fun h => hne (List.eq_nil_of_length_eq_zero h)
 have hs : ∀ v, zaC e v 0 = false := fun v => by simp [zaC, hne]
 rw [progRule] at h
 split at h
 ·rw [numR, if_pos (.inl hkl)] at h; cases h
 ·simp only [hs, Bool.false_and] at h
  split at h
  ·cases h
  ·split at h
   ·cases h
   ·split at h
    ·cases h
    ·rw [restR] at h
     simp only [hs, Bool.false_and] at h
     split at h
     ·cases h
     ·split at h
      ·cases h
      ·split at h
       ·simp [zaC, hne] at h
       ·split at h
        ·cases h
        ·split at h
         ·cases h
         ·split at h
          ·simp [zaC, hne] at h
          ·split at h
           ·rw [parR] at h
            split at h
            ·simp only [Bool.and_eq_true, zbl, zbp] at h
             obtain ⟨h1, h2, h3, h4⟩ := h
             cases hks : e.kids with
             | nil => exact absurd hks hne
             | cons k0 l =>
              rw [hks] at hk h3 h4
              rcases List.mem_cons.1 hk with rfl | hk
              ·right
               have hb1 : inV c (e.binds.getD 1 []) := by
                rw [List.getD_eq_getElem?_getD]
                by_cases hb : 1 < e.binds.length
                ·rw [List.getElem?_eq_getElem hb]; exact hx.binds _ (List.getElem_mem hb)
                ·rw [List.getElem?_eq_none (by omega)]; intro x hx; cases hx
               have : ety c k ∈ zam c (e.binds.getD 1 []) := by rw [h3]; simp
               obtain ⟨v, hv, hv2⟩ := List.mem_map.1 this
               rw [← hv2]
               have := hb1 v hv
               obtain ⟨n, rfl⟩ : ∃ n : Nat, v = n := ⟨v.toNat, by omega⟩
               rw [ze1 (by omega)]
               exact hx.vtys _ (List.getElem_mem _)
              ·exact .inl (h4 k (by simpa using hk))
            ·left
             split at h
             ·simp only [Bool.and_eq_true, zbl] at h; exact h.2.2.2 k hk
             ·split at h
              ·simp only [Bool.and_eq_true, zbl] at h; exact h.2.2.2 k hk
              ·split at h
               ·simp only [Bool.and_eq_true, zbl] at h; exact h.2.2.2 k hk
               ·simp only [Bool.and_eq_true, zbl] at h; exact h.2.2.2.2 k hk
           ·rw [stR] at h
            simp only [hs, Bool.false_and] at h
            split at h <;> cases h
theorem zyD {c : Cor} (hk : zaR c) (h : ProgV c) (hex : ∀ i (h : i < c.exprs.length), ExIn c c.exprs[i]) : ∀ i (hi : i < c.exprs.length), zav c.data 0 (c.exprs[i]).ty = true := by
 intro i
 induction i using Nat.strongRecOn with
 | _ i ih =>
  intro hi
  rcases zsx h.codes h.tree i hi with ⟨f, hf, hb⟩ | ⟨j, hj, hji, hm⟩
  ·obtain ⟨k, hk, rfl⟩ := List.getElem_of_mem hf
   obtain ⟨_, _, _, hres, b, h1, h2, h3⟩ := h.codes k hk
   obtain rfl : b = i := by omega
   rw [za6] at h3
   rw [h3]; exact hres
  ·have := zxZ (hex j hj) (h.exprs.rule j hj) _ hm
   rw [zlN hi] at this
   rcases this with h1 | h1
   ·rw [h1]; exact ih j hji hj
   ·exact h1
theorem zrF (l : List Cod) : (nms l).Nodup ↔ ∀ i j (hi : i < l.length) (hj : j < l.length), i < j → (l[j]).name ≠ [] → (l[i]).name ≠ (l[j]).name := by
 rw [nms, List.Nodup, List.pairwise_filter, List.pairwise_map, List.pairwise_iff_getElem]
 constructor
 ·intro h i j hi hj hij hn e
  have hn' : (!(l[j]).name.isEmpty) = true := by simpa using hn
  exact h i j hi hj hij (by rw [e]; exact hn') hn' e
 ·intro h i j hi hj hij h1 h2 e
  exact h i j hi hj hij (by simpa using h2) e
theorem zsI (c : Cor) (hk : zaR c) : ProgV c ↔ RefV c := by
 have hk' := hk
 obtain ⟨k1, k2, k3, ⟨k4, k5⟩, k6, k7⟩ := hk'
 have hvar : zev c = true ↔ ∀ v ∈ c.vars, zav c.data 0 v = true := by
  have : c.vars.length ≤ 3000 := by omega
  simp [zev, this]
 constructor
 ·intro h
  have hex := zlO hk h.vars h.codes h.tree h.bind (fun i hi => zsK (zsJ h.codes h.tree h.scopes i hi) hi)
  have hty := zyD hk h hex
  have hlr : ∀ j (hj : j < c.exprs.length), (c.exprs[j]).op = 11 → 0 ≤ (c.exprs[j]).num ∧ (c.exprs[j]).num < c.codes.length := fun j hj h11 => by
   obtain ⟨n, hn, hl, _⟩ := zmI h11 (h.exprs.rule j hj)
   omega
  have huse : zb2 c c.exprs.length = cnt c.codes.length (zb3 c.exprs) := by
   have := zsH c c.exprs.length (Nat.le_refl _) hlr
   rwa [List.take_length] at this
  refine ⟨(zqU _).1 h.data, hvar.1 h.vars, fun i hi => ?_, ?_, fun i hi => ?_, (zhu h.bind.range).2 ⟨h.bind.nodup, h.bind.len⟩, (zhu (zsy h.codes h.tree)).2 ⟨h.tree.nodup, h.tree.len⟩, fun i hi => ?_, fun i hi => ?_, fun i hi => ?_⟩
  ·obtain ⟨_, q1, q2, q3, q4⟩ := h.codes i hi
   obtain ⟨r1, r2⟩ := zlw h.bind _ (List.getElem_mem hi)
   refine ⟨fun hn hi1 => ?_, fun hn => (q1 hn).2.2, q2, q3, r1, r2, q4⟩
   obtain ⟨_, p1, _⟩ := h.codes (i + 1) hi1
   by_cases hh : (c.codes[i + 1]).name = []
   ·exact hh
   ·exact absurd hn ((p1 hh).1 i (by omega))
  ·rw [zrF]
   intro i j hi hj hij hn
   obtain ⟨_, p1, _⟩ := h.codes j hj
   exact (p1 hn).2.1 i hij
  ·have hx := hex i hi
   exact ⟨fun k hk => (h.tree.kids i hi k hk).1, hx.kids, hx.bk, hx.binds, hx.vars, fun h11 => hlr i hi h11⟩
  ·by_cases hn : (c.codes[i]).name = []
   ·rw [if_pos hn]
    have := h.exprs.uses i hi hn
    rw [huse, zqM _ hi] at this
    omega
   ·rw [if_neg hn]
    refine List.count_eq_zero_of_not_mem fun hm => ?_
    obtain ⟨e, he, h11, hnum⟩ := lams_mem.1 hm
    obtain ⟨j, hj, rfl⟩ := List.getElem_of_mem he
    obtain ⟨n, hn1, hl, hn2⟩ := zmI h11 (h.exprs.rule j hj)
    obtain rfl : n = i := by omega
    exact hn hn2
  ·rw [zdi, hty i hi, Bool.true_and]
   exact (zr6 (hex i hi) (hty i hi) (fun h11 => zmI h11 (h.exprs.rule i hi))).1 (h.exprs.rule i hi)
  ·rw [zsN]
   exact (zmW c c.codes).1 h.scopes _ (List.getElem_mem hi)
 ·intro h
  have hempty : ∀ i j (hj : j < c.codes.length) (hij : i ≤ j), (c.codes[i]).name = [] → (c.codes[j]).name = [] := by
   intro i j hj hij hn
   induction j with
   | zero => obtain rfl : i = 0 := by omega
             exact hn
   | succ j ih =>
    by_cases e : i = j + 1
    ·subst e; exact hn
    ·have := ih (by omega) (by omega) hn
     exact (h.codes j (by omega)).order this hj
  have hcod : zda c := fun i hi => by
   obtain ⟨q1, q2, q3, q4, q5, q6, q7⟩ := h.codes i hi
   refine ⟨hi, fun hn => ⟨fun j hj hn2 => hn (hempty j i hi (by omega) hn2), fun j hj => (zrF c.codes).1 h.names j i (by omega) hi hj hn, q2 hn⟩, q3, q4, q7⟩
  have htr : ∀ x ∈ zbG c, 0 ≤ x ∧ x < (c.exprs.length : Int) := by
   intro x hx
   rw [zbG] at hx
   rcases List.mem_append.1 hx with h1 | h1
   ·obtain ⟨f, hf, rfl⟩ := List.mem_map.1 h1
    obtain ⟨i, hi, rfl⟩ := List.getElem_of_mem hf
    obtain ⟨b, hb, hbl, _⟩ := (h.codes i hi).body
    omega
   ·obtain ⟨e, he, hx⟩ := List.mem_flatMap.1 h1
    obtain ⟨i, hi, rfl⟩ := List.getElem_of_mem he
    exact (h.exprs i hi).range x hx
  obtain ⟨ht1, ht2⟩ := (zhu htr).1 h.placed
  have htree : TreeP c := ⟨fun i hi => (h.exprs i hi).bk, fun i hi k hk => ⟨(h.exprs i hi).kids k hk, ((h.exprs i hi).range k hk).2⟩, ht1, ht2⟩
  have hbr : ∀ x ∈ zbS c, 0 ≤ x ∧ x < (c.vars.length : Int) := by
   intro x hx
   rw [zbS] at hx
   rcases List.mem_append.1 hx with h1 | h1
   ·obtain ⟨f, hf, hx⟩ := List.mem_flatMap.1 h1
    obtain ⟨i, hi, rfl⟩ := List.getElem_of_mem hf
    rcases List.mem_append.1 hx with h2 | h2
    ·exact (h.codes i hi).rp x h2
    ·exact (h.codes i hi).rc x h2
   ·obtain ⟨e, he, hx⟩ := List.mem_flatMap.1 h1
    obtain ⟨i, hi, rfl⟩ := List.getElem_of_mem he
    obtain ⟨l, hl, hx⟩ := List.mem_flatten.1 hx
    exact (h.exprs i hi).binds l hl x hx
  obtain ⟨hb1, hb2⟩ := (zhu hbr).1 h.bound
  have hbind : BindP c := ⟨hbr, hb1, hb2⟩
  have hex := zlO hk (hvar.2 h.vars) hcod htree hbind (fun i hi => (h.exprs i hi).vars)
  have hty : ∀ i (hi : i < c.exprs.length), zav c.data 0 (c.exprs[i]).ty = true ∧ RR c c.exprs[i] = true := fun i hi => by
   have := h.rules i hi
   rw [zdi, Bool.and_eq_true] at this
   exact this
  have huse : zb2 c c.exprs.length = cnt c.codes.length (zb3 c.exprs) := by
   have := zsH c c.exprs.length (Nat.le_refl _) (fun j hj h11 => (h.exprs j hj).lam h11)
   rwa [List.take_length] at this
  refine ⟨(zqU _).2 h.data, hvar.2 h.vars, hcod, htree, hbind, (zmW c c.codes).2 fun f hf => ?_, fun i hi => ?_, fun i hi hn => ?_⟩
  ·obtain ⟨i, hi, rfl⟩ := List.getElem_of_mem hf
   rw [← zsN]; exact h.scopes i hi
  ·refine (zr6 (hex i hi) (hty i hi).1 (fun h11 => ?_)).2 (hty i hi).2
   obtain ⟨l1, l2⟩ := (h.exprs i hi).lam h11
   refine ⟨(c.exprs[i]).num.toNat, by omega, by omega, ?_⟩
   have hm := h.made (c.exprs[i]).num.toNat (by omega)
   by_cases hn : (c.codes[(c.exprs[i]).num.toNat]'(by omega)).name = []
   ·exact hn
   ·rw [if_neg hn] at hm
    have hmem : (((c.exprs[i]).num.toNat : Nat) : Int) ∈ zb3 c.exprs := lams_mem.2 ⟨_, List.getElem_mem hi, h11, by omega⟩
    have := List.count_pos_iff.2 hmem
    omega
  ·rw [huse, zqM _ hi, h.made i hi, if_pos hn]; rfl
end Go.Proofs.Ytkdmpbhbmmhijaa
namespace Go.Proofs.Ytkdmpbhbmmhijaa
open Go Go.Abs
set_option maxRecDepth 100000
noncomputable def ztO : Code := Try.f20.body.getD .skip
noncomputable def zDP : List ResultVar := Try.f20.results.toList
end Go.Proofs.Ytkdmpbhbmmhijaa
namespace Go.Proofs.Ytkdmpbhbmmhijaa
open Go Go.Abs
set_option maxRecDepth 8000
def zhr : List AV := [.str [102], .sl [] .none, .sl [] .none, .int .i64 1, .int .i64 0, .sl [] .none, .int .i64 0]
def zeg (n : Int) : List AV := [.int .i64 3, .int .i64 n, .sl [] .none, .sl [] .none, .sl [] .none, .int .i64 1, .int .i64 0, .sl [] .none]
def c1 (n : Int) : Cor := ⟨[], [⟨[102], [], [], sm 1, 0⟩], [], [⟨3, n, [], [], [], sm 1⟩]⟩
theorem zxd (n : Int) : (c1 n).cs = [.sl [] .none, .sl [zhr] .none, .sl [] .none, .sl [zeg n] .none] := rfl
theorem zqE (n : Int) : zaR (c1 n) := by
 refine ⟨⟨by simp [c1], by simp [c1]⟩, by simp [c1], by simp [c1], ⟨by simp [c1], by simp [c1]⟩, ?_, ?_⟩
 ·intro f hf
  simp [c1] at hf
  subst hf
  exact ⟨by simp, by simp, by simp, by simp [sm, VT.nodes, VT.nodesL]⟩
 ·intro e he
  simp [c1] at he
  subst he
  exact ⟨by simp, by simp, by simp, by simp [sm, VT.nodes, VT.nodesL], by simp⟩
theorem zxc (n : Int) : zda (c1 n) := by
 intro i hi
 have h0 : i = 0 := by simp [c1] at hi; omega
 subst h0
 refine ⟨hi, fun _ => ⟨fun j hj => by omega, fun j hj => by omega, rfl⟩, by simp [c1], by simp [c1, zav, sm, VT.nodes, VT.nodesL, zbq, zbr, za4], 0, rfl, by simp [c1], by simp [c1, za6]⟩
theorem zxe : ProgV (c1 1) := by
 refine ⟨rfl, rfl, zxc 1, ⟨?_, ?_, ?_, rfl⟩, ⟨?_, ?_, rfl⟩, ?_, ?_, ?_⟩
 ·intro i h
  have h0 : i = 0 := by simp [c1] at h; omega
  subst h0; rfl
 ·intro i h k hk
  have h0 : i = 0 := by simp [c1] at h; omega
  subst h0
  simp [c1] at hk
 ·simp [c1, zbG]
 ·intro x hx; simp [c1, zbS] at hx
 ·simp [c1, zbS]
 ·simp [c1, zct, zaZ, zby]
 ·intro i h
  have h0 : i = 0 := by simp [c1] at h; omega
  subst h0
  simp [c1, progRule, za2, zaC, za6]
 ·intro i h hn
  have h0 : i = 0 := by simp [c1] at h; omega
  subst h0
  simp [c1] at hn
theorem zqC {a b : Bool} (h : a = true ↔ b = true) : a = b := by cases a <;> cases b <;> simp_all
open Classical in
noncomputable def vOk (c : Cor) : Bool := decide (ProgV c)
theorem znk (c : Cor) : vOk c = true ↔ ProgV c := by simp [vOk]
theorem zCf (c : Cor) (hc : zaR c) (H : zaa) (K : Kt) (hK : K (.bool (vOk c)) H) : ACalls tP zfy [.agg c.cs] H K :=
 znM c hc H K fun b hb => by rw [zqC (hb.trans (znk c).symm)]; exact hK
theorem zC4 (c : Cor) (hc : zaR c) (H : zaa) (K : Kt) (hK : K (.bool (vOk c)) H) : ACalls tP zhM [.agg c.cs] H K :=
 zDL c hc H K fun b hb => by rw [zqC (hb.trans ((zsI c hc).symm.trans (znk c).symm))]; exact hK
end Go.Proofs.Ytkdmpbhbmmhijaa
namespace Go.Proofs.Ytkdmpbhbmmhijaa
open Go Go.Abs
set_option maxRecDepth 100000
def zjl : Nat → List Bool
 | 4 => rl false [0,2,10,2,12]
 | _ => []
noncomputable def zof : Code := Try.f21.body.getD .skip
noncomputable def zDV : List ResultVar := Try.f21.results.toList
def zjn (t0 t1 t12 t13 : AV) : List AV := t0 :: t1 :: ux 10 (t12 :: t13 :: ux 12 [])
def zDT : List Bool := zjl 4
noncomputable def zDR : Code := zao [1, 1, 0, 1, 0, 0] zof
def zDQ (K : Kt) : AExit → List AV → zaa → Prop := zap tP zjl [1, 1, 0, 1, 0] zof (zat tP zDV K)
def ztP (t0 t1 t12 t13 : AV) (H : zaa) (K : Kt) : Prop := ALoop tP zDR (zDQ K) (zjn t0 t1 t12 t13) H
def zjm (t0 t1 t12 t13 : AV) (H : zaa) (K : Kt) (Kb4 : Lt) : Prop :=
 zad .lss false t13 t12 fun t14 =>
 zag t14
 (zac H (fun K' => K' t0 H) fun t16 =>
 zac H (fun K' => K' t13 H) fun t17 =>
 zac H (fun K' => zaj 1 t16 t17 (K' · H)) fun t18 =>
 zac H (fun K' => zai false 1 t18 H (K' · H)) fun t19 =>
 zac H (fun K' => K' t1 H) fun t20 =>
 zac H (fun K' => K' t13 H) fun t21 =>
 zac H (fun K' => zaj 1 t20 t21 (K' · H)) fun t22 =>
 zac H (fun K' => zai false 1 t22 H (K' · H)) fun t23 =>
 zac H (fun K' => zad .neq false t19 t23 (K' · H)) fun t24 =>
 zag t24
 (K (.bool false) H)
 (zad .add false t13 (.int .i64 1) fun t25 =>
 Kb4 (zjn t0 t1 t12 t25) H))
 (K (.bool true) H)
def zoe (t0 t1 : AV) (H : zaa) (K : Kt) : Prop :=
 zak 1 t0 fun t7 =>
 zak 1 t1 fun t9 =>
 zad .neq false t7 t9 fun t10 =>
 zag t10
 (K (.bool false) H)
 (zak 1 t0 fun t12 =>
 ztP t0 t1 t12 (.int .i64 0) H K)
theorem zDS {t0 t1 t12 t13 : AV} {H : zaa} {K : Kt} (Inv : Nat → AV → zaa → Prop) (n : Nat) (h0 : HSc H → Inv n t13 H)
  (round : Rd1 (fun t13 => zjn t0 t1 t12 t13) (fun t13 => fun H Kb4 => zjm t0 t1 t12 t13 H K Kb4) H Inv) : ztP t0 t1 t12 t13 H K :=
 lp1 (M := zjl) zDT t13 (by kernel_rfl) Inv n h0 round
theorem zDU {t0 t1 : AV} {H : zaa} {K : Kt} (h : HSc H → zoe t0 t1 H K) : ACalls tP zmf [t0, t1] H K :=
 zau (M := zjl) Try.func21 (c := zof) (by kernel_rfl) (fun hs => Eq.mpr (by kernel_rfl) (h hs))
def zkm : Nat → List Bool
 | 1 => rl false [0,1,1,1,5,3,8]
 | _ => []
noncomputable def zpc : Code := Try.f57.body.getD .skip
noncomputable def zHd : List ResultVar := Try.f57.results.toList
def zkn (t0 t2 t8 t9 t10 : AV) : List AV := t0 :: ux 1 (t2 :: ux 5 (t8 :: t9 :: t10 :: ux 8 []))
def zHb : List Bool := zkm 1
noncomputable def zG9 : Code := zao [1, 0, 0] zpc
def zG8 (K : Kt) : AExit → List AV → zaa → Prop := zap tP zkm [1, 0] zpc (zat tP zHd K)
def zve (t0 t2 t8 t9 t10 : AV) (H : zaa) (K : Kt) : Prop := ALoop tP zG9 (zG8 K) (zkn t0 t2 t8 t9 t10) H
def zpb (t0 t2 t8 t9 t10 : AV) (H : zaa) (K : Kt) (Kb1 : Lt) : Prop :=
 zad .lss false t10 t9 fun t11 =>
 zag t11
 (zaj 1 t8 t10 fun t12 =>
 zae false 1 t12 H fun t13 =>
 zaj 1 t0 t13 fun t17 =>
 zar 1 t17 t2 H fun H =>
 zad .add false t10 (.int .i64 1) fun t18 =>
 Kb1 (zkn t0 t2 t8 t9 t18) H)
 (zaW [] (K · H))
def zvd (t0 t1 t2 : AV) (H : zaa) (K : Kt) : Prop :=
 zak 1 t1 fun t9 =>
 zve t0 t2 t1 t9 (.int .i64 0) H K
theorem zHa {t0 t2 t8 t9 t10 : AV} {H : zaa} {K : Kt} (Inv : Nat → AV → zaa → Prop) (n : Nat) (h0 : HSc H → Inv n t10 H)
  (round : Rd1 (fun t10 => zkn t0 t2 t8 t9 t10) (fun t10 => fun H Kb1 => zpb t0 t2 t8 t9 t10 H K Kb1) H Inv) : zve t0 t2 t8 t9 t10 H K :=
 lp1 (M := zkm) zHb t10 (by kernel_rfl) Inv n h0 round
theorem zHc {t0 t1 t2 : AV} {H : zaa} {K : Kt} (h : HSc H → zvd t0 t1 t2 H K) : ACalls tP zgz [t0, t1, t2] H K :=
 zau (M := zkm) Try.func57 (c := zpc) (by kernel_rfl) (fun hs => Eq.mpr (by kernel_rfl) (h hs))
def zko : Nat → List Bool
 | 3 => rl false [3,1,2,3,11]
 | _ => []
noncomputable def zpd : Code := Try.f58.body.getD .skip
noncomputable def zHj : List ResultVar := Try.f58.results.toList
def zg5 (t3 t6 t7 t8 : AV) : List AV := ux 3 (t3 :: ux 2 (t6 :: t7 :: t8 :: ux 11 []))
def zHh : List Bool := zko 3
noncomputable def zHf : Code := zao [1, 1, 0, 1, 0, 0] zpd
def zHe (K : Kt) : AExit → List AV → zaa → Prop := zap tP zko [1, 1, 0, 1, 0] zpd (zat tP zHj K)
def zkr (t3 t6 t7 t8 : AV) (H : zaa) (K : Kt) : Prop := ALoop tP zHf (zHe K) (zg5 t3 t6 t7 t8) H
def zpe (t3 t6 t7 t8 : AV) (H : zaa) (K : Kt) (Kb3 : Lt) : Prop :=
 zad .add false t8 (.int .i64 1) fun t18 =>
 Kb3 (zg5 t3 t6 t7 t18) H
def zkq (t3 t6 t7 t8 : AV) (H : zaa) (K : Kt) (Kb3 : Lt) : Prop :=
 zpe t3 t6 t7 t8 H K Kb3
def zkp (t3 t6 t7 t8 : AV) (H : zaa) (K : Kt) (Kb3 : Lt) : Prop :=
 zad .lss false t8 t7 fun t9 =>
 zag t9
 (zaj 1 t6 t8 fun t11 =>
 zae false 1 t11 H fun t12 =>
 zag t12
 (zay 1 [(.int .i64 0)] 1 [(0, t8)] fun t16 =>
 zaH zdu 1 8 t3 t16 H fun t17 H =>
 zkq t17 t6 t7 t8 H K Kb3)
 (zkq t3 t6 t7 t8 H K Kb3))
 (K t3 H)
def zvf (t0 : AV) (H : zaa) (K : Kt) : Prop :=
 zak 1 t0 fun t7 =>
 zkr .snil t0 t7 (.int .i64 0) H K
theorem zHg {t3 t6 t7 t8 : AV} {H : zaa} {K : Kt} (Inv : Nat → AV → AV → zaa → Prop) (n : Nat) (h0 : HSc H → Inv n t3 t8 H)
  (round : Rd2 (fun t3 => fun t8 => zg5 t3 t6 t7 t8) (fun t3 => fun t8 => fun H Kb3 => zkp t3 t6 t7 t8 H K Kb3) H Inv) : zkr t3 t6 t7 t8 H K :=
 lp2 (M := zko) zHh t3 t8 (by kernel_rfl) Inv n h0 round
theorem zHi {t0 : AV} {H : zaa} {K : Kt} (h : HSc H → zvf t0 H K) : ACalls tP zms [t0] H K :=
 zau (M := zko) Try.func58 (c := zpd) (by kernel_rfl) (fun hs => Eq.mpr (by kernel_rfl) (h hs))
end Go.Proofs.Ytkdmpbhbmmhijaa
namespace Go.Proofs.Ytkdmpbhbmmhijaa
open Go Go.Abs
set_option maxRecDepth 8000
theorem zmQ {H : zaa} {id n : Nat} {l : List Int} {st : List Bool} {b : Bool} (hid : H[id]? = some (boB st)) (hst : st.length = n) (hl : l.length ≤ 1000000) (hr : ∀ x ∈ l, 0 ≤ x ∧ x < (n : Int)) (K : Kt)
  (hK : K (.tup []) (H.set id (boB (zaz st l b)))) : ACalls tP zgz [.ms id 0 n n, .sl (ints l) .none, .bool b] H K := by
 refine zHc fun hs => ?_
 have hil := zbQ hid
 simp [zvd]
 refine zHa (Inv := fun q t10 H' => ∃ j : Nat, j ≤ l.length ∧ q = l.length - j ∧ t10 = .int .i64 j ∧ H' = H.set id (boB (zaz st (l.take j) b))) l.length ?_ ?_
 ·intro _; exact ⟨0, by omega, by omega, rfl, by simp [zaz, zdY hid]⟩
 ·rintro q t10 H' ⟨j, hj, rfl, rfl, rfl⟩ hsc hlen hsF Kb hKb
  have hg : ∀ st, (H.set id (boB st))[id]? = some (.cells (zaQ st)) := fun us => by rw [zcT _ hid]; rfl
  by_cases hjl : j < l.length
  ·have hrr := hr _ (List.getElem_mem hjl)
   obtain ⟨e, he⟩ : ∃ e : Nat, l[j] = e := ⟨(l[j]).toNat, by omega⟩
   have hen : e < n := by omega
   have hnx : zaz st (l.take (j + 1)) b = (zaz st (l.take j) b).set e b := by rw [zbM hjl, zif, he]; rfl
   have hsl : (zaz st (l.take j) b).length = n := by rw [zm0, hst]
   generalize zaz st (l.take j) b = st1 at *
   simp [zpb, hjl, he, hen, hg, hsl]
   rw [zaq (by omega) (by omega), zdr (by omega)]
   refine ⟨by omega, hKb _ _ ⟨l.length - (j + 1), by omega, Back.here (by simp) (hs.set (by simp [AB.sc, zdc])) ?_ ⟨_, rfl, j + 1, by omega, rfl, by simp, by rw [hnx]; rfl⟩⟩⟩
   simp [zkn, AV.sc, AV.scV, AV.scA, AV.scB]; omega
  ·obtain rfl : j = l.length := by omega
   rw [List.take_length] at *
   simp [zpb]
   simpa [zaW] using hK
def mem (st : List Bool) : List Int := ((List.range st.length).filter fun i => st.getD i false).map fun (i : Nat) => (i : Int)
def zb8 (st : List Bool) (k : Nat) : List Int := ((List.range k).filter fun i => st.getD i false).map fun (i : Nat) => (i : Int)
theorem zrx (st : List Bool) (k : Nat) : zb8 st (k + 1) = zb8 st k ++ (if st.getD k false = true then [(k : Int)] else []) := by
 rw [zb8, List.range_succ, List.filter_append, List.map_append, zb8]
 cases h : st.getD k false with
 | false =>
  have h' : st[k]?.getD false = false := by simpa using h
  simp [List.filter_cons, h']
 | true =>
  have h' : st[k]?.getD false = true := by simpa using h
  simp [List.filter_cons, h']
theorem zl7 (st : List Bool) (k : Nat) : (zb8 st k).length ≤ k := by
 rw [zb8, List.length_map]
 exact Nat.le_trans (List.length_filter_le _ _) (by simp)
theorem zHk {H : zaa} {id n : Nat} {st : List Bool} (hid : H[id]? = some (boB st)) (hst : st.length = n) (hn : n ≤ 1000000) (K : Kt) (hK : K (.sl (ints (mem st)) .none) H) : ACalls tP zms [.ms id 0 n n] H K := by
 refine ACalls.out (zHi fun hs => ?_)
 have hil := zbQ hid
 have hgJ : ∀ J, (H ++ J)[id]? = some (.cells (zaQ st)) := fun J => zaM hid
 subst hst
 simp [zvf]
 unfold zkr
 refine ALoop.own 3 zdu 1 rfl ?_
 show zkr (.sl [] (.own H.length)) (.ms id 0 st.length st.length) (.int .i64 st.length) (.int .i64 0) (H ++ [.perm zdu 1 0]) (Out H.length K)
 refine zHg (Inv := fun q t3 tI H' => ∃ i : Nat, i ≤ st.length ∧ q = st.length - i ∧ tI = .int .i64 i ∧ t3 = .sl (ints (zb8 st i)) (.own H.length) ∧ H' = H ++ [.perm zdu 1 (zb8 st i).length]) st.length ?_ ?_
 ·intro _; exact ⟨0, by omega, by omega, rfl, by simp [zb8, ints], by simp [zb8]⟩
 rintro q t3 tI H' ⟨i, hi, rfl, rfl, rfl, rfl⟩ hsc hlen hsF Kb hKb
 have hml := zl7 st i
 by_cases hlt : i < st.length
 ·have hsu := zrx st i
  have hgd : st.getD i false = st[i] := by rw [List.getD_eq_getElem?_getD, List.getElem?_eq_getElem hlt]; rfl
  rw [hgd] at hsu
  have back : ∀ l, zb8 st (i + 1) = l → Kb (zg5 (.sl (ints l) (.own H.length)) (.ms id 0 st.length st.length) (.int .i64 st.length) (.int .i64 ((i : Int) + 1))) (H ++ [.perm zdu 1 l.length]) := fun l h => by
   subst h
   refine hKb _ _ ⟨st.length - (i + 1), by omega, Back.here (by simp) (hs.append rfl) ?_ ⟨_, _, rfl, i + 1, by omega, rfl, by simp, rfl, rfl⟩⟩
   simp [zg5, AV.sc, AV.scV, AV.scA, AV.scB]; omega
  cases hb : st[i] with
  | false =>
   rw [hb, if_neg (by simp), List.append_nil] at hsu
   have := back _ hsu
   simp [zkp, zkq, zpe, hlt, hgJ, zaK, hb]
   rw [zaq (by omega) (by omega)]
   exact this
  | true =>
   rw [hb, if_pos rfl] at hsu
   have := back _ hsu
   simp [zkp, zkq, zpe, hlt, hgJ, zaK, hb]
   rw [show ∀ k : AV → Prop, zay 1 [.int .i64 0] 1 [(0, .int .i64 (i : Int))] k = k (.sl [[.int .i64 (i : Int)]] .full) from fun k => propext Iff.rfl]
   simp [zaH, zbE, zbb]
   refine ⟨⟨by omega, by omega⟩, ?_⟩
   rw [zaq (by omega) (by omega)]
   simpa [ints] using this
 ·obtain rfl : i = st.length := by omega
  simp [zkp]
  exact Out.one hs (.atom (.sl _ _)) rfl rfl hK
def tk (e : CEx) : List Int := if e.op = 7 then [e.kids.getD 1 0] else if e.op = 8 ∨ e.op = 9 ∨ e.op = 10 ∨ e.op = 24 then e.kids else []
def lf (e : CEx) : Bool := !(e.op == 7 || e.op == 8 || e.op == 9 || e.op == 10 || e.op == 24)
def zna (c : Cor) (i : Nat) : List Int := match c.exprs[i]? with | some e => tk e | none => []
inductive TR (c : Cor) (b : Nat) : Nat → Prop
 | base : TR c b b
 | step {p v : Nat} (h : TR c b p) (hk : (v : Int) ∈ zna c p) : TR c b v
theorem TR.front {c : Cor} {b k v : Nat} (hk : (k : Int) ∈ zna c b) (h : TR c k v) : TR c b v := by
 induction h with
 | base => exact .step .base hk
 | step h hk2 ih => exact .step ih hk2
structure TkP (c : Cor) : Prop where
 up : ∀ i, i < c.exprs.length → ∀ k ∈ zna c i, (i : Int) < k ∧ k < c.exprs.length
theorem zzq (l : List Int) : ∀ (st : List Bool), (∀ x ∈ l, 0 ≤ x ∧ x < (st.length : Int)) → ∀ v, (zaz st l true).getD v false = true ↔ st.getD v false = true ∨ (v : Int) ∈ l := by
 induction l with
 | nil => intro st _ v; simp [zaz]
 | cons a l ih =>
  intro st hr v
  have ha := hr a (by simp)
  rw [zie, ih _ (fun x hx => by simpa using hr x (by simp [hx])) v, zfL]
  by_cases hv : a.toNat = v ∧ v < st.length
  ·rw [if_pos hv]
   have : (v : Int) = a := by omega
   simp [this]
  ·rw [if_neg hv]
   have : ¬ (v : Int) = a := by intro h; exact hv (by omega)
   simp [this]
def zcf (c : Cor) (p : Nat) : List Int := match c.exprs[p]? with | some e => e.kids | none => []
def zcc (c : Cor) (p : Nat) : List (List Int) := match c.exprs[p]? with | some e => e.binds | none => []
def zbU (c : Cor) (p : Nat) : List Int := match c.exprs[p]? with | some e => e.vars | none => []
def Kid (c : Cor) (p k j : Nat) : Prop := (zcf c p)[k]? = some (j : Int)
def Bind (c : Cor) (p k : Nat) (v : Int) : Prop := ∃ l, (zcc c p)[k]? = some l ∧ v ∈ l
def zfm (c : Cor) (i j : Nat) : Prop := ∃ h : i < c.codes.length, (c.codes[i]).body = (j : Int)
def Par (c : Cor) (i : Nat) (v : Int) : Prop := ∃ h : i < c.codes.length, v ∈ (c.codes[i]).params ++ (c.codes[i]).capt
inductive InS (c : Cor) : Nat → Int → Prop
 | root {i j : Nat} {v : Int} (hr : zfm c i j) (hv : Par c i v) : InS c j v
 | bind {p k j : Nat} {v : Int} (hk : Kid c p k j) (hv : Bind c p k v) : InS c j v
 | up {p k j : Nat} {v : Int} (hk : Kid c p k j) (h : InS c p v) : InS c j v
inductive Sub (c : Cor) (e : Nat) : Nat → Prop
 | refl : Sub c e e
 | step {p k j : Nat} (h : Sub c e p) (hk : Kid c p k j) : Sub c e j
theorem Sub.trans {c : Cor} {a b d : Nat} (h : Sub c a b) (h2 : Sub c b d) : Sub c a d := by
 induction h2 with
 | refl => exact h
 | step _ hk ih => exact .step ih hk
theorem Sub.front {c : Cor} {e j : Nat} (h : Sub c e j) : j = e ∨ ∃ k m, Kid c e k m ∧ Sub c m j := by
 induction h with
 | refl => exact .inl rfl
 | step h hk ih =>
  rcases ih with rfl | ⟨k, m, h1, h2⟩
  ·exact .inr ⟨_, _, hk, .refl⟩
  ·exact .inr ⟨k, m, h1, .step h2 hk⟩
structure TreeC (c : Cor) : Prop where
 lt : ∀ {p k j : Nat}, Kid c p k j → p < j ∧ j < c.exprs.length
 uni : ∀ {p k p' k' j : Nat}, Kid c p k j → Kid c p' k' j → p = p' ∧ k = k'
 nob : ∀ {p k j i : Nat}, Kid c p k j → ¬ zfm c i j
 bod : ∀ {i i' j : Nat}, zfm c i j → zfm c i' j → i = i'
 blt : ∀ {i j : Nat}, zfm c i j → j < c.exprs.length
 ex : ∀ {j : Nat}, j < c.exprs.length → (∃ i, zfm c i j) ∨ ∃ p k, Kid c p k j
 kb : ∀ p : Nat, (zcc c p).length = (zcf c p).length
 kr : ∀ p : Nat, ∀ x ∈ zcf c p, 0 ≤ x ∧ x < (c.exprs.length : Int)
 br : ∀ {p k : Nat} {v : Int}, Bind c p k v → 0 ≤ v ∧ v < (c.vars.length : Int)
 pr : ∀ {i : Nat} {v : Int}, Par c i v → 0 ≤ v ∧ v < (c.vars.length : Int)
 vr : ∀ p : Nat, ∀ x ∈ zbU c p, 0 ≤ x ∧ x < (c.vars.length : Int)
 bu : ∀ {p k p' k' : Nat} {v : Int}, Bind c p k v → Bind c p' k' v → p = p' ∧ k = k'
 bn : ∀ {p k : Nat} {l : List Int}, (zcc c p)[k]? = some l → l.Nodup
 bp : ∀ {p k : Nat} {v : Int} {i : Nat}, Bind c p k v → ¬ Par c i v
 pu : ∀ {i i' : Nat} {v : Int}, Par c i v → Par c i' v → i = i'
 pn : ∀ (i) (h : i < c.codes.length), ((c.codes[i]).params ++ (c.codes[i]).capt).Nodup
 sc : ∀ {j : Nat} {v : Int}, v ∈ zbU c j → InS c j v
variable {c : Cor}
theorem TreeC.sub_le (hT : TreeC c) {a b : Nat} (h : Sub c a b) : a ≤ b := by
 induction h with
 | refl => exact Nat.le_refl _
 | step _ hk ih => have := (hT.lt hk).1; omega
theorem TreeC.line (hT : TreeC c) {a b j : Nat} (h1 : Sub c a j) (h2 : Sub c b j) : Sub c a b ∨ Sub c b a := by
 induction h1 with
 | refl => exact .inr h2
 | step h hk ih =>
  cases h2 with
  | refl => exact .inl (.step h hk)
  | step h' hk' =>
   obtain ⟨rfl, _⟩ := hT.uni hk hk'
   exact ih h'
theorem TreeC.apart (hT : TreeC c) {p k k' m m' j : Nat} (h1 : Kid c p k m) (h2 : Kid c p k' m') (h3 : Sub c m j) (h4 : Sub c m' j) : k = k' := by
 have key : ∀ {k k' m m'}, Kid c p k m → Kid c p k' m' → Sub c m m' → k = k' := by
  intro k k' m m' h1 h2 h
  cases h with
  | refl => exact (hT.uni h1 h2).2
  | step h hk =>
   obtain ⟨rfl, _⟩ := hT.uni h2 hk
   have := hT.sub_le h
   have := (hT.lt h1).1
   omega
 rcases hT.line h3 h4 with h | h
 ·exact key h1 h2 h
 ·exact (key h2 h1 h).symm
theorem TreeC.bound_sub (hT : TreeC c) {j p k : Nat} {v : Int} (h : InS c j v) (hb : Bind c p k v) : ∃ m, Kid c p k m ∧ Sub c m j := by
 induction h with
 | root hr hv => exact absurd hv (hT.bp hb)
 | bind hk hv =>
  obtain ⟨rfl, rfl⟩ := hT.bu hb hv
  exact ⟨_, hk, .refl⟩
 | up hk h ih =>
  obtain ⟨m, h1, h2⟩ := ih hb
  exact ⟨m, h1, .step h2 hk⟩
theorem TreeC.bound_lt (hT : TreeC c) {j p k : Nat} {v : Int} (h : InS c j v) (hb : Bind c p k v) : p < j := by
 obtain ⟨m, h1, h2⟩ := hT.bound_sub h hb
 have := hT.sub_le h2
 have := (hT.lt h1).1
 omega
def Occ (c : Cor) (e : Nat) (v : Int) : Prop := ∃ j, Sub c e j ∧ v ∈ zbU c j
def Bnd (c : Cor) (e : Nat) (v : Int) : Prop := ∃ j k, Sub c e j ∧ Bind c j k v
def zcM (c : Cor) (e : Nat) (v : Int) : Prop := Occ c e v ∧ ¬ Bnd c e v
theorem TreeC.kid_InS (hT : TreeC c) {p k j : Nat} {v : Int} (hk : Kid c p k j) : InS c j v ↔ InS c p v ∨ Bind c p k v := by
 constructor
 ·intro h
  cases h with
  | root hr hv => exact absurd hr (hT.nob hk)
  | bind hk' hv =>
   obtain ⟨rfl, rfl⟩ := hT.uni hk hk'
   exact .inr hv
  | up hk' h =>
   obtain ⟨rfl, rfl⟩ := hT.uni hk hk'
   exact .inl h
 ·rintro (h | h)
  ·exact .up hk h
  ·exact .bind hk h
theorem TreeC.InS_range (hT : TreeC c) {j : Nat} {v : Int} (h : InS c j v) : 0 ≤ v ∧ v < (c.vars.length : Int) := by
 induction h with
 | root hr hv => exact hT.pr hv
 | bind hk hv => exact hT.br hv
 | up hk h ih => exact ih
theorem TreeC.scope_sub (hT : TreeC c) {e j : Nat} {v : Int} (h : Sub c e j) (hi : InS c j v) : InS c e v ∨ Bnd c e v := by
 induction h with
 | refl => exact .inl hi
 | step h hk ih =>
  rcases (hT.kid_InS hk).1 hi with h1 | h1
  ·exact ih h1
  ·exact .inr ⟨_, _, h, h1⟩
theorem TreeC.free_scope (hT : TreeC c) {e : Nat} {v : Int} (h : zcM c e v) : InS c e v := by
 obtain ⟨⟨j, h1, h2⟩, h3⟩ := h
 rcases hT.scope_sub h1 (hT.sc h2) with h4 | h4
 ·exact h4
 ·exact absurd h4 h3
theorem Occ_iff {e : Nat} {v : Int} : Occ c e v ↔ v ∈ zbU c e ∨ ∃ k m, Kid c e k m ∧ Occ c m v := by
 constructor
 ·rintro ⟨j, h1, h2⟩
  rcases h1.front with rfl | ⟨k, m, h3, h4⟩
  ·exact .inl h2
  ·exact .inr ⟨k, m, h3, j, h4, h2⟩
 ·rintro (h | ⟨k, m, h1, j, h2, h3⟩)
  ·exact ⟨e, .refl, h⟩
  ·exact ⟨j, (Sub.step .refl h1).trans h2, h3⟩
theorem Bnd_iff {e : Nat} {v : Int} : Bnd c e v ↔ (∃ k, Bind c e k v) ∨ ∃ k m, Kid c e k m ∧ Bnd c m v := by
 constructor
 ·rintro ⟨j, k', h1, h2⟩
  rcases h1.front with rfl | ⟨k, m, h3, h4⟩
  ·exact .inl ⟨k', h2⟩
  ·exact .inr ⟨k, m, h3, j, k', h4, h2⟩
 ·rintro (⟨k, h⟩ | ⟨k, m, h1, j, k', h2, h3⟩)
  ·exact ⟨e, k, .refl, h⟩
  ·exact ⟨j, k', (Sub.step .refl h1).trans h2, h3⟩
theorem TreeC.occ_apart (hT : TreeC c) {e k k' m m' : Nat} {v : Int} (h1 : Kid c e k m) (h2 : Kid c e k' m') (ho : Occ c m v) (hb : Bind c e k' v ∨ Bnd c m' v) : k = k' := by
 obtain ⟨j, h3, h4⟩ := ho
 rcases hb with hb | ⟨p, kp, hs, hb⟩
 ·obtain ⟨q, h5, h6⟩ := hT.bound_sub (hT.sc h4) hb
  exact hT.apart h1 h5 h3 h6
 ·obtain ⟨q, h5, h6⟩ := hT.bound_sub (hT.sc h4) hb
  exact hT.apart h1 h2 h3 ((hs.step h5).trans h6)
theorem TreeC.vars_free (hT : TreeC c) {e : Nat} {v : Int} (h : v ∈ zbU c e) : zcM c e v := by
 refine ⟨⟨e, .refl, h⟩, ?_⟩
 rintro ⟨j, k, h1, h2⟩
 have := hT.bound_lt (hT.sc h) h2
 have := hT.sub_le h1
 omega
theorem TreeC.free_iff (hT : TreeC c) {e : Nat} {v : Int} : zcM c e v ↔ v ∈ zbU c e ∨ ∃ k m, Kid c e k m ∧ zcM c m v ∧ ¬ Bind c e k v := by
 constructor
 ·rintro ⟨h1, h2⟩
  rw [Bnd_iff] at h2
  rcases Occ_iff.1 h1 with h | ⟨k, m, h3, h4⟩
  ·exact .inl h
  ·exact .inr ⟨k, m, h3, ⟨h4, fun h => h2 (.inr ⟨k, m, h3, h⟩)⟩, fun h => h2 (.inl ⟨k, h⟩)⟩
 ·rintro (h | ⟨k, m, h1, ⟨h2, h3⟩, h4⟩)
  ·exact hT.vars_free h
  ·refine ⟨Occ_iff.2 (.inr ⟨k, m, h1, h2⟩), fun h => ?_⟩
   rcases Bnd_iff.1 h with ⟨k', h5⟩ | ⟨k', m', h5, h6⟩
   ·have hm : ∃ m', Kid c e k' m' := by
     obtain ⟨l, h6, h7⟩ := h5
     have h8 := (List.getElem?_eq_some_iff.1 h6).1
     rw [hT.kb] at h8
     have h9 := hT.kr e _ (List.getElem_mem h8)
     exact ⟨((zcf c e)[k']).toNat, by unfold Kid; rw [List.getElem?_eq_getElem h8]; congr 1; omega⟩
    obtain ⟨m', hm⟩ := hm
    obtain rfl := hT.occ_apart h1 hm h2 (.inl h5)
    exact h4 h5
   ·obtain rfl := hT.occ_apart h1 h5 h2 (.inr h6)
    unfold Kid at h1 h5
    rw [h1] at h5
    obtain rfl : m = m' := by have := Option.some.inj h5; omega
    exact h3 h6
theorem zrG {l : List Int} (h : l.Nodup) {i j : Nat} {v : Int} (h1 : l[i]? = some v) (h2 : l[j]? = some v) : i = j := by
 obtain ⟨a1, b1⟩ := List.getElem?_eq_some_iff.1 h1
 obtain ⟨a2, b2⟩ := List.getElem?_eq_some_iff.1 h2
 have hp := List.pairwise_iff_getElem.1 h
 rcases Nat.lt_trichotomy i j with h3 | h3 | h3
 ·exact absurd (b1.trans b2.symm) (hp i j a1 a2 h3)
 ·exact h3
 ·exact absurd (b2.trans b1.symm) (hp j i a2 a1 h3)
theorem zh2 {α : Type} {l : List α} {f : α → List Int} (h : (l.flatMap f).Nodup) {i j : Nat} (hi : i < l.length) (hj : j < l.length) {v : Int} (h1 : v ∈ f l[i]) (h2 : v ∈ f l[j]) : i = j := by
 obtain ⟨_, hp⟩ := List.pairwise_flatMap.1 h
 have hp := List.pairwise_iff_getElem.1 hp
 rcases Nat.lt_trichotomy i j with h3 | h3 | h3
 ·exact absurd rfl (hp i j hi hj h3 v h1 v h2)
 ·exact h3
 ·exact absurd rfl (hp j i hj hi h3 v h2 v h1)
theorem zgD {α : Type} {l : List α} {f : α → List Int} (h : (l.flatMap f).Nodup) {i : Nat} (hi : i < l.length) : (f l[i]).Nodup :=
 (List.pairwise_flatMap.1 h).1 _ (List.getElem_mem hi)
theorem zcQ {c : Cor} {p : Nat} (h : p < c.exprs.length) : zcf c p = (c.exprs[p]).kids := by unfold zcf; rw [List.getElem?_eq_getElem h]
theorem zdP {c : Cor} {p : Nat} (h : p < c.exprs.length) : zcc c p = (c.exprs[p]).binds := by unfold zcc; rw [List.getElem?_eq_getElem h]
theorem znl {c : Cor} {p : Nat} (h : p < c.exprs.length) : zbU c p = (c.exprs[p]).vars := by unfold zbU; rw [List.getElem?_eq_getElem h]
theorem zgp {c : Cor} {p : Nat} {x : Int} (h : x ∈ zcf c p) : p < c.exprs.length := by
 by_cases h2 : p < c.exprs.length
 ·exact h2
 ·unfold zcf at h; rw [List.getElem?_eq_none (by omega)] at h; simp at h
theorem zho {c : Cor} {p : Nat} {x : List Int} (h : x ∈ zcc c p) : p < c.exprs.length := by
 by_cases h2 : p < c.exprs.length
 ·exact h2
 ·unfold zcc at h; rw [List.getElem?_eq_none (by omega)] at h; simp at h
theorem znm {c : Cor} {p : Nat} {x : Int} (h : x ∈ zbU c p) : p < c.exprs.length := by
 by_cases h2 : p < c.exprs.length
 ·exact h2
 ·unfold zbU at h; rw [List.getElem?_eq_none (by omega)] at h; simp at h
theorem Kid.mem {c : Cor} {p k j : Nat} (h : Kid c p k j) : (j : Int) ∈ zcf c p := List.mem_of_getElem? h
theorem Bind.mem {c : Cor} {p k : Nat} {v : Int} (h : Bind c p k v) : v ∈ (zcc c p).flatten := by
 obtain ⟨l, h1, h2⟩ := h
 exact List.mem_flatten.2 ⟨l, List.mem_of_getElem? h1, h2⟩
theorem zAv {c : Cor} {m : Nat} (hbr : ∀ {p k : Nat} {v : Int}, Bind c p k v → 0 ≤ v) (ih : ∀ i st st', zaZ c m i st = some st' → (∀ v : Nat, st.getD v false = true → InS c i v) → ∀ j, Sub c i j → ∀ v ∈ zbU c j, InS c j v) (i : Nat) :
  ∀ (bs : List (List Int)) (ks : List Int) (st st' : List Bool) (k0 : Nat), zby c m bs ks st = some st' → bs.length = ks.length → (∀ r, (zcc c i)[k0 + r]? = bs[r]?) → (∀ r, (zcf c i)[k0 + r]? = ks[r]?) → (∀ v : Nat, st.getD v false = true → InS c i v) →
   ∀ (r m' : Nat), ks[r]? = some (m' : Int) → ∀ j, Sub c m' j → ∀ v ∈ zbU c j, InS c j v := by
 intro bs
 induction bs with
 | nil =>
  intro ks st st' k0 _ hl _ _ _ r m' hr
  have : ks = [] := List.eq_nil_of_length_eq_zero (by simpa using hl.symm)
  subst this
  simp at hr
 | cons b bs ihb =>
  intro ks st st' k0 h hl hb hk hs r m' hr
  cases ks with
  | nil => simp at hl
  | cons k ks =>
   rw [zby] at h
   cases hv : zaZ c m k.toNat (zaz st b true) with
   | none => rw [hv] at h; cases h
   | some s2 =>
    rw [hv] at h
    simp only at h
    cases r with
    | zero =>
     simp at hr
     subst hr
     have hkid : Kid c i k0 m' := by have := hk 0; simp at this; exact this
     have hbd : (zcc c i)[k0]? = some b := by have := hb 0; simpa using this
     refine ih m' _ s2 (by simpa using hv) fun v hv => ?_
     rcases zfK b _ _ hv with h1 | ⟨x, hx, e⟩
     ·exact .up hkid (hs v h1)
     ·have hB : Bind c i k0 x := ⟨b, hbd, hx⟩
      have := hbr hB
      obtain rfl : x = (v : Int) := by omega
      exact .bind hkid hB
    | succ r =>
     refine ihb ks _ _ (k0 + 1) h (by simpa using hl) (fun r => ?_) (fun r => ?_) (fun v hv2 => hs v (zse (zsL c _ _ _ _ hv) v hv2)) r m' (by simpa using hr)
     ·have := hb (r + 1); rw [show k0 + 1 + r = k0 + (r + 1) by omega]; simpa using this
     ·have := hk (r + 1); rw [show k0 + 1 + r = k0 + (r + 1) by omega]; simpa using this
theorem zAm {c : Cor} (hbr : ∀ {p k : Nat} {v : Int}, Bind c p k v → 0 ≤ v) (hkb : ∀ p, (zcc c p).length = (zcf c p).length) : ∀ (m i : Nat) (st st' : List Bool), zaZ c m i st = some st' → (∀ v : Nat, st.getD v false = true → InS c i v) → ∀ j, Sub c i j → ∀ v ∈ zbU c j, InS c j v := by
 intro m
 induction m with
 | zero => intro i st st' h; rw [zaZ] at h; cases h
 | succ m ih =>
  intro i st st' h hs j hj v hv
  rw [zaZ] at h
  cases he : c.exprs[i]? with
  | none => rw [he] at h; cases h
  | some e =>
   rw [he] at h
   simp only at h
   split at h
   ·rename_i hall
    rcases hj.front with rfl | ⟨k, m', h1, h2⟩
    ·unfold zbU at hv
     rw [he] at hv
     have h3 := List.all_eq_true.1 hall v hv
     simp only [Bool.and_eq_true, decide_eq_true_eq] at h3
     have h4 := hs _ h3.2
     rw [show ((v.toNat : Nat) : Int) = v by omega] at h4
     exact h4
    ·have e1 : zcc c i = e.binds := by unfold zcc; rw [he]
     have e2 : zcf c i = e.kids := by unfold zcf; rw [he]
     refine zAv hbr ih i e.binds e.kids st st' 0 h (by rw [← e1, ← e2]; exact hkb i) (fun r => by rw [e1, Nat.zero_add]) (fun r => by rw [e2, Nat.zero_add]) hs k m' ?_ j h2 v hv
     rw [← e2]; exact h1
   ·cases h
theorem zil {c : Cor} (hk : zaR c) (h : vOk c = true) : TreeC c := by
 have hp := (znk c).1 h
 have hr := (zsI c hk).1 hp
 obtain ⟨t1, t2, t3, t4⟩ := hp.tree
 obtain ⟨b1, b2, b3⟩ := hp.bind
 unfold zbG at t3
 obtain ⟨n1, n2, n3⟩ := List.nodup_append.1 t3
 unfold zbS at b2 b1
 obtain ⟨m1, m2, m3⟩ := List.nodup_append.1 b2
 have hbl : ∀ p, (zcc c p).length = (zcf c p).length := fun p => by
  by_cases h2 : p < c.exprs.length
  ·rw [zdP h2, zcQ h2]; exact t1 p h2
  ·unfold zcc zcf; rw [List.getElem?_eq_none (by omega)]; rfl
 have hbr : ∀ {p k : Nat} {v : Int}, Bind c p k v → v ∈ c.exprs.flatMap fun e => e.binds.flatten := fun {p k v} hb => by
  have h1 := hb.mem
  obtain ⟨l, h2, _⟩ := hb
  have h3 := zho (List.mem_of_getElem? h2)
  rw [zdP h3] at h1
  exact List.mem_flatMap.2 ⟨_, List.getElem_mem h3, h1⟩
 have hpr : ∀ {i : Nat} {v : Int}, Par c i v → v ∈ c.codes.flatMap fun f => f.params ++ f.capt := fun {i v} ⟨h1, h2⟩ => List.mem_flatMap.2 ⟨_, List.getElem_mem h1, h2⟩
 have hb0 : ∀ {p k : Nat} {v : Int}, Bind c p k v → 0 ≤ v ∧ v < (c.vars.length : Int) := fun hb => b1 _ (List.mem_append.2 (.inr (hbr hb)))
 have hbu : ∀ {p k p' k' : Nat} {v : Int}, Bind c p k v → Bind c p' k' v → p = p' ∧ k = k' := fun {p k p' k' v} h1 h2 => by
  have g1 := h1.mem; have g2 := h2.mem
  obtain ⟨l, a1, a2⟩ := h1
  obtain ⟨l', c1, c2⟩ := h2
  have g3 := zho (List.mem_of_getElem? a1)
  have g4 := zho (List.mem_of_getElem? c1)
  rw [zdP g3] at g1
  rw [zdP g4] at g2
  obtain rfl := zh2 m2 g3 g4 g1 g2
  refine ⟨rfl, ?_⟩
  have g5 := zgD m2 g3
  rw [← zdP g3] at g5
  obtain ⟨a3, a4⟩ := List.getElem?_eq_some_iff.1 a1
  obtain ⟨c3, c4⟩ := List.getElem?_eq_some_iff.1 c1
  have g6 : ((zcc c p).flatMap id).Nodup := by rw [List.flatMap_id]; exact g5
  exact zh2 g6 a3 c3 (v := v) (by rw [a4]; exact a2) (by rw [c4]; exact c2)
 refine { lt := ?_, uni := ?_, nob := ?_, bod := ?_, blt := ?_, ex := ?_, kb := hbl, kr := ?_, br := hb0, pr := ?_, vr := ?_, bu := hbu, bn := ?_, bp := ?_, pu := ?_, pn := ?_, sc := ?_ }
 ·intro p k j h1
  have h2 := zgp h1.mem
  have h3 := t2 p h2 j (by rw [← zcQ h2]; exact h1.mem)
  omega
 ·intro p k p' k' j h1 h2
  have h3 := zgp h1.mem
  have h4 := zgp h2.mem
  obtain rfl := zh2 n2 h3 h4 (by rw [← zcQ h3]; exact h1.mem) (by rw [← zcQ h4]; exact h2.mem)
  have h5 := zgD n2 h3
  rw [← zcQ h3] at h5
  exact ⟨rfl, zrG h5 h1 h2⟩
 ·rintro p k j i h1 ⟨h2, h3⟩
  have h4 := zgp h1.mem
  have h5 : (j : Int) ∈ c.exprs.flatMap CEx.kids := List.mem_flatMap.2 ⟨_, List.getElem_mem h4, by rw [← zcQ h4]; exact h1.mem⟩
  exact n3 j (List.mem_map.2 ⟨_, List.getElem_mem h2, h3⟩) j h5 rfl
 ·rintro i i' j ⟨h1, h2⟩ ⟨h3, h4⟩
  exact zrG n1 (i := i) (j := i') (v := j) (by rw [List.getElem?_map, List.getElem?_eq_getElem h1]; simp [h2]) (by rw [List.getElem?_map, List.getElem?_eq_getElem h3]; simp [h4])
 ·rintro i j ⟨h1, h2⟩
  obtain ⟨b, hb, hlt, _⟩ := (hr.codes i h1).body
  rw [hb] at h2
  omega
 ·intro j hj
  have h1 := hr.placed j hj
  have h2 : (j : Int) ∈ zbG c := List.count_pos_iff.1 (by omega)
  unfold zbG at h2
  rcases List.mem_append.1 h2 with h3 | h3
  ·obtain ⟨f, hf, he⟩ := List.mem_map.1 h3
   obtain ⟨i, hi, rfl⟩ := List.mem_iff_getElem.1 hf
   exact .inl ⟨i, hi, he⟩
  ·obtain ⟨e, he, hm⟩ := List.mem_flatMap.1 h3
   obtain ⟨p, hp, rfl⟩ := List.mem_iff_getElem.1 he
   obtain ⟨k, hk2, hj2⟩ := List.mem_iff_getElem.1 hm
   exact .inr ⟨p, k, by unfold Kid; rw [zcQ hp, List.getElem?_eq_getElem hk2, hj2]⟩
 ·intro p x hx
  have h2 := zgp hx
  rw [zcQ h2] at hx
  exact (hr.exprs p h2).range x hx
 ·intro i v h1
  exact b1 _ (List.mem_append.2 (.inl (hpr h1)))
 ·intro p x hx
  have h2 := znm hx
  rw [znl h2] at hx
  exact (hr.exprs p h2).vars x hx
 ·intro p k l h1
  have h2 := zho (List.mem_of_getElem? h1)
  have h3 := zgD m2 h2
  rw [← zdP h2, ← List.flatMap_id] at h3
  obtain ⟨h4, h5⟩ := List.getElem?_eq_some_iff.1 h1
  have h6 := zgD h3 h4
  rw [h5] at h6
  exact h6
 ·intro p k v i h1 h2
  exact m3 v (hpr h2) v (hbr h1) rfl
 ·rintro i i' v ⟨h1, h2⟩ ⟨h3, h4⟩
  exact zh2 m1 h1 h3 h2 h4
 ·intro i hi
  exact zgD m1 hi
 ·have hsub : ∀ (i : Nat) (hi : i < c.codes.length) (j b : Nat), (c.codes[i]).body = (b : Int) → Sub c b j → ∀ v ∈ zbU c j, InS c j v := by
   intro i hi j b hb hj v hv
   have h1 := hr.scopes i hi
   have h2 := zsM c c.exprs.length (c.codes[i]).body.toNat (zcI c c.codes[i])
   rw [if_pos h1] at h2
   rw [hb] at h2
   refine zAm (fun hb => (hb0 hb).1) hbl _ b _ _ (by simpa using h2) (fun v hv => ?_) j hj v hv
   have hP : Par c i v := by
    unfold zcI at hv
    rcases zfK _ _ _ hv with h3 | ⟨x, hx, e⟩
    ·rcases zfK _ _ _ h3 with h4 | ⟨x, hx, e⟩
     ·rw [List.getD_eq_getElem?_getD, List.getElem?_replicate] at h4
      split at h4 <;> simp at h4
     ·have hP : Par c i x := ⟨hi, List.mem_append.2 (.inl hx)⟩
      have := b1 _ (List.mem_append.2 (.inl (hpr hP)))
      obtain rfl : x = (v : Int) := by omega
      exact hP
    ·have hP : Par c i x := ⟨hi, List.mem_append.2 (.inr hx)⟩
     have := b1 _ (List.mem_append.2 (.inl (hpr hP)))
     obtain rfl : x = (v : Int) := by omega
     exact hP
   exact .root ⟨hi, hb⟩ hP
  have hroot : ∀ m j, j ≤ m → j < c.exprs.length → ∃ i, ∃ hi : i < c.codes.length, ∃ b : Nat, (c.codes[i]).body = (b : Int) ∧ Sub c b j := by
   intro m
   induction m with
   | zero =>
    intro j hj hjl
    have h1 := hr.placed j hjl
    have h2 : (j : Int) ∈ zbG c := List.count_pos_iff.1 (by omega)
    unfold zbG at h2
    rcases List.mem_append.1 h2 with h3 | h3
    ·obtain ⟨f, hf, he⟩ := List.mem_map.1 h3
     obtain ⟨i, hi, rfl⟩ := List.mem_iff_getElem.1 hf
     exact ⟨i, hi, j, he, .refl⟩
    ·obtain ⟨e, he, hm⟩ := List.mem_flatMap.1 h3
     obtain ⟨p, hp, rfl⟩ := List.mem_iff_getElem.1 he
     have := t2 p hp j hm
     omega
   | succ m ih =>
    intro j hj hjl
    have h1 := hr.placed j hjl
    have h2 : (j : Int) ∈ zbG c := List.count_pos_iff.1 (by omega)
    unfold zbG at h2
    rcases List.mem_append.1 h2 with h3 | h3
    ·obtain ⟨f, hf, he⟩ := List.mem_map.1 h3
     obtain ⟨i, hi, rfl⟩ := List.mem_iff_getElem.1 hf
     exact ⟨i, hi, j, he, .refl⟩
    ·obtain ⟨e, he, hm⟩ := List.mem_flatMap.1 h3
     obtain ⟨p, hp, rfl⟩ := List.mem_iff_getElem.1 he
     have := t2 p hp j hm
     obtain ⟨k, hk2, hj2⟩ := List.mem_iff_getElem.1 hm
     obtain ⟨i, hi, b, h4, h5⟩ := ih p (by omega) hp
     exact ⟨i, hi, b, h4, .step h5 (by unfold Kid; rw [zcQ hp, List.getElem?_eq_getElem hk2, hj2])⟩
  intro j v hv
  obtain ⟨i, hi, b, h1, h2⟩ := hroot j j (Nat.le_refl _) (znm hv)
  exact hsub i hi j b h1 h2 v hv
theorem zwy (x y : List Int) (hl : x.length ≤ 1000000) (H : zaa) (K : Kt) (hK : K (.bool (x == y)) H) : ACalls tP zmf [.sl (ints x) .none, .sl (ints y) .none] H K := by
 refine ACalls.out (zDU fun hs => ?_)
 have hO : ∀ r, (x == y) = r → Out H.length K (.bool r) H := fun r h => by
  have := Out.bool (H2 := H) (J := []) (n := H.length) (H' := H) (b := (x == y)) (by simp) (Nat.le_refl _) hs hK
  rwa [h] at this
 by_cases hxy : x.length = y.length
 ·have h1 : ((x.length : Int) != y.length) = false := by simp [hxy]
  simp [zoe, h1]
  refine zDS (Inv := fun q t13 H' => ∃ i : Nat, i ≤ x.length ∧ q = x.length - i ∧ t13 = .int .i64 i ∧ (x.drop i == y.drop i) = (x == y) ∧ H' = H) x.length ?_ ?_
  ·intro _; exact ⟨0, by omega, by omega, rfl, by simp, rfl⟩
  rintro q t13 H' ⟨i, hi, rfl, rfl, ho, rfl⟩ hsc hlen hsF Kb hKb
  by_cases hlt : i < x.length
  ·have hlt' : i < y.length := by omega
   rw [List.drop_eq_getElem_cons hlt, List.drop_eq_getElem_cons hlt', List.cons_beq_cons] at ho
   by_cases he : x[i] = y[i]
   ·rw [he, beq_self_eq_true, Bool.true_and] at ho
    simp [zjm, hlt, hlt', he]
    rw [zaq (by omega) (by omega)]
    refine hKb _ _ ⟨x.length - (i + 1), by omega, Back.here (Nat.le_refl _) hsc ?_ ⟨_, rfl, i + 1, by omega, rfl, by simp, ho, rfl⟩⟩
    simp [zjn, AV.sc, AV.scV, AV.scA, AV.scB]
   ·rw [nb he, Bool.false_and] at ho
    simp [zjm, hlt, hlt', nbt he]
    exact hO _ ho.symm
  ·obtain rfl : i = x.length := by omega
   rw [List.drop_length, hxy, List.drop_length] at ho
   simp [zjm]
   exact hO _ (by rw [← ho]; rfl)
 ·have h1 : ((x.length : Int) != y.length) = true := nbt (by omega)
  simp [zoe, h1]
  refine hO _ ?_
  rw [beq_eq_false_iff_ne]
  intro h; exact hxy (by rw [h])
def ownC : List Cod → Nat → List Int → List Int
 | [], _, st => st
 | f :: l, i, st => ownC l (i + 1) (st.set f.body.toNat i)
structure BodP (c : Cor) : Prop where
 body : ∀ i (h : i < c.codes.length), ∃ b : Nat, (c.codes[i]).body = b ∧ b < c.exprs.length
 kids : ∀ i (h : i < c.exprs.length), ∀ k ∈ (c.exprs[i]).kids, (i : Int) < k ∧ k < c.exprs.length
theorem zyv {H J : zaa} {K : Kt} (hs : HSc H) (hK : K (.sl (ints []) .none) H) : Out H.length K .snil (H ++ J) := Out.one hs (.atom .snil) rfl rfl hK
end Go.Proofs.Ytkdmpbhbmmhijaa
namespace Go.Proofs.Ytkdmpbhbmmhijaa
open Go Go.Abs
set_option maxRecDepth 100000
def zdI : Nat → List Bool
 | 6 => rl false [1,2,2,2,77]
 | 12 => rl false [1,2,2,1,1,2,75]
 | 17 => rl false [1,2,2,1,1,2,63,3,9]
 | _ => []
noncomputable def zgP : Code := Try.f30.body.getD .skip
noncomputable def ztY : List ResultVar := Try.f30.results.toList
def zjv (t1 t2 t5 t6 : AV) : List AV := ux 1 (t1 :: t2 :: ux 2 (t5 :: t6 :: ux 77 []))
def zEb : List Bool := zdI 6
noncomputable def zD5 : Code := zao [1, 1, 1, 1, 0, 1, 0, 0] zgP
def zD3 (K : Kt) : AExit → List AV → zaa → Prop := zap tP zdI [1, 1, 1, 1, 0, 1, 0] zgP (zat tP ztY K)
def zok (t1 t2 t5 t6 : AV) (H : zaa) (K : Kt) : Prop := ALoop tP zD5 (zD3 K) (zjv t1 t2 t5 t6) H
def ztU (t1 t2 t5 t6 : AV) (H : zaa) (K : Kt) (Kb6 : Lt) : Prop :=
 zad .add false t6 (.int .i64 1) fun t29 =>
 Kb6 (zjv t1 t2 t5 t29) H
def zjw (t1 t2 t5 t6 : AV) (H : zaa) (K : Kt) (Kb6 : Lt) : Prop :=
 ztU t1 t2 t5 t6 H K Kb6
def zjt (t1 t2 t5 t7 t8 : AV) : List AV := ux 1 (t1 :: t2 :: ux 2 (t5 :: ux 1 (t7 :: t8 :: ux 75 [])))
def ztX : List Bool := zdI 12
noncomputable def zoi : Code := zao [1, 1, 1, 1, 1, 1, 0, 1, 0, 0] zgP
def ztT (K : Kt) : AExit → List AV → zaa → Prop := zap tP zdI [1, 1, 1, 1, 1, 1, 0, 1, 0] zgP (zat tP ztY K)
def zoj (t1 t2 t5 t7 t8 : AV) (H : zaa) (K : Kt) : Prop := ALoop tP zoi (ztT K) (zjt t1 t2 t5 t7 t8) H
def zju (t1 t2 t5 t7 t8 t72 t73 t74 : AV) : List AV := ux 1 (t1 :: t2 :: ux 2 (t5 :: ux 1 (t7 :: t8 :: ux 63 (t72 :: t73 :: t74 :: ux 9 []))))
def zEa : List Bool := zdI 17
noncomputable def zD4 : Code := zao [1, 0, 0, 1, 0, 1, 1, 0, 0] zoi
def zD2 (K : Kt) (Kb12 : Lt) : AExit → List AV → zaa → Prop := zap tP zdI [1, 0, 0, 1, 0, 1, 1, 0] zoi (zbJ ztX Kb12 (ztT K))
def ztW (t1 t2 t5 t7 t8 t72 t73 t74 : AV) (H : zaa) (K : Kt) (Kb12 : Lt) : Prop := ALoop tP zD4 (zD2 K Kb12) (zju t1 t2 t5 t7 t8 t72 t73 t74) H
def ztV (t1 t2 t5 t7 t8 : AV) (H : zaa) (K : Kt) (Kb12 : Lt) : Prop :=
 zad .sub false t8 (.int .i64 1) fun t54 =>
 Kb12 (zjt t1 t2 t5 t7 t54) H
def zjx (t1 t2 t5 t7 t8 : AV) (H : zaa) (K : Kt) (Kb12 : Lt) : Prop :=
 ztV t1 t2 t5 t7 t8 H K Kb12
def zoh (t1 t2 t5 t7 t8 t72 t73 t74 : AV) (H : zaa) (K : Kt) (Kb12 : Lt) (Kb17 : Lt) : Prop :=
 zad .lss false t74 t73 fun t75 =>
 zag t75
 (zaj 1 t72 t74 fun t76 =>
 zae false 1 t76 H fun t77 =>
 ACalls tP zgz [t7, t77, (.bool false)] H fun t80 H =>
 zad .add false t74 (.int .i64 1) fun t81 =>
 Kb17 (zju t1 t2 t5 t7 t8 t72 t73 t81) H)
 (zjx t1 t2 t5 t7 t8 H K Kb12)
def zjr (t1 t2 t5 t7 t8 : AV) (H : zaa) (K : Kt) (Kb12 : Lt) : Prop :=
 zad .geq false t8 t1 fun t52 =>
 zag t52
 (zaj 1 t5 t8 fun t57 =>
 zae false 1 t57 H fun t58 =>
 zag t58
 (zaf 3 t2 fun t60 =>
 zae false 1 t60 H fun t61 =>
 zaj 8 t61 t8 fun t63 =>
 zaf 2 t63 fun t64 =>
 zae false 1 t64 H fun t65 =>
 ACalls tP zgz [t7, t65, (.bool true)] H fun t66 H =>
 zaf 3 t2 fun t67 =>
 zae false 1 t67 H fun t68 =>
 zaj 8 t68 t8 fun t70 =>
 zaf 3 t70 fun t71 =>
 zae false 1 t71 H fun t72 =>
 zak 1 t72 fun t73 =>
 ztW t1 t2 t5 t7 t8 t72 t73 (.int .i64 0) H K Kb12)
 (zjx t1 t2 t5 t7 t8 H K Kb12))
 (ACalls tP zms [t7] H fun t83 H =>
 K t83 H)
def zjs (t1 t2 t5 t6 : AV) (H : zaa) (K : Kt) (Kb6 : Lt) : Prop :=
 zaf 3 t2 fun t24 =>
 zae false 1 t24 H fun t25 =>
 zak 1 t25 fun t26 =>
 zad .lss false t6 t26 fun t27 =>
 zag t27
 (zaj 1 t5 t6 fun t32 =>
 zae false 1 t32 H fun t33 =>
 zag t33
 (zaf 3 t2 fun t35 =>
 zae false 1 t35 H fun t36 =>
 zaj 8 t36 t6 fun t38 =>
 zaf 4 t38 fun t39 =>
 zae false 1 t39 H fun t40 =>
 ACalls tP zgz [t5, t40, (.bool true)] H fun t41 H =>
 zjw t1 t2 t5 t6 H K Kb6)
 (zjw t1 t2 t5 t6 H K Kb6))
 (zaf 2 t2 fun t42 =>
 zae false 1 t42 H fun t43 =>
 zak 1 t43 fun t44 =>
 zbc 1 [(.bool false)] t44 t44 H fun t45 H =>
 zaf 3 t2 fun t46 =>
 zae false 1 t46 H fun t47 =>
 zak 1 t47 fun t48 =>
 zad .sub false t48 (.int .i64 1) fun t49 =>
 zoj t1 t2 t5 t45 t49 H K)
def ztS (t0 t1 : AV) (H : zaa) (K : Kt) : Prop :=
 zaF t0 H fun t2 H =>
 zae true 4 t2 H fun t11 =>
 ACalls tP zmt [t11, t1] H fun t13 H =>
 aUn .not t13 fun t14 =>
 zag t14
 (K .snil H)
 (zaf 3 t2 fun t15 =>
 zae false 1 t15 H fun t16 =>
 zak 1 t16 fun t17 =>
 zbc 1 [(.bool false)] t17 t17 H fun t18 H =>
 zaj 1 t18 t1 fun t21 =>
 zar 1 t21 (.bool true) H fun H =>
 zok t1 t2 t18 t1 H K)
theorem zD8 {t1 t2 t5 t7 t8 t72 t73 t74 : AV} {H : zaa} {K : Kt} {Kb12 : Lt} (Inv : Nat → AV → zaa → Prop) (n : Nat) (h0 : HSc H → Inv n t74 H)
  (round : Rd1 (fun t74 => zju t1 t2 t5 t7 t8 t72 t73 t74) (fun t74 => fun H Kb17 => zoh t1 t2 t5 t7 t8 t72 t73 t74 H K Kb12 Kb17) H Inv) : ztW t1 t2 t5 t7 t8 t72 t73 t74 H K Kb12 :=
 lp1 (M := zdI) zEa t74 (by kernel_rfl) Inv n h0 round
theorem zD7 {t1 t2 t5 t7 t8 : AV} {H : zaa} {K : Kt} (Inv : Nat → AV → zaa → Prop) (n : Nat) (h0 : HSc H → Inv n t8 H)
  (round : Rd1 (fun t8 => zjt t1 t2 t5 t7 t8) (fun t8 => fun H Kb12 => zjr t1 t2 t5 t7 t8 H K Kb12) H Inv) : zoj t1 t2 t5 t7 t8 H K :=
 lp1 (M := zdI) ztX t8 (by kernel_rfl) Inv n h0 round
theorem zD9 {t1 t2 t5 t6 : AV} {H : zaa} {K : Kt} (Inv : Nat → AV → zaa → Prop) (n : Nat) (h0 : HSc H → Inv n t6 H)
  (round : Rd1 (fun t6 => zjv t1 t2 t5 t6) (fun t6 => fun H Kb6 => zjs t1 t2 t5 t6 H K Kb6) H Inv) : zok t1 t2 t5 t6 H K :=
 lp1 (M := zdI) zEb t6 (by kernel_rfl) Inv n h0 round
theorem zEc {t0 t1 : AV} {H : zaa} {K : Kt} (h : HSc H → ztS t0 t1 H K) : ACalls tP zhQ [t0, t1] H K :=
 zau (M := zdI) Try.func30 (c := zgP) (by kernel_rfl) (fun hs => Eq.mpr (by kernel_rfl) (h hs))
def zHl (_ : Nat) : List Bool := []
noncomputable def zHm : Code := Try.f61.body.getD .skip
def zks (t0 t1 : AV) (H : zaa) (K : Kt) : Prop :=
 zaF t0 H fun t2 H =>
 zad .geq false t1 (.int .i64 0) fun t6 =>
 zab t6 true H (fun K' => K' t1 H) fun t8 H =>
 zab t6 true H (fun K' => zaf 3 t2 (K' · H)) fun t9 H =>
 zab t6 true H (fun K' => zae false 1 t9 H (K' · H)) fun t10 H =>
 zab t6 true H (fun K' => zak 1 t10 (K' · H)) fun t11 H =>
 zab t6 true H (fun K' => zad .lss false t8 t11 (K' · H)) fun t12 H =>
 zah t6 t12 (.bool false) fun t13 =>
 zab t13 true H (fun K' => zae true 4 t2 H (K' · H)) fun t15 H =>
 zab t13 true H (fun K' => ACalls tP zfy [t15] H K') fun t16 H =>
 zah t13 t16 (.bool false) fun t17 =>
 K t17 H
theorem zHn {t0 t1 : AV} {H : zaa} {K : Kt} (h : HSc H → zks t0 t1 H K) : ACalls tP zmt [t0, t1] H K :=
 zau (M := zHl) Try.func61 (c := zHm) (by kernel_rfl) (fun hs => Eq.mpr (by kernel_rfl) (h hs))
def zjo : Nat → List Bool
 | 2 => rl false [1,1,5,3,7]
 | _ => []
noncomputable def zog : Code := Try.f29.body.getD .skip
noncomputable def zD1 : List ResultVar := Try.f29.results.toList
def zjq (t1 t7 t8 t9 : AV) : List AV := ux 1 (t1 :: ux 5 (t7 :: t8 :: t9 :: ux 7 []))
def zDZ : List Bool := zjo 2
noncomputable def zDX : Code := zao [1, 0, 1, 0, 0] zog
def zDW (K : Kt) : AExit → List AV → zaa → Prop := zap tP zjo [1, 0, 1, 0] zog (zat tP zD1 K)
def ztR (t1 t7 t8 t9 : AV) (H : zaa) (K : Kt) : Prop := ALoop tP zDX (zDW K) (zjq t1 t7 t8 t9) H
def zjp (t1 t7 t8 t9 : AV) (H : zaa) (K : Kt) (Kb2 : Lt) : Prop :=
 zad .lss false t9 t8 fun t10 =>
 zag t10
 (zaj 1 t7 t9 fun t11 =>
 zae false 1 t11 H fun t12 =>
 zad .eql false t12 t1 fun t15 =>
 zag t15
 (K (.bool true) H)
 (zad .add false t9 (.int .i64 1) fun t16 =>
 Kb2 (zjq t1 t7 t8 t16) H))
 (K (.bool false) H)
def ztQ (t0 t1 : AV) (H : zaa) (K : Kt) : Prop :=
 zak 1 t0 fun t8 =>
 ztR t1 t0 t8 (.int .i64 0) H K
theorem zDY {t1 t7 t8 t9 : AV} {H : zaa} {K : Kt} (Inv : Nat → AV → zaa → Prop) (n : Nat) (h0 : HSc H → Inv n t9 H)
  (round : Rd1 (fun t9 => zjq t1 t7 t8 t9) (fun t9 => fun H Kb2 => zjp t1 t7 t8 t9 H K Kb2) H Inv) : ztR t1 t7 t8 t9 H K :=
 lp1 (M := zjo) zDZ t9 (by kernel_rfl) Inv n h0 round
theorem zD0 {t0 t1 : AV} {H : zaa} {K : Kt} (h : HSc H → ztQ t0 t1 H K) : ACalls tP zmg [t0, t1] H K :=
 zau (M := zjo) Try.func29 (c := zog) (by kernel_rfl) (fun hs => Eq.mpr (by kernel_rfl) (h hs))
def zcV : Nat → List Bool
 | 6 => rl false [1,2,2,2,37,3,66]
 | 11 => rl false [1,2,2,2,48,3,55]
 | 14 => rl false [1,2,2,2,2,1,45,3,6,3,46]
 | 24 => rl false [1,2,3,1,6,1,78,2,19]
 | _ => []
noncomputable def zfb : Code := Try.f8.body.getD .skip
noncomputable def zpo : List ResultVar := Try.f8.results.toList
def zkB (t1 t2 t5 t6 t44 t45 t46 : AV) : List AV := ux 1 (t1 :: t2 :: ux 2 (t5 :: t6 :: ux 37 (t44 :: t45 :: t46 :: ux 66 [])))
def zH3 : List Bool := zcV 6
noncomputable def zHW : Code := zao [1, 1, 1, 1, 0, 1, 0, 0] zfb
def zHT (K : Kt) : AExit → List AV → zaa → Prop := zap tP zcV [1, 1, 1, 1, 0, 1, 0] zfb (zat tP zpo K)
def zvv (t1 t2 t5 t6 t44 t45 t46 : AV) (H : zaa) (K : Kt) : Prop := ALoop tP zHW (zHT K) (zkB t1 t2 t5 t6 t44 t45 t46) H
def zkz (t1 t2 t5 t6 t55 t56 t57 : AV) : List AV := ux 1 (t1 :: t2 :: ux 2 (t5 :: t6 :: ux 48 (t55 :: t56 :: t57 :: ux 55 [])))
def zvw : List Bool := zcV 11
noncomputable def zpm : Code := zao [1, 1, 1, 1, 1, 0, 1, 0, 0] zfb
def zvr (K : Kt) : AExit → List AV → zaa → Prop := zap tP zcV [1, 1, 1, 1, 1, 0, 1, 0] zfb (zat tP zpo K)
def zvt (t1 t2 t5 t6 t55 t56 t57 : AV) (H : zaa) (K : Kt) : Prop := ALoop tP zpm (zvr K) (zkz t1 t2 t5 t6 t55 t56 t57) H
def zkA (t1 t2 t5 t6 t9 t55 t56 t57 t64 t65 t66 : AV) : List AV := ux 1 (t1 :: t2 :: ux 2 (t5 :: t6 :: ux 2 (t9 :: ux 45 (t55 :: t56 :: t57 :: ux 6 (t64 :: t65 :: t66 :: ux 46 [])))))
def zH1 : List Bool := zcV 14
noncomputable def zHU : Code := zao [1, 1, 0, 0, 1, 1, 0, 0] zpm
def zHR (K : Kt) (Kb11 : Lt) : AExit → List AV → zaa → Prop := zap tP zcV [1, 1, 0, 0, 1, 1, 0] zpm (zbJ zvw Kb11 (zvr K))
def zvu (t1 t2 t5 t6 t9 t55 t56 t57 t64 t65 t66 : AV) (H : zaa) (K : Kt) (Kb11 : Lt) : Prop := ALoop tP zHU (zHR K Kb11) (zkA t1 t2 t5 t6 t9 t55 t56 t57 t64 t65 t66) H
def zvs (t1 t2 t5 t6 t9 t55 t56 t57 t64 t65 t66 : AV) (H : zaa) (K : Kt) (Kb11 : Lt) (Kb14 : Lt) : Prop :=
 zad .add false t66 (.int .i64 1) fun t89 =>
 Kb14 (zkA t1 t2 t5 t6 t9 t55 t56 t57 t64 t65 t89) H
def zkC (t1 t2 t5 t6 t9 t55 t56 t57 t64 t65 t66 : AV) (H : zaa) (K : Kt) (Kb11 : Lt) (Kb14 : Lt) : Prop :=
 zvs t1 t2 t5 t6 t9 t55 t56 t57 t64 t65 t66 H K Kb11 Kb14
def zpk (t1 t2 t5 t6 t9 t55 t56 t57 t64 t65 t66 : AV) (H : zaa) (K : Kt) (Kb11 : Lt) (Kb14 : Lt) : Prop :=
 zad .lss false t66 t65 fun t67 =>
 zag t67
 (zaj 1 t64 t66 fun t68 =>
 zae false 1 t68 H fun t69 =>
 zad .lss false t69 (.int .i64 0) fun t71 =>
 zab t71 false H (fun K' => K' t69 H) fun t73 H =>
 zab t71 false H (fun K' => K' t6 H) fun t74 H =>
 zab t71 false H (fun K' => zak 1 t74 (K' · H)) fun t75 H =>
 zab t71 false H (fun K' => zad .geq false t73 t75 (K' · H)) fun t76 H =>
 zah t71 (.bool true) t76 fun t77 =>
 zag t77
 (K (.bool false) H)
 (zaf 3 t5 fun t78 =>
 zae false 1 t78 H fun t79 =>
 zaj 1 t79 t9 fun t81 =>
 zae false 1 t81 H fun t82 =>
 ACalls tP zmg [t82, t69] H fun t84 H =>
 aUn .not t84 fun t85 =>
 zag t85
 (zaj 1 t6 t69 fun t88 =>
 zar 1 t88 (.bool true) H fun H =>
 zkC t1 t2 t5 t6 t9 t55 t56 t57 t64 t65 t66 H K Kb11 Kb14)
 (zkC t1 t2 t5 t6 t9 t55 t56 t57 t64 t65 t66 H K Kb11 Kb14)))
 (zad .add false t57 (.int .i64 1) fun t90 =>
 Kb11 (zkz t1 t2 t5 t6 t55 t56 t90) H)
def zg7 (t1 t2 t6 t13 t92 t93 : AV) : List AV := ux 1 (t1 :: t2 :: ux 3 (t6 :: ux 6 (t13 :: ux 78 (t92 :: t93 :: ux 19 []))))
def zH2 : List Bool := zcV 24
noncomputable def zHV : Code := zao [1, 1, 1, 1, 1, 1, 1, 0, 1, 0, 0] zfb
def zHS (K : Kt) : AExit → List AV → zaa → Prop := zap tP zcV [1, 1, 1, 1, 1, 1, 1, 0, 1, 0] zfb (zat tP zpo K)
def zg8 (t1 t2 t6 t13 t92 t93 : AV) (H : zaa) (K : Kt) : Prop := ALoop tP zHV (zHS K) (zg7 t1 t2 t6 t13 t92 t93) H
def zpn (t1 t2 t6 t13 t92 t93 : AV) (H : zaa) (K : Kt) (Kb24 : Lt) : Prop :=
 zad .add false t93 (.int .i64 1) fun t104 =>
 Kb24 (zg7 t1 t2 t6 t13 t92 t104) H
def zkD (t1 t2 t6 t13 t92 t93 : AV) (H : zaa) (K : Kt) (Kb24 : Lt) : Prop :=
 zpn t1 t2 t6 t13 t92 t93 H K Kb24
def zky (t1 t2 t6 t13 t92 t93 : AV) (H : zaa) (K : Kt) (Kb24 : Lt) : Prop :=
 zad .lss false t93 t92 fun t94 =>
 zag t94
 (zaj 1 t6 t93 fun t98 =>
 zae false 1 t98 H fun t99 =>
 zag t99
 (zay 1 [(.int .i64 0)] 1 [(0, t93)] fun t102 =>
 zaH zdu 1 8 t13 t102 H fun t103 H =>
 zkD t1 t2 t6 t103 t92 t93 H K Kb24)
 (zkD t1 t2 t6 t13 t92 t93 H K Kb24))
 (zae true 4 t2 H fun t105 =>
 ACalls tP zhQ [t105, t1] H fun t107 H =>
 ACalls tP zmf [t107, t13] H fun t109 H =>
 zab t109 true H (fun K' => ACalls tP zme [] H K') fun t111 H =>
 zah t109 t111 (.bool false) fun t112 =>
 K t112 H)
def zpj (t1 t2 t5 t6 t55 t56 t57 : AV) (H : zaa) (K : Kt) (Kb11 : Lt) : Prop :=
 zad .lss false t57 t56 fun t58 =>
 zag t58
 (zaj 1 t55 t57 fun t60 =>
 zae false 1 t60 H fun t61 =>
 zae true 4 t2 H fun t62 =>
 ACalls tP zhQ [t62, t61] H fun t64 H =>
 zak 1 t64 fun t65 =>
 zvu t1 t2 t5 t6 t57 t55 t56 t57 t64 t65 (.int .i64 0) H K Kb11)
 (zak 1 t6 fun t92 =>
 zg8 t1 t2 t6 .snil t92 (.int .i64 0) H K)
def zpl (t1 t2 t5 t6 t44 t45 t46 : AV) (H : zaa) (K : Kt) (Kb6 : Lt) : Prop :=
 zad .lss false t46 t45 fun t47 =>
 zag t47
 (zaj 1 t44 t46 fun t48 =>
 zae false 1 t48 H fun t49 =>
 zaj 1 t6 t49 fun t52 =>
 zar 1 t52 (.bool true) H fun H =>
 zad .add false t46 (.int .i64 1) fun t53 =>
 Kb6 (zkB t1 t2 t5 t6 t44 t45 t53) H)
 (zaf 4 t5 fun t54 =>
 zae false 1 t54 H fun t55 =>
 zak 1 t55 fun t56 =>
 zvt t1 t2 t5 t6 t55 t56 (.int .i64 0) H K)
def zq6 (t0 t1 : AV) (H : zaa) (K : Kt) : Prop :=
 zaF t0 H fun t2 H =>
 zae true 4 t2 H fun t15 =>
 ACalls tP zl8 [t15] H fun t16 H =>
 aUn .not t16 fun t17 =>
 zab t17 false H (fun K' => zae true 4 t2 H (K' · H)) fun t19 H =>
 zab t17 false H (fun K' => ACalls tP zhM [t19] H K') fun t20 H =>
 zab t17 false H (fun K' => aUn .not t20 (K' · H)) fun t21 H =>
 zah t17 (.bool true) t21 fun t22 =>
 zab t22 false H (fun K' => K' t1 H) fun t24 H =>
 zab t22 false H (fun K' => zad .lss false t24 (.int .i64 0) (K' · H)) fun t25 H =>
 zah t22 (.bool true) t25 fun t26 =>
 zab t26 false H (fun K' => K' t1 H) fun t28 H =>
 zab t26 false H (fun K' => zaf 3 t2 (K' · H)) fun t29 H =>
 zab t26 false H (fun K' => zae false 1 t29 H (K' · H)) fun t30 H =>
 zab t26 false H (fun K' => zak 1 t30 (K' · H)) fun t31 H =>
 zab t26 false H (fun K' => zad .geq false t28 t31 (K' · H)) fun t32 H =>
 zah t26 (.bool true) t32 fun t33 =>
 zag t33
 (K (.bool true) H)
 (zaf 3 t2 fun t34 =>
 zae false 1 t34 H fun t35 =>
 zaj 8 t35 t1 fun t37 =>
 zae true 8 t37 H fun t38 =>
 zaA [(.int .i64 0), (.int .i64 0), .snil, .snil, .snil, (.int .i64 0), (.int .i64 0), .snil] H fun t5 H =>
 zar 8 t5 t38 H fun H =>
 zaf 2 t2 fun t39 =>
 zae false 1 t39 H fun t40 =>
 zak 1 t40 fun t41 =>
 zbc 1 [(.bool false)] t41 t41 H fun t42 H =>
 zaf 2 t5 fun t43 =>
 zae false 1 t43 H fun t44 =>
 zak 1 t44 fun t45 =>
 zvv t1 t2 t5 t42 t44 t45 (.int .i64 0) H K)
theorem zHY {t1 t2 t5 t6 t9 t55 t56 t57 t64 t65 t66 : AV} {H : zaa} {K : Kt} {Kb11 : Lt} (Inv : Nat → AV → zaa → Prop) (n : Nat) (h0 : HSc H → Inv n t66 H)
  (round : Rd1 (fun t66 => zkA t1 t2 t5 t6 t9 t55 t56 t57 t64 t65 t66) (fun t66 => fun H Kb14 => zpk t1 t2 t5 t6 t9 t55 t56 t57 t64 t65 t66 H K Kb11 Kb14) H Inv) : zvu t1 t2 t5 t6 t9 t55 t56 t57 t64 t65 t66 H K Kb11 :=
 lp1 (M := zcV) zH1 t66 (by kernel_rfl) Inv n h0 round
theorem zHZ {t1 t2 t6 t13 t92 t93 : AV} {H : zaa} {K : Kt} (Inv : Nat → AV → AV → zaa → Prop) (n : Nat) (h0 : HSc H → Inv n t13 t93 H)
  (round : Rd2 (fun t13 => fun t93 => zg7 t1 t2 t6 t13 t92 t93) (fun t13 => fun t93 => fun H Kb24 => zky t1 t2 t6 t13 t92 t93 H K Kb24) H Inv) : zg8 t1 t2 t6 t13 t92 t93 H K :=
 lp2 (M := zcV) zH2 t13 t93 (by kernel_rfl) Inv n h0 round
theorem zHX {t1 t2 t5 t6 t55 t56 t57 : AV} {H : zaa} {K : Kt} (Inv : Nat → AV → zaa → Prop) (n : Nat) (h0 : HSc H → Inv n t57 H)
  (round : Rd1 (fun t57 => zkz t1 t2 t5 t6 t55 t56 t57) (fun t57 => fun H Kb11 => zpj t1 t2 t5 t6 t55 t56 t57 H K Kb11) H Inv) : zvt t1 t2 t5 t6 t55 t56 t57 H K :=
 lp1 (M := zcV) zvw t57 (by kernel_rfl) Inv n h0 round
theorem zH0 {t1 t2 t5 t6 t44 t45 t46 : AV} {H : zaa} {K : Kt} (Inv : Nat → AV → zaa → Prop) (n : Nat) (h0 : HSc H → Inv n t46 H)
  (round : Rd1 (fun t46 => zkB t1 t2 t5 t6 t44 t45 t46) (fun t46 => fun H Kb6 => zpl t1 t2 t5 t6 t44 t45 t46 H K Kb6) H Inv) : zvv t1 t2 t5 t6 t44 t45 t46 H K :=
 lp1 (M := zcV) zH3 t46 (by kernel_rfl) Inv n h0 round
theorem zH4 {t0 t1 : AV} {H : zaa} {K : Kt} (h : HSc H → zq6 t0 t1 H K) : ACalls tP zrE [t0, t1] H K :=
 zau (M := zcV) Try.func8 (c := zfb) (by kernel_rfl) (fun hs => Eq.mpr (by kernel_rfl) (h hs))
end Go.Proofs.Ytkdmpbhbmmhijaa
namespace Go.Proofs.Ytkdmpbhbmmhijaa
open Go Go.Abs
set_option maxRecDepth 8000
open Classical in
noncomputable def chi (n : Nat) (P : Int → Prop) : List Bool := (List.range n).map fun (v : Nat) => decide (P (v : Int))
theorem zqJ {n : Nat} {P : Int → Prop} {st : List Bool} (hl : st.length = n) (h : ∀ v : Nat, v < n → (st.getD v false = true ↔ P v)) : st = chi n P := by
 refine List.ext_getElem (by simp [chi, hl]) fun i h1 h2 => ?_
 have h3 := h i (by omega)
 rw [List.getD_eq_getElem?_getD, List.getElem?_eq_getElem h1] at h3
 simp only [chi, List.getElem_map, List.getElem_range, Option.getD_some] at h3 ⊢
 rw [Bool.eq_iff_iff, h3]
 simp
open Classical in
noncomputable def zeq (c : Cor) (P : Nat → Int → Prop) (e : Int) : List Int := if 0 ≤ e ∧ e < (c.exprs.length : Int) ∧ vOk c = true then mem (chi c.vars.length (P e.toNat)) else []
noncomputable def zbO (c : Cor) (e : Int) : List Int := zeq c (zcM c) e
theorem zHo (c : Cor) (hk : zaR c) (e : Int) (H : zaa) (K : Kt) (h1 : (0 ≤ e ∧ e < (c.exprs.length : Int) ∧ vOk c = true) → K (.bool true) H) (h2 : ¬ (0 ≤ e ∧ e < (c.exprs.length : Int) ∧ vOk c = true) → K (.bool false) H) : ACalls tP zmt [.agg c.cs, .int .i64 e] H K := by
 refine ACalls.out (zHn fun hs => ?_)
 have hat : c.cs = [.sl (c.data.map Dat.cs) .none, .sl (c.codes.map Cod.cs) .none, .sl (VT.css c.vars) .none, .sl (c.exprs.map CEx.cs) .none] := rfl
 have hF : ¬ (0 ≤ e ∧ e < (c.exprs.length : Int) ∧ vOk c = true) → ∀ J, Out H.length K (.bool false) (H ++ J) := fun h J => Out.bool rfl (Nat.le_refl _) hs (h2 h)
 by_cases g1 : 0 ≤ e
 ·by_cases g2 : e < (c.exprs.length : Int)
  ·simp [zks, hat, g1, g2]
   rw [← hat]
   refine zCf c hk _ _ ?_
   cases hv : vOk c with
   | false => exact hF (by simp [hv]) _
   | true => exact Out.bool rfl (Nat.le_refl _) hs (h1 ⟨g1, g2, hv⟩)
  ·simp [zks, hat, g1, g2]
   exact hF (by simp [g2]) _
 ·simp [zks, hat, g1]
  exact hF (by simp [g1]) _
theorem zm1 {st : List Bool} {l : List Int} (h : ∀ x ∈ l, 0 ≤ x ∧ x < (st.length : Int)) {v : Nat} : (zaz st l true).getD v false = true ↔ st.getD v false = true ∨ (v : Int) ∈ l := zzq l st h v
theorem zl4 {c : Cor} (hk : zaR c) {i : Nat} (h : i < c.exprs.length) : KEx c.exprs[i] := hk.2.2.2.2.2 _ (List.getElem_mem h)
end Go.Proofs.Ytkdmpbhbmmhijaa
namespace Go.Proofs.Ytkdmpbhbmmhijaa
open Go Go.Abs
set_option maxRecDepth 8000
theorem zr5 {bs : List (List Int)} {k : Nat} (h : k < bs.length) : (rows bs)[k]? = some [.sl (ints bs[k]) .none] := by
 unfold rows; rw [List.getElem?_map, List.getElem?_eq_getElem h]; rfl
theorem zgm {l : List Int} {k : Nat} (h : k < l.length) : (ints l)[k]? = some [.int .i64 l[k]] := by
 unfold ints; rw [List.getElem?_map, List.getElem?_eq_getElem h]; rfl
end Go.Proofs.Ytkdmpbhbmmhijaa
