import Derived.Test.YtkdmpbhbmmhijaaKP2
import Derived.Test.YtkdmpbhbmmhijaaKNum
import Derived.Test.YtkdmpbhbmmhijaaProg
import Derived.KernelRfl
set_option linter.unusedSimpArgs false
set_option linter.unusedVariables false
namespace Go.Proofs.Ytkdmpbhbmmhijaa
open Go Go.Abs
set_option maxRecDepth 8000
def leB (s t : List Bool) : Prop := ∀ v : Nat, s.getD v false = true → t.getD v false = true
theorem zmU (st : List Bool) (i v : Nat) (b : Bool) : (st.set i b).getD v false = if i = v ∧ v < st.length then b else st.getD v false := by
 rw [List.getD_eq_getElem?_getD, List.getElem?_set, List.getD_eq_getElem?_getD]
 by_cases h : i = v
 ·subst h
  by_cases h2 : i < st.length
  ·simp [h2]
  ·simp [h2]
 ·simp [h]
theorem zmQ (l : List Int) : ∀ st v, (zaC st l false).getD v false = true → st.getD v false = true ∧ ∀ x ∈ l, x.toNat ≠ v := by
 induction l with
 | nil => intro st v h; exact ⟨h, by simp⟩
 | cons a l ih =>
  intro st v h
  rw [zmP] at h
  obtain ⟨h1, h2⟩ := ih _ _ h
  rw [zmU] at h1
  by_cases hh : a.toNat = v ∧ v < st.length
  ·rw [if_pos hh] at h1; cases h1
  ·rw [if_neg hh] at h1
   refine ⟨h1, fun x hx => ?_⟩
   rcases List.mem_cons.1 hx with rfl | hx
   ·intro e
    refine hh ⟨e, ?_⟩
    by_cases h3 : v < st.length
    ·exact h3
    ·rw [List.getD_eq_getElem?_getD, List.getElem?_eq_none (by omega)] at h1; simp at h1
   ·exact h2 x hx
theorem zfJ (l : List Int) : ∀ st v, (zaC st l true).getD v false = true → st.getD v false = true ∨ ∃ x ∈ l, x.toNat = v := by
 induction l with
 | nil => intro st v h; exact .inl h
 | cons a l ih =>
  intro st v h
  rw [zmP] at h
  rcases ih _ _ h with h1 | ⟨x, hx, hv⟩
  ·rw [zmU] at h1
   by_cases hh : a.toNat = v ∧ v < st.length
   ·exact .inr ⟨a, by simp, hh.1⟩
   ·rw [if_neg hh] at h1; exact .inl h1
  ·exact .inr ⟨x, by simp [hx], hv⟩
theorem zr3 {s st : List Bool} {l : List Int} (h : leB s (zaC st l true)) : leB (zaC s l false) st := by
 intro v hv
 obtain ⟨h1, h2⟩ := zmQ l _ _ hv
 rcases zfJ l _ _ (h v h1) with h3 | ⟨x, hx, e⟩
 ·exact h3
 ·exact absurd e (h2 x hx)
theorem zAj {c : Cor} {m : Nat} (ih : ∀ i st st', zaZ c m i st = some st' → leB st' st) : ∀ (bs : List (List Int)) (ks : List Int) (st st' : List Bool), zbz c m bs ks st = some st' → leB st' st := by
 intro bs
 induction bs with
 | nil => intro ks st st' h; rw [zbz] at h; cases h; exact fun v h => h
 | cons b bs ihb =>
  intro ks st st' h
  cases ks with
  | nil => rw [zbz] at h; cases h; exact fun v h => h
  | cons k ks =>
   rw [zbz] at h
   cases hv : zaZ c m k.toNat (zaC st b true) with
   | none => rw [hv] at h; cases h
   | some s2 =>
    rw [hv] at h
    exact fun v h3 => zr3 (ih _ _ _ hv) v (ihb _ _ _ h v h3)
theorem zsz (c : Cor) : ∀ (m i : Nat) (st st' : List Bool), zaZ c m i st = some st' → leB st' st := by
 intro m
 induction m with
 | zero => intro i st st' h; rw [zaZ] at h; cases h
 | succ m ih =>
  intro i st st' h
  rw [zaZ] at h
  split at h
  ·cases h
  ·split at h
   ·exact zAj ih _ _ _ _ h
   ·cases h
theorem zwy {n : Nat} {s : List Bool} (hl : s.length = n) (h : leB s (List.replicate n false)) : s = List.replicate n false := by
 apply List.ext_getElem
 ·simpa using hl
 ·intro i h1 h2
  cases hs : s[i] with
  | false => simp
  | true =>
   have h3 := h i (by simp [h1, hs])
   have h4 : (List.replicate n false).getD i false = false := by
    rw [List.getD_eq_getElem?_getD, List.getElem?_replicate]
    split <;> rfl
   rw [h4] at h3; cases h3
theorem zmM (c : Cor) : ∀ fs : List Cod, zcq c fs (List.replicate c.vars.length false) = true ↔ ∀ f ∈ fs, ((zaZ c c.exprs.length f.body.toNat (zcH c f)).isSome = true)
 | [] => by simp [zcq]
 | f :: fs => by
  rw [zcq]
  cases hv : zaZ c c.exprs.length f.body.toNat (zaC (zaC (List.replicate c.vars.length false) f.params true) f.capt true) with
  | none => simp [zcH, hv]
  | some s =>
   have hle := zsz c _ _ _ _ hv
   have hln := zne c _ _ _ _ hv
   have h2 : leB (zaC (zaC s f.params false) f.capt false) (List.replicate c.vars.length false) := by
    intro v hv2
    obtain ⟨h3, h4⟩ := zmQ _ _ _ hv2
    obtain ⟨h5, h6⟩ := zmQ _ _ _ h3
    rcases zfJ _ _ _ (hle v h5) with h7 | ⟨x, hx, e⟩
    ·rcases zfJ _ _ _ h7 with h8 | ⟨x, hx, e⟩
     ·exact h8
     ·exact absurd e (h6 x hx)
    ·exact absurd e (h4 x hx)
   have h3 := zwy (by simp at hln ⊢; exact hln) h2
   simp only []
   rw [h3, zmM c fs]
   simp [zcH, hv]
theorem zsB (c : Cor) (m i : Nat) (st : List Bool) : (zby c m i st).1 = true ↔ (zaZ c m i st).isSome = true := by
 rw [zsA]
 cases (zby c m i st).1 <;> simp
theorem zxz : ∀ (n : Nat) (S : List Int), (∀ i : Nat, i < n → (i : Int) ∈ S) → n ≤ S.length := by
 intro n
 induction n with
 | zero => intro S _; omega
 | succ n ih =>
  intro S h
  have hm := h n (by omega)
  have := ih (S.erase n) (fun i hi => (List.mem_erase_of_ne (by omega)).2 (h i (by omega)))
  rw [List.length_erase_of_mem hm] at this
  have := List.length_pos_of_mem hm
  omega
theorem zht {n : Nat} {S : List Int} (hr : ∀ x ∈ S, 0 ≤ x ∧ x < n) : (∀ v : Nat, v < n → S.count (v : Int) = 1) ↔ S.Nodup ∧ S.length = n := by
 constructor
 ·intro h
  have hm : ∀ v : Nat, v < n → (v : Int) ∈ S := fun v hv => List.count_pos_iff.1 (by rw [h v hv]; omega)
  have hnd : S.Nodup := by
   rw [List.nodup_iff_count]
   intro a
   by_cases ha : a ∈ S
   ·obtain ⟨v, rfl⟩ : ∃ v : Nat, a = v := ⟨a.toNat, by have := hr a ha; omega⟩
    rw [h v (by have := hr _ ha; omega)]; omega
   ·rw [List.count_eq_zero_of_not_mem ha]; omega
  exact ⟨hnd, Nat.le_antisymm (zh2 n S hnd hr) (zxz n S hm)⟩
 ·rintro ⟨h1, h2⟩ v hv
  have hm := zrz h1 hr h2 v hv
  have := List.nodup_iff_count.1 h1 (v : Int)
  have := List.count_pos_iff.2 hm
  omega
theorem zsv (c : Cor) : ∀ i, i ≤ c.exprs.length → (∀ j (h : j < c.exprs.length), (c.exprs[j]).op = 11 → 0 ≤ (c.exprs[j]).num ∧ (c.exprs[j]).num < c.codes.length) → zb1 c i = cnt c.codes.length (zb2 (c.exprs.take i)) := by
 intro i
 induction i with
 | zero => intro _ _; simp [zb1, zb2, zly]
 | succ i ih =>
  intro hi hr
  have hlt : i < c.exprs.length := by omega
  rw [znc hlt, ih (by omega) hr, zrf hlt]
  by_cases h11 : (c.exprs[i]).op = 11
  ·obtain ⟨h1, h2⟩ := hr i hlt h11
   obtain ⟨n, hn⟩ : ∃ n : Nat, (c.exprs[i]).num = n := ⟨(c.exprs[i]).num.toNat, by omega⟩
   have hnl : n < c.codes.length := by omega
   rw [zcr, if_pos h11, if_pos h11, hn, Int.toNat_natCast, ← zlz _ hnl]
   congr 1
   rw [List.getD_eq_getElem?_getD, List.getElem?_eq_getElem (by simpa using hnl), Option.getD_some, zdO]
  ·rw [zcr, if_neg h11, if_neg h11, List.append_nil]
theorem zqz {n i : Nat} (S : List Int) (h : i < n) : (cnt n S).getD i 0 = ((S.count (i : Int) : Nat) : Int) := by
 rw [List.getD_eq_getElem?_getD, List.getElem?_eq_getElem (by simpa using h), Option.getD_some, zdO]
theorem lams_mem {l : List CEx} {n : Int} : n ∈ zb2 l ↔ ∃ e ∈ l, e.op = 11 ∧ e.num = n := by
 simp [zb2, and_assoc]
theorem zmx {c : Cor} {e : CEx} (h11 : e.op = 11) (h : progRule c e = true) : ∃ n : Nat, e.num = n ∧ ∃ h : n < c.codes.length, (c.codes[n]).name = [] := by
 rw [progRule, if_pos (.inr (.inl h11)), numR] at h
 split at h
 ·cases h
 ·rename_i hn
  rw [if_neg (by omega), if_neg (by omega)] at h
  obtain ⟨n, hn'⟩ : ∃ n : Nat, e.num = n := ⟨e.num.toNat, by omega⟩
  refine ⟨n, hn', ?_⟩
  rw [hn', Int.toNat_natCast] at h
  by_cases hl : n < c.codes.length
  ·rw [List.getElem?_eq_getElem hl] at h
   simp only [] at h
   rw [if_neg (by omega)] at h
   simp only [Bool.and_eq_true, beq_iff_eq] at h
   exact ⟨hl, h.1.1⟩
  ·rw [List.getElem?_eq_none (by omega)] at h; cases h
theorem zxL {c : Cor} {e : CEx} (hx : ExIn c e) (h : progRule c e = true) : ∀ k ∈ e.kids, ety c k = e.ty ∨ zav c.data 0 (ety c k) = true := by
 intro k hk
 have hne : e.kids ≠ [] := by intro h; rw [h] at hk; cases hk
 have hkl : e.kids.length ≠ 0 := fun h => hne (List.eq_nil_of_length_eq_zero h)
 have hs : ∀ v, zaB e v 0 = false := fun v => by simp [zaB, hne]
 rw [progRule] at h
 split at h
 ·rw [numR, if_pos (.inl hkl)] at h; cases h
 ·simp only [hs, Bool.false_and] at h
  split at h
  ·cases h
  ·split at h
   ·cases h
   ·split at h
    ·cases h
    ·rw [restR] at h
     simp only [hs, Bool.false_and] at h
     split at h
     ·cases h
     ·split at h
      ·cases h
      ·split at h
       ·simp [zaB, hne] at h
       ·split at h
        ·cases h
        ·split at h
         ·cases h
         ·split at h
          ·simp [zaB, hne] at h
          ·split at h
           ·rw [parR] at h
            split at h
            ·simp only [Bool.and_eq_true, zbl, zbp] at h
             obtain ⟨h1, h2, h3, h4⟩ := h
             cases hks : e.kids with
             | nil => exact absurd hks hne
             | cons k0 l =>
              rw [hks] at hk h3 h4
              rcases List.mem_cons.1 hk with rfl | hk
              ·right
               have hb1 : inV c (e.binds.getD 1 []) := by
                rw [List.getD_eq_getElem?_getD]
                by_cases hb : 1 < e.binds.length
                ·rw [List.getElem?_eq_getElem hb]; exact hx.binds _ (List.getElem_mem hb)
                ·rw [List.getElem?_eq_none (by omega)]; intro x hx; cases hx
               have : ety c k ∈ zam c (e.binds.getD 1 []) := by rw [h3]; simp
               obtain ⟨v, hv, hv2⟩ := List.mem_map.1 this
               rw [← hv2]
               have := hb1 v hv
               obtain ⟨n, rfl⟩ : ∃ n : Nat, v = n := ⟨v.toNat, by omega⟩
               rw [ze0 (by omega)]
               exact hx.vtys _ (List.getElem_mem _)
              ·exact .inl (h4 k (by simpa using hk))
            ·left
             split at h
             ·simp only [Bool.and_eq_true, zbl] at h; exact h.2.2.2 k hk
             ·split at h
              ·simp only [Bool.and_eq_true, zbl] at h; exact h.2.2.2 k hk
              ·split at h
               ·simp only [Bool.and_eq_true, zbl] at h; exact h.2.2.2 k hk
               ·simp only [Bool.and_eq_true, zbl] at h; exact h.2.2.2.2 k hk
           ·rw [stR] at h
            simp only [hs, Bool.false_and] at h
            split at h <;> cases h
theorem zyr {c : Cor} (hk : zaN c) (h : ProgV c) (hex : ∀ i (h : i < c.exprs.length), ExIn c c.exprs[i]) : ∀ i (hi : i < c.exprs.length), zav c.data 0 (c.exprs[i]).ty = true := by
 intro i
 induction i using Nat.strongRecOn with
 | _ i ih =>
  intro hi
  rcases zsl h.codes h.tree i hi with ⟨f, hf, hb⟩ | ⟨j, hj, hji, hm⟩
  ·obtain ⟨k, hk, rfl⟩ := List.getElem_of_mem hf
   obtain ⟨_, _, _, hres, b, h1, h2, h3⟩ := h.codes k hk
   obtain rfl : b = i := by omega
   rw [za6] at h3
   rw [h3]; exact hres
  ·have := zxL (hex j hj) (h.exprs.rule j hj) _ hm
   rw [zlG hi] at this
   rcases this with h1 | h1
   ·rw [h1]; exact ih j hji hj
   ·exact h1
theorem zru (l : List Cod) : (nms l).Nodup ↔ ∀ i j (hi : i < l.length) (hj : j < l.length), i < j → (l[j]).name ≠ [] → (l[i]).name ≠ (l[j]).name := by
 rw [nms, List.Nodup, List.pairwise_filter, List.pairwise_map, List.pairwise_iff_getElem]
 constructor
 ·intro h i j hi hj hij hn e
  have hn' : (!(l[j]).name.isEmpty) = true := by simpa using hn
  exact h i j hi hj hij (by rw [e]; exact hn') hn' e
 ·intro h i j hi hj hij h1 h2 e
  exact h i j hi hj hij (by simpa using h2) e
theorem znd (c : Cor) (hk : zaN c) : ProgV c ↔ RefV c := by
 have hk' := hk
 obtain ⟨k1, k2, k3, ⟨k4, k5⟩, k6, k7⟩ := hk'
 have hvar : zet c = true ↔ ∀ v ∈ c.vars, zav c.data 0 v = true := by
  have : c.vars.length ≤ 3000 := by omega
  simp [zet, this]
 constructor
 ·intro h
  have hex := zlH hk h.vars h.codes h.tree h.bind (fun i hi => zsy (zsx h.codes h.tree h.scopes i hi) hi)
  have hty := zyr hk h hex
  have hlr : ∀ j (hj : j < c.exprs.length), (c.exprs[j]).op = 11 → 0 ≤ (c.exprs[j]).num ∧ (c.exprs[j]).num < c.codes.length := fun j hj h11 => by
   obtain ⟨n, hn, hl, _⟩ := zmx h11 (h.exprs.rule j hj)
   omega
  have huse : zb1 c c.exprs.length = cnt c.codes.length (zb2 c.exprs) := by
   have := zsv c c.exprs.length (Nat.le_refl _) hlr
   rwa [List.take_length] at this
  refine ⟨(zqI _).1 h.data, hvar.1 h.vars, fun i hi => ?_, ?_, fun i hi => ?_, (zht h.bind.range).2 ⟨h.bind.nodup, h.bind.len⟩, (zht (zsm h.codes h.tree)).2 ⟨h.tree.nodup, h.tree.len⟩, fun i hi => ?_, fun i hi => ?_, fun i hi => ?_⟩
  ·obtain ⟨_, q1, q2, q3, q4⟩ := h.codes i hi
   obtain ⟨r1, r2⟩ := zlp h.bind _ (List.getElem_mem hi)
   refine ⟨fun hn hi1 => ?_, fun hn => (q1 hn).2.2, q2, q3, r1, r2, q4⟩
   obtain ⟨_, p1, _⟩ := h.codes (i + 1) hi1
   by_cases hh : (c.codes[i + 1]).name = []
   ·exact hh
   ·exact absurd hn ((p1 hh).1 i (by omega))
  ·rw [zru]
   intro i j hi hj hij hn
   obtain ⟨_, p1, _⟩ := h.codes j hj
   exact (p1 hn).2.1 i hij
  ·have hx := hex i hi
   exact ⟨fun k hk => (h.tree.kids i hi k hk).1, hx.kids, hx.bk, hx.binds, hx.vars, fun h11 => hlr i hi h11⟩
  ·by_cases hn : (c.codes[i]).name = []
   ·rw [if_pos hn]
    have := h.exprs.uses i hi hn
    rw [huse, zqz _ hi] at this
    omega
   ·rw [if_neg hn]
    refine List.count_eq_zero_of_not_mem fun hm => ?_
    obtain ⟨e, he, h11, hnum⟩ := lams_mem.1 hm
    obtain ⟨j, hj, rfl⟩ := List.getElem_of_mem he
    obtain ⟨n, hn1, hl, hn2⟩ := zmx h11 (h.exprs.rule j hj)
    obtain rfl : n = i := by omega
    exact hn hn2
  ·rw [zdf, hty i hi, Bool.true_and]
   exact (zrV (hex i hi) (hty i hi) (fun h11 => zmx h11 (h.exprs.rule i hi))).1 (h.exprs.rule i hi)
  ·rw [zsB]
   exact (zmM c c.codes).1 h.scopes _ (List.getElem_mem hi)
 ·intro h
  have hempty : ∀ i j (hj : j < c.codes.length) (hij : i ≤ j), (c.codes[i]).name = [] → (c.codes[j]).name = [] := by
   intro i j hj hij hn
   induction j with
   | zero => obtain rfl : i = 0 := by omega
             exact hn
   | succ j ih =>
    by_cases e : i = j + 1
    ·subst e; exact hn
    ·have := ih (by omega) (by omega) hn
     exact (h.codes j (by omega)).order this hj
  have hcod : zc8 c := fun i hi => by
   obtain ⟨q1, q2, q3, q4, q5, q6, q7⟩ := h.codes i hi
   refine ⟨hi, fun hn => ⟨fun j hj hn2 => hn (hempty j i hi (by omega) hn2), fun j hj => (zru c.codes).1 h.names j i (by omega) hi hj hn, q2 hn⟩, q3, q4, q7⟩
  have htr : ∀ x ∈ zbH c, 0 ≤ x ∧ x < (c.exprs.length : Int) := by
   intro x hx
   rw [zbH] at hx
   rcases List.mem_append.1 hx with h1 | h1
   ·obtain ⟨f, hf, rfl⟩ := List.mem_map.1 h1
    obtain ⟨i, hi, rfl⟩ := List.getElem_of_mem hf
    obtain ⟨b, hb, hbl, _⟩ := (h.codes i hi).body
    omega
   ·obtain ⟨e, he, hx⟩ := List.mem_flatMap.1 h1
    obtain ⟨i, hi, rfl⟩ := List.getElem_of_mem he
    exact (h.exprs i hi).range x hx
  obtain ⟨ht1, ht2⟩ := (zht htr).1 h.placed
  have htree : TreeP c := ⟨fun i hi => (h.exprs i hi).bk, fun i hi k hk => ⟨(h.exprs i hi).kids k hk, ((h.exprs i hi).range k hk).2⟩, ht1, ht2⟩
  have hbr : ∀ x ∈ zbR c, 0 ≤ x ∧ x < (c.vars.length : Int) := by
   intro x hx
   rw [zbR] at hx
   rcases List.mem_append.1 hx with h1 | h1
   ·obtain ⟨f, hf, hx⟩ := List.mem_flatMap.1 h1
    obtain ⟨i, hi, rfl⟩ := List.getElem_of_mem hf
    rcases List.mem_append.1 hx with h2 | h2
    ·exact (h.codes i hi).rp x h2
    ·exact (h.codes i hi).rc x h2
   ·obtain ⟨e, he, hx⟩ := List.mem_flatMap.1 h1
    obtain ⟨i, hi, rfl⟩ := List.getElem_of_mem he
    obtain ⟨l, hl, hx⟩ := List.mem_flatten.1 hx
    exact (h.exprs i hi).binds l hl x hx
  obtain ⟨hb1, hb2⟩ := (zht hbr).1 h.bound
  have hbind : BindP c := ⟨hbr, hb1, hb2⟩
  have hex := zlH hk (hvar.2 h.vars) hcod htree hbind (fun i hi => (h.exprs i hi).vars)
  have hty : ∀ i (hi : i < c.exprs.length), zav c.data 0 (c.exprs[i]).ty = true ∧ RR c c.exprs[i] = true := fun i hi => by
   have := h.rules i hi
   rw [zdf, Bool.and_eq_true] at this
   exact this
  have huse : zb1 c c.exprs.length = cnt c.codes.length (zb2 c.exprs) := by
   have := zsv c c.exprs.length (Nat.le_refl _) (fun j hj h11 => (h.exprs j hj).lam h11)
   rwa [List.take_length] at this
  refine ⟨(zqI _).2 h.data, hvar.2 h.vars, hcod, htree, hbind, (zmM c c.codes).2 fun f hf => ?_, fun i hi => ?_, fun i hi hn => ?_⟩
  ·obtain ⟨i, hi, rfl⟩ := List.getElem_of_mem hf
   rw [← zsB]; exact h.scopes i hi
  ·refine (zrV (hex i hi) (hty i hi).1 (fun h11 => ?_)).2 (hty i hi).2
   obtain ⟨l1, l2⟩ := (h.exprs i hi).lam h11
   refine ⟨(c.exprs[i]).num.toNat, by omega, by omega, ?_⟩
   have hm := h.made (c.exprs[i]).num.toNat (by omega)
   by_cases hn : (c.codes[(c.exprs[i]).num.toNat]'(by omega)).name = []
   ·exact hn
   ·rw [if_neg hn] at hm
    have hmem : (((c.exprs[i]).num.toNat : Nat) : Int) ∈ zb2 c.exprs := lams_mem.2 ⟨_, List.getElem_mem hi, h11, by omega⟩
    have := List.count_pos_iff.2 hmem
    omega
  ·rw [huse, zqz _ hi, h.made i hi, if_pos hn]; rfl
end Go.Proofs.Ytkdmpbhbmmhijaa
namespace Go.Proofs.Ytkdmpbhbmmhijaa
open Go Go.Abs
set_option maxRecDepth 100000
noncomputable def ztC : Code := Try.f20.body.getD .skip
noncomputable def zDF : List ResultVar := Try.f20.results.toList
end Go.Proofs.Ytkdmpbhbmmhijaa
namespace Go.Proofs.Ytkdmpbhbmmhijaa
open Go Go.Abs
set_option maxRecDepth 8000
def zhq : List AV := [.str [102], .sl [] .none, .sl [] .none, .int .i64 1, .int .i64 0, .sl [] .none, .int .i64 0]
def zef (n : Int) : List AV := [.int .i64 3, .int .i64 n, .sl [] .none, .sl [] .none, .sl [] .none, .int .i64 1, .int .i64 0, .sl [] .none]
def c1 (n : Int) : Cor := ⟨[], [⟨[102], [], [], sm 1, 0⟩], [], [⟨3, n, [], [], [], sm 1⟩]⟩
theorem zwY (n : Int) : (c1 n).cs = [.sl [] .none, .sl [zhq] .none, .sl [] .none, .sl [zef n] .none] := rfl
theorem zqs (n : Int) : zaN (c1 n) := by
 refine ⟨⟨by simp [c1], by simp [c1]⟩, by simp [c1], by simp [c1], ⟨by simp [c1], by simp [c1]⟩, ?_, ?_⟩
 ·intro f hf
  simp [c1] at hf
  subst hf
  exact ⟨by simp, by simp, by simp, by simp [sm, VT.nodes, VT.nodesL]⟩
 ·intro e he
  simp [c1] at he
  subst he
  exact ⟨by simp, by simp, by simp, by simp [sm, VT.nodes, VT.nodesL], by simp⟩
theorem zwX (n : Int) : zc8 (c1 n) := by
 intro i hi
 have h0 : i = 0 := by simp [c1] at hi; omega
 subst h0
 refine ⟨hi, fun _ => ⟨fun j hj => by omega, fun j hj => by omega, rfl⟩, by simp [c1], by simp [c1, zav, sm, VT.nodes, VT.nodesL, zbq, zbr, za4], 0, rfl, by simp [c1], by simp [c1, za6]⟩
theorem zwZ : ProgV (c1 1) := by
 refine ⟨rfl, rfl, zwX 1, ⟨?_, ?_, ?_, rfl⟩, ⟨?_, ?_, rfl⟩, ?_, ?_, ?_⟩
 ·intro i h
  have h0 : i = 0 := by simp [c1] at h; omega
  subst h0; rfl
 ·intro i h k hk
  have h0 : i = 0 := by simp [c1] at h; omega
  subst h0
  simp [c1] at hk
 ·simp [c1, zbH]
 ·intro x hx; simp [c1, zbR] at hx
 ·simp [c1, zbR]
 ·simp [c1, zcq, zaZ, zbz]
 ·intro i h
  have h0 : i = 0 := by simp [c1] at h; omega
  subst h0
  simp [c1, progRule, za2, zaB, za6]
 ·intro i h hn
  have h0 : i = 0 := by simp [c1] at h; omega
  subst h0
  simp [c1] at hn
theorem zqq {a b : Bool} (h : a = true ↔ b = true) : a = b := by cases a <;> cases b <;> simp_all
open Classical in
noncomputable def vOk (c : Cor) : Bool := decide (ProgV c)
theorem zio (c : Cor) : vOk c = true ↔ ProgV c := by simp [vOk]
theorem zB5 (c : Cor) (hc : zaN c) (H : zaa) (K : Kt) (hK : K (.bool (vOk c)) H) : ACalls tP zfx [.agg c.cs] H K :=
 znD c hc H K fun b hb => by rw [zqq (hb.trans (zio c).symm)]; exact hK
theorem zCU (c : Cor) (hc : zaN c) (H : zaa) (K : Kt) (hK : K (.bool (vOk c)) H) : ACalls tP zhL [.agg c.cs] H K :=
 zDB c hc H K fun b hb => by rw [zqq (hb.trans ((znd c hc).symm.trans (zio c).symm))]; exact hK
end Go.Proofs.Ytkdmpbhbmmhijaa
namespace Go.Proofs.Ytkdmpbhbmmhijaa
open Go Go.Abs
set_option maxRecDepth 100000
def zkh : Nat → List Bool
 | 1 => rl false [0,1,1,1,5,3,8]
 | _ => []
noncomputable def zo2 : Code := Try.f57.body.getD .skip
noncomputable def zGX : List ResultVar := Try.f57.results.toList
def zki (t0 t2 t8 t9 t10 : AV) : List AV := t0 :: ux 1 (t2 :: ux 5 (t8 :: t9 :: t10 :: ux 8 []))
def zGV : List Bool := zkh 1
noncomputable def zGT : Code := zao [1, 0, 0] zo2
def zGS (K : Kt) : AExit → List AV → zaa → Prop := zap tP zkh [1, 0] zo2 (zat tP zGX K)
def zu1 (t0 t2 t8 t9 t10 : AV) (H : zaa) (K : Kt) : Prop := ALoop tP zGT (zGS K) (zki t0 t2 t8 t9 t10) H
def zo1 (t0 t2 t8 t9 t10 : AV) (H : zaa) (K : Kt) (Kb1 : Lt) : Prop :=
 zad .lss false t10 t9 fun t11 =>
 zag t11
 (zak 1 t8 t10 fun t12 =>
 zae false 1 t12 H fun t13 =>
 zak 1 t0 t13 fun t17 =>
 zar 1 t17 t2 H fun H =>
 zad .add false t10 (.int .i64 1) fun t18 =>
 Kb1 (zki t0 t2 t8 t9 t18) H)
 (zaV [] (K · H))
def zu0 (t0 t1 t2 : AV) (H : zaa) (K : Kt) : Prop :=
 zaj 1 t1 fun t9 =>
 zu1 t0 t2 t1 t9 (.int .i64 0) H K
theorem zGU {t0 t2 t8 t9 t10 : AV} {H : zaa} {K : Kt} (Inv : Nat → AV → zaa → Prop) (n : Nat) (h0 : HSc H → Inv n t10 H)
  (round : Rd1 (fun t10 => zki t0 t2 t8 t9 t10) (fun t10 => fun H Kb1 => zo1 t0 t2 t8 t9 t10 H K Kb1) H Inv) : zu1 t0 t2 t8 t9 t10 H K :=
 lp1 (M := zkh) zGV t10 (by kernel_rfl) Inv n h0 round
theorem zGW {t0 t1 t2 : AV} {H : zaa} {K : Kt} (h : HSc H → zu0 t0 t1 t2 H K) : ACalls tP zgx [t0, t1, t2] H K :=
 zaw (M := zkh) Try.func57 (c := zo2) (by kernel_rfl) (fun hs => Eq.mpr (by kernel_rfl) (h hs))
def zkj : Nat → List Bool
 | 3 => rl false [3,1,2,3,11]
 | _ => []
noncomputable def zo3 : Code := Try.f58.body.getD .skip
noncomputable def zG3 : List ResultVar := Try.f58.results.toList
def zg5 (t3 t6 t7 t8 : AV) : List AV := ux 3 (t3 :: ux 2 (t6 :: t7 :: t8 :: ux 11 []))
def zG1 : List Bool := zkj 3
noncomputable def zGZ : Code := zao [1, 1, 0, 1, 0, 0] zo3
def zGY (K : Kt) : AExit → List AV → zaa → Prop := zap tP zkj [1, 1, 0, 1, 0] zo3 (zat tP zG3 K)
def zkm (t3 t6 t7 t8 : AV) (H : zaa) (K : Kt) : Prop := ALoop tP zGZ (zGY K) (zg5 t3 t6 t7 t8) H
def zo4 (t3 t6 t7 t8 : AV) (H : zaa) (K : Kt) (Kb3 : Lt) : Prop :=
 zad .add false t8 (.int .i64 1) fun t18 =>
 Kb3 (zg5 t3 t6 t7 t18) H
def zkl (t3 t6 t7 t8 : AV) (H : zaa) (K : Kt) (Kb3 : Lt) : Prop :=
 zo4 t3 t6 t7 t8 H K Kb3
def zkk (t3 t6 t7 t8 : AV) (H : zaa) (K : Kt) (Kb3 : Lt) : Prop :=
 zad .lss false t8 t7 fun t9 =>
 zag t9
 (zak 1 t6 t8 fun t11 =>
 zae false 1 t11 H fun t12 =>
 zag t12
 (zay 1 [(.int .i64 0)] 1 [(0, t8)] fun t16 =>
 zaH zgi 1 8 t3 t16 H fun t17 H =>
 zkl t17 t6 t7 t8 H K Kb3)
 (zkl t3 t6 t7 t8 H K Kb3))
 (K t3 H)
def zu2 (t0 : AV) (H : zaa) (K : Kt) : Prop :=
 zaj 1 t0 fun t7 =>
 zkm .snil t0 t7 (.int .i64 0) H K
theorem zG0 {t3 t6 t7 t8 : AV} {H : zaa} {K : Kt} (Inv : Nat → AV → AV → zaa → Prop) (n : Nat) (h0 : HSc H → Inv n t3 t8 H)
  (round : Rd2 (fun t3 => fun t8 => zg5 t3 t6 t7 t8) (fun t3 => fun t8 => fun H Kb3 => zkk t3 t6 t7 t8 H K Kb3) H Inv) : zkm t3 t6 t7 t8 H K :=
 lp2 (M := zkj) zG1 t3 t8 (by kernel_rfl) Inv n h0 round
theorem zG2 {t0 : AV} {H : zaa} {K : Kt} (h : HSc H → zu2 t0 H K) : ACalls tP zmg [t0] H K :=
 zaw (M := zkj) Try.func58 (c := zo3) (by kernel_rfl) (fun hs => Eq.mpr (by kernel_rfl) (h hs))
end Go.Proofs.Ytkdmpbhbmmhijaa
namespace Go.Proofs.Ytkdmpbhbmmhijaa
open Go Go.Abs
set_option maxRecDepth 8000
theorem zmF {H : zaa} {id n : Nat} {l : List Int} {st : List Bool} {b : Bool} (hid : H[id]? = some (boB st)) (hst : st.length = n) (hl : l.length ≤ 1000000) (hr : ∀ x ∈ l, 0 ≤ x ∧ x < (n : Int)) (K : Kt)
  (hK : K (.tup []) (H.set id (boB (zaC st l b)))) : ACalls tP zgx [.ms id 0 n n, .sl (ints l) .none, .bool b] H K := by
 refine zGW fun hs => ?_
 have hil := zbV hid
 simp [zu0]
 refine zGU (Inv := fun q t10 H' => ∃ j : Nat, j ≤ l.length ∧ q = l.length - j ∧ t10 = .int .i64 j ∧ H' = H.set id (boB (zaC st (l.take j) b))) l.length ?_ ?_
 ·intro _; exact ⟨0, by omega, by omega, rfl, by simp [zaC, zdX hid]⟩
 ·rintro q t10 H' ⟨j, hj, rfl, rfl, rfl⟩ hsc hlen hsF Kb hKb
  have hg : ∀ st, (H.set id (boB st))[id]? = some (.cells (zaX st)) := fun us => by rw [zcR _ hid]; rfl
  by_cases hjl : j < l.length
  ·have hrr := hr _ (List.getElem_mem hjl)
   obtain ⟨e, he⟩ : ∃ e : Nat, l[j] = e := ⟨(l[j]).toNat, by omega⟩
   have hen : e < n := by omega
   have hnx : zaC st (l.take (j + 1)) b = (zaC st (l.take j) b).set e b := by rw [zbP hjl, zmS, he]; rfl
   have hsl : (zaC st (l.take j) b).length = n := by rw [zmR, hst]
   generalize zaC st (l.take j) b = st1 at *
   simp [zo1, hjl, he, hen, hg, hsl]
   rw [zaq (by omega) (by omega), zeI (by omega)]
   refine ⟨by omega, hKb _ _ ⟨l.length - (j + 1), by omega, Back.here (by simp) (hs.set (by simp [AB.sc, zdM])) ?_ ⟨_, rfl, j + 1, by omega, rfl, by simp, by rw [hnx]; rfl⟩⟩⟩
   simp [zki, AV.sc, AV.scV, AV.scA, AV.scB]; omega
  ·obtain rfl : j = l.length := by omega
   rw [List.take_length] at *
   simp [zo1]
   simpa [zaV] using hK
def mem (st : List Bool) : List Int := ((List.range st.length).filter fun i => st.getD i false).map fun (i : Nat) => (i : Int)
def zc4 (st : List Bool) (k : Nat) : List Int := ((List.range k).filter fun i => st.getD i false).map fun (i : Nat) => (i : Int)
theorem zxZ (st : List Bool) (k : Nat) : zc4 st (k + 1) = zc4 st k ++ (if st.getD k false = true then [(k : Int)] else []) := by
 rw [zc4, List.range_succ, List.filter_append, List.map_append, zc4]
 cases h : st.getD k false with
 | false =>
  have h' : st[k]?.getD false = false := by simpa using h
  simp [List.filter_cons, h']
 | true =>
  have h' : st[k]?.getD false = true := by simpa using h
  simp [List.filter_cons, h']
theorem zrm (st : List Bool) (k : Nat) : (zc4 st k).length ≤ k := by
 rw [zc4, List.length_map]
 exact Nat.le_trans (List.length_filter_le _ _) (by simp)
theorem zG4 {H : zaa} {id n : Nat} {st : List Bool} (hid : H[id]? = some (boB st)) (hst : st.length = n) (hn : n ≤ 1000000) (K : Kt) (hK : K (.sl (ints (mem st)) .none) H) : ACalls tP zmg [.ms id 0 n n] H K := by
 refine ACalls.out (zG2 fun hs => ?_)
 have hil := zbV hid
 have hgJ : ∀ J, (H ++ J)[id]? = some (.cells (zaX st)) := fun J => zaP hid
 subst hst
 simp [zu2]
 unfold zkm
 refine ALoop.own 3 zgi 1 rfl ?_
 show zkm (.sl [] (.own H.length)) (.ms id 0 st.length st.length) (.int .i64 st.length) (.int .i64 0) (H ++ [.perm zgi 1 0]) (Out H.length K)
 refine zG0 (Inv := fun q t3 tI H' => ∃ i : Nat, i ≤ st.length ∧ q = st.length - i ∧ tI = .int .i64 i ∧ t3 = .sl (ints (zc4 st i)) (.own H.length) ∧ H' = H ++ [.perm zgi 1 (zc4 st i).length]) st.length ?_ ?_
 ·intro _; exact ⟨0, by omega, by omega, rfl, by simp [zc4, ints], by simp [zc4]⟩
 rintro q t3 tI H' ⟨i, hi, rfl, rfl, rfl, rfl⟩ hsc hlen hsF Kb hKb
 have hml := zrm st i
 by_cases hlt : i < st.length
 ·have hsu := zxZ st i
  have hgd : st.getD i false = st[i] := by rw [List.getD_eq_getElem?_getD, List.getElem?_eq_getElem hlt]; rfl
  rw [hgd] at hsu
  have back : ∀ l, zc4 st (i + 1) = l → Kb (zg5 (.sl (ints l) (.own H.length)) (.ms id 0 st.length st.length) (.int .i64 st.length) (.int .i64 ((i : Int) + 1))) (H ++ [.perm zgi 1 l.length]) := fun l h => by
   subst h
   refine hKb _ _ ⟨st.length - (i + 1), by omega, Back.here (by simp) (hs.append rfl) ?_ ⟨_, _, rfl, i + 1, by omega, rfl, by simp, rfl, rfl⟩⟩
   simp [zg5, AV.sc, AV.scV, AV.scA, AV.scB]; omega
  cases hb : st[i] with
  | false =>
   rw [hb, if_neg (by simp), List.append_nil] at hsu
   have := back _ hsu
   simp [zkk, zkl, zo4, hlt, hgJ, zaO, hb]
   rw [zaq (by omega) (by omega)]
   exact this
  | true =>
   rw [hb, if_pos rfl] at hsu
   have := back _ hsu
   simp [zkk, zkl, zo4, hlt, hgJ, zaO, hb]
   rw [show ∀ k : AV → Prop, zay 1 [.int .i64 0] 1 [(0, .int .i64 (i : Int))] k = k (.sl [[.int .i64 (i : Int)]] .full) from fun k => propext Iff.rfl]
   simp [zaH, zbG, zbe]
   refine ⟨⟨by omega, by omega⟩, ?_⟩
   rw [zaq (by omega) (by omega)]
   simpa [ints] using this
 ·obtain rfl : i = st.length := by omega
  simp [zkk]
  exact Out.one hs (.atom (.sl _ _)) rfl rfl hK
def tk (e : CEx) : List Int := if e.op = 7 then [e.kids.getD 1 0] else if e.op = 8 ∨ e.op = 9 ∨ e.op = 10 ∨ e.op = 24 then e.kids else []
def lf (e : CEx) : Bool := !(e.op == 7 || e.op == 8 || e.op == 9 || e.op == 10 || e.op == 24)
def zm3 (c : Cor) (i : Nat) : List Int := match c.exprs[i]? with | some e => tk e | none => []
inductive TR (c : Cor) (b : Nat) : Nat → Prop
 | base : TR c b b
 | step {p v : Nat} (h : TR c b p) (hk : (v : Int) ∈ zm3 c p) : TR c b v
theorem TR.front {c : Cor} {b k v : Nat} (hk : (k : Int) ∈ zm3 c b) (h : TR c k v) : TR c b v := by
 induction h with
 | base => exact .step .base hk
 | step h hk2 ih => exact .step ih hk2
structure TkP (c : Cor) : Prop where
 up : ∀ i, i < c.exprs.length → ∀ k ∈ zm3 c i, (i : Int) < k ∧ k < c.exprs.length
theorem zze (l : List Int) : ∀ (st : List Bool), (∀ x ∈ l, 0 ≤ x ∧ x < (st.length : Int)) → ∀ v, (zaC st l true).getD v false = true ↔ st.getD v false = true ∨ (v : Int) ∈ l := by
 induction l with
 | nil => intro st _ v; simp [zaC]
 | cons a l ih =>
  intro st hr v
  have ha := hr a (by simp)
  rw [zmP, ih _ (fun x hx => by simpa using hr x (by simp [hx])) v, zmU]
  by_cases hv : a.toNat = v ∧ v < st.length
  ·rw [if_pos hv]
   have : (v : Int) = a := by omega
   simp [this]
  ·rw [if_neg hv]
   have : ¬ (v : Int) = a := by intro h; exact hv (by omega)
   simp [this]
def zcw (c : Cor) (p : Nat) : List Int := match c.exprs[p]? with | some e => e.kids | none => []
def zb6 (c : Cor) (p : Nat) : List (List Int) := match c.exprs[p]? with | some e => e.binds | none => []
def zdh (c : Cor) (p : Nat) : List Int := match c.exprs[p]? with | some e => e.vars | none => []
def Kid (c : Cor) (p k j : Nat) : Prop := (zcw c p)[k]? = some (j : Int)
def Bind (c : Cor) (p k : Nat) (v : Int) : Prop := ∃ l, (zb6 c p)[k]? = some l ∧ v ∈ l
def zcL (c : Cor) (i j : Nat) : Prop := ∃ h : i < c.codes.length, (c.codes[i]).body = (j : Int)
def Par (c : Cor) (i : Nat) (v : Int) : Prop := ∃ h : i < c.codes.length, v ∈ (c.codes[i]).params ++ (c.codes[i]).capt
inductive InS (c : Cor) : Nat → Int → Prop
 | root {i j : Nat} {v : Int} (hr : zcL c i j) (hv : Par c i v) : InS c j v
 | bind {p k j : Nat} {v : Int} (hk : Kid c p k j) (hv : Bind c p k v) : InS c j v
 | up {p k j : Nat} {v : Int} (hk : Kid c p k j) (h : InS c p v) : InS c j v
inductive Sub (c : Cor) (e : Nat) : Nat → Prop
 | refl : Sub c e e
 | step {p k j : Nat} (h : Sub c e p) (hk : Kid c p k j) : Sub c e j
theorem Sub.trans {c : Cor} {a b d : Nat} (h : Sub c a b) (h2 : Sub c b d) : Sub c a d := by
 induction h2 with
 | refl => exact h
 | step _ hk ih => exact .step ih hk
theorem Sub.front {c : Cor} {e j : Nat} (h : Sub c e j) : j = e ∨ ∃ k m, Kid c e k m ∧ Sub c m j := by
 induction h with
 | refl => exact .inl rfl
 | step h hk ih =>
  rcases ih with rfl | ⟨k, m, h1, h2⟩
  ·exact .inr ⟨_, _, hk, .refl⟩
  ·exact .inr ⟨k, m, h1, .step h2 hk⟩
structure TreeC (c : Cor) : Prop where
 lt : ∀ {p k j : Nat}, Kid c p k j → p < j ∧ j < c.exprs.length
 uni : ∀ {p k p' k' j : Nat}, Kid c p k j → Kid c p' k' j → p = p' ∧ k = k'
 nob : ∀ {p k j i : Nat}, Kid c p k j → ¬ zcL c i j
 bod : ∀ {i i' j : Nat}, zcL c i j → zcL c i' j → i = i'
 blt : ∀ {i j : Nat}, zcL c i j → j < c.exprs.length
 ex : ∀ {j : Nat}, j < c.exprs.length → (∃ i, zcL c i j) ∨ ∃ p k, Kid c p k j
 kb : ∀ p : Nat, (zb6 c p).length = (zcw c p).length
 kr : ∀ p : Nat, ∀ x ∈ zcw c p, 0 ≤ x ∧ x < (c.exprs.length : Int)
 br : ∀ {p k : Nat} {v : Int}, Bind c p k v → 0 ≤ v ∧ v < (c.vars.length : Int)
 pr : ∀ {i : Nat} {v : Int}, Par c i v → 0 ≤ v ∧ v < (c.vars.length : Int)
 vr : ∀ p : Nat, ∀ x ∈ zdh c p, 0 ≤ x ∧ x < (c.vars.length : Int)
 bu : ∀ {p k p' k' : Nat} {v : Int}, Bind c p k v → Bind c p' k' v → p = p' ∧ k = k'
 bn : ∀ {p k : Nat} {l : List Int}, (zb6 c p)[k]? = some l → l.Nodup
 bp : ∀ {p k : Nat} {v : Int} {i : Nat}, Bind c p k v → ¬ Par c i v
 pu : ∀ {i i' : Nat} {v : Int}, Par c i v → Par c i' v → i = i'
 pn : ∀ (i) (h : i < c.codes.length), ((c.codes[i]).params ++ (c.codes[i]).capt).Nodup
 sc : ∀ {j : Nat} {v : Int}, v ∈ zdh c j → InS c j v
variable {c : Cor}
theorem TreeC.sub_le (hT : TreeC c) {a b : Nat} (h : Sub c a b) : a ≤ b := by
 induction h with
 | refl => exact Nat.le_refl _
 | step _ hk ih => have := (hT.lt hk).1; omega
theorem TreeC.bound_sub (hT : TreeC c) {j p k : Nat} {v : Int} (h : InS c j v) (hb : Bind c p k v) : ∃ m, Kid c p k m ∧ Sub c m j := by
 induction h with
 | root hr hv => exact absurd hv (hT.bp hb)
 | bind hk hv =>
  obtain ⟨rfl, rfl⟩ := hT.bu hb hv
  exact ⟨_, hk, .refl⟩
 | up hk h ih =>
  obtain ⟨m, h1, h2⟩ := ih hb
  exact ⟨m, h1, .step h2 hk⟩
theorem TreeC.bound_lt (hT : TreeC c) {j p k : Nat} {v : Int} (h : InS c j v) (hb : Bind c p k v) : p < j := by
 obtain ⟨m, h1, h2⟩ := hT.bound_sub h hb
 have := hT.sub_le h2
 have := (hT.lt h1).1
 omega
theorem TreeC.kid_InS (hT : TreeC c) {p k j : Nat} {v : Int} (hk : Kid c p k j) : InS c j v ↔ InS c p v ∨ Bind c p k v := by
 constructor
 ·intro h
  cases h with
  | root hr hv => exact absurd hr (hT.nob hk)
  | bind hk' hv =>
   obtain ⟨rfl, rfl⟩ := hT.uni hk hk'
   exact .inr hv
  | up hk' h =>
   obtain ⟨rfl, rfl⟩ := hT.uni hk hk'
   exact .inl h
 ·rintro (h | h)
  ·exact .up hk h
  ·exact .bind hk h
theorem TreeC.root_InS (hT : TreeC c) {i j : Nat} {v : Int} (hr : zcL c i j) : InS c j v ↔ Par c i v := by
 constructor
 ·intro h
  cases h with
  | root hr' hv =>
   obtain rfl := hT.bod hr hr'
   exact hv
  | bind hk hv => exact absurd hr (hT.nob hk)
  | up hk h => exact absurd hr (hT.nob hk)
 ·exact .root hr
theorem TreeC.InS_range (hT : TreeC c) {j : Nat} {v : Int} (h : InS c j v) : 0 ≤ v ∧ v < (c.vars.length : Int) := by
 induction h with
 | root hr hv => exact hT.pr hv
 | bind hk hv => exact hT.br hv
 | up hk h ih => exact ih
theorem zrv {l : List Int} (h : l.Nodup) {i j : Nat} {v : Int} (h1 : l[i]? = some v) (h2 : l[j]? = some v) : i = j := by
 obtain ⟨a1, b1⟩ := List.getElem?_eq_some_iff.1 h1
 obtain ⟨a2, b2⟩ := List.getElem?_eq_some_iff.1 h2
 have hp := List.pairwise_iff_getElem.1 h
 rcases Nat.lt_trichotomy i j with h3 | h3 | h3
 ·exact absurd (b1.trans b2.symm) (hp i j a1 a2 h3)
 ·exact h3
 ·exact absurd (b2.trans b1.symm) (hp j i a2 a1 h3)
theorem zh1 {α : Type} {l : List α} {f : α → List Int} (h : (l.flatMap f).Nodup) {i j : Nat} (hi : i < l.length) (hj : j < l.length) {v : Int} (h1 : v ∈ f l[i]) (h2 : v ∈ f l[j]) : i = j := by
 obtain ⟨_, hp⟩ := List.pairwise_flatMap.1 h
 have hp := List.pairwise_iff_getElem.1 hp
 rcases Nat.lt_trichotomy i j with h3 | h3 | h3
 ·exact absurd rfl (hp i j hi hj h3 v h1 v h2)
 ·exact h3
 ·exact absurd rfl (hp j i hj hi h3 v h2 v h1)
theorem zgB {α : Type} {l : List α} {f : α → List Int} (h : (l.flatMap f).Nodup) {i : Nat} (hi : i < l.length) : (f l[i]).Nodup :=
 (List.pairwise_flatMap.1 h).1 _ (List.getElem_mem hi)
theorem zcx {c : Cor} {p : Nat} (h : p < c.exprs.length) : zcw c p = (c.exprs[p]).kids := by unfold zcw; rw [List.getElem?_eq_getElem h]
theorem zdp {c : Cor} {p : Nat} (h : p < c.exprs.length) : zb6 c p = (c.exprs[p]).binds := by unfold zb6; rw [List.getElem?_eq_getElem h]
theorem zAa {c : Cor} {p : Nat} (h : p < c.exprs.length) : zdh c p = (c.exprs[p]).vars := by unfold zdh; rw [List.getElem?_eq_getElem h]
theorem zfv {c : Cor} {p : Nat} {x : Int} (h : x ∈ zcw c p) : p < c.exprs.length := by
 by_cases h2 : p < c.exprs.length
 ·exact h2
 ·unfold zcw at h; rw [List.getElem?_eq_none (by omega)] at h; simp at h
theorem zho {c : Cor} {p : Nat} {x : List Int} (h : x ∈ zb6 c p) : p < c.exprs.length := by
 by_cases h2 : p < c.exprs.length
 ·exact h2
 ·unfold zb6 at h; rw [List.getElem?_eq_none (by omega)] at h; simp at h
theorem zsw {c : Cor} {p : Nat} {x : Int} (h : x ∈ zdh c p) : p < c.exprs.length := by
 by_cases h2 : p < c.exprs.length
 ·exact h2
 ·unfold zdh at h; rw [List.getElem?_eq_none (by omega)] at h; simp at h
theorem Kid.mem {c : Cor} {p k j : Nat} (h : Kid c p k j) : (j : Int) ∈ zcw c p := List.mem_of_getElem? h
theorem Bind.mem {c : Cor} {p k : Nat} {v : Int} (h : Bind c p k v) : v ∈ (zb6 c p).flatten := by
 obtain ⟨l, h1, h2⟩ := h
 exact List.mem_flatten.2 ⟨l, List.mem_of_getElem? h1, h2⟩
theorem zAl {c : Cor} {m : Nat} (hbr : ∀ {p k : Nat} {v : Int}, Bind c p k v → 0 ≤ v) (ih : ∀ i st st', zaZ c m i st = some st' → (∀ v : Nat, st.getD v false = true → InS c i v) → ∀ j, Sub c i j → ∀ v ∈ zdh c j, InS c j v) (i : Nat) :
  ∀ (bs : List (List Int)) (ks : List Int) (st st' : List Bool) (k0 : Nat), zbz c m bs ks st = some st' → bs.length = ks.length → (∀ r, (zb6 c i)[k0 + r]? = bs[r]?) → (∀ r, (zcw c i)[k0 + r]? = ks[r]?) → (∀ v : Nat, st.getD v false = true → InS c i v) →
   ∀ (r m' : Nat), ks[r]? = some (m' : Int) → ∀ j, Sub c m' j → ∀ v ∈ zdh c j, InS c j v := by
 intro bs
 induction bs with
 | nil =>
  intro ks st st' k0 _ hl _ _ _ r m' hr
  have : ks = [] := List.eq_nil_of_length_eq_zero (by simpa using hl.symm)
  subst this
  simp at hr
 | cons b bs ihb =>
  intro ks st st' k0 h hl hb hk hs r m' hr
  cases ks with
  | nil => simp at hl
  | cons k ks =>
   rw [zbz] at h
   cases hv : zaZ c m k.toNat (zaC st b true) with
   | none => rw [hv] at h; cases h
   | some s2 =>
    rw [hv] at h
    simp only at h
    cases r with
    | zero =>
     simp at hr
     subst hr
     have hkid : Kid c i k0 m' := by have := hk 0; simp at this; exact this
     have hbd : (zb6 c i)[k0]? = some b := by have := hb 0; simpa using this
     refine ih m' _ s2 (by simpa using hv) fun v hv => ?_
     rcases zfJ b _ _ hv with h1 | ⟨x, hx, e⟩
     ·exact .up hkid (hs v h1)
     ·have hB : Bind c i k0 x := ⟨b, hbd, hx⟩
      have := hbr hB
      obtain rfl : x = (v : Int) := by omega
      exact .bind hkid hB
    | succ r =>
     refine ihb ks _ _ (k0 + 1) h (by simpa using hl) (fun r => ?_) (fun r => ?_) (fun v hv2 => hs v (zr3 (zsz c _ _ _ _ hv) v hv2)) r m' (by simpa using hr)
     ·have := hb (r + 1); rw [show k0 + 1 + r = k0 + (r + 1) by omega]; simpa using this
     ·have := hk (r + 1); rw [show k0 + 1 + r = k0 + (r + 1) by omega]; simpa using this
theorem zAc {c : Cor} (hbr : ∀ {p k : Nat} {v : Int}, Bind c p k v → 0 ≤ v) (hkb : ∀ p, (zb6 c p).length = (zcw c p).length) : ∀ (m i : Nat) (st st' : List Bool), zaZ c m i st = some st' → (∀ v : Nat, st.getD v false = true → InS c i v) → ∀ j, Sub c i j → ∀ v ∈ zdh c j, InS c j v := by
 intro m
 induction m with
 | zero => intro i st st' h; rw [zaZ] at h; cases h
 | succ m ih =>
  intro i st st' h hs j hj v hv
  rw [zaZ] at h
  cases he : c.exprs[i]? with
  | none => rw [he] at h; cases h
  | some e =>
   rw [he] at h
   simp only at h
   split at h
   ·rename_i hall
    rcases hj.front with rfl | ⟨k, m', h1, h2⟩
    ·unfold zdh at hv
     rw [he] at hv
     have h3 := List.all_eq_true.1 hall v hv
     simp only [Bool.and_eq_true, decide_eq_true_eq] at h3
     have h4 := hs _ h3.2
     rw [show ((v.toNat : Nat) : Int) = v by omega] at h4
     exact h4
    ·have e1 : zb6 c i = e.binds := by unfold zb6; rw [he]
     have e2 : zcw c i = e.kids := by unfold zcw; rw [he]
     refine zAl hbr ih i e.binds e.kids st st' 0 h (by rw [← e1, ← e2]; exact hkb i) (fun r => by rw [e1, Nat.zero_add]) (fun r => by rw [e2, Nat.zero_add]) hs k m' ?_ j h2 v hv
     rw [← e2]; exact h1
   ·cases h
theorem zgJ {c : Cor} (hk : zaN c) (h : vOk c = true) : TreeC c := by
 have hp := (zio c).1 h
 have hr := (znd c hk).1 hp
 obtain ⟨t1, t2, t3, t4⟩ := hp.tree
 obtain ⟨b1, b2, b3⟩ := hp.bind
 unfold zbH at t3
 obtain ⟨n1, n2, n3⟩ := List.nodup_append.1 t3
 unfold zbR at b2 b1
 obtain ⟨m1, m2, m3⟩ := List.nodup_append.1 b2
 have hbl : ∀ p, (zb6 c p).length = (zcw c p).length := fun p => by
  by_cases h2 : p < c.exprs.length
  ·rw [zdp h2, zcx h2]; exact t1 p h2
  ·unfold zb6 zcw; rw [List.getElem?_eq_none (by omega)]; rfl
 have hbr : ∀ {p k : Nat} {v : Int}, Bind c p k v → v ∈ c.exprs.flatMap fun e => e.binds.flatten := fun {p k v} hb => by
  have h1 := hb.mem
  obtain ⟨l, h2, _⟩ := hb
  have h3 := zho (List.mem_of_getElem? h2)
  rw [zdp h3] at h1
  exact List.mem_flatMap.2 ⟨_, List.getElem_mem h3, h1⟩
 have hpr : ∀ {i : Nat} {v : Int}, Par c i v → v ∈ c.codes.flatMap fun f => f.params ++ f.capt := fun {i v} ⟨h1, h2⟩ => List.mem_flatMap.2 ⟨_, List.getElem_mem h1, h2⟩
 have hb0 : ∀ {p k : Nat} {v : Int}, Bind c p k v → 0 ≤ v ∧ v < (c.vars.length : Int) := fun hb => b1 _ (List.mem_append.2 (.inr (hbr hb)))
 have hbu : ∀ {p k p' k' : Nat} {v : Int}, Bind c p k v → Bind c p' k' v → p = p' ∧ k = k' := fun {p k p' k' v} h1 h2 => by
  have g1 := h1.mem; have g2 := h2.mem
  obtain ⟨l, a1, a2⟩ := h1
  obtain ⟨l', c1, c2⟩ := h2
  have g3 := zho (List.mem_of_getElem? a1)
  have g4 := zho (List.mem_of_getElem? c1)
  rw [zdp g3] at g1
  rw [zdp g4] at g2
  obtain rfl := zh1 m2 g3 g4 g1 g2
  refine ⟨rfl, ?_⟩
  have g5 := zgB m2 g3
  rw [← zdp g3] at g5
  obtain ⟨a3, a4⟩ := List.getElem?_eq_some_iff.1 a1
  obtain ⟨c3, c4⟩ := List.getElem?_eq_some_iff.1 c1
  have g6 : ((zb6 c p).flatMap id).Nodup := by rw [List.flatMap_id]; exact g5
  exact zh1 g6 a3 c3 (v := v) (by rw [a4]; exact a2) (by rw [c4]; exact c2)
 refine { lt := ?_, uni := ?_, nob := ?_, bod := ?_, blt := ?_, ex := ?_, kb := hbl, kr := ?_, br := hb0, pr := ?_, vr := ?_, bu := hbu, bn := ?_, bp := ?_, pu := ?_, pn := ?_, sc := ?_ }
 ·intro p k j h1
  have h2 := zfv h1.mem
  have h3 := t2 p h2 j (by rw [← zcx h2]; exact h1.mem)
  omega
 ·intro p k p' k' j h1 h2
  have h3 := zfv h1.mem
  have h4 := zfv h2.mem
  obtain rfl := zh1 n2 h3 h4 (by rw [← zcx h3]; exact h1.mem) (by rw [← zcx h4]; exact h2.mem)
  have h5 := zgB n2 h3
  rw [← zcx h3] at h5
  exact ⟨rfl, zrv h5 h1 h2⟩
 ·rintro p k j i h1 ⟨h2, h3⟩
  have h4 := zfv h1.mem
  have h5 : (j : Int) ∈ c.exprs.flatMap CEx.kids := List.mem_flatMap.2 ⟨_, List.getElem_mem h4, by rw [← zcx h4]; exact h1.mem⟩
  exact n3 j (List.mem_map.2 ⟨_, List.getElem_mem h2, h3⟩) j h5 rfl
 ·rintro i i' j ⟨h1, h2⟩ ⟨h3, h4⟩
  exact zrv n1 (i := i) (j := i') (v := j) (by rw [List.getElem?_map, List.getElem?_eq_getElem h1]; simp [h2]) (by rw [List.getElem?_map, List.getElem?_eq_getElem h3]; simp [h4])
 ·rintro i j ⟨h1, h2⟩
  obtain ⟨b, hb, hlt, _⟩ := (hr.codes i h1).body
  rw [hb] at h2
  omega
 ·intro j hj
  have h1 := hr.placed j hj
  have h2 : (j : Int) ∈ zbH c := List.count_pos_iff.1 (by omega)
  unfold zbH at h2
  rcases List.mem_append.1 h2 with h3 | h3
  ·obtain ⟨f, hf, he⟩ := List.mem_map.1 h3
   obtain ⟨i, hi, rfl⟩ := List.mem_iff_getElem.1 hf
   exact .inl ⟨i, hi, he⟩
  ·obtain ⟨e, he, hm⟩ := List.mem_flatMap.1 h3
   obtain ⟨p, hp, rfl⟩ := List.mem_iff_getElem.1 he
   obtain ⟨k, hk2, hj2⟩ := List.mem_iff_getElem.1 hm
   exact .inr ⟨p, k, by unfold Kid; rw [zcx hp, List.getElem?_eq_getElem hk2, hj2]⟩
 ·intro p x hx
  have h2 := zfv hx
  rw [zcx h2] at hx
  exact (hr.exprs p h2).range x hx
 ·intro i v h1
  exact b1 _ (List.mem_append.2 (.inl (hpr h1)))
 ·intro p x hx
  have h2 := zsw hx
  rw [zAa h2] at hx
  exact (hr.exprs p h2).vars x hx
 ·intro p k l h1
  have h2 := zho (List.mem_of_getElem? h1)
  have h3 := zgB m2 h2
  rw [← zdp h2, ← List.flatMap_id] at h3
  obtain ⟨h4, h5⟩ := List.getElem?_eq_some_iff.1 h1
  have h6 := zgB h3 h4
  rw [h5] at h6
  exact h6
 ·intro p k v i h1 h2
  exact m3 v (hpr h2) v (hbr h1) rfl
 ·rintro i i' v ⟨h1, h2⟩ ⟨h3, h4⟩
  exact zh1 m1 h1 h3 h2 h4
 ·intro i hi
  exact zgB m1 hi
 ·have hsub : ∀ (i : Nat) (hi : i < c.codes.length) (j b : Nat), (c.codes[i]).body = (b : Int) → Sub c b j → ∀ v ∈ zdh c j, InS c j v := by
   intro i hi j b hb hj v hv
   have h1 := hr.scopes i hi
   have h2 := zsA c c.exprs.length (c.codes[i]).body.toNat (zcH c c.codes[i])
   rw [if_pos h1] at h2
   rw [hb] at h2
   refine zAc (fun hb => (hb0 hb).1) hbl _ b _ _ (by simpa using h2) (fun v hv => ?_) j hj v hv
   have hP : Par c i v := by
    unfold zcH at hv
    rcases zfJ _ _ _ hv with h3 | ⟨x, hx, e⟩
    ·rcases zfJ _ _ _ h3 with h4 | ⟨x, hx, e⟩
     ·rw [List.getD_eq_getElem?_getD, List.getElem?_replicate] at h4
      split at h4 <;> simp at h4
     ·have hP : Par c i x := ⟨hi, List.mem_append.2 (.inl hx)⟩
      have := b1 _ (List.mem_append.2 (.inl (hpr hP)))
      obtain rfl : x = (v : Int) := by omega
      exact hP
    ·have hP : Par c i x := ⟨hi, List.mem_append.2 (.inr hx)⟩
     have := b1 _ (List.mem_append.2 (.inl (hpr hP)))
     obtain rfl : x = (v : Int) := by omega
     exact hP
   exact .root ⟨hi, hb⟩ hP
  have hroot : ∀ m j, j ≤ m → j < c.exprs.length → ∃ i, ∃ hi : i < c.codes.length, ∃ b : Nat, (c.codes[i]).body = (b : Int) ∧ Sub c b j := by
   intro m
   induction m with
   | zero =>
    intro j hj hjl
    have h1 := hr.placed j hjl
    have h2 : (j : Int) ∈ zbH c := List.count_pos_iff.1 (by omega)
    unfold zbH at h2
    rcases List.mem_append.1 h2 with h3 | h3
    ·obtain ⟨f, hf, he⟩ := List.mem_map.1 h3
     obtain ⟨i, hi, rfl⟩ := List.mem_iff_getElem.1 hf
     exact ⟨i, hi, j, he, .refl⟩
    ·obtain ⟨e, he, hm⟩ := List.mem_flatMap.1 h3
     obtain ⟨p, hp, rfl⟩ := List.mem_iff_getElem.1 he
     have := t2 p hp j hm
     omega
   | succ m ih =>
    intro j hj hjl
    have h1 := hr.placed j hjl
    have h2 : (j : Int) ∈ zbH c := List.count_pos_iff.1 (by omega)
    unfold zbH at h2
    rcases List.mem_append.1 h2 with h3 | h3
    ·obtain ⟨f, hf, he⟩ := List.mem_map.1 h3
     obtain ⟨i, hi, rfl⟩ := List.mem_iff_getElem.1 hf
     exact ⟨i, hi, j, he, .refl⟩
    ·obtain ⟨e, he, hm⟩ := List.mem_flatMap.1 h3
     obtain ⟨p, hp, rfl⟩ := List.mem_iff_getElem.1 he
     have := t2 p hp j hm
     obtain ⟨k, hk2, hj2⟩ := List.mem_iff_getElem.1 hm
     obtain ⟨i, hi, b, h4, h5⟩ := ih p (by omega) hp
     exact ⟨i, hi, b, h4, .step h5 (by unfold Kid; rw [zcx hp, List.getElem?_eq_getElem hk2, hj2])⟩
  intro j v hv
  obtain ⟨i, hi, b, h1, h2⟩ := hroot j j (Nat.le_refl _) (zsw hv)
  exact hsub i hi j b h1 h2 v hv
def ownC : List Cod → Nat → List Int → List Int
 | [], _, st => st
 | f :: l, i, st => ownC l (i + 1) (st.set f.body.toNat i)
structure BodP (c : Cor) : Prop where
 body : ∀ i (h : i < c.codes.length), ∃ b : Nat, (c.codes[i]).body = b ∧ b < c.exprs.length
 kids : ∀ i (h : i < c.exprs.length), ∀ k ∈ (c.exprs[i]).kids, (i : Int) < k ∧ k < c.exprs.length
theorem zyj {H J : zaa} {K : Kt} (hs : HSc H) (hK : K (.sl (ints []) .none) H) : Out H.length K .snil (H ++ J) := Out.one hs (.atom .snil) rfl rfl hK
end Go.Proofs.Ytkdmpbhbmmhijaa
namespace Go.Proofs.Ytkdmpbhbmmhijaa
open Go Go.Abs
set_option maxRecDepth 100000
def zdE : Nat → List Bool
 | 6 => rl false [2,1,2,3,69]
 | 9 => rl false [2,1,2,3,24,3,42]
 | 16 => rl false [5,2,49,3,18]
 | _ => []
noncomputable def zgP : Code := Try.f28.body.getD .skip
noncomputable def ztK : List ResultVar := Try.f28.results.toList
def zjm (t2 t5 t6 t7 : AV) : List AV := ux 2 (t2 :: ux 2 (t5 :: t6 :: t7 :: ux 69 []))
def ztJ : List Bool := zdE 6
noncomputable def zn6 : Code := zao [1, 1, 1, 1, 0, 1, 0, 0] zgP
def ztE (K : Kt) : AExit → List AV → zaa → Prop := zap tP zdE [1, 1, 1, 1, 0, 1, 0] zgP (zat tP ztK K)
def zn8 (t2 t5 t6 t7 : AV) (H : zaa) (K : Kt) : Prop := ALoop tP zn6 (ztE K) (zjm t2 t5 t6 t7) H
def zjn (t2 t5 t6 t7 t32 t33 t34 : AV) : List AV := ux 2 (t2 :: ux 2 (t5 :: t6 :: t7 :: ux 24 (t32 :: t33 :: t34 :: ux 42 [])))
def zDP : List Bool := zdE 9
noncomputable def zDJ : Code := zao [1, 0, 0, 1, 0, 0] zn6
def zDH (K : Kt) (Kb6 : Lt) : AExit → List AV → zaa → Prop := zap tP zdE [1, 0, 0, 1, 0] zn6 (zbK ztJ Kb6 (ztE K))
def ztI (t2 t5 t6 t7 t32 t33 t34 : AV) (H : zaa) (K : Kt) (Kb6 : Lt) : Prop := ALoop tP zDJ (zDH K Kb6) (zjn t2 t5 t6 t7 t32 t33 t34) H
def ztG (t2 t5 t6 t7 : AV) (H : zaa) (K : Kt) (Kb6 : Lt) : Prop :=
 zad .sub false t7 (.int .i64 1) fun t26 =>
 Kb6 (zjm t2 t5 t6 t26) H
def ztF (t2 t5 t6 t7 : AV) (H : zaa) (K : Kt) (Kb6 : Lt) : Prop :=
 ztG t2 t5 t6 t7 H K Kb6
def zjo (t2 t5 t6 t7 : AV) (H : zaa) (K : Kt) (Kb6 : Lt) : Prop :=
 ztF t2 t5 t6 t7 H K Kb6
def zjk (t2 t5 t6 t7 t32 t33 t34 : AV) (H : zaa) (K : Kt) (Kb6 : Lt) (Kb9 : Lt) : Prop :=
 zad .lss false t34 t33 fun t35 =>
 zag t35
 (zak 1 t32 t34 fun t37 =>
 zae false 1 t37 H fun t38 =>
 zad .eql false t38 t6 fun t41 =>
 zag t41
 (zaf 3 t2 fun t43 =>
 zae false 1 t43 H fun t44 =>
 zak 8 t44 t7 fun t46 =>
 zaf 3 t46 fun t47 =>
 zae false 1 t47 H fun t48 =>
 zak 1 t48 t34 fun t50 =>
 zae false 1 t50 H fun t51 =>
 ACalls tP zgx [t5, t51, (.bool true)] H fun t52 H =>
 zjo t2 t5 t7 t7 H K Kb6)
 (zad .add false t34 (.int .i64 1) fun t54 =>
 Kb9 (zjn t2 t5 t6 t7 t32 t33 t54) H))
 (zjo t2 t5 t6 t7 H K Kb6)
def zjl (t5 t6 t56 t57 t58 : AV) : List AV := ux 5 (t5 :: t6 :: ux 49 (t56 :: t57 :: t58 :: ux 18 []))
def zDO : List Bool := zdE 16
noncomputable def zDI : Code := zao [1, 1, 1, 1, 1, 0, 1, 0, 0] zgP
def zDG (K : Kt) : AExit → List AV → zaa → Prop := zap tP zdE [1, 1, 1, 1, 1, 0, 1, 0] zgP (zat tP ztK K)
def zn7 (t5 t6 t56 t57 t58 : AV) (H : zaa) (K : Kt) : Prop := ALoop tP zDI (zDG K) (zjl t5 t6 t56 t57 t58) H
def ztH (t5 t6 t56 t57 t58 : AV) (H : zaa) (K : Kt) (Kb16 : Lt) : Prop :=
 zad .add false t58 (.int .i64 1) fun t74 =>
 Kb16 (zjl t5 t6 t56 t57 t74) H
def zjp (t5 t6 t56 t57 t58 : AV) (H : zaa) (K : Kt) (Kb16 : Lt) : Prop :=
 ztH t5 t6 t56 t57 t58 H K Kb16
def zjj (t5 t6 t56 t57 t58 : AV) (H : zaa) (K : Kt) (Kb16 : Lt) : Prop :=
 zad .lss false t58 t57 fun t59 =>
 zag t59
 (zak 7 t56 t58 fun t60 =>
 zae true 7 t60 H fun t61 =>
 zaz [(.str []), .snil, .snil, (.int .i64 0), (.int .i64 0), .snil, (.int .i64 0)] H fun t11 H =>
 zar 7 t11 t61 H fun H =>
 zaf 6 t11 fun t62 =>
 zae false 1 t62 H fun t63 =>
 zad .eql false t63 t6 fun t65 =>
 zag t65
 (zaf 1 t11 fun t67 =>
 zae false 1 t67 H fun t68 =>
 ACalls tP zgx [t5, t68, (.bool true)] H fun t69 H =>
 zaf 2 t11 fun t71 =>
 zae false 1 t71 H fun t72 =>
 ACalls tP zgx [t5, t72, (.bool true)] H fun t73 H =>
 zjp t5 t6 t56 t57 t58 H K Kb16)
 (zjp t5 t6 t56 t57 t58 H K Kb16))
 (ACalls tP zmg [t5] H fun t76 H =>
 K t76 H)
def zn5 (t2 t5 t6 t7 : AV) (H : zaa) (K : Kt) (Kb6 : Lt) : Prop :=
 zad .geq false t7 (.int .i64 0) fun t24 =>
 zag t24
 (zaf 3 t2 fun t27 =>
 zae false 1 t27 H fun t28 =>
 zak 8 t28 t7 fun t30 =>
 zaf 4 t30 fun t31 =>
 zae false 1 t31 H fun t32 =>
 zaj 1 t32 fun t33 =>
 ztI t2 t5 t6 t7 t32 t33 (.int .i64 0) H K Kb6)
 (zaf 1 t2 fun t55 =>
 zae false 1 t55 H fun t56 =>
 zaj 1 t56 fun t57 =>
 zn7 t5 t6 t56 t57 (.int .i64 0) H K)
def ztD (t0 t1 : AV) (H : zaa) (K : Kt) : Prop :=
 zaF t0 H fun t2 H =>
 zae true 4 t2 H fun t12 =>
 ACalls tP zmh [t12, t1] H fun t14 H =>
 aUn .not t14 fun t15 =>
 zag t15
 (K .snil H)
 (zaf 2 t2 fun t16 =>
 zae false 1 t16 H fun t17 =>
 zaj 1 t17 fun t18 =>
 zbu 1 [(.bool false)] t18 t18 H fun t19 H =>
 zad .sub false t1 (.int .i64 1) fun t22 =>
 zn8 t2 t19 t1 t22 H K)
theorem zDN {t2 t5 t6 t7 t32 t33 t34 : AV} {H : zaa} {K : Kt} {Kb6 : Lt} (Inv : Nat → AV → AV → zaa → Prop) (n : Nat) (h0 : HSc H → Inv n t6 t34 H)
  (round : Rd2 (fun t6 => fun t34 => zjn t2 t5 t6 t7 t32 t33 t34) (fun t6 => fun t34 => fun H Kb9 => zjk t2 t5 t6 t7 t32 t33 t34 H K Kb6 Kb9) H Inv) : ztI t2 t5 t6 t7 t32 t33 t34 H K Kb6 :=
 lp2 (M := zdE) zDP t6 t34 (by kernel_rfl) Inv n h0 round
theorem zDL {t5 t6 t56 t57 t58 : AV} {H : zaa} {K : Kt} (Inv : Nat → AV → zaa → Prop) (n : Nat) (h0 : HSc H → Inv n t58 H)
  (round : Rd1 (fun t58 => zjl t5 t6 t56 t57 t58) (fun t58 => fun H Kb16 => zjj t5 t6 t56 t57 t58 H K Kb16) H Inv) : zn7 t5 t6 t56 t57 t58 H K :=
 lp1 (M := zdE) zDO t58 (by kernel_rfl) Inv n h0 round
theorem zDM {t2 t5 t6 t7 : AV} {H : zaa} {K : Kt} (Inv : Nat → AV → AV → zaa → Prop) (n : Nat) (h0 : HSc H → Inv n t6 t7 H)
  (round : Rd2 (fun t6 => fun t7 => zjm t2 t5 t6 t7) (fun t6 => fun t7 => fun H Kb6 => zn5 t2 t5 t6 t7 H K Kb6) H Inv) : zn8 t2 t5 t6 t7 H K :=
 lp2 (M := zdE) ztJ t6 t7 (by kernel_rfl) Inv n h0 round
theorem zDQ {t0 t1 : AV} {H : zaa} {K : Kt} (h : HSc H → ztD t0 t1 H K) : ACalls tP zgv [t0, t1] H K :=
 zaw (M := zdE) Try.func28 (c := zgP) (by kernel_rfl) (fun hs => Eq.mpr (by kernel_rfl) (h hs))
def zG5 (_ : Nat) : List Bool := []
noncomputable def zG6 : Code := Try.f61.body.getD .skip
def zkn (t0 t1 : AV) (H : zaa) (K : Kt) : Prop :=
 zaF t0 H fun t2 H =>
 zad .geq false t1 (.int .i64 0) fun t6 =>
 zab t6 true H (fun K' => K' t1 H) fun t8 H =>
 zab t6 true H (fun K' => zaf 3 t2 (K' · H)) fun t9 H =>
 zab t6 true H (fun K' => zae false 1 t9 H (K' · H)) fun t10 H =>
 zab t6 true H (fun K' => zaj 1 t10 (K' · H)) fun t11 H =>
 zab t6 true H (fun K' => zad .lss false t8 t11 (K' · H)) fun t12 H =>
 zah t6 t12 (.bool false) fun t13 =>
 zab t13 true H (fun K' => zae true 4 t2 H (K' · H)) fun t15 H =>
 zab t13 true H (fun K' => ACalls tP zfx [t15] H K') fun t16 H =>
 zah t13 t16 (.bool false) fun t17 =>
 K t17 H
theorem zG7 {t0 t1 : AV} {H : zaa} {K : Kt} (h : HSc H → zkn t0 t1 H K) : ACalls tP zmh [t0, t1] H K :=
 zaw (M := zG5) Try.func61 (c := zG6) (by kernel_rfl) (fun hs => Eq.mpr (by kernel_rfl) (h hs))
def zjq : Nat → List Bool
 | 2 => rl false [1,1,5,3,7]
 | _ => []
noncomputable def zoa : Code := Try.f29.body.getD .skip
noncomputable def zDW : List ResultVar := Try.f29.results.toList
def zjs (t1 t7 t8 t9 : AV) : List AV := ux 1 (t1 :: ux 5 (t7 :: t8 :: t9 :: ux 7 []))
def zDU : List Bool := zjq 2
noncomputable def zDS : Code := zao [1, 0, 1, 0, 0] zoa
def zDR (K : Kt) : AExit → List AV → zaa → Prop := zap tP zjq [1, 0, 1, 0] zoa (zat tP zDW K)
def ztM (t1 t7 t8 t9 : AV) (H : zaa) (K : Kt) : Prop := ALoop tP zDS (zDR K) (zjs t1 t7 t8 t9) H
def zjr (t1 t7 t8 t9 : AV) (H : zaa) (K : Kt) (Kb2 : Lt) : Prop :=
 zad .lss false t9 t8 fun t10 =>
 zag t10
 (zak 1 t7 t9 fun t11 =>
 zae false 1 t11 H fun t12 =>
 zad .eql false t12 t1 fun t15 =>
 zag t15
 (K (.bool true) H)
 (zad .add false t9 (.int .i64 1) fun t16 =>
 Kb2 (zjs t1 t7 t8 t16) H))
 (K (.bool false) H)
def ztL (t0 t1 : AV) (H : zaa) (K : Kt) : Prop :=
 zaj 1 t0 fun t8 =>
 ztM t1 t0 t8 (.int .i64 0) H K
theorem zDT {t1 t7 t8 t9 : AV} {H : zaa} {K : Kt} (Inv : Nat → AV → zaa → Prop) (n : Nat) (h0 : HSc H → Inv n t9 H)
  (round : Rd1 (fun t9 => zjs t1 t7 t8 t9) (fun t9 => fun H Kb2 => zjr t1 t7 t8 t9 H K Kb2) H Inv) : ztM t1 t7 t8 t9 H K :=
 lp1 (M := zjq) zDU t9 (by kernel_rfl) Inv n h0 round
theorem zDV {t0 t1 : AV} {H : zaa} {K : Kt} (h : HSc H → ztL t0 t1 H K) : ACalls tP zhP [t0, t1] H K :=
 zaw (M := zjq) Try.func29 (c := zoa) (by kernel_rfl) (fun hs => Eq.mpr (by kernel_rfl) (h hs))
def zdJ : Nat → List Bool
 | 6 => rl false [2,1,2,2,36,3,68]
 | 11 => rl false [2,1,2,3,1,2,32,3,7,3,58]
 | 20 => rl false [2,1,90,3,18]
 | _ => []
noncomputable def zg6 : Code := Try.f7.body.getD .skip
noncomputable def zu8 : List ResultVar := Try.f7.results.toList
def zkp (t2 t5 t6 t43 t44 t45 : AV) : List AV := ux 2 (t2 :: ux 2 (t5 :: t6 :: ux 36 (t43 :: t44 :: t45 :: ux 68 [])))
def zu7 : List Bool := zdJ 6
noncomputable def zo8 : Code := zao [1, 1, 1, 1, 0, 1, 0, 0] zg6
def zu3 (K : Kt) : AExit → List AV → zaa → Prop := zap tP zdJ [1, 1, 1, 1, 0, 1, 0] zg6 (zat tP zu8 K)
def zu6 (t2 t5 t6 t43 t44 t45 : AV) (H : zaa) (K : Kt) : Prop := ALoop tP zo8 (zu3 K) (zkp t2 t5 t6 t43 t44 t45) H
def zg7 (t2 t5 t6 t7 t9 t10 t43 t44 t45 t53 t54 t55 : AV) : List AV := ux 2 (t2 :: ux 2 (t5 :: t6 :: t7 :: ux 1 (t9 :: t10 :: ux 32 (t43 :: t44 :: t45 :: ux 7 (t53 :: t54 :: t55 :: ux 58 [])))))
def zHg : List Bool := zdJ 11
noncomputable def zHb : Code := zao [1, 1, 0, 0, 1, 1, 1, 0, 1, 0, 0] zo8
def zG9 (K : Kt) (Kb6 : Lt) : AExit → List AV → zaa → Prop := zap tP zdJ [1, 1, 0, 0, 1, 1, 1, 0, 1, 0] zo8 (zbK zu7 Kb6 (zu3 K))
def zu4 (t2 t5 t6 t7 t9 t10 t43 t44 t45 t53 t54 t55 : AV) (H : zaa) (K : Kt) (Kb6 : Lt) : Prop := ALoop tP zHb (zG9 K Kb6) (zg7 t2 t5 t6 t7 t9 t10 t43 t44 t45 t53 t54 t55) H
def zo9 (t2 t5 t6 t7 t9 t10 t43 t44 t45 t53 t54 t55 : AV) (H : zaa) (K : Kt) (Kb6 : Lt) (Kb11 : Lt) : Prop :=
 zad .add false t55 (.int .i64 1) fun t73 =>
 Kb11 (zg7 t2 t5 t6 t7 t9 t10 t43 t44 t45 t53 t54 t73) H
def zkq (t2 t5 t6 t7 t9 t10 t43 t44 t45 t53 t54 t55 : AV) (H : zaa) (K : Kt) (Kb6 : Lt) (Kb11 : Lt) : Prop :=
 zo9 t2 t5 t6 t7 t9 t10 t43 t44 t45 t53 t54 t55 H K Kb6 Kb11
def zo5 (t2 t5 t6 t7 t9 t10 t43 t44 t45 t53 t54 t55 : AV) (H : zaa) (K : Kt) (Kb6 : Lt) (Kb11 : Lt) : Prop :=
 zad .lss false t55 t54 fun t56 =>
 zag t56
 (zak 1 t53 t55 fun t57 =>
 zae false 1 t57 H fun t58 =>
 ACalls tP zhP [t5, t58] H fun t61 H =>
 zab t61 false H (fun K' => zaf 3 t6 (K' · H)) fun t63 H =>
 zab t61 false H (fun K' => zae false 1 t63 H (K' · H)) fun t64 H =>
 zab t61 false H (fun K' => K' t7 H) fun t65 H =>
 zab t61 false H (fun K' => zak 1 t64 t65 (K' · H)) fun t66 H =>
 zab t61 false H (fun K' => zae false 1 t66 H (K' · H)) fun t67 H =>
 zab t61 false H (fun K' => K' t58 H) fun t68 H =>
 zab t61 false H (fun K' => ACalls tP zhP [t67, t68] H K') fun t69 H =>
 zah t61 (.bool true) t69 fun t70 =>
 zag t70
 (zad .add false t10 (.int .i64 1) fun t72 =>
 zkq t2 t5 t6 t7 t9 t72 t43 t44 t45 t53 t54 t55 H K Kb6 Kb11)
 (zkq t2 t5 t6 t7 t9 t10 t43 t44 t45 t53 t54 t55 H K Kb6 Kb11))
 (zaj 1 t9 fun t76 =>
 zad .neq false t10 t76 fun t77 =>
 zab t77 false H (fun K' => K' t10 H) fun t79 H =>
 zab t77 false H (fun K' => K' t5 H) fun t80 H =>
 zab t77 false H (fun K' => zaj 1 t80 (K' · H)) fun t81 H =>
 zab t77 false H (fun K' => zaf 3 t6 (K' · H)) fun t82 H =>
 zab t77 false H (fun K' => zae false 1 t82 H (K' · H)) fun t83 H =>
 zab t77 false H (fun K' => K' t7 H) fun t84 H =>
 zab t77 false H (fun K' => zak 1 t83 t84 (K' · H)) fun t85 H =>
 zab t77 false H (fun K' => zae false 1 t85 H (K' · H)) fun t86 H =>
 zab t77 false H (fun K' => zaj 1 t86 (K' · H)) fun t87 H =>
 zab t77 false H (fun K' => zad .add false t81 t87 (K' · H)) fun t88 H =>
 zab t77 false H (fun K' => zad .neq false t79 t88 (K' · H)) fun t89 H =>
 zah t77 (.bool true) t89 fun t90 =>
 zag t90
 (K (.bool false) H)
 (zad .add false t45 (.int .i64 1) fun t91 =>
 Kb6 (zkp t2 t5 t6 t43 t44 t91) H))
def zko (t2 t93 t94 t95 : AV) : List AV := ux 2 (t2 :: ux 90 (t93 :: t94 :: t95 :: ux 18 []))
def zHh : List Bool := zdJ 20
noncomputable def zHc : Code := zao [1, 1, 1, 1, 1, 0, 1, 0, 0] zg6
def zHa (K : Kt) : AExit → List AV → zaa → Prop := zap tP zdJ [1, 1, 1, 1, 1, 0, 1, 0] zg6 (zat tP zu8 K)
def zu5 (t2 t93 t94 t95 : AV) (H : zaa) (K : Kt) : Prop := ALoop tP zHc (zHa K) (zko t2 t93 t94 t95) H
def zo6 (t2 t93 t94 t95 : AV) (H : zaa) (K : Kt) (Kb20 : Lt) : Prop :=
 zad .lss false t95 t94 fun t96 =>
 zag t96
 (zak 7 t93 t95 fun t97 =>
 zae true 7 t97 H fun t98 =>
 zaz [(.str []), .snil, .snil, (.int .i64 0), (.int .i64 0), .snil, (.int .i64 0)] H fun t14 H =>
 zar 7 t14 t98 H fun H =>
 zac H (fun K' => zai true 4 t2 H (K' · H)) fun t99 =>
 zac H (fun K' => zaf 6 t14 (K' · H)) fun t100 =>
 zac H (fun K' => zai false 1 t100 H (K' · H)) fun t101 =>
 zau H (fun H K' => ACalls tP zgv [t99, t101] H K') fun t102 =>
 zac H (fun K' => zaj 1 t102 (K' · H)) fun t103 =>
 zac H (fun K' => zaf 1 t14 (K' · H)) fun t104 =>
 zac H (fun K' => zai false 1 t104 H (K' · H)) fun t105 =>
 zac H (fun K' => zaj 1 t105 (K' · H)) fun t106 =>
 zac H (fun K' => zaf 2 t14 (K' · H)) fun t107 =>
 zac H (fun K' => zai false 1 t107 H (K' · H)) fun t108 =>
 zac H (fun K' => zaj 1 t108 (K' · H)) fun t109 =>
 zac H (fun K' => zad .add false t106 t109 (K' · H)) fun t110 =>
 zac H (fun K' => zad .neq false t103 t110 (K' · H)) fun t111 =>
 zag t111
 (K (.bool false) H)
 (zad .add false t95 (.int .i64 1) fun t112 =>
 Kb20 (zko t2 t93 t94 t112) H))
 (ACalls tP zl4 [] H fun t113 H =>
 K t113 H)
def zo7 (t2 t5 t6 t43 t44 t45 : AV) (H : zaa) (K : Kt) (Kb6 : Lt) : Prop :=
 zad .lss false t45 t44 fun t46 =>
 zag t46
 (zak 1 t43 t45 fun t48 =>
 zae false 1 t48 H fun t49 =>
 zae true 4 t2 H fun t50 =>
 ACalls tP zgv [t50, t49] H fun t52 H =>
 zaj 1 t52 fun t54 =>
 zu4 t2 t5 t6 t45 t52 (.int .i64 0) t43 t44 t45 t52 t54 (.int .i64 0) H K Kb6)
 (zaf 1 t2 fun t92 =>
 zae false 1 t92 H fun t93 =>
 zaj 1 t93 fun t94 =>
 zu5 t2 t93 t94 (.int .i64 0) H K)
def zq5 (t0 t1 : AV) (H : zaa) (K : Kt) : Prop :=
 zaF t0 H fun t2 H =>
 zae true 4 t2 H fun t15 =>
 ACalls tP zlY [t15] H fun t16 H =>
 aUn .not t16 fun t17 =>
 zab t17 false H (fun K' => zae true 4 t2 H (K' · H)) fun t19 H =>
 zab t17 false H (fun K' => ACalls tP zhL [t19] H K') fun t20 H =>
 zab t17 false H (fun K' => aUn .not t20 (K' · H)) fun t21 H =>
 zah t17 (.bool true) t21 fun t22 =>
 zab t22 false H (fun K' => K' t1 H) fun t24 H =>
 zab t22 false H (fun K' => zad .lss false t24 (.int .i64 0) (K' · H)) fun t25 H =>
 zah t22 (.bool true) t25 fun t26 =>
 zab t26 false H (fun K' => K' t1 H) fun t28 H =>
 zab t26 false H (fun K' => zaf 3 t2 (K' · H)) fun t29 H =>
 zab t26 false H (fun K' => zae false 1 t29 H (K' · H)) fun t30 H =>
 zab t26 false H (fun K' => zaj 1 t30 (K' · H)) fun t31 H =>
 zab t26 false H (fun K' => zad .geq false t28 t31 (K' · H)) fun t32 H =>
 zah t26 (.bool true) t32 fun t33 =>
 zag t33
 (K (.bool true) H)
 (zae true 4 t2 H fun t34 =>
 ACalls tP zgv [t34, t1] H fun t36 H =>
 zaf 3 t2 fun t37 =>
 zae false 1 t37 H fun t38 =>
 zak 8 t38 t1 fun t40 =>
 zae true 8 t40 H fun t41 =>
 zaz [(.int .i64 0), (.int .i64 0), .snil, .snil, .snil, (.int .i64 0), (.int .i64 0), .snil] H fun t6 H =>
 zar 8 t6 t41 H fun H =>
 zaf 4 t6 fun t42 =>
 zae false 1 t42 H fun t43 =>
 zaj 1 t43 fun t44 =>
 zu6 t2 t36 t6 t43 t44 (.int .i64 0) H K)
theorem zHd {t2 t5 t6 t7 t9 t10 t43 t44 t45 t53 t54 t55 : AV} {H : zaa} {K : Kt} {Kb6 : Lt} (Inv : Nat → AV → AV → zaa → Prop) (n : Nat) (h0 : HSc H → Inv n t10 t55 H)
  (round : Rd2 (fun t10 => fun t55 => zg7 t2 t5 t6 t7 t9 t10 t43 t44 t45 t53 t54 t55) (fun t10 => fun t55 => fun H Kb11 => zo5 t2 t5 t6 t7 t9 t10 t43 t44 t45 t53 t54 t55 H K Kb6 Kb11) H Inv) : zu4 t2 t5 t6 t7 t9 t10 t43 t44 t45 t53 t54 t55 H K Kb6 :=
 lp2 (M := zdJ) zHg t10 t55 (by kernel_rfl) Inv n h0 round
theorem zHe {t2 t93 t94 t95 : AV} {H : zaa} {K : Kt} (Inv : Nat → AV → zaa → Prop) (n : Nat) (h0 : HSc H → Inv n t95 H)
  (round : Rd1 (fun t95 => zko t2 t93 t94 t95) (fun t95 => fun H Kb20 => zo6 t2 t93 t94 t95 H K Kb20) H Inv) : zu5 t2 t93 t94 t95 H K :=
 lp1 (M := zdJ) zHh t95 (by kernel_rfl) Inv n h0 round
theorem zHf {t2 t5 t6 t43 t44 t45 : AV} {H : zaa} {K : Kt} (Inv : Nat → AV → zaa → Prop) (n : Nat) (h0 : HSc H → Inv n t45 H)
  (round : Rd1 (fun t45 => zkp t2 t5 t6 t43 t44 t45) (fun t45 => fun H Kb6 => zo7 t2 t5 t6 t43 t44 t45 H K Kb6) H Inv) : zu6 t2 t5 t6 t43 t44 t45 H K :=
 lp1 (M := zdJ) zu7 t45 (by kernel_rfl) Inv n h0 round
theorem zHi {t0 t1 : AV} {H : zaa} {K : Kt} (h : HSc H → zq5 t0 t1 H K) : ACalls tP zrt [t0, t1] H K :=
 zaw (M := zdJ) Try.func7 (c := zg6) (by kernel_rfl) (fun hs => Eq.mpr (by kernel_rfl) (h hs))
end Go.Proofs.Ytkdmpbhbmmhijaa
namespace Go.Proofs.Ytkdmpbhbmmhijaa
open Go Go.Abs
set_option maxRecDepth 8000
open Classical in
noncomputable def chi (n : Nat) (P : Int → Prop) : List Bool := (List.range n).map fun (v : Nat) => decide (P (v : Int))
theorem zxj {n : Nat} {P : Int → Prop} {st : List Bool} (hl : st.length = n) (h : ∀ v : Nat, v < n → (st.getD v false = true ↔ P v)) : st = chi n P := by
 refine List.ext_getElem (by simp [chi, hl]) fun i h1 h2 => ?_
 have h3 := h i (by omega)
 rw [List.getD_eq_getElem?_getD, List.getElem?_eq_getElem h1] at h3
 simp only [chi, List.getElem_map, List.getElem_range, Option.getD_some] at h3 ⊢
 rw [Bool.eq_iff_iff, h3]
 simp
open Classical in
noncomputable def zdW (c : Cor) (P : Nat → Int → Prop) (e : Int) : List Int := if 0 ≤ e ∧ e < (c.exprs.length : Int) ∧ vOk c = true then mem (chi c.vars.length (P e.toNat)) else []
noncomputable def zbf (c : Cor) (e : Int) : List Int := zdW c (InS c) e
theorem zG8 (c : Cor) (hk : zaN c) (e : Int) (H : zaa) (K : Kt) (h1 : (0 ≤ e ∧ e < (c.exprs.length : Int) ∧ vOk c = true) → K (.bool true) H) (h2 : ¬ (0 ≤ e ∧ e < (c.exprs.length : Int) ∧ vOk c = true) → K (.bool false) H) : ACalls tP zmh [.agg c.cs, .int .i64 e] H K := by
 refine ACalls.out (zG7 fun hs => ?_)
 have hat : c.cs = [.sl (c.data.map Dat.cs) .none, .sl (c.codes.map Cod.cs) .none, .sl (VT.css c.vars) .none, .sl (c.exprs.map CEx.cs) .none] := rfl
 have hF : ¬ (0 ≤ e ∧ e < (c.exprs.length : Int) ∧ vOk c = true) → ∀ J, Out H.length K (.bool false) (H ++ J) := fun h J => Out.bool rfl (Nat.le_refl _) hs (h2 h)
 by_cases g1 : 0 ≤ e
 ·by_cases g2 : e < (c.exprs.length : Int)
  ·simp [zkn, hat, g1, g2]
   rw [← hat]
   refine zB5 c hk _ _ ?_
   cases hv : vOk c with
   | false => exact hF (by simp [hv]) _
   | true => exact Out.bool rfl (Nat.le_refl _) hs (h1 ⟨g1, g2, hv⟩)
  ·simp [zkn, hat, g1, g2]
   exact hF (by simp [g2]) _
 ·simp [zkn, hat, g1]
  exact hF (by simp [g1]) _
theorem zgF {st : List Bool} {l : List Int} (h : ∀ x ∈ l, 0 ≤ x ∧ x < (st.length : Int)) {v : Nat} : (zaC st l true).getD v false = true ↔ st.getD v false = true ∨ (v : Int) ∈ l := zze l st h v
theorem zre {c : Cor} (hk : zaN c) {i : Nat} (h : i < c.exprs.length) : KEx c.exprs[i] := hk.2.2.2.2.2 _ (List.getElem_mem h)
theorem zqB {c : Cor} (hk : zaN c) {i : Nat} (h : i < c.codes.length) : zlf c.codes[i] := hk.2.2.2.2.1 _ (List.getElem_mem h)
theorem zDK {c : Cor} (hk : zaN c) (hT : TreeC c) {H : zaa} (hs : HSc H) (e : Nat) (K : Kt) (hK : K (.sl (ints (mem (chi c.vars.length (InS c e)))) .none) H) {st : List Bool} {i : Nat} (hsl : st.length = c.vars.length) {at' : Nat} (hr : zcL c i at')
  (hI : ∀ v : Int, InS c e v ↔ (∃ n : Nat, v = n ∧ st.getD n false = true) ∨ InS c at' v) :
  zn7 (.ms (H.length + 1) 0 c.vars.length c.vars.length) (.int .i64 at') (.sl (c.codes.map Cod.cs) .none) (.int .i64 c.codes.length) (.int .i64 0) (H ++ [.cells c.cs, boB st]) (Out H.length K) := by
 have hsX : ∀ st, HSc (H ++ [.cells c.cs, boB st]) := fun st => hs.append (by simp [AB.sc, Cor.cs, boB, zdM])
 have hcn := hk.2.1
 have hvn := hk.2.2.2.1.1
 refine zDL (Inv := fun q t58 H' => ∃ (j : Nat) (st' : List Bool), j ≤ c.codes.length ∧ q = c.codes.length - j ∧ t58 = .int .i64 j ∧ st'.length = c.vars.length ∧ (∀ v : Nat, st'.getD v false = true ↔ st.getD v false = true ∨ ∃ i, i < j ∧ zcL c i at' ∧ Par c i v) ∧
  H' = H ++ [.cells c.cs, boB st']) c.codes.length ?_ ?_
 ·intro _; exact ⟨0, st, by omega, by omega, rfl, hsl, by simp, rfl⟩
 rintro q t58 H' ⟨j, st', hj, rfl, rfl, hsl', hst', rfl⟩ hsc hlen hsF Kb hKb
 by_cases hlt : j < c.codes.length
 ·obtain ⟨x, y, z, hvv, hx, hy, hz, hce⟩ := zeb hlt
  obtain ⟨_, kp, kc, _⟩ := zqB hk hlt
  have hpar : ∀ v : Int, Par c j v ↔ v ∈ (c.codes[j]).params ∨ v ∈ (c.codes[j]).capt := fun v => ⟨fun ⟨_, h⟩ => List.mem_append.1 h, fun h => ⟨hlt, List.mem_append.2 h⟩⟩
  have hroot : zcL c j at' ↔ (c.codes[j]).body = (at' : Int) := ⟨fun ⟨_, h⟩ => h, fun h => ⟨hlt, h⟩⟩
  have hrp : ∀ x ∈ (c.codes[j]).params, 0 ≤ x ∧ x < (c.vars.length : Int) := fun x hx => hT.pr ((hpar x).2 (.inl hx))
  have hrc : ∀ x ∈ (c.codes[j]).capt, 0 ≤ x ∧ x < (c.vars.length : Int) := fun x hx => hT.pr ((hpar x).2 (.inr hx))
  generalize hF : c.codes[j] = F at *
  have back : ∀ (st2 : List Bool) (J : zaa), st2.length = c.vars.length → (∀ v : Nat, st2.getD v false = true ↔ st'.getD v false = true ∨ (F.body = (at' : Int) ∧ ((v : Int) ∈ F.params ∨ (v : Int) ∈ F.capt))) →
    zjp (.ms (H.length + 1) 0 c.vars.length c.vars.length) (.int .i64 at') (.sl (c.codes.map Cod.cs) .none) (.int .i64 c.codes.length) (.int .i64 j) (H ++ [.cells c.cs, boB st2] ++ J) (Out H.length K) Kb := fun st2 J h1 h2 => by
   simp [zjp, ztH]
   rw [zaq (by omega) (by omega)]
   refine hKb _ _ ⟨c.codes.length - (j + 1), by omega, Back.at (J := J) (H2 := H ++ [.cells c.cs, boB st2]) (by simp) (by simp) (hsX _) ?_ ⟨_, rfl, j + 1, st2, by omega, rfl, by simp, h1, fun v => ?_, rfl⟩⟩
   ·simp [zjl, AV.sc, AV.scV, AV.scA, AV.scB]
   ·rw [h2, hst', or_assoc]
    refine or_congr Iff.rfl ⟨?_, ?_⟩
    ·rintro (⟨i, h3, h4⟩ | ⟨h3, h4⟩)
     ·exact ⟨i, by omega, h4⟩
     ·exact ⟨j, by omega, hroot.2 h3, (hpar _).2 h4⟩
    ·rintro ⟨i, h3, h4, h5⟩
     by_cases h6 : i < j
     ·exact .inl ⟨i, h6, h4, h5⟩
     ·obtain rfl : i = j := by omega
      exact .inr ⟨hroot.1 h4, (hpar _).1 h5⟩
  by_cases hb : F.body = (at' : Int)
  ·have hb' : (F.body == (at' : Int)) = true := by simpa using hb
   simp [zjj, hlt, hF, hce, hx, hy, hz, hb, hb']
   refine zmF (st := st') (n := c.vars.length) (by simp) hsl' (by omega) hrp _ ?_
   simp
   refine zmF (st := zaC st' F.params true) (n := c.vars.length) (by simp) (by simpa using hsl') (by omega) hrc _ ?_
   have := back (zaC (zaC st' F.params true) F.capt true) [.cells [.str F.name, .sl (ints F.params) .none, .sl (ints F.capt) .none, x, y, z, .int .i64 at']] (by simpa using hsl') (fun v => by
    rw [zgF (by simpa [hsl'] using hrc), zgF (by simpa [hsl'] using hrp)]
    simp [hb, or_assoc])
   simpa using this
  ·have hb' : (F.body == (at' : Int)) = false := by simpa using hb
   simp [zjj, hlt, hF, hce, hx, hy, hz, hb, hb']
   have := back st' [.cells [.str F.name, .sl (ints F.params) .none, .sl (ints F.capt) .none, x, y, z, .int .i64 F.body]] hsl' (fun v => by simp [hb])
   simpa using this
 ·obtain rfl : j = c.codes.length := by omega
  have he : st' = chi c.vars.length (InS c e) := zxj hsl' fun v hv => by
   rw [hst', hI, hT.root_InS hr]
   constructor
   ·rintro (h | ⟨i', _, h4, h5⟩)
    ·exact .inl ⟨v, rfl, h⟩
    ·obtain rfl := hT.bod hr h4
     exact .inr h5
   ·rintro (⟨n, h3, h4⟩ | h)
    ·obtain rfl : v = n := by omega
     exact .inl h4
    ·exact .inr ⟨i, hr.1, hr, h⟩
  subst he
  simp [zjj]
  refine zG4 (st := chi c.vars.length (InS c e)) (by simp) hsl' (by omega) _ ?_
  exact Out.one hs .rfl' rfl rfl hK
end Go.Proofs.Ytkdmpbhbmmhijaa
