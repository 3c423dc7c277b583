import Derived.Test.YtkdmpbhbmmhijaaKP2
import Derived.Test.YtkdmpbhbmmhijaaKNum
import Derived.Test.YtkdmpbhbmmhijaaProg
import Derived.KernelRfl
set_option linter.unusedSimpArgs false
set_option linter.unusedVariables false
namespace Go.Proofs.Ytkdmpbhbmmhijaa
open Go Go.Abs
set_option maxRecDepth 8000
def leB (s t : List Bool) : Prop := ∀ v : Nat, s.getD v false = true → t.getD v false = true
theorem zg6 (st : List Bool) (i v : Nat) (b : Bool) : (st.set i b).getD v false = if i = v ∧ v < st.length then b else st.getD v false := by
 rw [List.getD_eq_getElem?_getD, List.getElem?_set, List.getD_eq_getElem?_getD]
 by_cases h : i = v
 ·subst h
  by_cases h2 : i < st.length
  ·simp [h2]
  ·simp [h2]
 ·simp [h]
theorem znR (l : List Int) : ∀ st v, (zay st l false).getD v false = true → st.getD v false = true ∧ ∀ x ∈ l, x.toNat ≠ v := by
 induction l with
 | nil => intro st v h; exact ⟨h, by simp⟩
 | cons a l ih =>
  intro st v h
  rw [ziM] at h
  obtain ⟨h1, h2⟩ := ih _ _ h
  rw [zg6] at h1
  by_cases hh : a.toNat = v ∧ v < st.length
  ·rw [if_pos hh] at h1; cases h1
  ·rw [if_neg hh] at h1
   refine ⟨h1, fun x hx => ?_⟩
   rcases List.mem_cons.1 hx with rfl | hx
   ·intro e
    refine hh ⟨e, ?_⟩
    by_cases h3 : v < st.length
    ·exact h3
    ·rw [List.getD_eq_getElem?_getD, List.getElem?_eq_none (by omega)] at h1; simp at h1
   ·exact h2 x hx
theorem zf7 (l : List Int) : ∀ st v, (zay st l true).getD v false = true → st.getD v false = true ∨ ∃ x ∈ l, x.toNat = v := by
 induction l with
 | nil => intro st v h; exact .inl h
 | cons a l ih =>
  intro st v h
  rw [ziM] at h
  rcases ih _ _ h with h1 | ⟨x, hx, hv⟩
  ·rw [zg6] at h1
   by_cases hh : a.toNat = v ∧ v < st.length
   ·exact .inr ⟨a, by simp, hh.1⟩
   ·rw [if_neg hh] at h1; exact .inl h1
  ·exact .inr ⟨x, by simp [hx], hv⟩
theorem ztk {s st : List Bool} {l : List Int} (h : leB s (zay st l true)) : leB (zay s l false) st := by
 intro v hv
 obtain ⟨h1, h2⟩ := znR l _ _ hv
 rcases zf7 l _ _ (h v h1) with h3 | ⟨x, hx, e⟩
 ·exact h3
 ·exact absurd e (h2 x hx)
theorem zCa {c : Cor} {m : Nat} (ih : ∀ i st st', za0 c m i st = some st' → leB st' st) : ∀ (bs : List (List Int)) (ks : List Int) (st st' : List Bool), zbA c m bs ks st = some st' → leB st' st := by
 intro bs
 induction bs with
 | nil => intro ks st st' h; rw [zbA] at h; cases h; exact fun v h => h
 | cons b bs ihb =>
  intro ks st st' h
  cases ks with
  | nil => rw [zbA] at h; cases h; exact fun v h => h
  | cons k ks =>
   rw [zbA] at h
   cases hv : za0 c m k.toNat (zay st b true) with
   | none => rw [hv] at h; cases h
   | some s2 =>
    rw [hv] at h
    exact fun v h3 => ztk (ih _ _ _ hv) v (ihb _ _ _ h v h3)
theorem ztT (c : Cor) : ∀ (m i : Nat) (st st' : List Bool), za0 c m i st = some st' → leB st' st := by
 intro m
 induction m with
 | zero => intro i st st' h; rw [za0] at h; cases h
 | succ m ih =>
  intro i st st' h
  rw [za0] at h
  split at h
  ·cases h
  ·split at h
   ·exact zCa ih _ _ _ _ h
   ·cases h
theorem zyl {n : Nat} {s : List Bool} (hl : s.length = n) (h : leB s (List.replicate n false)) : s = List.replicate n false := by
 apply List.ext_getElem
 ·simpa using hl
 ·intro i h1 h2
  cases hs : s[i] with
  | false => simp
  | true =>
   have h3 := h i (by simp [h1, hs])
   have h4 : (List.replicate n false).getD i false = false := by
    rw [List.getD_eq_getElem?_getD, List.getElem?_replicate]
    split <;> rfl
   rw [h4] at h3; cases h3
theorem znP (c : Cor) : ∀ fs : List Cod, zcv c fs (List.replicate c.vars.length false) = true ↔ ∀ f ∈ fs, ((za0 c c.exprs.length f.body.toNat (zcL c f)).isSome = true)
 | [] => by simp [zcv]
 | f :: fs => by
  rw [zcv]
  cases hv : za0 c c.exprs.length f.body.toNat (zay (zay (List.replicate c.vars.length false) f.params true) f.capt true) with
  | none => simp [zcL, hv]
  | some s =>
   have hle := ztT c _ _ _ _ hv
   have hln := zod c _ _ _ _ hv
   have h2 : leB (zay (zay s f.params false) f.capt false) (List.replicate c.vars.length false) := by
    intro v hv2
    obtain ⟨h3, h4⟩ := znR _ _ _ hv2
    obtain ⟨h5, h6⟩ := znR _ _ _ h3
    rcases zf7 _ _ _ (hle v h5) with h7 | ⟨x, hx, e⟩
    ·rcases zf7 _ _ _ h7 with h8 | ⟨x, hx, e⟩
     ·exact h8
     ·exact absurd e (h6 x hx)
    ·exact absurd e (h4 x hx)
   have h3 := zyl (by simp at hln ⊢; exact hln) h2
   simp only []
   rw [h3, znP c fs]
   simp [zcL, hv]
theorem ztV (c : Cor) (m i : Nat) (st : List Bool) : (zbz c m i st).1 = true ↔ (za0 c m i st).isSome = true := by
 rw [ztU]
 cases (zbz c m i st).1 <;> simp
theorem zzl : ∀ (n : Nat) (S : List Int), (∀ i : Nat, i < n → (i : Int) ∈ S) → n ≤ S.length := by
 intro n
 induction n with
 | zero => intro S _; omega
 | succ n ih =>
  intro S h
  have hm := h n (by omega)
  have := ih (S.erase n) (fun i hi => (List.mem_erase_of_ne (by omega)).2 (h i (by omega)))
  rw [List.length_erase_of_mem hm] at this
  have := List.length_pos_of_mem hm
  omega
theorem zhW {n : Nat} {S : List Int} (hr : ∀ x ∈ S, 0 ≤ x ∧ x < n) : (∀ v : Nat, v < n → S.count (v : Int) = 1) ↔ S.Nodup ∧ S.length = n := by
 constructor
 ·intro h
  have hm : ∀ v : Nat, v < n → (v : Int) ∈ S := fun v hv => List.count_pos_iff.1 (by rw [h v hv]; omega)
  have hnd : S.Nodup := by
   rw [List.nodup_iff_count]
   intro a
   by_cases ha : a ∈ S
   ·obtain ⟨v, rfl⟩ : ∃ v : Nat, a = v := ⟨a.toNat, by have := hr a ha; omega⟩
    rw [h v (by have := hr _ ha; omega)]; omega
   ·rw [List.count_eq_zero_of_not_mem ha]; omega
  exact ⟨hnd, Nat.le_antisymm (ziz n S hnd hr) (zzl n S hm)⟩
 ·rintro ⟨h1, h2⟩ v hv
  have hm := zsM h1 hr h2 v hv
  have := List.nodup_iff_count.1 h1 (v : Int)
  have := List.count_pos_iff.2 hm
  omega
theorem ztP (c : Cor) : ∀ i, i ≤ c.exprs.length → (∀ j (h : j < c.exprs.length), (c.exprs[j]).op = 11 → 0 ≤ (c.exprs[j]).num ∧ (c.exprs[j]).num < c.codes.length) → zb2 c i = cnt c.codes.length (zb3 (c.exprs.take i)) := by
 intro i
 induction i with
 | zero => intro _ _; simp [zb2, zb3, zmu]
 | succ i ih =>
  intro hi hr
  have hlt : i < c.exprs.length := by omega
  rw [zoa hlt, ih (by omega) hr, zsu hlt]
  by_cases h11 : (c.exprs[i]).op = 11
  ·obtain ⟨h1, h2⟩ := hr i hlt h11
   obtain ⟨n, hn⟩ : ∃ n : Nat, (c.exprs[i]).num = n := ⟨(c.exprs[i]).num.toNat, by omega⟩
   have hnl : n < c.codes.length := by omega
   rw [zcw, if_pos h11, if_pos h11, hn, Int.toNat_natCast, ← zmv _ hnl]
   congr 1
   rw [List.getD_eq_getElem?_getD, List.getElem?_eq_getElem (by simpa using hnl), Option.getD_some, zd5]
  ·rw [zcw, if_neg h11, if_neg h11, List.append_nil]
theorem zrP {n i : Nat} (S : List Int) (h : i < n) : (cnt n S).getD i 0 = ((S.count (i : Int) : Nat) : Int) := by
 rw [List.getD_eq_getElem?_getD, List.getElem?_eq_getElem (by simpa using h), Option.getD_some, zd5]
theorem lams_mem {l : List CEx} {n : Int} : n ∈ zb3 l ↔ ∃ e ∈ l, e.op = 11 ∧ e.num = n := by
 simp [zb3, and_assoc]
theorem znw {c : Cor} {e : CEx} (h11 : e.op = 11) (h : progRule c e = true) : ∃ n : Nat, e.num = n ∧ ∃ h : n < c.codes.length, (c.codes[n]).name = [] := by
 rw [progRule, if_pos (.inr (.inl h11)), numR] at h
 split at h
 ·cases h
 ·rename_i hn
  rw [if_neg (by omega), if_neg (by omega)] at h
  obtain ⟨n, hn'⟩ : ∃ n : Nat, e.num = n := ⟨e.num.toNat, by omega⟩
  refine ⟨n, hn', ?_⟩
  rw [hn', Int.toNat_natCast] at h
  by_cases hl : n < c.codes.length
  ·rw [List.getElem?_eq_getElem hl] at h
   simp only [] at h
   rw [if_neg (by omega)] at h
   simp only [Bool.and_eq_true, beq_iff_eq] at h
   exact ⟨hl, h.1.1⟩
  ·rw [List.getElem?_eq_none (by omega)] at h; cases h
theorem zzy {c : Cor} {e : CEx} (hx : ExIn c e) (h : progRule c e = true) : ∀ k ∈ e.kids, ety c k = e.ty ∨ zax c.data 0 (ety c k) = true := by
 intro k hk
 have hne : e.kids ≠ [] := by intro h; rw [h] at hk; cases hk
 have hkl : e.kids.length ≠ 0 := fun h => hne (List.eq_nil_of_length_eq_zero h)
 have hs : ∀ v, zaC e v 0 = false := fun v => by simp [zaC, hne]
 rw [progRule] at h
 split at h
 ·rw [numR, if_pos (.inl hkl)] at h; cases h
 ·simp only [hs, Bool.false_and] at h
  split at h
  ·cases h
  ·split at h
   ·cases h
   ·split at h
    ·cases h
    ·rw [restR] at h
     simp only [hs, Bool.false_and] at h
     split at h
     ·cases h
     ·split at h
      ·cases h
      ·split at h
       ·simp [zaC, hne] at h
       ·split at h
        ·cases h
        ·split at h
         ·cases h
         ·split at h
          ·simp [zaC, hne] at h
          ·split at h
           ·rw [parR] at h
            split at h
            ·simp only [Bool.and_eq_true, zbq, zbv] at h
             obtain ⟨h1, h2, h3, h4⟩ := h
             cases hks : e.kids with
             | nil => exact absurd hks hne
             | cons k0 l =>
              rw [hks] at hk h3 h4
              rcases List.mem_cons.1 hk with rfl | hk
              ·right
               have hb1 : inV c (e.binds.getD 1 []) := by
                rw [List.getD_eq_getElem?_getD]
                by_cases hb : 1 < e.binds.length
                ·rw [List.getElem?_eq_getElem hb]; exact hx.binds _ (List.getElem_mem hb)
                ·rw [List.getElem?_eq_none (by omega)]; intro x hx; cases hx
               have : ety c k ∈ zam c (e.binds.getD 1 []) := by rw [h3]; simp
               obtain ⟨v, hv, hv2⟩ := List.mem_map.1 this
               rw [← hv2]
               have := hb1 v hv
               obtain ⟨n, rfl⟩ : ∃ n : Nat, v = n := ⟨v.toNat, by omega⟩
               rw [zfq (by omega)]
               exact hx.vtys _ (List.getElem_mem _)
              ·exact .inl (h4 k (by simpa using hk))
            ·left
             split at h
             ·simp only [Bool.and_eq_true, zbq] at h; exact h.2.2.2 k hk
             ·split at h
              ·simp only [Bool.and_eq_true, zbq] at h; exact h.2.2.2 k hk
              ·split at h
               ·simp only [Bool.and_eq_true, zbq] at h; exact h.2.2.2 k hk
               ·simp only [Bool.and_eq_true, zbq] at h; exact h.2.2.2.2 k hk
           ·rw [stR] at h
            simp only [hs, Bool.false_and] at h
            split at h <;> cases h
theorem zAg {c : Cor} (hk : zaK c) (h : ProgV c) (hex : ∀ i (h : i < c.exprs.length), ExIn c c.exprs[i]) : ∀ i (hi : i < c.exprs.length), zax c.data 0 (c.exprs[i]).ty = true := by
 intro i
 induction i using Nat.strongRecOn with
 | _ i ih =>
  intro hi
  rcases ztF h.codes h.tree i hi with ⟨f, hf, hb⟩ | ⟨j, hj, hji, hm⟩
  ·obtain ⟨k, hk, rfl⟩ := List.getElem_of_mem hf
   obtain ⟨_, _, _, hres, b, h1, h2, h3⟩ := h.codes k hk
   obtain rfl : b = i := by omega
   rw [za7] at h3
   rw [h3]; exact hres
  ·have := zzy (hex j hj) (h.exprs.rule j hj) _ hm
   rw [zmE hi] at this
   rcases this with h1 | h1
   ·rw [h1]; exact ih j hji hj
   ·exact h1
theorem zsI (l : List Cod) : (nms l).Nodup ↔ ∀ i j (hi : i < l.length) (hj : j < l.length), i < j → (l[j]).name ≠ [] → (l[i]).name ≠ (l[j]).name := by
 rw [nms, List.Nodup, List.pairwise_filter, List.pairwise_map, List.pairwise_iff_getElem]
 constructor
 ·intro h i j hi hj hij hn e
  have hn' : (!(l[j]).name.isEmpty) = true := by simpa using hn
  exact h i j hi hj hij (by rw [e]; exact hn') hn' e
 ·intro h i j hi hj hij h1 h2 e
  exact h i j hi hj hij (by simpa using h2) e
theorem ztQ (c : Cor) (hk : zaK c) : ProgV c ↔ RefV c := by
 have hk' := hk
 obtain ⟨k1, k2, k3, ⟨k4, k5⟩, k6, k7⟩ := hk'
 have hvar : zep c = true ↔ ∀ v ∈ c.vars, zax c.data 0 v = true := by
  have : c.vars.length ≤ 3000 := by omega
  simp [zep, this]
 constructor
 ·intro h
  have hex := zmF hk h.vars h.codes h.tree h.bind (fun i hi => ztS (ztR h.codes h.tree h.scopes i hi) hi)
  have hty := zAg hk h hex
  have hlr : ∀ j (hj : j < c.exprs.length), (c.exprs[j]).op = 11 → 0 ≤ (c.exprs[j]).num ∧ (c.exprs[j]).num < c.codes.length := fun j hj h11 => by
   obtain ⟨n, hn, hl, _⟩ := znw h11 (h.exprs.rule j hj)
   omega
  have huse : zb2 c c.exprs.length = cnt c.codes.length (zb3 c.exprs) := by
   have := ztP c c.exprs.length (Nat.le_refl _) hlr
   rwa [List.take_length] at this
  refine ⟨(zrZ _).1 h.data, hvar.1 h.vars, fun i hi => ?_, ?_, fun i hi => ?_, (zhW h.bind.range).2 ⟨h.bind.nodup, h.bind.len⟩, (zhW (ztG h.codes h.tree)).2 ⟨h.tree.nodup, h.tree.len⟩, fun i hi => ?_, fun i hi => ?_, fun i hi => ?_⟩
  ·obtain ⟨_, q1, q2, q3, q4⟩ := h.codes i hi
   obtain ⟨r1, r2⟩ := zmk h.bind _ (List.getElem_mem hi)
   refine ⟨fun hn hi1 => ?_, fun hn => (q1 hn).2.2, q2, q3, r1, r2, q4⟩
   obtain ⟨_, p1, _⟩ := h.codes (i + 1) hi1
   by_cases hh : (c.codes[i + 1]).name = []
   ·exact hh
   ·exact absurd hn ((p1 hh).1 i (by omega))
  ·rw [zsI]
   intro i j hi hj hij hn
   obtain ⟨_, p1, _⟩ := h.codes j hj
   exact (p1 hn).2.1 i hij
  ·have hx := hex i hi
   exact ⟨fun k hk => (h.tree.kids i hi k hk).1, hx.kids, hx.bk, hx.binds, hx.vars, fun h11 => hlr i hi h11⟩
  ·by_cases hn : (c.codes[i]).name = []
   ·rw [if_pos hn]
    have := h.exprs.uses i hi hn
    rw [huse, zrP _ hi] at this
    omega
   ·rw [if_neg hn]
    refine List.count_eq_zero_of_not_mem fun hm => ?_
    obtain ⟨e, he, h11, hnum⟩ := lams_mem.1 hm
    obtain ⟨j, hj, rfl⟩ := List.getElem_of_mem he
    obtain ⟨n, hn1, hl, hn2⟩ := znw h11 (h.exprs.rule j hj)
    obtain rfl : n = i := by omega
    exact hn hn2
  ·rw [zdq, hty i hi, Bool.true_and]
   exact (ztc (hex i hi) (hty i hi) (fun h11 => znw h11 (h.exprs.rule i hi))).1 (h.exprs.rule i hi)
  ·rw [ztV]
   exact (znP c c.codes).1 h.scopes _ (List.getElem_mem hi)
 ·intro h
  have hempty : ∀ i j (hj : j < c.codes.length) (hij : i ≤ j), (c.codes[i]).name = [] → (c.codes[j]).name = [] := by
   intro i j hj hij hn
   induction j with
   | zero => obtain rfl : i = 0 := by omega
             exact hn
   | succ j ih =>
    by_cases e : i = j + 1
    ·subst e; exact hn
    ·have := ih (by omega) (by omega) hn
     exact (h.codes j (by omega)).order this hj
  have hcod : zdh c := fun i hi => by
   obtain ⟨q1, q2, q3, q4, q5, q6, q7⟩ := h.codes i hi
   refine ⟨hi, fun hn => ⟨fun j hj hn2 => hn (hempty j i hi (by omega) hn2), fun j hj => (zsI c.codes).1 h.names j i (by omega) hi hj hn, q2 hn⟩, q3, q4, q7⟩
  have htr : ∀ x ∈ zbH c, 0 ≤ x ∧ x < (c.exprs.length : Int) := by
   intro x hx
   rw [zbH] at hx
   rcases List.mem_append.1 hx with h1 | h1
   ·obtain ⟨f, hf, rfl⟩ := List.mem_map.1 h1
    obtain ⟨i, hi, rfl⟩ := List.getElem_of_mem hf
    obtain ⟨b, hb, hbl, _⟩ := (h.codes i hi).body
    omega
   ·obtain ⟨e, he, hx⟩ := List.mem_flatMap.1 h1
    obtain ⟨i, hi, rfl⟩ := List.getElem_of_mem he
    exact (h.exprs i hi).range x hx
  obtain ⟨ht1, ht2⟩ := (zhW htr).1 h.placed
  have htree : TreeP c := ⟨fun i hi => (h.exprs i hi).bk, fun i hi k hk => ⟨(h.exprs i hi).kids k hk, ((h.exprs i hi).range k hk).2⟩, ht1, ht2⟩
  have hbr : ∀ x ∈ zbP c, 0 ≤ x ∧ x < (c.vars.length : Int) := by
   intro x hx
   rw [zbP] at hx
   rcases List.mem_append.1 hx with h1 | h1
   ·obtain ⟨f, hf, hx⟩ := List.mem_flatMap.1 h1
    obtain ⟨i, hi, rfl⟩ := List.getElem_of_mem hf
    rcases List.mem_append.1 hx with h2 | h2
    ·exact (h.codes i hi).rp x h2
    ·exact (h.codes i hi).rc x h2
   ·obtain ⟨e, he, hx⟩ := List.mem_flatMap.1 h1
    obtain ⟨i, hi, rfl⟩ := List.getElem_of_mem he
    obtain ⟨l, hl, hx⟩ := List.mem_flatten.1 hx
    exact (h.exprs i hi).binds l hl x hx
  obtain ⟨hb1, hb2⟩ := (zhW hbr).1 h.bound
  have hbind : BindP c := ⟨hbr, hb1, hb2⟩
  have hex := zmF hk (hvar.2 h.vars) hcod htree hbind (fun i hi => (h.exprs i hi).vars)
  have hty : ∀ i (hi : i < c.exprs.length), zax c.data 0 (c.exprs[i]).ty = true ∧ RR c c.exprs[i] = true := fun i hi => by
   have := h.rules i hi
   rw [zdq, Bool.and_eq_true] at this
   exact this
  have huse : zb2 c c.exprs.length = cnt c.codes.length (zb3 c.exprs) := by
   have := ztP c c.exprs.length (Nat.le_refl _) (fun j hj h11 => (h.exprs j hj).lam h11)
   rwa [List.take_length] at this
  refine ⟨(zrZ _).2 h.data, hvar.2 h.vars, hcod, htree, hbind, (znP c c.codes).2 fun f hf => ?_, fun i hi => ?_, fun i hi hn => ?_⟩
  ·obtain ⟨i, hi, rfl⟩ := List.getElem_of_mem hf
   rw [← ztV]; exact h.scopes i hi
  ·refine (ztc (hex i hi) (hty i hi).1 (fun h11 => ?_)).2 (hty i hi).2
   obtain ⟨l1, l2⟩ := (h.exprs i hi).lam h11
   refine ⟨(c.exprs[i]).num.toNat, by omega, by omega, ?_⟩
   have hm := h.made (c.exprs[i]).num.toNat (by omega)
   by_cases hn : (c.codes[(c.exprs[i]).num.toNat]'(by omega)).name = []
   ·exact hn
   ·rw [if_neg hn] at hm
    have hmem : (((c.exprs[i]).num.toNat : Nat) : Int) ∈ zb3 c.exprs := lams_mem.2 ⟨_, List.getElem_mem hi, h11, by omega⟩
    have := List.count_pos_iff.2 hmem
    omega
  ·rw [huse, zrP _ hi, h.made i hi, if_pos hn]; rfl
end Go.Proofs.Ytkdmpbhbmmhijaa
namespace Go.Proofs.Ytkdmpbhbmmhijaa
open Go Go.Abs
set_option maxRecDepth 100000
noncomputable def zuV : Code := Try.f20.body.getD .skip
noncomputable def zFt : List ResultVar := Try.f20.results.toList
end Go.Proofs.Ytkdmpbhbmmhijaa
namespace Go.Proofs.Ytkdmpbhbmmhijaa
open Go Go.Abs
set_option maxRecDepth 8000
def zmw : List AV := [.str [102], .sl [] .none, .sl [] .none, .int .i64 1, .int .i64 0, .sl [] .none, .int .i64 0]
def zd8 (n : Int) : List AV := [.int .i64 3, .int .i64 n, .sl [] .none, .sl [] .none, .sl [] .none, .int .i64 1, .int .i64 0, .sl [] .none]
def c1 (n : Int) : Cor := ⟨[], [⟨[102], [], [], sm 1, 0⟩], [], [⟨3, n, [], [], [], sm 1⟩]⟩
theorem zrH {a b : Bool} (h : a = true ↔ b = true) : a = b := by cases a <;> cases b <;> simp_all
open Classical in
noncomputable def vOk (c : Cor) : Bool := decide (ProgV c)
theorem zhc (c : Cor) : vOk c = true ↔ ProgV c := by simp [vOk]
theorem zDW (c : Cor) (hc : zaK c) (H : zaa) (K : Kt) (hK : K (.bool (vOk c)) H) : ACalls tP zia [.agg c.cs] H K :=
 zDZ c hc H K fun b hb => by rw [zrH (hb.trans (zhc c).symm)]; exact hK
theorem zjB (c : Cor) (hc : zaK c) (H : zaa) (K : Kt) (hK : K (.bool (vOk c)) H) : ACalls tP zfe [.agg c.cs] H K :=
 zFs c hc H K fun b hb => by rw [zrH (hb.trans ((ztQ c hc).symm.trans (zhc c).symm))]; exact hK
end Go.Proofs.Ytkdmpbhbmmhijaa
namespace Go.Proofs.Ytkdmpbhbmmhijaa
open Go Go.Abs
set_option maxRecDepth 100000
def zjT : Nat → List Bool
 | 4 => rl false [0,2,10,2,12]
 | _ => []
noncomputable def zo4 : Code := Try.f21.body.getD .skip
noncomputable def zFz : List ResultVar := Try.f21.results.toList
def zjV (t0 t1 t12 t13 : AV) : List AV := t0 :: t1 :: ux 10 (t12 :: t13 :: ux 12 [])
def zFx : List Bool := zjT 4
noncomputable def zFv : Code := zao [1, 1, 0, 1, 0, 0] zo4
def zFu (K : Kt) : AExit → List AV → zaa → Prop := zap tP zjT [1, 1, 0, 1, 0] zo4 (zas tP zFz K)
def zuW (t0 t1 t12 t13 : AV) (H : zaa) (K : Kt) : Prop := ALoop tP zFv (zFu K) (zjV t0 t1 t12 t13) H
def zjU (t0 t1 t12 t13 : AV) (H : zaa) (K : Kt) (Kb4 : Lt) : Prop :=
 zad .lss false t13 t12 fun t14 =>
 zag t14
 (zac H (fun K' => K' t0 H) fun t16 =>
 zac H (fun K' => K' t13 H) fun t17 =>
 zac H (fun K' => zaj 1 t16 t17 (K' · H)) fun t18 =>
 zac H (fun K' => zai false 1 t18 H (K' · H)) fun t19 =>
 zac H (fun K' => K' t1 H) fun t20 =>
 zac H (fun K' => K' t13 H) fun t21 =>
 zac H (fun K' => zaj 1 t20 t21 (K' · H)) fun t22 =>
 zac H (fun K' => zai false 1 t22 H (K' · H)) fun t23 =>
 zac H (fun K' => zad .neq false t19 t23 (K' · H)) fun t24 =>
 zag t24
 (K (.bool false) H)
 (zad .add false t13 (.int .i64 1) fun t25 =>
 Kb4 (zjV t0 t1 t12 t25) H))
 (K (.bool true) H)
def zo3 (t0 t1 : AV) (H : zaa) (K : Kt) : Prop :=
 zak 1 t0 fun t7 =>
 zak 1 t1 fun t9 =>
 zad .neq false t7 t9 fun t10 =>
 zag t10
 (K (.bool false) H)
 (zak 1 t0 fun t12 =>
 zuW t0 t1 t12 (.int .i64 0) H K)
theorem zFw {t0 t1 t12 t13 : AV} {H : zaa} {K : Kt} (Inv : Nat → AV → zaa → Prop) (n : Nat) (h0 : HSc H → Inv n t13 H)
  (round : Rd1 (fun t13 => zjV t0 t1 t12 t13) (fun t13 => fun H Kb4 => zjU t0 t1 t12 t13 H K Kb4) H Inv) : zuW t0 t1 t12 t13 H K :=
 lp1 (M := zjT) zFx t13 (by kernel_rfl) Inv n h0 round
theorem zFy {t0 t1 : AV} {H : zaa} {K : Kt} (h : HSc H → zo3 t0 t1 H K) : ACalls tP zih [t0, t1] H K :=
 zav (M := zjT) Try.func21 (c := zo4) (by kernel_rfl) (fun hs => Eq.mpr (by kernel_rfl) (h hs))
def zdT : Nat → List Bool
 | 5 => rl false [1,1,1,1,14,3,38]
 | 10 => rl false [3,1,28,3,24]
 | 13 => rl false [3,1,2,1,25,3,5,3,16]
 | _ => []
noncomputable def zhg : Code := Try.f23.body.getD .skip
noncomputable def zu2 : List ResultVar := Try.f23.results.toList
def zjY (t1 t3 t18 t19 t20 : AV) : List AV := ux 1 (t1 :: ux 1 (t3 :: ux 14 (t18 :: t19 :: t20 :: ux 38 [])))
def zFK : List Bool := zdT 5
noncomputable def zFF : Code := zao [1, 1, 1, 0, 1, 0, 0] zhg
def zFD (K : Kt) : AExit → List AV → zaa → Prop := zap tP zdT [1, 1, 1, 0, 1, 0] zhg (zas tP zu2 K)
def zpb (t1 t3 t18 t19 t20 : AV) (H : zaa) (K : Kt) : Prop := ALoop tP zFF (zFD K) (zjY t1 t3 t18 t19 t20) H
def zjW (t3 t32 t33 t34 : AV) : List AV := ux 3 (t3 :: ux 28 (t32 :: t33 :: t34 :: ux 24 []))
def zu1 : List Bool := zdT 10
noncomputable def zo8 : Code := zao [1, 1, 1, 1, 0, 1, 0, 0] zhg
def zuY (K : Kt) : AExit → List AV → zaa → Prop := zap tP zdT [1, 1, 1, 1, 0, 1, 0] zhg (zas tP zu2 K)
def zpa (t3 t32 t33 t34 : AV) (H : zaa) (K : Kt) : Prop := ALoop tP zo8 (zuY K) (zjW t3 t32 t33 t34) H
def zjX (t3 t6 t32 t33 t34 t40 t41 t42 : AV) : List AV := ux 3 (t3 :: ux 2 (t6 :: ux 25 (t32 :: t33 :: t34 :: ux 5 (t40 :: t41 :: t42 :: ux 16 []))))
def zFJ : List Bool := zdT 13
noncomputable def zFE : Code := zao [1, 1, 0, 0, 1, 1, 0, 0] zo8
def zFC (K : Kt) (Kb10 : Lt) : AExit → List AV → zaa → Prop := zap tP zdT [1, 1, 0, 0, 1, 1, 0] zo8 (zbx zu1 Kb10 (zuY K))
def zu0 (t3 t6 t32 t33 t34 t40 t41 t42 : AV) (H : zaa) (K : Kt) (Kb10 : Lt) : Prop := ALoop tP zFE (zFC K Kb10) (zjX t3 t6 t32 t33 t34 t40 t41 t42) H
def zuZ (t3 t6 t32 t33 t34 t40 t41 t42 : AV) (H : zaa) (K : Kt) (Kb10 : Lt) (Kb13 : Lt) : Prop :=
 zad .add false t42 (.int .i64 1) fun t56 =>
 Kb13 (zjX t3 t6 t32 t33 t34 t40 t41 t56) H
def zo9 (t3 t6 t32 t33 t34 t40 t41 t42 : AV) (H : zaa) (K : Kt) (Kb10 : Lt) (Kb13 : Lt) : Prop :=
 zuZ t3 t6 t32 t33 t34 t40 t41 t42 H K Kb10 Kb13
def zo6 (t3 t6 t32 t33 t34 t40 t41 t42 : AV) (H : zaa) (K : Kt) (Kb10 : Lt) (Kb13 : Lt) : Prop :=
 zad .lss false t42 t41 fun t43 =>
 zag t43
 (zaj 1 t40 t42 fun t44 =>
 zae false 1 t44 H fun t45 =>
 zad .gtr false t45 t6 fun t48 =>
 zag t48
 (zaj 1 t3 t6 fun t53 =>
 zae false 1 t53 H fun t54 =>
 zaj 1 t3 t45 fun t55 =>
 zar 1 t55 t54 H fun H =>
 zo9 t3 t6 t32 t33 t34 t40 t41 t42 H K Kb10 Kb13)
 (zo9 t3 t6 t32 t33 t34 t40 t41 t42 H K Kb10 Kb13))
 (zad .add false t34 (.int .i64 1) fun t57 =>
 Kb10 (zjW t3 t32 t33 t57) H)
def zo5 (t3 t32 t33 t34 : AV) (H : zaa) (K : Kt) (Kb10 : Lt) : Prop :=
 zad .lss false t34 t33 fun t35 =>
 zag t35
 (zaj 8 t32 t34 fun t37 =>
 zae true 8 t37 H fun t38 =>
 zaA [(.int .i64 0), (.int .i64 0), .snil, .snil, .snil, (.int .i64 0), (.int .i64 0), .snil] H fun t7 H =>
 zar 8 t7 t38 H fun H =>
 zaf 4 t7 fun t39 =>
 zae false 1 t39 H fun t40 =>
 zak 1 t40 fun t41 =>
 zu0 t3 t34 t32 t33 t34 t40 t41 (.int .i64 0) H K Kb10)
 (K t3 H)
def zo7 (t1 t3 t18 t19 t20 : AV) (H : zaa) (K : Kt) (Kb5 : Lt) : Prop :=
 zad .lss false t20 t19 fun t21 =>
 zag t21
 (zaj 7 t18 t20 fun t23 =>
 zae true 7 t23 H fun t24 =>
 zaA [(.str []), .snil, .snil, (.int .i64 0), (.int .i64 0), .snil, (.int .i64 0)] H fun t5 H =>
 zar 7 t5 t24 H fun H =>
 zaf 6 t5 fun t26 =>
 zae false 1 t26 H fun t27 =>
 zaj 1 t3 t27 fun t29 =>
 zar 1 t29 t20 H fun H =>
 zad .add false t20 (.int .i64 1) fun t30 =>
 Kb5 (zjY t1 t3 t18 t19 t30) H)
 (zaf 3 t1 fun t31 =>
 zae false 1 t31 H fun t32 =>
 zak 1 t32 fun t33 =>
 zpa t3 t32 t33 (.int .i64 0) H K)
def zuX (t0 : AV) (H : zaa) (K : Kt) : Prop :=
 zaD t0 H fun t1 H =>
 zae true 4 t1 H fun t10 =>
 ACalls tP zfe [t10] H fun t11 H =>
 aUn .not t11 fun t12 =>
 zag t12
 (K .snil H)
 (zaf 3 t1 fun t13 =>
 zae false 1 t13 H fun t14 =>
 zak 1 t14 fun t15 =>
 zaY 8 [(.int .i64 0)] t15 t15 H fun t16 H =>
 zaf 1 t1 fun t17 =>
 zae false 1 t17 H fun t18 =>
 zak 1 t18 fun t19 =>
 zpb t1 t16 t18 t19 (.int .i64 0) H K)
theorem zFH {t3 t6 t32 t33 t34 t40 t41 t42 : AV} {H : zaa} {K : Kt} {Kb10 : Lt} (Inv : Nat → AV → zaa → Prop) (n : Nat) (h0 : HSc H → Inv n t42 H)
  (round : Rd1 (fun t42 => zjX t3 t6 t32 t33 t34 t40 t41 t42) (fun t42 => fun H Kb13 => zo6 t3 t6 t32 t33 t34 t40 t41 t42 H K Kb10 Kb13) H Inv) : zu0 t3 t6 t32 t33 t34 t40 t41 t42 H K Kb10 :=
 lp1 (M := zdT) zFJ t42 (by kernel_rfl) Inv n h0 round
theorem zFG {t3 t32 t33 t34 : AV} {H : zaa} {K : Kt} (Inv : Nat → AV → zaa → Prop) (n : Nat) (h0 : HSc H → Inv n t34 H)
  (round : Rd1 (fun t34 => zjW t3 t32 t33 t34) (fun t34 => fun H Kb10 => zo5 t3 t32 t33 t34 H K Kb10) H Inv) : zpa t3 t32 t33 t34 H K :=
 lp1 (M := zdT) zu1 t34 (by kernel_rfl) Inv n h0 round
theorem zFI {t1 t3 t18 t19 t20 : AV} {H : zaa} {K : Kt} (Inv : Nat → AV → zaa → Prop) (n : Nat) (h0 : HSc H → Inv n t20 H)
  (round : Rd1 (fun t20 => zjY t1 t3 t18 t19 t20) (fun t20 => fun H Kb5 => zo7 t1 t3 t18 t19 t20 H K Kb5) H Inv) : zpb t1 t3 t18 t19 t20 H K :=
 lp1 (M := zdT) zFK t20 (by kernel_rfl) Inv n h0 round
theorem zFL {t0 : AV} {H : zaa} {K : Kt} (h : HSc H → zuX t0 H K) : ACalls tP zm2 [t0] H K :=
 zav (M := zdT) Try.func23 (c := zhg) (by kernel_rfl) (fun hs => Eq.mpr (by kernel_rfl) (h hs))
def zdU : Nat → List Bool
 | 5 => rl false [1,1,1,1,13,2,28]
 | 10 => rl false [3,1,22,3,18]
 | 13 => rl false [3,1,1,1,20,3,5,3,10]
 | _ => []
noncomputable def zhh : Code := Try.f25.body.getD .skip
noncomputable def zu8 : List ResultVar := Try.f25.results.toList
def zj1 (t1 t3 t17 t18 : AV) : List AV := ux 1 (t1 :: ux 1 (t3 :: ux 13 (t17 :: t18 :: ux 28 [])))
def zFW : List Bool := zdU 5
noncomputable def zFR : Code := zao [1, 1, 1, 0, 1, 0, 0] zhh
def zFP (K : Kt) : AExit → List AV → zaa → Prop := zap tP zdU [1, 1, 1, 0, 1, 0] zhh (zas tP zu8 K)
def zu6 (t1 t3 t17 t18 : AV) (H : zaa) (K : Kt) : Prop := ALoop tP zFR (zFP K) (zj1 t1 t3 t17 t18) H
def zjZ (t3 t26 t27 t28 : AV) : List AV := ux 3 (t3 :: ux 22 (t26 :: t27 :: t28 :: ux 18 []))
def zu7 : List Bool := zdU 10
noncomputable def zpf : Code := zao [1, 1, 1, 1, 0, 1, 0, 0] zhh
def zu4 (K : Kt) : AExit → List AV → zaa → Prop := zap tP zdU [1, 1, 1, 1, 0, 1, 0] zhh (zas tP zu8 K)
def zpg (t3 t26 t27 t28 : AV) (H : zaa) (K : Kt) : Prop := ALoop tP zpf (zu4 K) (zjZ t3 t26 t27 t28) H
def zj0 (t3 t5 t26 t27 t28 t34 t35 t36 : AV) : List AV := ux 3 (t3 :: ux 1 (t5 :: ux 20 (t26 :: t27 :: t28 :: ux 5 (t34 :: t35 :: t36 :: ux 10 []))))
def zFV : List Bool := zdU 13
noncomputable def zFQ : Code := zao [1, 1, 0, 0, 1, 1, 0, 0] zpf
def zFO (K : Kt) (Kb10 : Lt) : AExit → List AV → zaa → Prop := zap tP zdU [1, 1, 0, 0, 1, 1, 0] zpf (zbx zu7 Kb10 (zu4 K))
def zu5 (t3 t5 t26 t27 t28 t34 t35 t36 : AV) (H : zaa) (K : Kt) (Kb10 : Lt) : Prop := ALoop tP zFQ (zFO K Kb10) (zj0 t3 t5 t26 t27 t28 t34 t35 t36) H
def zpd (t3 t5 t26 t27 t28 t34 t35 t36 : AV) (H : zaa) (K : Kt) (Kb10 : Lt) (Kb13 : Lt) : Prop :=
 zad .lss false t36 t35 fun t37 =>
 zag t37
 (zaj 1 t34 t36 fun t38 =>
 zae false 1 t38 H fun t39 =>
 zaj 1 t3 t39 fun t43 =>
 zar 1 t43 t5 H fun H =>
 zad .add false t36 (.int .i64 1) fun t44 =>
 Kb13 (zj0 t3 t5 t26 t27 t28 t34 t35 t44) H)
 (zad .add false t28 (.int .i64 1) fun t45 =>
 Kb10 (zjZ t3 t26 t27 t45) H)
def zpc (t3 t26 t27 t28 : AV) (H : zaa) (K : Kt) (Kb10 : Lt) : Prop :=
 zad .lss false t28 t27 fun t29 =>
 zag t29
 (zaj 8 t26 t28 fun t31 =>
 zae true 8 t31 H fun t32 =>
 zaA [(.int .i64 0), (.int .i64 0), .snil, .snil, .snil, (.int .i64 0), (.int .i64 0), .snil] H fun t6 H =>
 zar 8 t6 t32 H fun H =>
 zaf 4 t6 fun t33 =>
 zae false 1 t33 H fun t34 =>
 zak 1 t34 fun t35 =>
 zu5 t3 t28 t26 t27 t28 t34 t35 (.int .i64 0) H K Kb10)
 (K t3 H)
def zpe (t1 t3 t17 t18 : AV) (H : zaa) (K : Kt) (Kb5 : Lt) : Prop :=
 zad .lss false t18 t17 fun t19 =>
 zag t19
 (zaj 1 t3 t18 fun t23 =>
 zar 1 t23 (.int .i64 (-1)) H fun H =>
 zad .add false t18 (.int .i64 1) fun t24 =>
 Kb5 (zj1 t1 t3 t17 t24) H)
 (zaf 3 t1 fun t25 =>
 zae false 1 t25 H fun t26 =>
 zak 1 t26 fun t27 =>
 zpg t3 t26 t27 (.int .i64 0) H K)
def zu3 (t0 : AV) (H : zaa) (K : Kt) : Prop :=
 zaD t0 H fun t1 H =>
 zae true 4 t1 H fun t9 =>
 ACalls tP zfe [t9] H fun t10 H =>
 aUn .not t10 fun t11 =>
 zag t11
 (K .snil H)
 (zaf 3 t1 fun t12 =>
 zae false 1 t12 H fun t13 =>
 zak 1 t13 fun t14 =>
 zaY 8 [(.int .i64 0)] t14 t14 H fun t15 H =>
 zak 1 t15 fun t17 =>
 zu6 t1 t15 t17 (.int .i64 0) H K)
theorem zFT {t3 t5 t26 t27 t28 t34 t35 t36 : AV} {H : zaa} {K : Kt} {Kb10 : Lt} (Inv : Nat → AV → zaa → Prop) (n : Nat) (h0 : HSc H → Inv n t36 H)
  (round : Rd1 (fun t36 => zj0 t3 t5 t26 t27 t28 t34 t35 t36) (fun t36 => fun H Kb13 => zpd t3 t5 t26 t27 t28 t34 t35 t36 H K Kb10 Kb13) H Inv) : zu5 t3 t5 t26 t27 t28 t34 t35 t36 H K Kb10 :=
 lp1 (M := zdU) zFV t36 (by kernel_rfl) Inv n h0 round
theorem zFS {t3 t26 t27 t28 : AV} {H : zaa} {K : Kt} (Inv : Nat → AV → zaa → Prop) (n : Nat) (h0 : HSc H → Inv n t28 H)
  (round : Rd1 (fun t28 => zjZ t3 t26 t27 t28) (fun t28 => fun H Kb10 => zpc t3 t26 t27 t28 H K Kb10) H Inv) : zpg t3 t26 t27 t28 H K :=
 lp1 (M := zdU) zu7 t28 (by kernel_rfl) Inv n h0 round
theorem zFU {t1 t3 t17 t18 : AV} {H : zaa} {K : Kt} (Inv : Nat → AV → zaa → Prop) (n : Nat) (h0 : HSc H → Inv n t18 H)
  (round : Rd1 (fun t18 => zj1 t1 t3 t17 t18) (fun t18 => fun H Kb5 => zpe t1 t3 t17 t18 H K Kb5) H Inv) : zu6 t1 t3 t17 t18 H K :=
 lp1 (M := zdU) zFW t18 (by kernel_rfl) Inv n h0 round
theorem zFX {t0 : AV} {H : zaa} {K : Kt} (h : HSc H → zu3 t0 H K) : ACalls tP zm3 [t0] H K :=
 zav (M := zdU) Try.func25 (c := zhh) (by kernel_rfl) (fun hs => Eq.mpr (by kernel_rfl) (h hs))
def zk8 : Nat → List Bool
 | 1 => rl false [0,1,1,1,5,3,8]
 | _ => []
noncomputable def zqj : Code := Try.f57.body.getD .skip
noncomputable def zJy : List ResultVar := Try.f57.results.toList
def zk9 (t0 t2 t8 t9 t10 : AV) : List AV := t0 :: ux 1 (t2 :: ux 5 (t8 :: t9 :: t10 :: ux 8 []))
def zJw : List Bool := zk8 1
noncomputable def zJu : Code := zao [1, 0, 0] zqj
def zJt (K : Kt) : AExit → List AV → zaa → Prop := zap tP zk8 [1, 0] zqj (zas tP zJy K)
def zwK (t0 t2 t8 t9 t10 : AV) (H : zaa) (K : Kt) : Prop := ALoop tP zJu (zJt K) (zk9 t0 t2 t8 t9 t10) H
def zqi (t0 t2 t8 t9 t10 : AV) (H : zaa) (K : Kt) (Kb1 : Lt) : Prop :=
 zad .lss false t10 t9 fun t11 =>
 zag t11
 (zaj 1 t8 t10 fun t12 =>
 zae false 1 t12 H fun t13 =>
 zaj 1 t0 t13 fun t17 =>
 zar 1 t17 t2 H fun H =>
 zad .add false t10 (.int .i64 1) fun t18 =>
 Kb1 (zk9 t0 t2 t8 t9 t18) H)
 (zaR [] (K · H))
def zwJ (t0 t1 t2 : AV) (H : zaa) (K : Kt) : Prop :=
 zak 1 t1 fun t9 =>
 zwK t0 t2 t1 t9 (.int .i64 0) H K
theorem zJv {t0 t2 t8 t9 t10 : AV} {H : zaa} {K : Kt} (Inv : Nat → AV → zaa → Prop) (n : Nat) (h0 : HSc H → Inv n t10 H)
  (round : Rd1 (fun t10 => zk9 t0 t2 t8 t9 t10) (fun t10 => fun H Kb1 => zqi t0 t2 t8 t9 t10 H K Kb1) H Inv) : zwK t0 t2 t8 t9 t10 H K :=
 lp1 (M := zk8) zJw t10 (by kernel_rfl) Inv n h0 round
theorem zJx {t0 t1 t2 : AV} {H : zaa} {K : Kt} (h : HSc H → zwJ t0 t1 t2 H K) : ACalls tP zeH [t0, t1, t2] H K :=
 zav (M := zk8) Try.func57 (c := zqj) (by kernel_rfl) (fun hs => Eq.mpr (by kernel_rfl) (h hs))
def zla : Nat → List Bool
 | 3 => rl false [3,1,2,3,11]
 | _ => []
noncomputable def zqk : Code := Try.f58.body.getD .skip
noncomputable def zJE : List ResultVar := Try.f58.results.toList
def zhz (t3 t6 t7 t8 : AV) : List AV := ux 3 (t3 :: ux 2 (t6 :: t7 :: t8 :: ux 11 []))
def zJC : List Bool := zla 3
noncomputable def zJA : Code := zao [1, 1, 0, 1, 0, 0] zqk
def zJz (K : Kt) : AExit → List AV → zaa → Prop := zap tP zla [1, 1, 0, 1, 0] zqk (zas tP zJE K)
def zld (t3 t6 t7 t8 : AV) (H : zaa) (K : Kt) : Prop := ALoop tP zJA (zJz K) (zhz t3 t6 t7 t8) H
def zql (t3 t6 t7 t8 : AV) (H : zaa) (K : Kt) (Kb3 : Lt) : Prop :=
 zad .add false t8 (.int .i64 1) fun t18 =>
 Kb3 (zhz t3 t6 t7 t18) H
def zlc (t3 t6 t7 t8 : AV) (H : zaa) (K : Kt) (Kb3 : Lt) : Prop :=
 zql t3 t6 t7 t8 H K Kb3
def zlb (t3 t6 t7 t8 : AV) (H : zaa) (K : Kt) (Kb3 : Lt) : Prop :=
 zad .lss false t8 t7 fun t9 =>
 zag t9
 (zaj 1 t6 t8 fun t11 =>
 zae false 1 t11 H fun t12 =>
 zag t12
 (zaz 1 [(.int .i64 0)] 1 [(0, t8)] fun t16 =>
 zaH zdD 1 8 t3 t16 H fun t17 H =>
 zlc t17 t6 t7 t8 H K Kb3)
 (zlc t3 t6 t7 t8 H K Kb3))
 (K t3 H)
def zwL (t0 : AV) (H : zaa) (K : Kt) : Prop :=
 zak 1 t0 fun t7 =>
 zld .snil t0 t7 (.int .i64 0) H K
theorem zJB {t3 t6 t7 t8 : AV} {H : zaa} {K : Kt} (Inv : Nat → AV → AV → zaa → Prop) (n : Nat) (h0 : HSc H → Inv n t3 t8 H)
  (round : Rd2 (fun t3 => fun t8 => zhz t3 t6 t7 t8) (fun t3 => fun t8 => fun H Kb3 => zlb t3 t6 t7 t8 H K Kb3) H Inv) : zld t3 t6 t7 t8 H K :=
 lp2 (M := zla) zJC t3 t8 (by kernel_rfl) Inv n h0 round
theorem zJD {t0 : AV} {H : zaa} {K : Kt} (h : HSc H → zwL t0 H K) : ACalls tP zik [t0] H K :=
 zav (M := zla) Try.func58 (c := zqk) (by kernel_rfl) (fun hs => Eq.mpr (by kernel_rfl) (h hs))
def zle : Nat → List Bool
 | 3 => rl false [0,1,2,1,2,2,12]
 | _ => []
noncomputable def zqm : Code := Try.f60.body.getD .skip
noncomputable def zJK : List ResultVar := Try.f60.results.toList
def zhA (t0 t3 t6 t7 : AV) : List AV := t0 :: ux 2 (t3 :: ux 2 (t6 :: t7 :: ux 12 []))
def zJI : List Bool := zle 3
noncomputable def zJG : Code := zao [1, 1, 0, 1, 0, 0] zqm
def zJF (K : Kt) : AExit → List AV → zaa → Prop := zap tP zle [1, 1, 0, 1, 0] zqm (zas tP zJK K)
def zlh (t0 t3 t6 t7 : AV) (H : zaa) (K : Kt) : Prop := ALoop tP zJG (zJF K) (zhA t0 t3 t6 t7) H
def zqn (t0 t3 t6 t7 : AV) (H : zaa) (K : Kt) (Kb3 : Lt) : Prop :=
 zad .add false t7 (.int .i64 1) fun t18 =>
 Kb3 (zhA t0 t3 t6 t18) H
def zlg (t0 t3 t6 t7 : AV) (H : zaa) (K : Kt) (Kb3 : Lt) : Prop :=
 zqn t0 t3 t6 t7 H K Kb3
def zlf (t0 t3 t6 t7 : AV) (H : zaa) (K : Kt) (Kb3 : Lt) : Prop :=
 zad .lss false t7 t6 fun t8 =>
 zag t8
 (zaj 1 t0 t7 fun t12 =>
 zae false 1 t12 H fun t13 =>
 zag t13
 (zaz 1 [(.int .i64 0)] 1 [(0, t7)] fun t16 =>
 zaH zdD 1 8 t3 t16 H fun t17 H =>
 zlg t0 t17 t6 t7 H K Kb3)
 (zlg t0 t3 t6 t7 H K Kb3))
 (K t3 H)
def zwN (t0 : AV) (H : zaa) (K : Kt) : Prop :=
 zak 1 t0 fun t6 =>
 zlh t0 .snil t6 (.int .i64 0) H K
theorem zJH {t0 t3 t6 t7 : AV} {H : zaa} {K : Kt} (Inv : Nat → AV → AV → zaa → Prop) (n : Nat) (h0 : HSc H → Inv n t3 t7 H)
  (round : Rd2 (fun t3 => fun t7 => zhA t0 t3 t6 t7) (fun t3 => fun t7 => fun H Kb3 => zlf t0 t3 t6 t7 H K Kb3) H Inv) : zlh t0 t3 t6 t7 H K :=
 lp2 (M := zle) zJI t3 t7 (by kernel_rfl) Inv n h0 round
theorem zJJ {t0 : AV} {H : zaa} {K : Kt} (h : HSc H → zwN t0 H K) : ACalls tP zil [t0] H K :=
 zav (M := zle) Try.func60 (c := zqm) (by kernel_rfl) (fun hs => Eq.mpr (by kernel_rfl) (h hs))
end Go.Proofs.Ytkdmpbhbmmhijaa
namespace Go.Proofs.Ytkdmpbhbmmhijaa
open Go Go.Abs
set_option maxRecDepth 8000
theorem zf3 {H : zaa} {id n : Nat} {l : List Int} {st : List Bool} {b : Bool} (hid : H[id]? = some (boB st)) (hst : st.length = n) (hl : l.length ≤ 1000000) (hr : ∀ x ∈ l, 0 ≤ x ∧ x < (n : Int)) (K : Kt)
  (hK : K (.tup []) (H.set id (boB (zay st l b)))) : ACalls tP zeH [.ms id 0 n n, .sl (ints l) .none, .bool b] H K := by
 refine zJx fun hs => ?_
 have hil := zbR hid
 simp [zwJ]
 refine zJv (Inv := fun q t10 H' => ∃ j : Nat, j ≤ l.length ∧ q = l.length - j ∧ t10 = .int .i64 j ∧ H' = H.set id (boB (zay st (l.take j) b))) l.length ?_ ?_
 ·intro _; exact ⟨0, by omega, by omega, rfl, by simp [zay, zej hid]⟩
 ·rintro q t10 H' ⟨j, hj, rfl, rfl, rfl⟩ hsc hlen hsF Kb hKb
  have hg : ∀ st, (H.set id (boB st))[id]? = some (.cells (zaS st)) := fun us => by rw [zcC _ hid]; rfl
  by_cases hjl : j < l.length
  ·have hrr := hr _ (List.getElem_mem hjl)
   obtain ⟨e, he⟩ : ∃ e : Nat, l[j] = e := ⟨(l[j]).toNat, by omega⟩
   have hen : e < n := by omega
   have hnx : zay st (l.take (j + 1)) b = (zay st (l.take j) b).set e b := by rw [zbS hjl, znT, he]; rfl
   have hsl : (zay st (l.take j) b).length = n := by rw [znS, hst]
   generalize zay st (l.take j) b = st1 at *
   simp [zqi, hjl, he, hen, hg, hsl]
   rw [zaq (by omega) (by omega), zez (by omega)]
   refine ⟨by omega, hKb _ _ ⟨l.length - (j + 1), by omega, Back.here (by simp) (hs.set (by simp [AB.sc, zcR])) ?_ ⟨_, rfl, j + 1, by omega, rfl, by simp, by rw [hnx]; rfl⟩⟩⟩
   simp [zk9, AV.sc, AV.scV, AV.scA, AV.scB]; omega
  ·obtain rfl : j = l.length := by omega
   rw [List.take_length] at *
   simp [zqi]
   simpa [zaR] using hK
def mem (st : List Bool) : List Int := ((List.range st.length).filter fun i => st.getD i false).map fun (i : Nat) => (i : Int)
def zch (st : List Bool) (k : Nat) : List Int := ((List.range k).filter fun i => st.getD i false).map fun (i : Nat) => (i : Int)
theorem zsB (st : List Bool) (k : Nat) : zch st (k + 1) = zch st k ++ (if st.getD k false = true then [(k : Int)] else []) := by
 rw [zch, List.range_succ, List.filter_append, List.map_append, zch]
 cases h : st.getD k false with
 | false =>
  have h' : st[k]?.getD false = false := by simpa using h
  simp [List.filter_cons, h']
 | true =>
  have h' : st[k]?.getD false = true := by simpa using h
  simp [List.filter_cons, h']
theorem zmU (st : List Bool) (k : Nat) : (zch st k).length ≤ k := by
 rw [zch, List.length_map]
 exact Nat.le_trans (List.length_filter_le _ _) (by simp)
theorem zwM {H : zaa} {id n : Nat} {st : List Bool} (hid : H[id]? = some (boB st)) (hst : st.length = n) (hn : n ≤ 1000000) (K : Kt) (hK : K (.sl (ints (mem st)) .none) H) : ACalls tP zik [.ms id 0 n n] H K := by
 refine ACalls.out (zJD fun hs => ?_)
 have hil := zbR hid
 have hgJ : ∀ J, (H ++ J)[id]? = some (.cells (zaS st)) := fun J => zaN hid
 subst hst
 simp [zwL]
 unfold zld
 refine ALoop.own 3 zdD 1 rfl ?_
 show zld (.sl [] (.own H.length)) (.ms id 0 st.length st.length) (.int .i64 st.length) (.int .i64 0) (H ++ [.perm zdD 1 0]) (Out H.length K)
 refine zJB (Inv := fun q t3 tI H' => ∃ i : Nat, i ≤ st.length ∧ q = st.length - i ∧ tI = .int .i64 i ∧ t3 = .sl (ints (zch st i)) (.own H.length) ∧ H' = H ++ [.perm zdD 1 (zch st i).length]) st.length ?_ ?_
 ·intro _; exact ⟨0, by omega, by omega, rfl, by simp [zch, ints], by simp [zch]⟩
 rintro q t3 tI H' ⟨i, hi, rfl, rfl, rfl, rfl⟩ hsc hlen hsF Kb hKb
 have hml := zmU st i
 by_cases hlt : i < st.length
 ·have hsu := zsB st i
  have hgd : st.getD i false = st[i] := by rw [List.getD_eq_getElem?_getD, List.getElem?_eq_getElem hlt]; rfl
  rw [hgd] at hsu
  have back : ∀ l, zch st (i + 1) = l → Kb (zhz (.sl (ints l) (.own H.length)) (.ms id 0 st.length st.length) (.int .i64 st.length) (.int .i64 ((i : Int) + 1))) (H ++ [.perm zdD 1 l.length]) := fun l h => by
   subst h
   refine hKb _ _ ⟨st.length - (i + 1), by omega, Back.here (by simp) (hs.append rfl) ?_ ⟨_, _, rfl, i + 1, by omega, rfl, by simp, rfl, rfl⟩⟩
   simp [zhz, AV.sc, AV.scV, AV.scA, AV.scB]; omega
  cases hb : st[i] with
  | false =>
   rw [hb, if_neg (by simp), List.append_nil] at hsu
   have := back _ hsu
   simp [zlb, zlc, zql, hlt, hgJ, zaL, hb]
   rw [zaq (by omega) (by omega)]
   exact this
  | true =>
   rw [hb, if_pos rfl] at hsu
   have := back _ hsu
   simp [zlb, zlc, zql, hlt, hgJ, zaL, hb]
   rw [show ∀ k : AV → Prop, zaz 1 [.int .i64 0] 1 [(0, .int .i64 (i : Int))] k = k (.sl [[.int .i64 (i : Int)]] .full) from fun k => propext Iff.rfl]
   simp [zaH, zbF, zbe]
   refine ⟨⟨by omega, by omega⟩, ?_⟩
   rw [zaq (by omega) (by omega)]
   simpa [ints] using this
 ·obtain rfl : i = st.length := by omega
  simp [zlb]
  exact Out.one hs (.atom (.sl _ _)) rfl rfl hK
theorem zwO {H : zaa} {id n : Nat} {st : List Bool} (hid : H[id]? = some (boB st)) (hst : st.length = n) (hn : n ≤ 1000000) (K : Kt) (hK : K (.sl (ints (mem st)) .none) H) : ACalls tP zil [.ms id 0 n n] H K := by
 refine ACalls.out (zJJ fun hs => ?_)
 have hil := zbR hid
 have hgJ : ∀ J, (H ++ J)[id]? = some (.cells (zaS st)) := fun J => zaN hid
 subst hst
 simp [zwN]
 unfold zlh
 refine ALoop.own 3 zdD 1 rfl ?_
 show zlh (.ms id 0 st.length st.length) (.sl [] (.own H.length)) (.int .i64 st.length) (.int .i64 0) (H ++ [.perm zdD 1 0]) (Out H.length K)
 refine zJH (Inv := fun q t3 tI H' => ∃ i : Nat, i ≤ st.length ∧ q = st.length - i ∧ tI = .int .i64 i ∧ t3 = .sl (ints (zch st i)) (.own H.length) ∧ H' = H ++ [.perm zdD 1 (zch st i).length]) st.length ?_ ?_
 ·intro _; exact ⟨0, by omega, by omega, rfl, by simp [zch, ints], by simp [zch]⟩
 rintro q t3 tI H' ⟨i, hi, rfl, rfl, rfl, rfl⟩ hsc hlen hsF Kb hKb
 have hml := zmU st i
 by_cases hlt : i < st.length
 ·have hsu := zsB st i
  have hgd : st.getD i false = st[i] := by rw [List.getD_eq_getElem?_getD, List.getElem?_eq_getElem hlt]; rfl
  rw [hgd] at hsu
  have back : ∀ l, zch st (i + 1) = l → Kb (zhA (.ms id 0 st.length st.length) (.sl (ints l) (.own H.length)) (.int .i64 st.length) (.int .i64 ((i : Int) + 1))) (H ++ [.perm zdD 1 l.length]) := fun l h => by
   subst h
   refine hKb _ _ ⟨st.length - (i + 1), by omega, Back.here (by simp) (hs.append rfl) ?_ ⟨_, _, rfl, i + 1, by omega, rfl, by simp, rfl, rfl⟩⟩
   simp [zhA, AV.sc, AV.scV, AV.scA, AV.scB]; omega
  cases hb : st[i] with
  | false =>
   rw [hb, if_neg (by simp), List.append_nil] at hsu
   have := back _ hsu
   simp [zlf, zlg, zqn, hlt, hgJ, zaL, hb]
   rw [zaq (by omega) (by omega)]
   exact this
  | true =>
   rw [hb, if_pos rfl] at hsu
   have := back _ hsu
   simp [zlf, zlg, zqn, hlt, hgJ, zaL, hb]
   rw [show ∀ k : AV → Prop, zaz 1 [.int .i64 0] 1 [(0, .int .i64 (i : Int))] k = k (.sl [[.int .i64 (i : Int)]] .full) from fun k => propext Iff.rfl]
   simp [zaH, zbF, zbe]
   refine ⟨⟨by omega, by omega⟩, ?_⟩
   rw [zaq (by omega) (by omega)]
   simpa [ints] using this
 ·obtain rfl : i = st.length := by omega
  simp [zlf]
  exact Out.one hs (.atom (.sl _ _)) rfl rfl hK
def tk (e : CEx) : List Int := if e.op = 7 then [e.kids.getD 1 0] else if e.op = 8 ∨ e.op = 9 ∨ e.op = 10 ∨ e.op = 24 then e.kids else []
def lf (e : CEx) : Bool := !(e.op == 7 || e.op == 8 || e.op == 9 || e.op == 10 || e.op == 24)
def zn2 (c : Cor) (i : Nat) : List Int := match c.exprs[i]? with | some e => tk e | none => []
inductive TR (c : Cor) (b : Nat) : Nat → Prop
 | base : TR c b b
 | step {p v : Nat} (h : TR c b p) (hk : (v : Int) ∈ zn2 c p) : TR c b v
theorem TR.front {c : Cor} {b k v : Nat} (hk : (k : Int) ∈ zn2 c b) (h : TR c k v) : TR c b v := by
 induction h with
 | base => exact .step .base hk
 | step h hk2 ih => exact .step ih hk2
structure TkP (c : Cor) : Prop where
 up : ∀ i, i < c.exprs.length → ∀ k ∈ zn2 c i, (i : Int) < k ∧ k < c.exprs.length
theorem zA7 (l : List Int) : ∀ (st : List Bool), (∀ x ∈ l, 0 ≤ x ∧ x < (st.length : Int)) → ∀ v, (zay st l true).getD v false = true ↔ st.getD v false = true ∨ (v : Int) ∈ l := by
 induction l with
 | nil => intro st _ v; simp [zay]
 | cons a l ih =>
  intro st hr v
  have ha := hr a (by simp)
  rw [ziM, ih _ (fun x hx => by simpa using hr x (by simp [hx])) v, zg6]
  by_cases hv : a.toNat = v ∧ v < st.length
  ·rw [if_pos hv]
   have : (v : Int) = a := by omega
   simp [this]
  ·rw [if_neg hv]
   have : ¬ (v : Int) = a := by intro h; exact hv (by omega)
   simp [this]
def zcg (c : Cor) (p : Nat) : List Int := match c.exprs[p]? with | some e => e.kids | none => []
def zcd (c : Cor) (p : Nat) : List (List Int) := match c.exprs[p]? with | some e => e.binds | none => []
def zb6 (c : Cor) (p : Nat) : List Int := match c.exprs[p]? with | some e => e.vars | none => []
def Kid (c : Cor) (p k j : Nat) : Prop := (zcg c p)[k]? = some (j : Int)
def Bind (c : Cor) (p k : Nat) (v : Int) : Prop := ∃ l, (zcd c p)[k]? = some l ∧ v ∈ l
def zb8 (c : Cor) (i j : Nat) : Prop := ∃ h : i < c.codes.length, (c.codes[i]).body = (j : Int)
def Par (c : Cor) (i : Nat) (v : Int) : Prop := ∃ h : i < c.codes.length, v ∈ (c.codes[i]).params ++ (c.codes[i]).capt
inductive InS (c : Cor) : Nat → Int → Prop
 | root {i j : Nat} {v : Int} (hr : zb8 c i j) (hv : Par c i v) : InS c j v
 | bind {p k j : Nat} {v : Int} (hk : Kid c p k j) (hv : Bind c p k v) : InS c j v
 | up {p k j : Nat} {v : Int} (hk : Kid c p k j) (h : InS c p v) : InS c j v
inductive Sub (c : Cor) (e : Nat) : Nat → Prop
 | refl : Sub c e e
 | step {p k j : Nat} (h : Sub c e p) (hk : Kid c p k j) : Sub c e j
theorem Sub.trans {c : Cor} {a b d : Nat} (h : Sub c a b) (h2 : Sub c b d) : Sub c a d := by
 induction h2 with
 | refl => exact h
 | step _ hk ih => exact .step ih hk
theorem Sub.front {c : Cor} {e j : Nat} (h : Sub c e j) : j = e ∨ ∃ k m, Kid c e k m ∧ Sub c m j := by
 induction h with
 | refl => exact .inl rfl
 | step h hk ih =>
  rcases ih with rfl | ⟨k, m, h1, h2⟩
  ·exact .inr ⟨_, _, hk, .refl⟩
  ·exact .inr ⟨k, m, h1, .step h2 hk⟩
structure TreeC (c : Cor) : Prop where
 lt : ∀ {p k j : Nat}, Kid c p k j → p < j ∧ j < c.exprs.length
 uni : ∀ {p k p' k' j : Nat}, Kid c p k j → Kid c p' k' j → p = p' ∧ k = k'
 nob : ∀ {p k j i : Nat}, Kid c p k j → ¬ zb8 c i j
 bod : ∀ {i i' j : Nat}, zb8 c i j → zb8 c i' j → i = i'
 blt : ∀ {i j : Nat}, zb8 c i j → j < c.exprs.length
 ex : ∀ {j : Nat}, j < c.exprs.length → (∃ i, zb8 c i j) ∨ ∃ p k, Kid c p k j
 kb : ∀ p : Nat, (zcd c p).length = (zcg c p).length
 kr : ∀ p : Nat, ∀ x ∈ zcg c p, 0 ≤ x ∧ x < (c.exprs.length : Int)
 br : ∀ {p k : Nat} {v : Int}, Bind c p k v → 0 ≤ v ∧ v < (c.vars.length : Int)
 pr : ∀ {i : Nat} {v : Int}, Par c i v → 0 ≤ v ∧ v < (c.vars.length : Int)
 vr : ∀ p : Nat, ∀ x ∈ zb6 c p, 0 ≤ x ∧ x < (c.vars.length : Int)
 bu : ∀ {p k p' k' : Nat} {v : Int}, Bind c p k v → Bind c p' k' v → p = p' ∧ k = k'
 bn : ∀ {p k : Nat} {l : List Int}, (zcd c p)[k]? = some l → l.Nodup
 bp : ∀ {p k : Nat} {v : Int} {i : Nat}, Bind c p k v → ¬ Par c i v
 pu : ∀ {i i' : Nat} {v : Int}, Par c i v → Par c i' v → i = i'
 pn : ∀ (i) (h : i < c.codes.length), ((c.codes[i]).params ++ (c.codes[i]).capt).Nodup
 sc : ∀ {j : Nat} {v : Int}, v ∈ zb6 c j → InS c j v
variable {c : Cor}
theorem TreeC.sub_le (hT : TreeC c) {a b : Nat} (h : Sub c a b) : a ≤ b := by
 induction h with
 | refl => exact Nat.le_refl _
 | step _ hk ih => have := (hT.lt hk).1; omega
theorem TreeC.sub_lt (hT : TreeC c) {a b : Nat} (h : Sub c a b) (ha : a < c.exprs.length) : b < c.exprs.length := by
 cases h with
 | refl => exact ha
 | step _ hk => exact (hT.lt hk).2
theorem TreeC.line (hT : TreeC c) {a b j : Nat} (h1 : Sub c a j) (h2 : Sub c b j) : Sub c a b ∨ Sub c b a := by
 induction h1 with
 | refl => exact .inr h2
 | step h hk ih =>
  cases h2 with
  | refl => exact .inl (.step h hk)
  | step h' hk' =>
   obtain ⟨rfl, _⟩ := hT.uni hk hk'
   exact ih h'
theorem TreeC.apart (hT : TreeC c) {p k k' m m' j : Nat} (h1 : Kid c p k m) (h2 : Kid c p k' m') (h3 : Sub c m j) (h4 : Sub c m' j) : k = k' := by
 have key : ∀ {k k' m m'}, Kid c p k m → Kid c p k' m' → Sub c m m' → k = k' := by
  intro k k' m m' h1 h2 h
  cases h with
  | refl => exact (hT.uni h1 h2).2
  | step h hk =>
   obtain ⟨rfl, _⟩ := hT.uni h2 hk
   have := hT.sub_le h
   have := (hT.lt h1).1
   omega
 rcases hT.line h3 h4 with h | h
 ·exact key h1 h2 h
 ·exact (key h2 h1 h).symm
theorem TreeC.bound_sub (hT : TreeC c) {j p k : Nat} {v : Int} (h : InS c j v) (hb : Bind c p k v) : ∃ m, Kid c p k m ∧ Sub c m j := by
 induction h with
 | root hr hv => exact absurd hv (hT.bp hb)
 | bind hk hv =>
  obtain ⟨rfl, rfl⟩ := hT.bu hb hv
  exact ⟨_, hk, .refl⟩
 | up hk h ih =>
  obtain ⟨m, h1, h2⟩ := ih hb
  exact ⟨m, h1, .step h2 hk⟩
theorem TreeC.bound_lt (hT : TreeC c) {j p k : Nat} {v : Int} (h : InS c j v) (hb : Bind c p k v) : p < j := by
 obtain ⟨m, h1, h2⟩ := hT.bound_sub h hb
 have := hT.sub_le h2
 have := (hT.lt h1).1
 omega
def Occ (c : Cor) (e : Nat) (v : Int) : Prop := ∃ j, Sub c e j ∧ v ∈ zb6 c j
def Bnd (c : Cor) (e : Nat) (v : Int) : Prop := ∃ j k, Sub c e j ∧ Bind c j k v
def zeu (c : Cor) (e : Nat) (v : Int) : Prop := Occ c e v ∧ ¬ Bnd c e v
theorem TreeC.kid_InS (hT : TreeC c) {p k j : Nat} {v : Int} (hk : Kid c p k j) : InS c j v ↔ InS c p v ∨ Bind c p k v := by
 constructor
 ·intro h
  cases h with
  | root hr hv => exact absurd hr (hT.nob hk)
  | bind hk' hv =>
   obtain ⟨rfl, rfl⟩ := hT.uni hk hk'
   exact .inr hv
  | up hk' h =>
   obtain ⟨rfl, rfl⟩ := hT.uni hk hk'
   exact .inl h
 ·rintro (h | h)
  ·exact .up hk h
  ·exact .bind hk h
theorem TreeC.root_InS (hT : TreeC c) {i j : Nat} {v : Int} (hr : zb8 c i j) : InS c j v ↔ Par c i v := by
 constructor
 ·intro h
  cases h with
  | root hr' hv =>
   obtain rfl := hT.bod hr hr'
   exact hv
  | bind hk hv => exact absurd hr (hT.nob hk)
  | up hk h => exact absurd hr (hT.nob hk)
 ·exact .root hr
theorem zx5 {e : Nat} {v : Int} : Occ c e v ↔ v ∈ zb6 c e ∨ ∃ k m, Kid c e k m ∧ Occ c m v := by
 constructor
 ·rintro ⟨j, h1, h2⟩
  rcases h1.front with rfl | ⟨k, m, h3, h4⟩
  ·exact .inl h2
  ·exact .inr ⟨k, m, h3, j, h4, h2⟩
 ·rintro (h | ⟨k, m, h1, j, h2, h3⟩)
  ·exact ⟨e, .refl, h⟩
  ·exact ⟨j, (Sub.step .refl h1).trans h2, h3⟩
theorem zxZ {e : Nat} {v : Int} : Bnd c e v ↔ (∃ k, Bind c e k v) ∨ ∃ k m, Kid c e k m ∧ Bnd c m v := by
 constructor
 ·rintro ⟨j, k', h1, h2⟩
  rcases h1.front with rfl | ⟨k, m, h3, h4⟩
  ·exact .inl ⟨k', h2⟩
  ·exact .inr ⟨k, m, h3, j, k', h4, h2⟩
 ·rintro (⟨k, h⟩ | ⟨k, m, h1, j, k', h2, h3⟩)
  ·exact ⟨e, k, .refl, h⟩
  ·exact ⟨j, k', (Sub.step .refl h1).trans h2, h3⟩
theorem TreeC.occ_apart (hT : TreeC c) {e k k' m m' : Nat} {v : Int} (h1 : Kid c e k m) (h2 : Kid c e k' m') (ho : Occ c m v) (hb : Bind c e k' v ∨ Bnd c m' v) : k = k' := by
 obtain ⟨j, h3, h4⟩ := ho
 rcases hb with hb | ⟨p, kp, hs, hb⟩
 ·obtain ⟨q, h5, h6⟩ := hT.bound_sub (hT.sc h4) hb
  exact hT.apart h1 h5 h3 h6
 ·obtain ⟨q, h5, h6⟩ := hT.bound_sub (hT.sc h4) hb
  exact hT.apart h1 h2 h3 ((hs.step h5).trans h6)
theorem zsJ {l : List Int} (h : l.Nodup) {i j : Nat} {v : Int} (h1 : l[i]? = some v) (h2 : l[j]? = some v) : i = j := by
 obtain ⟨a1, b1⟩ := List.getElem?_eq_some_iff.1 h1
 obtain ⟨a2, b2⟩ := List.getElem?_eq_some_iff.1 h2
 have hp := List.pairwise_iff_getElem.1 h
 rcases Nat.lt_trichotomy i j with h3 | h3 | h3
 ·exact absurd (b1.trans b2.symm) (hp i j a1 a2 h3)
 ·exact h3
 ·exact absurd (b2.trans b1.symm) (hp j i a2 a1 h3)
theorem ziy {α : Type} {l : List α} {f : α → List Int} (h : (l.flatMap f).Nodup) {i j : Nat} (hi : i < l.length) (hj : j < l.length) {v : Int} (h1 : v ∈ f l[i]) (h2 : v ∈ f l[j]) : i = j := by
 obtain ⟨_, hp⟩ := List.pairwise_flatMap.1 h
 have hp := List.pairwise_iff_getElem.1 hp
 rcases Nat.lt_trichotomy i j with h3 | h3 | h3
 ·exact absurd rfl (hp i j hi hj h3 v h1 v h2)
 ·exact h3
 ·exact absurd rfl (hp j i hj hi h3 v h2 v h1)
theorem zgZ {α : Type} {l : List α} {f : α → List Int} (h : (l.flatMap f).Nodup) {i : Nat} (hi : i < l.length) : (f l[i]).Nodup :=
 (List.pairwise_flatMap.1 h).1 _ (List.getElem_mem hi)
theorem zbK {c : Cor} {p : Nat} (h : p < c.exprs.length) : zcg c p = (c.exprs[p]).kids := by unfold zcg; rw [List.getElem?_eq_getElem h]
theorem zcQ {c : Cor} {p : Nat} (h : p < c.exprs.length) : zcd c p = (c.exprs[p]).binds := by unfold zcd; rw [List.getElem?_eq_getElem h]
theorem zob {c : Cor} {p : Nat} (h : p < c.exprs.length) : zb6 c p = (c.exprs[p]).vars := by unfold zb6; rw [List.getElem?_eq_getElem h]
theorem zfb {c : Cor} {p : Nat} {x : Int} (h : x ∈ zcg c p) : p < c.exprs.length := by
 by_cases h2 : p < c.exprs.length
 ·exact h2
 ·unfold zcg at h; rw [List.getElem?_eq_none (by omega)] at h; simp at h
theorem zhR {c : Cor} {p : Nat} {x : List Int} (h : x ∈ zcd c p) : p < c.exprs.length := by
 by_cases h2 : p < c.exprs.length
 ·exact h2
 ·unfold zcd at h; rw [List.getElem?_eq_none (by omega)] at h; simp at h
theorem zoc {c : Cor} {p : Nat} {x : Int} (h : x ∈ zb6 c p) : p < c.exprs.length := by
 by_cases h2 : p < c.exprs.length
 ·exact h2
 ·unfold zb6 at h; rw [List.getElem?_eq_none (by omega)] at h; simp at h
theorem Kid.mem {c : Cor} {p k j : Nat} (h : Kid c p k j) : (j : Int) ∈ zcg c p := List.mem_of_getElem? h
theorem Bind.mem {c : Cor} {p k : Nat} {v : Int} (h : Bind c p k v) : v ∈ (zcd c p).flatten := by
 obtain ⟨l, h1, h2⟩ := h
 exact List.mem_flatten.2 ⟨l, List.mem_of_getElem? h1, h2⟩
theorem zCc {c : Cor} {m : Nat} (hbr : ∀ {p k : Nat} {v : Int}, Bind c p k v → 0 ≤ v) (ih : ∀ i st st', za0 c m i st = some st' → (∀ v : Nat, st.getD v false = true → InS c i v) → ∀ j, Sub c i j → ∀ v ∈ zb6 c j, InS c j v) (i : Nat) :
  ∀ (bs : List (List Int)) (ks : List Int) (st st' : List Bool) (k0 : Nat), zbA c m bs ks st = some st' → bs.length = ks.length → (∀ r, (zcd c i)[k0 + r]? = bs[r]?) → (∀ r, (zcg c i)[k0 + r]? = ks[r]?) → (∀ v : Nat, st.getD v false = true → InS c i v) →
   ∀ (r m' : Nat), ks[r]? = some (m' : Int) → ∀ j, Sub c m' j → ∀ v ∈ zb6 c j, InS c j v := by
 intro bs
 induction bs with
 | nil =>
  intro ks st st' k0 _ hl _ _ _ r m' hr
  have : ks = [] := List.eq_nil_of_length_eq_zero (by simpa using hl.symm)
  subst this
  simp at hr
 | cons b bs ihb =>
  intro ks st st' k0 h hl hb hk hs r m' hr
  cases ks with
  | nil => simp at hl
  | cons k ks =>
   rw [zbA] at h
   cases hv : za0 c m k.toNat (zay st b true) with
   | none => rw [hv] at h; cases h
   | some s2 =>
    rw [hv] at h
    simp only at h
    cases r with
    | zero =>
     simp at hr
     subst hr
     have hkid : Kid c i k0 m' := by have := hk 0; simp at this; exact this
     have hbd : (zcd c i)[k0]? = some b := by have := hb 0; simpa using this
     refine ih m' _ s2 (by simpa using hv) fun v hv => ?_
     rcases zf7 b _ _ hv with h1 | ⟨x, hx, e⟩
     ·exact .up hkid (hs v h1)
     ·have hB : Bind c i k0 x := ⟨b, hbd, hx⟩
      have := hbr hB
      obtain rfl : x = (v : Int) := by omega
      exact .bind hkid hB
    | succ r =>
     refine ihb ks _ _ (k0 + 1) h (by simpa using hl) (fun r => ?_) (fun r => ?_) (fun v hv2 => hs v (ztk (ztT c _ _ _ _ hv) v hv2)) r m' (by simpa using hr)
     ·have := hb (r + 1); rw [show k0 + 1 + r = k0 + (r + 1) by omega]; simpa using this
     ·have := hk (r + 1); rw [show k0 + 1 + r = k0 + (r + 1) by omega]; simpa using this
theorem zB3 {c : Cor} (hbr : ∀ {p k : Nat} {v : Int}, Bind c p k v → 0 ≤ v) (hkb : ∀ p, (zcd c p).length = (zcg c p).length) : ∀ (m i : Nat) (st st' : List Bool), za0 c m i st = some st' → (∀ v : Nat, st.getD v false = true → InS c i v) → ∀ j, Sub c i j → ∀ v ∈ zb6 c j, InS c j v := by
 intro m
 induction m with
 | zero => intro i st st' h; rw [za0] at h; cases h
 | succ m ih =>
  intro i st st' h hs j hj v hv
  rw [za0] at h
  cases he : c.exprs[i]? with
  | none => rw [he] at h; cases h
  | some e =>
   rw [he] at h
   simp only at h
   split at h
   ·rename_i hall
    rcases hj.front with rfl | ⟨k, m', h1, h2⟩
    ·unfold zb6 at hv
     rw [he] at hv
     have h3 := List.all_eq_true.1 hall v hv
     simp only [Bool.and_eq_true, decide_eq_true_eq] at h3
     have h4 := hs _ h3.2
     rw [show ((v.toNat : Nat) : Int) = v by omega] at h4
     exact h4
    ·have e1 : zcd c i = e.binds := by unfold zcd; rw [he]
     have e2 : zcg c i = e.kids := by unfold zcg; rw [he]
     refine zCc hbr ih i e.binds e.kids st st' 0 h (by rw [← e1, ← e2]; exact hkb i) (fun r => by rw [e1, Nat.zero_add]) (fun r => by rw [e2, Nat.zero_add]) hs k m' ?_ j h2 v hv
     rw [← e2]; exact h1
   ·cases h
theorem ziS {c : Cor} (hk : zaK c) (h : vOk c = true) : TreeC c := by
 have hp := (zhc c).1 h
 have hr := (ztQ c hk).1 hp
 obtain ⟨t1, t2, t3, t4⟩ := hp.tree
 obtain ⟨b1, b2, b3⟩ := hp.bind
 unfold zbH at t3
 obtain ⟨n1, n2, n3⟩ := List.nodup_append.1 t3
 unfold zbP at b2 b1
 obtain ⟨m1, m2, m3⟩ := List.nodup_append.1 b2
 have hbl : ∀ p, (zcd c p).length = (zcg c p).length := fun p => by
  by_cases h2 : p < c.exprs.length
  ·rw [zcQ h2, zbK h2]; exact t1 p h2
  ·unfold zcd zcg; rw [List.getElem?_eq_none (by omega)]; rfl
 have hbr : ∀ {p k : Nat} {v : Int}, Bind c p k v → v ∈ c.exprs.flatMap fun e => e.binds.flatten := fun {p k v} hb => by
  have h1 := hb.mem
  obtain ⟨l, h2, _⟩ := hb
  have h3 := zhR (List.mem_of_getElem? h2)
  rw [zcQ h3] at h1
  exact List.mem_flatMap.2 ⟨_, List.getElem_mem h3, h1⟩
 have hpr : ∀ {i : Nat} {v : Int}, Par c i v → v ∈ c.codes.flatMap fun f => f.params ++ f.capt := fun {i v} ⟨h1, h2⟩ => List.mem_flatMap.2 ⟨_, List.getElem_mem h1, h2⟩
 have hb0 : ∀ {p k : Nat} {v : Int}, Bind c p k v → 0 ≤ v ∧ v < (c.vars.length : Int) := fun hb => b1 _ (List.mem_append.2 (.inr (hbr hb)))
 have hbu : ∀ {p k p' k' : Nat} {v : Int}, Bind c p k v → Bind c p' k' v → p = p' ∧ k = k' := fun {p k p' k' v} h1 h2 => by
  have g1 := h1.mem; have g2 := h2.mem
  obtain ⟨l, a1, a2⟩ := h1
  obtain ⟨l', c1, c2⟩ := h2
  have g3 := zhR (List.mem_of_getElem? a1)
  have g4 := zhR (List.mem_of_getElem? c1)
  rw [zcQ g3] at g1
  rw [zcQ g4] at g2
  obtain rfl := ziy m2 g3 g4 g1 g2
  refine ⟨rfl, ?_⟩
  have g5 := zgZ m2 g3
  rw [← zcQ g3] at g5
  obtain ⟨a3, a4⟩ := List.getElem?_eq_some_iff.1 a1
  obtain ⟨c3, c4⟩ := List.getElem?_eq_some_iff.1 c1
  have g6 : ((zcd c p).flatMap id).Nodup := by rw [List.flatMap_id]; exact g5
  exact ziy g6 a3 c3 (v := v) (by rw [a4]; exact a2) (by rw [c4]; exact c2)
 refine { lt := ?_, uni := ?_, nob := ?_, bod := ?_, blt := ?_, ex := ?_, kb := hbl, kr := ?_, br := hb0, pr := ?_, vr := ?_, bu := hbu, bn := ?_, bp := ?_, pu := ?_, pn := ?_, sc := ?_ }
 ·intro p k j h1
  have h2 := zfb h1.mem
  have h3 := t2 p h2 j (by rw [← zbK h2]; exact h1.mem)
  omega
 ·intro p k p' k' j h1 h2
  have h3 := zfb h1.mem
  have h4 := zfb h2.mem
  obtain rfl := ziy n2 h3 h4 (by rw [← zbK h3]; exact h1.mem) (by rw [← zbK h4]; exact h2.mem)
  have h5 := zgZ n2 h3
  rw [← zbK h3] at h5
  exact ⟨rfl, zsJ h5 h1 h2⟩
 ·rintro p k j i h1 ⟨h2, h3⟩
  have h4 := zfb h1.mem
  have h5 : (j : Int) ∈ c.exprs.flatMap CEx.kids := List.mem_flatMap.2 ⟨_, List.getElem_mem h4, by rw [← zbK h4]; exact h1.mem⟩
  exact n3 j (List.mem_map.2 ⟨_, List.getElem_mem h2, h3⟩) j h5 rfl
 ·rintro i i' j ⟨h1, h2⟩ ⟨h3, h4⟩
  exact zsJ n1 (i := i) (j := i') (v := j) (by rw [List.getElem?_map, List.getElem?_eq_getElem h1]; simp [h2]) (by rw [List.getElem?_map, List.getElem?_eq_getElem h3]; simp [h4])
 ·rintro i j ⟨h1, h2⟩
  obtain ⟨b, hb, hlt, _⟩ := (hr.codes i h1).body
  rw [hb] at h2
  omega
 ·intro j hj
  have h1 := hr.placed j hj
  have h2 : (j : Int) ∈ zbH c := List.count_pos_iff.1 (by omega)
  unfold zbH at h2
  rcases List.mem_append.1 h2 with h3 | h3
  ·obtain ⟨f, hf, he⟩ := List.mem_map.1 h3
   obtain ⟨i, hi, rfl⟩ := List.mem_iff_getElem.1 hf
   exact .inl ⟨i, hi, he⟩
  ·obtain ⟨e, he, hm⟩ := List.mem_flatMap.1 h3
   obtain ⟨p, hp, rfl⟩ := List.mem_iff_getElem.1 he
   obtain ⟨k, hk2, hj2⟩ := List.mem_iff_getElem.1 hm
   exact .inr ⟨p, k, by unfold Kid; rw [zbK hp, List.getElem?_eq_getElem hk2, hj2]⟩
 ·intro p x hx
  have h2 := zfb hx
  rw [zbK h2] at hx
  exact (hr.exprs p h2).range x hx
 ·intro i v h1
  exact b1 _ (List.mem_append.2 (.inl (hpr h1)))
 ·intro p x hx
  have h2 := zoc hx
  rw [zob h2] at hx
  exact (hr.exprs p h2).vars x hx
 ·intro p k l h1
  have h2 := zhR (List.mem_of_getElem? h1)
  have h3 := zgZ m2 h2
  rw [← zcQ h2, ← List.flatMap_id] at h3
  obtain ⟨h4, h5⟩ := List.getElem?_eq_some_iff.1 h1
  have h6 := zgZ h3 h4
  rw [h5] at h6
  exact h6
 ·intro p k v i h1 h2
  exact m3 v (hpr h2) v (hbr h1) rfl
 ·rintro i i' v ⟨h1, h2⟩ ⟨h3, h4⟩
  exact ziy m1 h1 h3 h2 h4
 ·intro i hi
  exact zgZ m1 hi
 ·have hsub : ∀ (i : Nat) (hi : i < c.codes.length) (j b : Nat), (c.codes[i]).body = (b : Int) → Sub c b j → ∀ v ∈ zb6 c j, InS c j v := by
   intro i hi j b hb hj v hv
   have h1 := hr.scopes i hi
   have h2 := ztU c c.exprs.length (c.codes[i]).body.toNat (zcL c c.codes[i])
   rw [if_pos h1] at h2
   rw [hb] at h2
   refine zB3 (fun hb => (hb0 hb).1) hbl _ b _ _ (by simpa using h2) (fun v hv => ?_) j hj v hv
   have hP : Par c i v := by
    unfold zcL at hv
    rcases zf7 _ _ _ hv with h3 | ⟨x, hx, e⟩
    ·rcases zf7 _ _ _ h3 with h4 | ⟨x, hx, e⟩
     ·rw [List.getD_eq_getElem?_getD, List.getElem?_replicate] at h4
      split at h4 <;> simp at h4
     ·have hP : Par c i x := ⟨hi, List.mem_append.2 (.inl hx)⟩
      have := b1 _ (List.mem_append.2 (.inl (hpr hP)))
      obtain rfl : x = (v : Int) := by omega
      exact hP
    ·have hP : Par c i x := ⟨hi, List.mem_append.2 (.inr hx)⟩
     have := b1 _ (List.mem_append.2 (.inl (hpr hP)))
     obtain rfl : x = (v : Int) := by omega
     exact hP
   exact .root ⟨hi, hb⟩ hP
  have hroot : ∀ m j, j ≤ m → j < c.exprs.length → ∃ i, ∃ hi : i < c.codes.length, ∃ b : Nat, (c.codes[i]).body = (b : Int) ∧ Sub c b j := by
   intro m
   induction m with
   | zero =>
    intro j hj hjl
    have h1 := hr.placed j hjl
    have h2 : (j : Int) ∈ zbH c := List.count_pos_iff.1 (by omega)
    unfold zbH at h2
    rcases List.mem_append.1 h2 with h3 | h3
    ·obtain ⟨f, hf, he⟩ := List.mem_map.1 h3
     obtain ⟨i, hi, rfl⟩ := List.mem_iff_getElem.1 hf
     exact ⟨i, hi, j, he, .refl⟩
    ·obtain ⟨e, he, hm⟩ := List.mem_flatMap.1 h3
     obtain ⟨p, hp, rfl⟩ := List.mem_iff_getElem.1 he
     have := t2 p hp j hm
     omega
   | succ m ih =>
    intro j hj hjl
    have h1 := hr.placed j hjl
    have h2 : (j : Int) ∈ zbH c := List.count_pos_iff.1 (by omega)
    unfold zbH at h2
    rcases List.mem_append.1 h2 with h3 | h3
    ·obtain ⟨f, hf, he⟩ := List.mem_map.1 h3
     obtain ⟨i, hi, rfl⟩ := List.mem_iff_getElem.1 hf
     exact ⟨i, hi, j, he, .refl⟩
    ·obtain ⟨e, he, hm⟩ := List.mem_flatMap.1 h3
     obtain ⟨p, hp, rfl⟩ := List.mem_iff_getElem.1 he
     have := t2 p hp j hm
     obtain ⟨k, hk2, hj2⟩ := List.mem_iff_getElem.1 hm
     obtain ⟨i, hi, b, h4, h5⟩ := ih p (by omega) hp
     exact ⟨i, hi, b, h4, .step h5 (by unfold Kid; rw [zbK hp, List.getElem?_eq_getElem hk2, hj2])⟩
  intro j v hv
  obtain ⟨i, hi, b, h1, h2⟩ := hroot j j (Nat.le_refl _) (zoc hv)
  exact hsub i hi j b h1 h2 v hv
end Go.Proofs.Ytkdmpbhbmmhijaa
