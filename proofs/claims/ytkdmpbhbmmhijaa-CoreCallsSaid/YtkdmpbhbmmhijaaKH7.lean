import Derived.Test.YtkdmpbhbmmhijaaKP2
import Derived.Test.YtkdmpbhbmmhijaaKNum
import Derived.Test.YtkdmpbhbmmhijaaProg
import Derived.KernelRfl
import Derived.Test.YtkdmpbhbmmhijaaKH5
set_option linter.unusedSimpArgs false
set_option linter.unusedVariables false
namespace Go.Proofs.Ytkdmpbhbmmhijaa
open Go Go.Abs
set_option maxRecDepth 8000
def leB (s t : List Bool) : Prop:=∀ v : Nat,s.getD v false = true → t.getD v false = true
theorem zup (st : List Bool) (i v : Nat) (b : Bool) : (st.set i b).getD v false = if i = v ∧ v < st.length then b else st.getD v false:=by
 rw [List.getD_eq_getElem?_getD,List.getElem?_set,List.getD_eq_getElem?_getD]
 by_cases h : i = v
 ·subst h
  by_cases h2 : i < st.length
  ·simp [h2]
  ·simp [h2]
 ·simp [h]
theorem zoa (l : List Int) : ∀ st v,(zaG st l false).getD v false = true → st.getD v false = true ∧ ∀ x ∈ l,x.toNat ≠ v:=by
 induction l with
 | nil=>intro st v h; exact ⟨h,by simp⟩
 | cons a l ih=>
  intro st v h
  rw [zun] at h
  obtain ⟨h1,h2⟩:=ih _ _ h
  rw [zup] at h1
  by_cases hh : a.toNat = v ∧ v < st.length
  ·rw [if_pos hh] at h1; cases h1
  ·rw [if_neg hh] at h1
   refine ⟨h1,fun x hx=>?_⟩
   rcases List.mem_cons.1 hx with rfl | hx
   ·intro e
    refine hh ⟨e,?_⟩
    by_cases h3 : v < st.length
    ·exact h3
    ·rw [List.getD_eq_getElem?_getD,List.getElem?_eq_none (by omega)] at h1; simp at h1
   ·exact h2 x hx
theorem zod (l : List Int) : ∀ st v,(zaG st l true).getD v false = true → st.getD v false = true ∨ ∃ x ∈ l,x.toNat = v:=by
 induction l with
 | nil=>intro st v h; exact .inl h
 | cons a l ih=>
  intro st v h
  rw [zun] at h
  rcases ih _ _ h with h1 | ⟨x,hx,hv⟩
  ·rw [zup] at h1
   by_cases hh : a.toNat = v ∧ v < st.length
   ·exact .inr ⟨a,by simp,hh.1⟩
   ·rw [if_neg hh] at h1; exact .inl h1
  ·exact .inr ⟨x,by simp [hx],hv⟩
theorem zCD {s st : List Bool} {l : List Int} (h : leB s (zaG st l true)) : leB (zaG s l false) st:=by
 intro v hv
 obtain ⟨h1,h2⟩:=zoa l _ _ hv
 rcases zod l _ _ (h v h1) with h3 | ⟨x,hx,e⟩
 ·exact h3
 ·exact absurd e (h2 x hx)
theorem zDM {c : Cor} {m : Nat} (ih : ∀ i st st',zbh c m i st = some st' → leB st' st) : ∀ (bs : List (List Int)) (ks : List Int) (st st' : List Bool),zbO c m bs ks st = some st' → leB st' st:=by
 intro bs
 induction bs with
 | nil=>intro ks st st' h; rw [zbO] at h; cases h; exact fun v h=>h
 | cons b bs ihb=>
  intro ks st st' h
  cases ks with
  | nil=>rw [zbO] at h; cases h; exact fun v h=>h
  | cons k ks=>
   rw [zbO] at h
   cases hv : zbh c m k.toNat (zaG st b true) with
   | none=>rw [hv] at h; cases h
   | some s2=>
    rw [hv] at h
    exact fun v h3=>zCD (ih _ _ _ hv) v (ihb _ _ _ h v h3)
theorem zDE (c : Cor) : ∀ (m i : Nat) (st st' : List Bool),zbh c m i st = some st' → leB st' st:=by
 intro m
 induction m with
 | zero=>intro i st st' h; rw [zbh] at h; cases h
 | succ m ih=>
  intro i st st' h
  rw [zbh] at h
  split at h
  ·cases h
  ·split at h
   ·exact zDM ih _ _ _ _ h
   ·cases h
theorem zzp {n : Nat} {s : List Bool} (hl : s.length = n) (h : leB s (List.replicate n false)) : s = List.replicate n false:=by
 apply List.ext_getElem
 ·simpa using hl
 ·intro i h1 h2
  cases hs : s[i] with
  | false=>simp
  | true=>
   have h3:=h i (by simp [h1,hs])
   have h4 : (List.replicate n false).getD i false = false:=by
    rw [List.getD_eq_getElem?_getD,List.getElem?_replicate]
    split <;> rfl
   rw [h4] at h3; cases h3
theorem zn8 (c : Cor) : ∀ fs : List Cod,zcJ c fs (List.replicate c.vars.length false) = true ↔ ∀ f ∈ fs,((zbh c c.exprs.length f.body.toNat (zdp c f)).isSome = true)
 | []=>by simp [zcJ]
 | f :: fs=>by
  rw [zcJ]
  cases hv : zbh c c.exprs.length f.body.toNat (zaG (zaG (List.replicate c.vars.length false) f.params true) f.capt true) with
  | none=>simp [zdp,hv]
  | some s=>
   have hle:=zDE c _ _ _ _ hv
   have hln:=zow c _ _ _ _ hv
   have h2 : leB (zaG (zaG s f.params false) f.capt false) (List.replicate c.vars.length false):=by
    intro v hv2
    obtain ⟨h3,h4⟩:=zoa _ _ _ hv2
    obtain ⟨h5,h6⟩:=zoa _ _ _ h3
    rcases zod _ _ _ (hle v h5) with h7 | ⟨x,hx,e⟩
    ·rcases zod _ _ _ h7 with h8 | ⟨x,hx,e⟩
     ·exact h8
     ·exact absurd e (h6 x hx)
    ·exact absurd e (h4 x hx)
   have h3:=zzp (by simp at hln ⊢; exact hln) h2
   simp only []
   rw [h3,zn8 c fs]
   simp [zdp,hv]
theorem zuU (c : Cor) (m i : Nat) (st : List Bool) : (zbF c m i st).1 = true ↔ (zbh c m i st).isSome = true:=by
 rw [zDI]
 cases (zbF c m i st).1 <;> simp
theorem zAC : ∀ (n : Nat) (S : List Int),(∀ i : Nat,i < n → (i : Int) ∈ S) → n ≤ S.length:=by
 intro n
 induction n with
 | zero=>intro S _; omega
 | succ n ih=>
  intro S h
  have hm:=h n (by omega)
  have:=ih (S.erase n) (fun i hi=>(List.mem_erase_of_ne (by omega)).2 (h i (by omega)))
  rw [List.length_erase_of_mem hm] at this
  have:=List.length_pos_of_mem hm
  omega
theorem zig {n : Nat} {S : List Int} (hr : ∀ x ∈ S,0 ≤ x ∧ x < n) : (∀ v : Nat,v < n → S.count (v : Int) = 1) ↔ S.Nodup ∧ S.length = n:=by
 constructor
 ·intro h
  have hm : ∀ v : Nat,v < n → (v : Int) ∈ S:=fun v hv=>List.count_pos_iff.1 (by rw [h v hv]; omega)
  have hnd : S.Nodup:=by
   rw [List.nodup_iff_count]
   intro a
   by_cases ha : a ∈ S
   ·obtain ⟨v,rfl⟩ : ∃ v : Nat,a = v:=⟨a.toNat,by have:=hr a ha; omega⟩
    rw [h v (by have:=hr _ ha; omega)]; omega
   ·rw [List.count_eq_zero_of_not_mem ha]; omega
  exact ⟨hnd,Nat.le_antisymm (ziW n S hnd hr) (zAC n S hm)⟩
 ·rintro ⟨h1,h2⟩ v hv
  have hm:=ztH h1 hr h2 v hv
  have:=List.nodup_iff_count.1 h1 (v : Int)
  have:=List.count_pos_iff.2 hm
  omega
theorem zuR (c : Cor) : ∀ i,i ≤ c.exprs.length → (∀ j (h : j < c.exprs.length),(c.exprs[j]).op = 11 → 0 ≤ (c.exprs[j]).num ∧ (c.exprs[j]).num < c.codes.length) → zcd c i = cnt c.codes.length (zce (c.exprs.take i)):=by
 intro i
 induction i with
 | zero=>intro _ _; simp [zcd,zce,zmM]
 | succ i ih=>
  intro hi hr
  have hlt : i < c.exprs.length:=by omega
  rw [zov hlt,ih (by omega) hr,ztl hlt]
  by_cases h11 : (c.exprs[i]).op = 11
  ·obtain ⟨h1,h2⟩:=hr i hlt h11
   obtain ⟨n,hn⟩ : ∃ n : Nat,(c.exprs[i]).num = n:=⟨(c.exprs[i]).num.toNat,by omega⟩
   have hnl : n < c.codes.length:=by omega
   rw [zcK,if_pos h11,if_pos h11,hn,Int.toNat_natCast,← zmN _ hnl]
   congr 1
   rw [List.getD_eq_getElem?_getD,List.getElem?_eq_getElem (by simpa using hnl),Option.getD_some,zea]
  ·rw [zcK,if_neg h11,if_neg h11,List.append_nil]
theorem zsD {n i : Nat} (S : List Int) (h : i < n) : (cnt n S).getD i 0 = ((S.count (i : Int) : Nat) : Int):=by
 rw [List.getD_eq_getElem?_getD,List.getElem?_eq_getElem (by simpa using h),Option.getD_some,zea]
theorem lams_mem {l : List CEx} {n : Int} : n ∈ zce l ↔ ∃ e ∈ l,e.op = 11 ∧ e.num = n:=by
 simp [zce,and_assoc]
theorem znU {c : Cor} {e : CEx} (h11 : e.op = 11) (h : progRule c e = true) : ∃ n : Nat,e.num = n ∧ ∃ h : n < c.codes.length,(c.codes[n]).name = []:=by
 rw [progRule,if_pos (.inr (.inl h11)),numR] at h
 split at h
 ·cases h
 ·rename_i hn
  rw [if_neg (by omega),if_neg (by omega)] at h
  obtain ⟨n,hn'⟩ : ∃ n : Nat,e.num = n:=⟨e.num.toNat,by omega⟩
  refine ⟨n,hn',?_⟩
  rw [hn',Int.toNat_natCast] at h
  by_cases hl : n < c.codes.length
  ·rw [List.getElem?_eq_getElem hl] at h
   simp only [] at h
   rw [if_neg (by omega)] at h
   simp only [Bool.and_eq_true,beq_iff_eq] at h
   exact ⟨hl,h.1.1⟩
  ·rw [List.getElem?_eq_none (by omega)] at h; cases h
theorem zAT {c : Cor} {e : CEx} (hx : ExIn c e) (h : progRule c e = true) : ∀ k ∈ e.kids,ety c k = e.ty ∨ zaz c.data 0 (ety c k) = true:=by
 intro k hk
 have hne : e.kids ≠ []:=by intro h; rw [h] at hk; cases hk
 have hkl : e.kids.length ≠ 0:=fun h=>hne (List.eq_nil_of_length_eq_zero h)
 have hs : ∀ v,zaD e v 0 = false:=fun v=>by simp [zaD,hne]
 rw [progRule] at h
 split at h
 ·rw [numR,if_pos (.inl hkl)] at h; cases h
 ·simp only [hs,Bool.false_and] at h
  split at h
  ·cases h
  ·split at h
   ·cases h
   ·split at h
    ·cases h
    ·rw [restR] at h
     simp only [hs,Bool.false_and] at h
     split at h
     ·cases h
     ·split at h
      ·cases h
      ·split at h
       ·simp [zaD,hne] at h
       ·split at h
        ·cases h
        ·split at h
         ·cases h
         ·split at h
          ·simp [zaD,hne] at h
          ·split at h
           ·rw [parR] at h
            split at h
            ·simp only [Bool.and_eq_true,zbv,zby] at h
             obtain ⟨h1,h2,h3,h4⟩:=h
             cases hks : e.kids with
             | nil=>exact absurd hks hne
             | cons k0 l=>
              rw [hks] at hk h3 h4
              rcases List.mem_cons.1 hk with rfl | hk
              ·right
               have hb1 : inV c (e.binds.getD 1 []):=by
                rw [List.getD_eq_getElem?_getD]
                by_cases hb : 1 < e.binds.length
                ·rw [List.getElem?_eq_getElem hb]; exact hx.binds _ (List.getElem_mem hb)
                ·rw [List.getElem?_eq_none (by omega)]; intro x hx; cases hx
               have : ety c k ∈ zam c (e.binds.getD 1 []):=by rw [h3]; simp
               obtain ⟨v,hv,hv2⟩:=List.mem_map.1 this
               rw [← hv2]
               have:=hb1 v hv
               obtain ⟨n,rfl⟩ : ∃ n : Nat,v = n:=⟨v.toNat,by omega⟩
               rw [zfl (by omega)]
               exact hx.vtys _ (List.getElem_mem _)
              ·exact .inl (h4 k (by simpa using hk))
            ·left
             split at h
             ·simp only [Bool.and_eq_true,zbv] at h; exact h.2.2.2 k hk
             ·split at h
              ·simp only [Bool.and_eq_true,zbv] at h; exact h.2.2.2 k hk
              ·split at h
               ·simp only [Bool.and_eq_true,zbv] at h; exact h.2.2.2 k hk
               ·simp only [Bool.and_eq_true,zbv] at h; exact h.2.2.2.2 k hk
           ·rw [stR] at h
            simp only [hs,Bool.false_and] at h
            split at h <;> cases h
theorem zBH {c : Cor} (hk : zaP c) (h : ProgV c) (hex : ∀ i (h : i < c.exprs.length),ExIn c c.exprs[i]) : ∀ i (hi : i < c.exprs.length),zaz c.data 0 (c.exprs[i]).ty = true:=by
 intro i
 induction i using Nat.strongRecOn with
 | _ i ih=>
  intro hi
  rcases zuH h.codes h.tree i hi with ⟨f,hf,hb⟩ | ⟨j,hj,hji,hm⟩
  ·obtain ⟨k,hk,rfl⟩:=List.getElem_of_mem hf
   obtain ⟨_,_,_,hres,b,h1,h2,h3⟩:=h.codes k hk
   obtain rfl : b = i:=by omega
   rw [zbf] at h3
   rw [h3]; exact hres
  ·have:=zAT (hex j hj) (h.exprs.rule j hj) _ hm
   rw [zmW hi] at this
   rcases this with h1 | h1
   ·rw [h1]; exact ih j hji hj
   ·exact h1
theorem ztD (l : List Cod) : (nms l).Nodup ↔ ∀ i j (hi : i < l.length) (hj : j < l.length),i < j → (l[j]).name ≠ [] → (l[i]).name ≠ (l[j]).name:=by
 rw [nms,List.Nodup,List.pairwise_filter,List.pairwise_map,List.pairwise_iff_getElem]
 constructor
 ·intro h i j hi hj hij hn e
  have hn' : (!(l[j]).name.isEmpty) = true:=by simpa using hn
  exact h i j hi hj hij (by rw [e]; exact hn') hn' e
 ·intro h i j hi hj hij h1 h2 e
  exact h i j hi hj hij (by simpa using h2) e
theorem zDB (c : Cor) (hk : zaP c) : ProgV c ↔ RefV c:=by
 have hk':=hk
 obtain ⟨k1,k2,k3,⟨k4,k5⟩,k6,k7⟩:=hk'
 have hvar : zeO c = true ↔ ∀ v ∈ c.vars,zaz c.data 0 v = true:=by
  have : c.vars.length ≤ 3000:=by omega
  simp [zeO,this]
 constructor
 ·intro h
  have hex:=zmX hk h.vars h.codes h.tree h.bind (fun i hi=>zuT (zuS h.codes h.tree h.scopes i hi) hi)
  have hty:=zBH hk h hex
  have hlr : ∀ j (hj : j < c.exprs.length),(c.exprs[j]).op = 11 → 0 ≤ (c.exprs[j]).num ∧ (c.exprs[j]).num < c.codes.length:=fun j hj h11=>by
   obtain ⟨n,hn,hl,_⟩:=znU h11 (h.exprs.rule j hj)
   omega
  have huse : zcd c c.exprs.length = cnt c.codes.length (zce c.exprs):=by
   have:=zuR c c.exprs.length (Nat.le_refl _) hlr
   rwa [List.take_length] at this
  refine ⟨(zsM _).1 h.data,hvar.1 h.vars,fun i hi=>?_,?_,fun i hi=>?_,(zig h.bind.range).2 ⟨h.bind.nodup,h.bind.len⟩,(zig (zuI h.codes h.tree)).2 ⟨h.tree.nodup,h.tree.len⟩,fun i hi=>?_,fun i hi=>?_,fun i hi=>?_⟩
  ·obtain ⟨_,q1,q2,q3,q4⟩:=h.codes i hi
   obtain ⟨r1,r2⟩:=zmA h.bind _ (List.getElem_mem hi)
   refine ⟨fun hn hi1=>?_,fun hn=>(q1 hn).2.2,q2,q3,r1,r2,q4⟩
   obtain ⟨_,p1,_⟩:=h.codes (i + 1) hi1
   by_cases hh : (c.codes[i + 1]).name = []
   ·exact hh
   ·exact absurd hn ((p1 hh).1 i (by omega))
  ·rw [ztD]
   intro i j hi hj hij hn
   obtain ⟨_,p1,_⟩:=h.codes j hj
   exact (p1 hn).2.1 i hij
  ·have hx:=hex i hi
   exact ⟨fun k hk=>(h.tree.kids i hi k hk).1,hx.kids,hx.bk,hx.binds,hx.vars,fun h11=>hlr i hi h11⟩
  ·by_cases hn : (c.codes[i]).name = []
   ·rw [if_pos hn]
    have:=h.exprs.uses i hi hn
    rw [huse,zsD _ hi] at this
    omega
   ·rw [if_neg hn]
    refine List.count_eq_zero_of_not_mem fun hm=>?_
    obtain ⟨e,he,h11,hnum⟩:=lams_mem.1 hm
    obtain ⟨j,hj,rfl⟩:=List.getElem_of_mem he
    obtain ⟨n,hn1,hl,hn2⟩:=znU h11 (h.exprs.rule j hj)
    obtain rfl : n = i:=by omega
    exact hn hn2
  ·rw [zdB,hty i hi,Bool.true_and]
   exact (zuf (hex i hi) (hty i hi) (fun h11=>znU h11 (h.exprs.rule i hi))).1 (h.exprs.rule i hi)
  ·rw [zuU]
   exact (zn8 c c.codes).1 h.scopes _ (List.getElem_mem hi)
 ·intro h
  have hempty : ∀ i j (hj : j < c.codes.length) (hij : i ≤ j),(c.codes[i]).name = [] → (c.codes[j]).name = []:=by
   intro i j hj hij hn
   induction j with
   | zero => obtain rfl : i = 0 := by omega
             exact hn
   | succ j ih=>
    by_cases e : i = j + 1
    ·subst e; exact hn
    ·have:=ih (by omega) (by omega) hn
     exact (h.codes j (by omega)).order this hj
  have hcod : zds c:=fun i hi=>by
   obtain ⟨q1,q2,q3,q4,q5,q6,q7⟩:=h.codes i hi
   refine ⟨hi,fun hn=>⟨fun j hj hn2=>hn (hempty j i hi (by omega) hn2),fun j hj=>(ztD c.codes).1 h.names j i (by omega) hi hj hn,q2 hn⟩,q3,q4,q7⟩
  have htr : ∀ x ∈ zcj c,0 ≤ x ∧ x < (c.exprs.length : Int):=by
   intro x hx
   rw [zcj] at hx
   rcases List.mem_append.1 hx with h1 | h1
   ·obtain ⟨f,hf,rfl⟩:=List.mem_map.1 h1
    obtain ⟨i,hi,rfl⟩:=List.getElem_of_mem hf
    obtain ⟨b,hb,hbl,_⟩:=(h.codes i hi).body
    omega
   ·obtain ⟨e,he,hx⟩:=List.mem_flatMap.1 h1
    obtain ⟨i,hi,rfl⟩:=List.getElem_of_mem he
    exact (h.exprs i hi).range x hx
  obtain ⟨ht1,ht2⟩:=(zig htr).1 h.placed
  have htree : TreeP c:=⟨fun i hi=>(h.exprs i hi).bk,fun i hi k hk=>⟨(h.exprs i hi).kids k hk,((h.exprs i hi).range k hk).2⟩,ht1,ht2⟩
  have hbr : ∀ x ∈ zb4 c,0 ≤ x ∧ x < (c.vars.length : Int):=by
   intro x hx
   rw [zb4] at hx
   rcases List.mem_append.1 hx with h1 | h1
   ·obtain ⟨f,hf,hx⟩:=List.mem_flatMap.1 h1
    obtain ⟨i,hi,rfl⟩:=List.getElem_of_mem hf
    rcases List.mem_append.1 hx with h2 | h2
    ·exact (h.codes i hi).rp x h2
    ·exact (h.codes i hi).rc x h2
   ·obtain ⟨e,he,hx⟩:=List.mem_flatMap.1 h1
    obtain ⟨i,hi,rfl⟩:=List.getElem_of_mem he
    obtain ⟨l,hl,hx⟩:=List.mem_flatten.1 hx
    exact (h.exprs i hi).binds l hl x hx
  obtain ⟨hb1,hb2⟩:=(zig hbr).1 h.bound
  have hbind : BindP c:=⟨hbr,hb1,hb2⟩
  have hex:=zmX hk (hvar.2 h.vars) hcod htree hbind (fun i hi=>(h.exprs i hi).vars)
  have hty : ∀ i (hi : i < c.exprs.length),zaz c.data 0 (c.exprs[i]).ty = true ∧ RR c c.exprs[i] = true:=fun i hi=>by
   have:=h.rules i hi
   rw [zdB,Bool.and_eq_true] at this
   exact this
  have huse : zcd c c.exprs.length = cnt c.codes.length (zce c.exprs):=by
   have:=zuR c c.exprs.length (Nat.le_refl _) (fun j hj h11=>(h.exprs j hj).lam h11)
   rwa [List.take_length] at this
  refine ⟨(zsM _).2 h.data,hvar.2 h.vars,hcod,htree,hbind,(zn8 c c.codes).2 fun f hf=>?_,fun i hi=>?_,fun i hi hn=>?_⟩
  ·obtain ⟨i,hi,rfl⟩:=List.getElem_of_mem hf
   rw [← zuU]; exact h.scopes i hi
  ·refine (zuf (hex i hi) (hty i hi).1 (fun h11=>?_)).2 (hty i hi).2
   obtain ⟨l1,l2⟩:=(h.exprs i hi).lam h11
   refine ⟨(c.exprs[i]).num.toNat,by omega,by omega,?_⟩
   have hm:=h.made (c.exprs[i]).num.toNat (by omega)
   by_cases hn : (c.codes[(c.exprs[i]).num.toNat]'(by omega)).name = []
   ·exact hn
   ·rw [if_neg hn] at hm
    have hmem : (((c.exprs[i]).num.toNat : Nat) : Int) ∈ zce c.exprs:=lams_mem.2 ⟨_,List.getElem_mem hi,h11,by omega⟩
    have:=List.count_pos_iff.2 hmem
    omega
  ·rw [huse,zsD _ hi,h.made i hi,if_pos hn]; rfl
end Go.Proofs.Ytkdmpbhbmmhijaa
namespace Go.Proofs.Ytkdmpbhbmmhijaa
open Go Go.Abs
set_option maxRecDepth 100000
def zG4 (_ : Nat) : List Bool:=[]
noncomputable def zG5 : Code:=Try.f20.body.getD .skip
def zvV (H : zaa) (K : Kt) : Prop:=
 zaA [.snil,.snil,.snil,.snil] H fun t0 H=>
 zaL [(.int .i64 0),(.int .i64 0),.snil] [(0,1),(1,1),(2,1)] [(0,(.int .i64 1))] fun t2=>
 zaA [(.int .i64 0),(.int .i64 0),.snil] H fun t1 H=>
 zar 3 t1 t2 H fun H=>
 zae true 3 t1 H fun t3=>
 zaL [(.str []),.snil,.snil,(.int .i64 0),(.int .i64 0),.snil,(.int .i64 0)] [(0,1),(1,1),(2,1),(3,3),(6,1)] [(0,(.str [102])),(3,t3)] fun t4=>
 zav 7 [(.str []),.snil,.snil,(.int .i64 0),(.int .i64 0),.snil,(.int .i64 0)] 1 [(0,t4)] fun t5=>
 zae true 3 t1 H fun t6=>
 zaL [(.int .i64 0),(.int .i64 0),.snil,.snil,.snil,(.int .i64 0),(.int .i64 0),.snil] [(0,1),(1,1),(2,1),(3,1),(4,1),(5,3)] [(0,(.int .i64 3)),(1,(.int .i64 1)),(5,t6)] fun t7=>
 zav 8 [(.int .i64 0),(.int .i64 0),.snil,.snil,.snil,(.int .i64 0),(.int .i64 0),.snil] 1 [(0,t7)] fun t8=>
 zaL [.snil,.snil,.snil,.snil] [(0,1),(1,1),(2,1),(3,1)] [(1,t5),(3,t8)] fun t9=>
 zar 4 t0 t9 H fun H=>
 zae true 4 t0 H fun r0=>
 K r0 H
theorem zG6 {H : zaa} {K : Kt} (h : HSc H → zvV H K) : ACalls tP znm [] H K:=
 zax (M:=zG4) Try.func20 (c:=zG5) (by kernel_rfl) (fun hs=>Eq.mpr (by kernel_rfl) (h hs))
end Go.Proofs.Ytkdmpbhbmmhijaa
namespace Go.Proofs.Ytkdmpbhbmmhijaa
open Go Go.Abs
set_option maxRecDepth 8000
def zmO : List AV:=[.str [102],.sl [] .none,.sl [] .none,.int .i64 1,.int .i64 0,.sl [] .none,.int .i64 0]
def zmY (n : Int) : List AV:=[.int .i64 3,.int .i64 n,.sl [] .none,.sl [] .none,.sl [] .none,.int .i64 1,.int .i64 0,.sl [] .none]
def c1 (n : Int) : Cor:=⟨[],[⟨[102],[],[],sm 1,0⟩],[],[⟨3,n,[],[],[],sm 1⟩]⟩
theorem zzM (n : Int) : (c1 n).cs = [.sl [] .none,.sl [zmO] .none,.sl [] .none,.sl [zmY n] .none]:=rfl
theorem zzO (n : Int) : zaP (c1 n):=by
 refine ⟨⟨by simp [c1],by simp [c1]⟩,by simp [c1],by simp [c1],⟨by simp [c1],by simp [c1]⟩,?_,?_⟩
 ·intro f hf
  simp [c1] at hf
  subst hf
  exact ⟨by simp,by simp,by simp,by simp [sm,VT.nodes,VT.nodesL]⟩
 ·intro e he
  simp [c1] at he
  subst he
  exact ⟨by simp,by simp,by simp,by simp [sm,VT.nodes,VT.nodesL],by simp⟩
theorem zzL (n : Int) : zds (c1 n):=by
 intro i hi
 have h0 : i = 0:=by simp [c1] at hi; omega
 subst h0
 refine ⟨hi,fun _=>⟨fun j hj=>by omega,fun j hj=>by omega,rfl⟩,by simp [c1],by simp [c1,zaz,sm,VT.nodes,VT.nodesL,zbz,zbA,zbd],0,rfl,by simp [c1],by simp [c1,zbf]⟩
theorem zzN : ProgV (c1 1):=by
 refine ⟨rfl,rfl,zzL 1,⟨?_,?_,?_,rfl⟩,⟨?_,?_,rfl⟩,?_,?_,?_⟩
 ·intro i h
  have h0 : i = 0:=by simp [c1] at h; omega
  subst h0; rfl
 ·intro i h k hk
  have h0 : i = 0:=by simp [c1] at h; omega
  subst h0
  simp [c1] at hk
 ·simp [c1,zcj]
 ·intro x hx; simp [c1,zb4] at hx
 ·simp [c1,zb4]
 ·simp [c1,zcJ,zbh,zbO]
 ·intro i h
  have h0 : i = 0:=by simp [c1] at h; omega
  subst h0
  simp [c1,progRule,zba,zaD,zbf]
 ·intro i h hn
  have h0 : i = 0:=by simp [c1] at h; omega
  subst h0
  simp [c1] at hn
theorem zsq {a b : Bool} (h : a = true ↔ b = true) : a = b:=by cases a <;> cases b <;> simp_all
open Classical in
noncomputable def vOk (c : Cor) : Bool:=decide (ProgV c)
theorem zhk (c : Cor) : vOk c = true ↔ ProgV c:=by simp [vOk]
theorem zFx (c : Cor) (hc : zaP c) (H : zaa) (K : Kt) (hK : K (.bool (vOk c)) H) : ACalls tP ziz [.agg c.cs] H K:=
 zFA c hc H K fun b hb=>by rw [zsq (hb.trans (zhk c).symm)]; exact hK
theorem zvH (c : Cor) (hc : zaP c) (H : zaa) (K : Kt) (hK : K (.bool (vOk c)) H) : ACalls tP zg2 [.agg c.cs] H K:=
 zG3 c hc H K fun b hb=>by rw [zsq (hb.trans ((zDB c hc).symm.trans (zhk c).symm))]; exact hK
theorem zBi (H : zaa) (K : Kt) (hK : K (.agg (c1 1).cs) H) : ACalls tP znm [] H K:=by
 refine ACalls.out (zG6 fun hs=>?_)
 simp [zvV,zaL,zbD]
 rw [show ∀ k : AV → Prop,zav 7 [(.str []),.snil,.snil,(.int .i64 0),(.int .i64 0),.snil,(.int .i64 0)] 1 [(0,.agg [.str [102],.snil,.snil,.int .i64 1,.int .i64 0,.snil,.int .i64 0])] k = k (.sl [zmO] .full) from fun k=>propext Iff.rfl]
 simp
 rw [show ∀ k : AV → Prop,zav 8 [(.int .i64 0),(.int .i64 0),.snil,.snil,.snil,(.int .i64 0),(.int .i64 0),.snil] 1 [(0,.agg [.int .i64 3,.int .i64 1,.snil,.snil,.snil,.int .i64 1,.int .i64 0,.snil])] k = k (.sl [zmY 1] .full) from fun k=>propext Iff.rfl]
 simp
 rw [zzM] at hK
 exact Out.at rfl (Nat.le_refl _) hs (WkV.agg (ds:=[.sl [] .none,.sl [zmO] .none,.sl [] .none,.sl [zmY 1] .none]) ⟨.snil,.sl _ _,.snil,.sl _ _,trivial⟩) rfl (by simp [AV.scV,AV.scA,AV.scB]) hK
end Go.Proofs.Ytkdmpbhbmmhijaa
namespace Go.Proofs.Ytkdmpbhbmmhijaa
open Go Go.Abs
set_option maxRecDepth 100000
def zkc : Nat → List Bool
 | 4=>rl false [0,2,10,2,12]
 | _=>[]
noncomputable def zpn : Code:=Try.f21.body.getD .skip
noncomputable def zHc : List ResultVar:=Try.f21.results.toList
def zke (t0 t1 t12 t13 : AV) : List AV:=t0 :: t1 :: ux 10 (t12 :: t13 :: ux 12 [])
def zHa : List Bool:=zkc 4
noncomputable def zG8 : Code:=zan [1,1,0,1,0,0] zpn
def zG7 (K : Kt) : AExit → List AV → zaa → Prop:=zao tP zkc [1,1,0,1,0] zpn (zau tP zHc K)
def zvW (t0 t1 t12 t13 : AV) (H : zaa) (K : Kt) : Prop:=ALoop tP zG8 (zG7 K) (zke t0 t1 t12 t13) H
def zkd (t0 t1 t12 t13 : AV) (H : zaa) (K : Kt) (Kb4 : Lt) : Prop:=
 zad .lss false t13 t12 fun t14=>
 zag t14
 (zac H (fun K'=>K' t0 H) fun t16=>
 zac H (fun K'=>K' t13 H) fun t17=>
 zac H (fun K'=>zai 1 t16 t17 (K' · H)) fun t18=>
 zac H (fun K'=>zak false 1 t18 H (K' · H)) fun t19=>
 zac H (fun K'=>K' t1 H) fun t20=>
 zac H (fun K'=>K' t13 H) fun t21=>
 zac H (fun K'=>zai 1 t20 t21 (K' · H)) fun t22=>
 zac H (fun K'=>zak false 1 t22 H (K' · H)) fun t23=>
 zac H (fun K'=>zad .neq false t19 t23 (K' · H)) fun t24=>
 zag t24
 (K (.bool false) H)
 (zad .add false t13 (.int .i64 1) fun t25=>
 Kb4 (zke t0 t1 t12 t25) H))
 (K (.bool true) H)
def zpm (t0 t1 : AV) (H : zaa) (K : Kt) : Prop:=
 zaj 1 t0 fun t7=>
 zaj 1 t1 fun t9=>
 zad .neq false t7 t9 fun t10=>
 zag t10
 (K (.bool false) H)
 (zaj 1 t0 fun t12=>
 zvW t0 t1 t12 (.int .i64 0) H K)
theorem zG9 {t0 t1 t12 t13 : AV} {H : zaa} {K : Kt} (Inv : Nat → AV → zaa → Prop) (n : Nat) (h0 : HSc H → Inv n t13 H)
  (round : Rd1 (fun t13=>zke t0 t1 t12 t13) (fun t13=>fun H Kb4=>zkd t0 t1 t12 t13 H K Kb4) H Inv) : zvW t0 t1 t12 t13 H K:=
 lp1 (M:=zkc) zHa t13 (by kernel_rfl) Inv n h0 round
theorem zHb {t0 t1 : AV} {H : zaa} {K : Kt} (h : HSc H → zpm t0 t1 H K) : ACalls tP znn [t0,t1] H K:=
 zax (M:=zkc) Try.func21 (c:=zpn) (by kernel_rfl) (fun hs=>Eq.mpr (by kernel_rfl) (h hs))
def zdX : Nat → List Bool
 | 5=>rl false [1,1,1,1,14,3,38]
 | 10=>rl false [3,1,28,3,24]
 | 13=>rl false [3,1,2,1,25,3,5,3,16]
 | _=>[]
noncomputable def zhp : Code:=Try.f23.body.getD .skip
noncomputable def zv2 : List ResultVar:=Try.f23.results.toList
def zkh (t1 t3 t18 t19 t20 : AV) : List AV:=ux 1 (t1 :: ux 1 (t3 :: ux 14 (t18 :: t19 :: t20 :: ux 38 [])))
def zHn : List Bool:=zdX 5
noncomputable def zHi : Code:=zan [1,1,1,0,1,0,0] zhp
def zHg (K : Kt) : AExit → List AV → zaa → Prop:=zao tP zdX [1,1,1,0,1,0] zhp (zau tP zv2 K)
def zpu (t1 t3 t18 t19 t20 : AV) (H : zaa) (K : Kt) : Prop:=ALoop tP zHi (zHg K) (zkh t1 t3 t18 t19 t20) H
def zkf (t3 t32 t33 t34 : AV) : List AV:=ux 3 (t3 :: ux 28 (t32 :: t33 :: t34 :: ux 24 []))
def zv1 : List Bool:=zdX 10
noncomputable def zpr : Code:=zan [1,1,1,1,0,1,0,0] zhp
def zvY (K : Kt) : AExit → List AV → zaa → Prop:=zao tP zdX [1,1,1,1,0,1,0] zhp (zau tP zv2 K)
def zpt (t3 t32 t33 t34 : AV) (H : zaa) (K : Kt) : Prop:=ALoop tP zpr (zvY K) (zkf t3 t32 t33 t34) H
def zkg (t3 t6 t32 t33 t34 t40 t41 t42 : AV) : List AV:=ux 3 (t3 :: ux 2 (t6 :: ux 25 (t32 :: t33 :: t34 :: ux 5 (t40 :: t41 :: t42 :: ux 16 []))))
def zHm : List Bool:=zdX 13
noncomputable def zHh : Code:=zan [1,1,0,0,1,1,0,0] zpr
def zHf (K : Kt) (Kb10 : Lt) : AExit → List AV → zaa → Prop:=zao tP zdX [1,1,0,0,1,1,0] zpr (zbj zv1 Kb10 (zvY K))
def zv0 (t3 t6 t32 t33 t34 t40 t41 t42 : AV) (H : zaa) (K : Kt) (Kb10 : Lt) : Prop:=ALoop tP zHh (zHf K Kb10) (zkg t3 t6 t32 t33 t34 t40 t41 t42) H
def zvZ (t3 t6 t32 t33 t34 t40 t41 t42 : AV) (H : zaa) (K : Kt) (Kb10 : Lt) (Kb13 : Lt) : Prop:=
 zad .add false t42 (.int .i64 1) fun t56=>
 Kb13 (zkg t3 t6 t32 t33 t34 t40 t41 t56) H
def zps (t3 t6 t32 t33 t34 t40 t41 t42 : AV) (H : zaa) (K : Kt) (Kb10 : Lt) (Kb13 : Lt) : Prop:=
 zvZ t3 t6 t32 t33 t34 t40 t41 t42 H K Kb10 Kb13
def zpp (t3 t6 t32 t33 t34 t40 t41 t42 : AV) (H : zaa) (K : Kt) (Kb10 : Lt) (Kb13 : Lt) : Prop:=
 zad .lss false t42 t41 fun t43=>
 zag t43
 (zai 1 t40 t42 fun t44=>
 zae false 1 t44 H fun t45=>
 zad .gtr false t45 t6 fun t48=>
 zag t48
 (zai 1 t3 t6 fun t53=>
 zae false 1 t53 H fun t54=>
 zai 1 t3 t45 fun t55=>
 zar 1 t55 t54 H fun H=>
 zps t3 t6 t32 t33 t34 t40 t41 t42 H K Kb10 Kb13)
 (zps t3 t6 t32 t33 t34 t40 t41 t42 H K Kb10 Kb13))
 (zad .add false t34 (.int .i64 1) fun t57=>
 Kb10 (zkf t3 t32 t33 t57) H)
def zpo (t3 t32 t33 t34 : AV) (H : zaa) (K : Kt) (Kb10 : Lt) : Prop:=
 zad .lss false t34 t33 fun t35=>
 zag t35
 (zai 8 t32 t34 fun t37=>
 zae true 8 t37 H fun t38=>
 zaA [(.int .i64 0),(.int .i64 0),.snil,.snil,.snil,(.int .i64 0),(.int .i64 0),.snil] H fun t7 H=>
 zar 8 t7 t38 H fun H=>
 zaf 4 t7 fun t39=>
 zae false 1 t39 H fun t40=>
 zaj 1 t40 fun t41=>
 zv0 t3 t34 t32 t33 t34 t40 t41 (.int .i64 0) H K Kb10)
 (K t3 H)
def zpq (t1 t3 t18 t19 t20 : AV) (H : zaa) (K : Kt) (Kb5 : Lt) : Prop:=
 zad .lss false t20 t19 fun t21=>
 zag t21
 (zai 7 t18 t20 fun t23=>
 zae true 7 t23 H fun t24=>
 zaA [(.str []),.snil,.snil,(.int .i64 0),(.int .i64 0),.snil,(.int .i64 0)] H fun t5 H=>
 zar 7 t5 t24 H fun H=>
 zaf 6 t5 fun t26=>
 zae false 1 t26 H fun t27=>
 zai 1 t3 t27 fun t29=>
 zar 1 t29 t20 H fun H=>
 zad .add false t20 (.int .i64 1) fun t30=>
 Kb5 (zkh t1 t3 t18 t19 t30) H)
 (zaf 3 t1 fun t31=>
 zae false 1 t31 H fun t32=>
 zaj 1 t32 fun t33=>
 zpt t3 t32 t33 (.int .i64 0) H K)
def zvX (t0 : AV) (H : zaa) (K : Kt) : Prop:=
 zaF t0 H fun t1 H=>
 zae true 4 t1 H fun t10=>
 ACalls tP zg2 [t10] H fun t11 H=>
 aUn .not t11 fun t12=>
 zag t12
 (K .snil H)
 (zaf 3 t1 fun t13=>
 zae false 1 t13 H fun t14=>
 zaj 1 t14 fun t15=>
 zaN 8 [(.int .i64 0)] t15 t15 H fun t16 H=>
 zaf 1 t1 fun t17=>
 zae false 1 t17 H fun t18=>
 zaj 1 t18 fun t19=>
 zpu t1 t16 t18 t19 (.int .i64 0) H K)
theorem zHk {t3 t6 t32 t33 t34 t40 t41 t42 : AV} {H : zaa} {K : Kt} {Kb10 : Lt} (Inv : Nat → AV → zaa → Prop) (n : Nat) (h0 : HSc H → Inv n t42 H)
  (round : Rd1 (fun t42=>zkg t3 t6 t32 t33 t34 t40 t41 t42) (fun t42=>fun H Kb13=>zpp t3 t6 t32 t33 t34 t40 t41 t42 H K Kb10 Kb13) H Inv) : zv0 t3 t6 t32 t33 t34 t40 t41 t42 H K Kb10:=
 lp1 (M:=zdX) zHm t42 (by kernel_rfl) Inv n h0 round
theorem zHj {t3 t32 t33 t34 : AV} {H : zaa} {K : Kt} (Inv : Nat → AV → zaa → Prop) (n : Nat) (h0 : HSc H → Inv n t34 H)
  (round : Rd1 (fun t34=>zkf t3 t32 t33 t34) (fun t34=>fun H Kb10=>zpo t3 t32 t33 t34 H K Kb10) H Inv) : zpt t3 t32 t33 t34 H K:=
 lp1 (M:=zdX) zv1 t34 (by kernel_rfl) Inv n h0 round
theorem zHl {t1 t3 t18 t19 t20 : AV} {H : zaa} {K : Kt} (Inv : Nat → AV → zaa → Prop) (n : Nat) (h0 : HSc H → Inv n t20 H)
  (round : Rd1 (fun t20=>zkh t1 t3 t18 t19 t20) (fun t20=>fun H Kb5=>zpq t1 t3 t18 t19 t20 H K Kb5) H Inv) : zpu t1 t3 t18 t19 t20 H K:=
 lp1 (M:=zdX) zHn t20 (by kernel_rfl) Inv n h0 round
theorem zHo {t0 : AV} {H : zaa} {K : Kt} (h : HSc H → zvX t0 H K) : ACalls tP zno [t0] H K:=
 zax (M:=zdX) Try.func23 (c:=zhp) (by kernel_rfl) (fun hs=>Eq.mpr (by kernel_rfl) (h hs))
def zd4 : Nat → List Bool
 | 3=>rl false [1,1,1,1,11,3,35]
 | 8=>rl false [3,1,25,3,21]
 | 11=>rl false [3,1,2,1,22,3,5,3,13]
 | _=>[]
noncomputable def zhN : Code:=Try.f56.body.getD .skip
noncomputable def zxA : List ResultVar:=Try.f56.results.toList
def zlg (t1 t3 t15 t16 t17 : AV) : List AV:=ux 1 (t1 :: ux 1 (t3 :: ux 11 (t15 :: t16 :: t17 :: ux 35 [])))
def zK9 : List Bool:=zd4 3
noncomputable def zK4 : Code:=zan [1,1,0,1,0,0] zhN
def zK2 (K : Kt) : AExit → List AV → zaa → Prop:=zao tP zd4 [1,1,0,1,0] zhN (zau tP zxA K)
def zqD (t1 t3 t15 t16 t17 : AV) (H : zaa) (K : Kt) : Prop:=ALoop tP zK4 (zK2 K) (zlg t1 t3 t15 t16 t17) H
def zlh (t3 t29 t30 t31 : AV) : List AV:=ux 3 (t3 :: ux 25 (t29 :: t30 :: t31 :: ux 21 []))
def zxz : List Bool:=zd4 8
noncomputable def zqC : Code:=zan [1,1,1,0,1,0,0] zhN
def zxx (K : Kt) : AExit → List AV → zaa → Prop:=zao tP zd4 [1,1,1,0,1,0] zhN (zau tP zxA K)
def zqE (t3 t29 t30 t31 : AV) (H : zaa) (K : Kt) : Prop:=ALoop tP zqC (zxx K) (zlh t3 t29 t30 t31) H
def zlf (t3 t6 t29 t30 t31 t37 t38 t39 : AV) : List AV:=ux 3 (t3 :: ux 2 (t6 :: ux 22 (t29 :: t30 :: t31 :: ux 5 (t37 :: t38 :: t39 :: ux 13 []))))
def zK8 : List Bool:=zd4 11
noncomputable def zK3 : Code:=zan [1,1,0,0,1,1,0,0] zqC
def zK1 (K : Kt) (Kb8 : Lt) : AExit → List AV → zaa → Prop:=zao tP zd4 [1,1,0,0,1,1,0] zqC (zbj zxz Kb8 (zxx K))
def zxy (t3 t6 t29 t30 t31 t37 t38 t39 : AV) (H : zaa) (K : Kt) (Kb8 : Lt) : Prop:=ALoop tP zK3 (zK1 K Kb8) (zlf t3 t6 t29 t30 t31 t37 t38 t39) H
def zqz (t3 t6 t29 t30 t31 t37 t38 t39 : AV) (H : zaa) (K : Kt) (Kb8 : Lt) (Kb11 : Lt) : Prop:=
 zad .lss false t39 t38 fun t40=>
 zag t40
 (zai 1 t37 t39 fun t41=>
 zae false 1 t41 H fun t42=>
 zai 1 t3 t6 fun t47=>
 zae false 1 t47 H fun t48=>
 zai 1 t3 t42 fun t49=>
 zar 1 t49 t48 H fun H=>
 zad .add false t39 (.int .i64 1) fun t50=>
 Kb11 (zlf t3 t6 t29 t30 t31 t37 t38 t50) H)
 (zad .add false t31 (.int .i64 1) fun t51=>
 Kb8 (zlh t3 t29 t30 t51) H)
def zqB (t3 t29 t30 t31 : AV) (H : zaa) (K : Kt) (Kb8 : Lt) : Prop:=
 zad .lss false t31 t30 fun t32=>
 zag t32
 (zai 8 t29 t31 fun t34=>
 zae true 8 t34 H fun t35=>
 zaA [(.int .i64 0),(.int .i64 0),.snil,.snil,.snil,(.int .i64 0),(.int .i64 0),.snil] H fun t7 H=>
 zar 8 t7 t35 H fun H=>
 zaf 4 t7 fun t36=>
 zae false 1 t36 H fun t37=>
 zaj 1 t37 fun t38=>
 zxy t3 t31 t29 t30 t31 t37 t38 (.int .i64 0) H K Kb8)
 (K t3 H)
def zqA (t1 t3 t15 t16 t17 : AV) (H : zaa) (K : Kt) (Kb3 : Lt) : Prop:=
 zad .lss false t17 t16 fun t18=>
 zag t18
 (zai 7 t15 t17 fun t20=>
 zae true 7 t20 H fun t21=>
 zaA [(.str []),.snil,.snil,(.int .i64 0),(.int .i64 0),.snil,(.int .i64 0)] H fun t5 H=>
 zar 7 t5 t21 H fun H=>
 zaf 6 t5 fun t23=>
 zae false 1 t23 H fun t24=>
 zai 1 t3 t24 fun t26=>
 zar 1 t26 t17 H fun H=>
 zad .add false t17 (.int .i64 1) fun t27=>
 Kb3 (zlg t1 t3 t15 t16 t27) H)
 (zaf 3 t1 fun t28=>
 zae false 1 t28 H fun t29=>
 zaj 1 t29 fun t30=>
 zqE t3 t29 t30 (.int .i64 0) H K)
def zxw (t0 : AV) (H : zaa) (K : Kt) : Prop:=
 zaF t0 H fun t1 H=>
 zaf 3 t1 fun t10=>
 zae false 1 t10 H fun t11=>
 zaj 1 t11 fun t12=>
 zaN 8 [(.int .i64 0)] t12 t12 H fun t13 H=>
 zaf 1 t1 fun t14=>
 zae false 1 t14 H fun t15=>
 zaj 1 t15 fun t16=>
 zqD t1 t13 t15 t16 (.int .i64 0) H K
theorem zK5 {t3 t6 t29 t30 t31 t37 t38 t39 : AV} {H : zaa} {K : Kt} {Kb8 : Lt} (Inv : Nat → AV → zaa → Prop) (n : Nat) (h0 : HSc H → Inv n t39 H)
  (round : Rd1 (fun t39=>zlf t3 t6 t29 t30 t31 t37 t38 t39) (fun t39=>fun H Kb11=>zqz t3 t6 t29 t30 t31 t37 t38 t39 H K Kb8 Kb11) H Inv) : zxy t3 t6 t29 t30 t31 t37 t38 t39 H K Kb8:=
 lp1 (M:=zd4) zK8 t39 (by kernel_rfl) Inv n h0 round
theorem zK7 {t3 t29 t30 t31 : AV} {H : zaa} {K : Kt} (Inv : Nat → AV → zaa → Prop) (n : Nat) (h0 : HSc H → Inv n t31 H)
  (round : Rd1 (fun t31=>zlh t3 t29 t30 t31) (fun t31=>fun H Kb8=>zqB t3 t29 t30 t31 H K Kb8) H Inv) : zqE t3 t29 t30 t31 H K:=
 lp1 (M:=zd4) zxz t31 (by kernel_rfl) Inv n h0 round
theorem zK6 {t1 t3 t15 t16 t17 : AV} {H : zaa} {K : Kt} (Inv : Nat → AV → zaa → Prop) (n : Nat) (h0 : HSc H → Inv n t17 H)
  (round : Rd1 (fun t17=>zlg t1 t3 t15 t16 t17) (fun t17=>fun H Kb3=>zqA t1 t3 t15 t16 t17 H K Kb3) H Inv) : zqD t1 t3 t15 t16 t17 H K:=
 lp1 (M:=zd4) zK9 t17 (by kernel_rfl) Inv n h0 round
theorem zLa {t0 : AV} {H : zaa} {K : Kt} (h : HSc H → zxw t0 H K) : ACalls tP znB [t0] H K:=
 zax (M:=zd4) Try.func56 (c:=zhN) (by kernel_rfl) (fun hs=>Eq.mpr (by kernel_rfl) (h hs))
def zli : Nat → List Bool
 | 1=>rl false [0,1,1,1,5,3,8]
 | _=>[]
noncomputable def zqG : Code:=Try.f57.body.getD .skip
noncomputable def zLh : List ResultVar:=Try.f57.results.toList
def zlj (t0 t2 t8 t9 t10 : AV) : List AV:=t0 :: ux 1 (t2 :: ux 5 (t8 :: t9 :: t10 :: ux 8 []))
def zLf : List Bool:=zli 1
noncomputable def zLd : Code:=zan [1,0,0] zqG
def zLc (K : Kt) : AExit → List AV → zaa → Prop:=zao tP zli [1,0] zqG (zau tP zLh K)
def zxC (t0 t2 t8 t9 t10 : AV) (H : zaa) (K : Kt) : Prop:=ALoop tP zLd (zLc K) (zlj t0 t2 t8 t9 t10) H
def zqF (t0 t2 t8 t9 t10 : AV) (H : zaa) (K : Kt) (Kb1 : Lt) : Prop:=
 zad .lss false t10 t9 fun t11=>
 zag t11
 (zai 1 t8 t10 fun t12=>
 zae false 1 t12 H fun t13=>
 zai 1 t0 t13 fun t17=>
 zar 1 t17 t2 H fun H=>
 zad .add false t10 (.int .i64 1) fun t18=>
 Kb1 (zlj t0 t2 t8 t9 t18) H)
 (za6 [] (K · H))
def zxB (t0 t1 t2 : AV) (H : zaa) (K : Kt) : Prop:=
 zaj 1 t1 fun t9=>
 zxC t0 t2 t1 t9 (.int .i64 0) H K
theorem zLe {t0 t2 t8 t9 t10 : AV} {H : zaa} {K : Kt} (Inv : Nat → AV → zaa → Prop) (n : Nat) (h0 : HSc H → Inv n t10 H)
  (round : Rd1 (fun t10=>zlj t0 t2 t8 t9 t10) (fun t10=>fun H Kb1=>zqF t0 t2 t8 t9 t10 H K Kb1) H Inv) : zxC t0 t2 t8 t9 t10 H K:=
 lp1 (M:=zli) zLf t10 (by kernel_rfl) Inv n h0 round
theorem zLg {t0 t1 t2 : AV} {H : zaa} {K : Kt} (h : HSc H → zxB t0 t1 t2 H K) : ACalls tP znC [t0,t1,t2] H K:=
 zax (M:=zli) Try.func57 (c:=zqG) (by kernel_rfl) (fun hs=>Eq.mpr (by kernel_rfl) (h hs))
def zlk : Nat → List Bool
 | 3=>rl false [3,1,2,3,11]
 | _=>[]
noncomputable def zqH : Code:=Try.f58.body.getD .skip
noncomputable def zLn : List ResultVar:=Try.f58.results.toList
def zhO (t3 t6 t7 t8 : AV) : List AV:=ux 3 (t3 :: ux 2 (t6 :: t7 :: t8 :: ux 11 []))
def zLl : List Bool:=zlk 3
noncomputable def zLj : Code:=zan [1,1,0,1,0,0] zqH
def zLi (K : Kt) : AExit → List AV → zaa → Prop:=zao tP zlk [1,1,0,1,0] zqH (zau tP zLn K)
def zln (t3 t6 t7 t8 : AV) (H : zaa) (K : Kt) : Prop:=ALoop tP zLj (zLi K) (zhO t3 t6 t7 t8) H
def zqI (t3 t6 t7 t8 : AV) (H : zaa) (K : Kt) (Kb3 : Lt) : Prop:=
 zad .add false t8 (.int .i64 1) fun t18=>
 Kb3 (zhO t3 t6 t7 t18) H
def zlm (t3 t6 t7 t8 : AV) (H : zaa) (K : Kt) (Kb3 : Lt) : Prop:=
 zqI t3 t6 t7 t8 H K Kb3
def zll (t3 t6 t7 t8 : AV) (H : zaa) (K : Kt) (Kb3 : Lt) : Prop:=
 zad .lss false t8 t7 fun t9=>
 zag t9
 (zai 1 t6 t8 fun t11=>
 zae false 1 t11 H fun t12=>
 zag t12
 (zav 1 [(.int .i64 0)] 1 [(0,t8)] fun t16=>
 zaC zaQ 1 8 t3 t16 H fun t17 H=>
 zlm t17 t6 t7 t8 H K Kb3)
 (zlm t3 t6 t7 t8 H K Kb3))
 (K t3 H)
def zxD (t0 : AV) (H : zaa) (K : Kt) : Prop:=
 zaj 1 t0 fun t7=>
 zln .snil t0 t7 (.int .i64 0) H K
theorem zLk {t3 t6 t7 t8 : AV} {H : zaa} {K : Kt} (Inv : Nat → AV → AV → zaa → Prop) (n : Nat) (h0 : HSc H → Inv n t3 t8 H)
  (round : Rd2 (fun t3=>fun t8=>zhO t3 t6 t7 t8) (fun t3=>fun t8=>fun H Kb3=>zll t3 t6 t7 t8 H K Kb3) H Inv) : zln t3 t6 t7 t8 H K:=
 lp2 (M:=zlk) zLl t3 t8 (by kernel_rfl) Inv n h0 round
theorem zLm {t0 : AV} {H : zaa} {K : Kt} (h : HSc H → zxD t0 H K) : ACalls tP ziL [t0] H K:=
 zax (M:=zlk) Try.func58 (c:=zqH) (by kernel_rfl) (fun hs=>Eq.mpr (by kernel_rfl) (h hs))
def zlo : Nat → List Bool
 | 3=>rl false [0,1,2,1,2,2,12]
 | _=>[]
noncomputable def zqJ : Code:=Try.f60.body.getD .skip
noncomputable def zLt : List ResultVar:=Try.f60.results.toList
def zhP (t0 t3 t6 t7 : AV) : List AV:=t0 :: ux 2 (t3 :: ux 2 (t6 :: t7 :: ux 12 []))
def zLr : List Bool:=zlo 3
noncomputable def zLp : Code:=zan [1,1,0,1,0,0] zqJ
def zLo (K : Kt) : AExit → List AV → zaa → Prop:=zao tP zlo [1,1,0,1,0] zqJ (zau tP zLt K)
def zlr (t0 t3 t6 t7 : AV) (H : zaa) (K : Kt) : Prop:=ALoop tP zLp (zLo K) (zhP t0 t3 t6 t7) H
def zqK (t0 t3 t6 t7 : AV) (H : zaa) (K : Kt) (Kb3 : Lt) : Prop:=
 zad .add false t7 (.int .i64 1) fun t18=>
 Kb3 (zhP t0 t3 t6 t18) H
def zlq (t0 t3 t6 t7 : AV) (H : zaa) (K : Kt) (Kb3 : Lt) : Prop:=
 zqK t0 t3 t6 t7 H K Kb3
def zlp (t0 t3 t6 t7 : AV) (H : zaa) (K : Kt) (Kb3 : Lt) : Prop:=
 zad .lss false t7 t6 fun t8=>
 zag t8
 (zai 1 t0 t7 fun t12=>
 zae false 1 t12 H fun t13=>
 zag t13
 (zav 1 [(.int .i64 0)] 1 [(0,t7)] fun t16=>
 zaC zaQ 1 8 t3 t16 H fun t17 H=>
 zlq t0 t17 t6 t7 H K Kb3)
 (zlq t0 t3 t6 t7 H K Kb3))
 (K t3 H)
def zxF (t0 : AV) (H : zaa) (K : Kt) : Prop:=
 zaj 1 t0 fun t6=>
 zlr t0 .snil t6 (.int .i64 0) H K
theorem zLq {t0 t3 t6 t7 : AV} {H : zaa} {K : Kt} (Inv : Nat → AV → AV → zaa → Prop) (n : Nat) (h0 : HSc H → Inv n t3 t7 H)
  (round : Rd2 (fun t3=>fun t7=>zhP t0 t3 t6 t7) (fun t3=>fun t7=>fun H Kb3=>zlp t0 t3 t6 t7 H K Kb3) H Inv) : zlr t0 t3 t6 t7 H K:=
 lp2 (M:=zlo) zLr t3 t7 (by kernel_rfl) Inv n h0 round
theorem zLs {t0 : AV} {H : zaa} {K : Kt} (h : HSc H → zxF t0 H K) : ACalls tP znD [t0] H K:=
 zax (M:=zlo) Try.func60 (c:=zqJ) (by kernel_rfl) (fun hs=>Eq.mpr (by kernel_rfl) (h hs))
end Go.Proofs.Ytkdmpbhbmmhijaa
namespace Go.Proofs.Ytkdmpbhbmmhijaa
open Go Go.Abs
set_option maxRecDepth 8000
theorem zBI {H : zaa} {id n : Nat} {l : List Int} {st : List Bool} {b : Bool} (hid : H[id]? = some (boB st)) (hst : st.length = n) (hl : l.length ≤ 1000000) (hr : ∀ x ∈ l,0 ≤ x ∧ x < (n : Int)) (K : Kt)
  (hK : K (.tup []) (H.set id (boB (zaG st l b)))) : ACalls tP znC [.ms id 0 n n,.sl (ints l) .none,.bool b] H K:=by
 refine zLg fun hs=>?_
 have hil:=zb0 hid
 simp [zxB]
 refine zLe (Inv:=fun q t10 H'=>∃ j : Nat,j ≤ l.length ∧ q = l.length - j ∧ t10 = .int .i64 j ∧ H' = H.set id (boB (zaG st (l.take j) b))) l.length ?_ ?_
 ·intro _; exact ⟨0,by omega,by omega,rfl,by simp [zaG,zel hid]⟩
 ·rintro q t10 H' ⟨j,hj,rfl,rfl,rfl⟩ hsc hlen hsF Kb hKb
  have hg : ∀ st,(H.set id (boB st))[id]? = some (.cells (zas st)):=fun us=>by rw [zc8 _ hid]; rfl
  by_cases hjl : j < l.length
  ·have hrr:=hr _ (List.getElem_mem hjl)
   obtain ⟨e,he⟩ : ∃ e : Nat,l[j] = e:=⟨(l[j]).toNat,by omega⟩
   have hen : e < n:=by omega
   have hnx : zaG st (l.take (j + 1)) b = (zaG st (l.take j) b).set e b:=by rw [zbX hjl,zoc,he]; rfl
   have hsl : (zaG st (l.take j) b).length = n:=by rw [zob,hst]
   generalize zaG st (l.take j) b = st1 at *
   simp [zqF,hjl,he,hen,hg,hsl]
   rw [zaq (by omega) (by omega),zcy (by omega)]
   refine ⟨by omega,hKb _ _ ⟨l.length - (j + 1),by omega,Back.here (by simp) (hs.set (by simp [AB.sc,zck])) ?_ ⟨_,rfl,j + 1,by omega,rfl,by simp,by rw [hnx]; rfl⟩⟩⟩
   simp [zlj,AV.sc,AV.scV,AV.scA,AV.scB]; omega
  ·obtain rfl : j = l.length:=by omega
   rw [List.take_length] at *
   simp [zqF]
   simpa [za6] using hK
def mem (st : List Bool) : List Int:=((List.range st.length).filter fun i=>st.getD i false).map fun (i : Nat)=>(i : Int)
def zcD (st : List Bool) (k : Nat) : List Int:=((List.range k).filter fun i=>st.getD i false).map fun (i : Nat)=>(i : Int)
theorem ztw (st : List Bool) (k : Nat) : zcD st (k + 1) = zcD st k ++ (if st.getD k false = true then [(k : Int)] else []):=by
 rw [zcD,List.range_succ,List.filter_append,List.map_append,zcD]
 cases h : st.getD k false with
 | false=>
  have h' : st[k]?.getD false = false:=by simpa using h
  simp [List.filter_cons,h']
 | true=>
  have h' : st[k]?.getD false = true:=by simpa using h
  simp [List.filter_cons,h']
theorem ztv (st : List Bool) (k : Nat) : (zcD st k).length ≤ k:=by
 rw [zcD,List.length_map]
 exact Nat.le_trans (List.length_filter_le _ _) (by simp)
theorem zxE {H : zaa} {id n : Nat} {st : List Bool} (hid : H[id]? = some (boB st)) (hst : st.length = n) (hn : n ≤ 1000000) (K : Kt) (hK : K (.sl (ints (mem st)) .none) H) : ACalls tP ziL [.ms id 0 n n] H K:=by
 refine ACalls.out (zLm fun hs=>?_)
 have hil:=zb0 hid
 have hgJ : ∀ J,(H ++ J)[id]? = some (.cells (zas st)):=fun J=>zaO hid
 subst hst
 simp [zxD]
 unfold zln
 refine ALoop.own 3 zaQ 1 rfl ?_
 show zln (.sl [] (.own H.length)) (.ms id 0 st.length st.length) (.int .i64 st.length) (.int .i64 0) (H ++ [.perm zaQ 1 0]) (Out H.length K)
 refine zLk (Inv:=fun q t3 tI H'=>∃ i : Nat,i ≤ st.length ∧ q = st.length - i ∧ tI = .int .i64 i ∧ t3 = .sl (ints (zcD st i)) (.own H.length) ∧ H' = H ++ [.perm zaQ 1 (zcD st i).length]) st.length ?_ ?_
 ·intro _; exact ⟨0,by omega,by omega,rfl,by simp [zcD,ints],by simp [zcD]⟩
 rintro q t3 tI H' ⟨i,hi,rfl,rfl,rfl,rfl⟩ hsc hlen hsF Kb hKb
 have hml:=ztv st i
 by_cases hlt : i < st.length
 ·have hsu:=ztw st i
  have hgd : st.getD i false = st[i]:=by rw [List.getD_eq_getElem?_getD,List.getElem?_eq_getElem hlt]; rfl
  rw [hgd] at hsu
  have back : ∀ l,zcD st (i + 1) = l → Kb (zhO (.sl (ints l) (.own H.length)) (.ms id 0 st.length st.length) (.int .i64 st.length) (.int .i64 ((i : Int) + 1))) (H ++ [.perm zaQ 1 l.length]):=fun l h=>by
   subst h
   refine hKb _ _ ⟨st.length - (i + 1),by omega,Back.here (by simp) (hs.append rfl) ?_ ⟨_,_,rfl,i + 1,by omega,rfl,by simp,rfl,rfl⟩⟩
   simp [zhO,AV.sc,AV.scV,AV.scA,AV.scB]; omega
  cases hb : st[i] with
  | false=>
   rw [hb,if_neg (by simp),List.append_nil] at hsu
   have:=back _ hsu
   simp [zll,zlm,zqI,hlt,hgJ,zaS,hb]
   rw [zaq (by omega) (by omega)]
   exact this
  | true=>
   rw [hb,if_pos rfl] at hsu
   have:=back _ hsu
   simp [zll,zlm,zqI,hlt,hgJ,zaS,hb]
   rw [show ∀ k : AV → Prop,zav 1 [.int .i64 0] 1 [(0,.int .i64 (i : Int))] k = k (.sl [[.int .i64 (i : Int)]] .full) from fun k=>propext Iff.rfl]
   simp [zaC,zbq,za8]
   refine ⟨⟨by omega,by omega⟩,?_⟩
   rw [zaq (by omega) (by omega)]
   simpa [ints] using this
 ·obtain rfl : i = st.length:=by omega
  simp [zll]
  exact Out.one hs (.atom (.sl _ _)) rfl rfl hK
theorem zLu {H : zaa} {id n : Nat} {st : List Bool} (hid : H[id]? = some (boB st)) (hst : st.length = n) (hn : n ≤ 1000000) (K : Kt) (hK : K (.sl (ints (mem st)) .none) H) : ACalls tP znD [.ms id 0 n n] H K:=by
 refine ACalls.out (zLs fun hs=>?_)
 have hil:=zb0 hid
 have hgJ : ∀ J,(H ++ J)[id]? = some (.cells (zas st)):=fun J=>zaO hid
 subst hst
 simp [zxF]
 unfold zlr
 refine ALoop.own 3 zaQ 1 rfl ?_
 show zlr (.ms id 0 st.length st.length) (.sl [] (.own H.length)) (.int .i64 st.length) (.int .i64 0) (H ++ [.perm zaQ 1 0]) (Out H.length K)
 refine zLq (Inv:=fun q t3 tI H'=>∃ i : Nat,i ≤ st.length ∧ q = st.length - i ∧ tI = .int .i64 i ∧ t3 = .sl (ints (zcD st i)) (.own H.length) ∧ H' = H ++ [.perm zaQ 1 (zcD st i).length]) st.length ?_ ?_
 ·intro _; exact ⟨0,by omega,by omega,rfl,by simp [zcD,ints],by simp [zcD]⟩
 rintro q t3 tI H' ⟨i,hi,rfl,rfl,rfl,rfl⟩ hsc hlen hsF Kb hKb
 have hml:=ztv st i
 by_cases hlt : i < st.length
 ·have hsu:=ztw st i
  have hgd : st.getD i false = st[i]:=by rw [List.getD_eq_getElem?_getD,List.getElem?_eq_getElem hlt]; rfl
  rw [hgd] at hsu
  have back : ∀ l,zcD st (i + 1) = l → Kb (zhP (.ms id 0 st.length st.length) (.sl (ints l) (.own H.length)) (.int .i64 st.length) (.int .i64 ((i : Int) + 1))) (H ++ [.perm zaQ 1 l.length]):=fun l h=>by
   subst h
   refine hKb _ _ ⟨st.length - (i + 1),by omega,Back.here (by simp) (hs.append rfl) ?_ ⟨_,_,rfl,i + 1,by omega,rfl,by simp,rfl,rfl⟩⟩
   simp [zhP,AV.sc,AV.scV,AV.scA,AV.scB]; omega
  cases hb : st[i] with
  | false=>
   rw [hb,if_neg (by simp),List.append_nil] at hsu
   have:=back _ hsu
   simp [zlp,zlq,zqK,hlt,hgJ,zaS,hb]
   rw [zaq (by omega) (by omega)]
   exact this
  | true=>
   rw [hb,if_pos rfl] at hsu
   have:=back _ hsu
   simp [zlp,zlq,zqK,hlt,hgJ,zaS,hb]
   rw [show ∀ k : AV → Prop,zav 1 [.int .i64 0] 1 [(0,.int .i64 (i : Int))] k = k (.sl [[.int .i64 (i : Int)]] .full) from fun k=>propext Iff.rfl]
   simp [zaC,zbq,za8]
   refine ⟨⟨by omega,by omega⟩,?_⟩
   rw [zaq (by omega) (by omega)]
   simpa [ints] using this
 ·obtain rfl : i = st.length:=by omega
  simp [zlp]
  exact Out.one hs (.atom (.sl _ _)) rfl rfl hK
theorem zy9 (x y : List Int) (hl : x.length ≤ 1000000) (H : zaa) (K : Kt) (hK : K (.bool (x == y)) H) : ACalls tP znn [.sl (ints x) .none,.sl (ints y) .none] H K:=by
 refine ACalls.out (zHb fun hs=>?_)
 have hO : ∀ r,(x == y) = r → Out H.length K (.bool r) H:=fun r h=>by
  have:=Out.bool (H2:=H) (J:=[]) (n:=H.length) (H':=H) (b:=(x == y)) (by simp) (Nat.le_refl _) hs hK
  rwa [h] at this
 by_cases hxy : x.length = y.length
 ·have h1 : ((x.length : Int) != y.length) = false:=by simp [hxy]
  simp [zpm,h1]
  refine zG9 (Inv:=fun q t13 H'=>∃ i : Nat,i ≤ x.length ∧ q = x.length - i ∧ t13 = .int .i64 i ∧ (x.drop i == y.drop i) = (x == y) ∧ H' = H) x.length ?_ ?_
  ·intro _; exact ⟨0,by omega,by omega,rfl,by simp,rfl⟩
  rintro q t13 H' ⟨i,hi,rfl,rfl,ho,rfl⟩ hsc hlen hsF Kb hKb
  by_cases hlt : i < x.length
  ·have hlt' : i < y.length:=by omega
   rw [List.drop_eq_getElem_cons hlt,List.drop_eq_getElem_cons hlt',List.cons_beq_cons] at ho
   by_cases he : x[i] = y[i]
   ·rw [he,beq_self_eq_true,Bool.true_and] at ho
    simp [zkd,hlt,hlt',he]
    rw [zaq (by omega) (by omega)]
    refine hKb _ _ ⟨x.length - (i + 1),by omega,Back.here (Nat.le_refl _) hsc ?_ ⟨_,rfl,i + 1,by omega,rfl,by simp,ho,rfl⟩⟩
    simp [zke,AV.sc,AV.scV,AV.scA,AV.scB]
   ·rw [nb he,Bool.false_and] at ho
    simp [zkd,hlt,hlt',nbt he]
    exact hO _ ho.symm
  ·obtain rfl : i = x.length:=by omega
   rw [List.drop_length,hxy,List.drop_length] at ho
   simp [zkd]
   exact hO _ (by rw [← ho]; rfl)
 ·have h1 : ((x.length : Int) != y.length) = true:=nbt (by omega)
  simp [zpm,h1]
  refine hO _ ?_
  rw [beq_eq_false_iff_ne]
  intro h; exact hxy (by rw [h])
def ownC : List Cod → Nat → List Int → List Int
 | [],_,st=>st
 | f :: l,i,st=>ownC l (i + 1) (st.set f.body.toNat i)
def zdm (i : Nat) : List Int → List Int → List Int
 | [],st=>st
 | k :: l,st=>zdm i l (st.set k.toNat (st.getD i 0))
def zcu : List CEx → Nat → List Int → List Int
 | [],_,st=>st
 | e :: l,i,st=>zcu l (i + 1) (zdm i e.kids st)
def zaW (c : Cor) : List Int:=zcu c.exprs 0 (ownC c.codes 0 (List.replicate c.exprs.length 0))
noncomputable def zi0 (c : Cor) : List Int:=if vOk c = true then zaW c else []
theorem zBG (l : List Int) : zbn (l.map fun n=>AV.int .i64 n) = some (l.map fun n=>AV.int .i64 n):=by
 induction l with
 | nil=>rfl
 | cons a l ih=>rw [List.map_cons,zbn,ih]; rfl
theorem zAQ (l : List Int) : (ints l).flatten = l.map fun n=>AV.int .i64 n:=by
 induction l with
 | nil=>rfl
 | cons a l ih=>simp [ints] at ih ⊢; exact ih
theorem ztQ {H : zaa} {K : Kt} {st : List Int} {n : Nat} {X : AB} (hs : HSc H) (hn : st.length = n) (hK : K (.sl (ints st) .none) H) : Out H.length K (.ms (H.length + 1) 0 n n) (H ++ [X,usB st]):=by
 subst hn
 refine ⟨_,H,_,rfl,Nat.le_refl _,hs,.one (.frz (H.length + 1) 0 _ _ 1 (st.map fun n=>.int .i64 n) (ints st) (by omega) (by simp [usB]) (by simp) ?_ (by simp) (by simp [ints]) (Nat.le_refl _)),hK⟩
 rw [List.drop_zero,List.take_of_length_le (by simp),zBG]
 rw [zAQ]
structure BodP (c : Cor) : Prop where
 body : ∀ i (h : i < c.codes.length),∃ b : Nat,(c.codes[i]).body = b ∧ b < c.exprs.length
 kids : ∀ i (h : i < c.exprs.length),∀ k ∈ (c.exprs[i]).kids,(i : Int) < k ∧ k < c.exprs.length
theorem zso {c : Cor} (h : vOk c = true) : BodP c:=by
 have h:=(zhk c).1 h
 exact ⟨fun i hi=>by obtain ⟨_,_,_,_,b,h1,h2,_⟩:=h.codes i hi; exact ⟨b,h1,h2⟩,h.tree.kids⟩
theorem zuQ {st : List Int} {i : Nat} (h : i < st.length) (k : AV → Prop) : zaS false 1 i (st.map fun n=>AV.int .i64 n) k = k (.int .i64 st[i]):=zaK 1 (zeN h)
theorem zK0 {c : Cor} (hk : zaP c) (hp : BodP c) {H : zaa} (hs : HSc H) (R : List Int) (K : Kt) (hK : K (.sl (ints R) .none) H) {st : List Int} (hst : st.length = c.exprs.length) (hR : zcu c.exprs 0 st = R) :
  zqE (.ms (H.length + 1) 0 c.exprs.length c.exprs.length) (.sl (c.exprs.map CEx.cs) .none) (.int .i64 c.exprs.length) (.int .i64 0) (H ++ [.cells c.cs,usB st]) (Out H.length K):=by
 obtain ⟨k1,k2,k3,⟨k4,k5⟩,k6,k7⟩:=hk
 have hsX : ∀ st,HSc (H ++ [.cells c.cs,usB st]):=fun st=>hs.append (by simp [AB.sc,Cor.cs,usB,AV.scA,AV.scB])
 refine zK7 (Inv:=fun q tI H'=>∃ (i : Nat) (st : List Int),i ≤ c.exprs.length ∧ q = c.exprs.length - i ∧ tI = .int .i64 i ∧ st.length = c.exprs.length ∧ zcu (c.exprs.drop i) i st = R ∧ H' = H ++ [.cells c.cs,usB st]) c.exprs.length ?_ ?_
 ·intro _; exact ⟨0,st,by omega,by omega,rfl,hst,hR,rfl⟩
 rintro q tI H' ⟨i,st,hi,rfl,rfl,hs1,ho,rfl⟩ hsc hlen hsF Kb hKb
 by_cases hlt : i < c.exprs.length
 ·obtain ⟨x,y,z,hvv,hx,hy,hz,hce⟩:=zdw hlt
  have hkd:=hp.kids i hlt
  obtain ⟨_,_,kk,_⟩:=k7 _ (List.getElem_mem hlt)
  rw [List.drop_eq_getElem_cons hlt,zcu] at ho
  have hvs:=VT.cs_scA (c.exprs[i]).ty (H.length + 3)
  rw [hvv] at hvs
  simp at hvs
  generalize hE : c.exprs[i] = E at *
  simp [zqB,hlt,hE,hce,hx,hy,hz]
  have hsY : ∀ st,HSc (H ++ [.cells c.cs,usB st,.cells [.int .i64 E.op,.int .i64 E.num,.sl (ints E.vars) .none,.sl (rows E.binds) .none,.sl (ints E.kids) .none,x,y,z]]):=fun st=>hs.append (by simp [AB.sc,Cor.cs,usB,AV.scA,AV.scB] at hvs ⊢; exact hvs)
  refine zK5 (Inv:=fun q tJ H'=>∃ (j : Nat) (st : List Int),j ≤ E.kids.length ∧ q = E.kids.length - j ∧ tJ = .int .i64 j ∧ st.length = c.exprs.length ∧ zcu (c.exprs.drop (i + 1)) (i + 1) (zdm i (E.kids.drop j) st) = R ∧ H' = H ++ [.cells c.cs,usB st,.cells [.int .i64 E.op,.int .i64 E.num,.sl (ints E.vars) .none,.sl (rows E.binds) .none,.sl (ints E.kids) .none,x,y,z]]) E.kids.length ?_ ?_
  ·intro _; exact ⟨0,st,by omega,by omega,rfl,hs1,by simpa using ho,rfl⟩
  rintro q tJ H' ⟨j,st1,hj,rfl,rfl,hs2,ho2,rfl⟩ hsc1 hlen1 hsF1 Kb1 hKb1
  by_cases hjl : j < E.kids.length
  ·have hkr:=hkd _ (List.getElem_mem hjl)
   obtain ⟨k,hkk⟩ : ∃ k : Nat,E.kids[j] = k:=⟨(E.kids[j]).toNat,by omega⟩
   have hkn : k < c.exprs.length:=by omega
   have hks : k < st1.length:=by omega
   have his : i < st1.length:=by omega
   have hgd : st1.getD i 0 = st1[i]:=by rw [List.getD_eq_getElem?_getD,List.getElem?_eq_getElem his]; rfl
   have hrd:=fun k=>zuQ (st:=st1) his k
   rw [List.drop_eq_getElem_cons hjl,zdm,hkk,Int.toNat_natCast] at ho2
   simp [zqz,hjl,hkk,hkn,hlt,hs2,usB,hrd,his]
   rw [zaq (by omega) (by omega),zfj hks]
   rw [hgd] at ho2
   refine ⟨by omega,hKb1 _ _ ⟨E.kids.length - (j + 1),by omega,Back.here (by simp) (hsY _) ?_ ⟨_,rfl,j + 1,_,by omega,rfl,by simp,by simpa using hs2,ho2,rfl⟩⟩⟩
   simp [zlf,AV.sc,AV.scV,AV.scA,AV.scB]
  ·obtain rfl : j = E.kids.length:=by omega
   rw [List.drop_length,zdm] at ho2
   simp [zqz]
   rw [zaq (by omega) (by omega)]
   refine hKb _ _ ⟨c.exprs.length - (i + 1),by omega,Back.at (J:=[_]) (H2:=H ++ [.cells c.cs,usB st1]) (by simp; rfl) (by simp) (hsX _) ?_ ⟨_,rfl,i + 1,st1,by omega,rfl,by simp,hs2,ho2,rfl⟩⟩
   simp [zlh,AV.sc,AV.scV,AV.scA,AV.scB]
 ·obtain rfl : i = c.exprs.length:=by omega
  rw [List.drop_length,zcu] at ho
  subst ho
  simp [zqB]
  exact ztQ hs hs1 hK
theorem zKZ {c : Cor} (hk : zaP c) (hp : BodP c) {H : zaa} (hs : HSc H) (K : Kt) (hK : K (.sl (ints (zaW c)) .none) H) :
  zqD (.ptr H.length 0) (.ms (H.length + 1) 0 c.exprs.length c.exprs.length) (.sl (c.codes.map Cod.cs) .none) (.int .i64 c.codes.length) (.int .i64 0) (H ++ [.cells c.cs,usB (List.replicate c.exprs.length 0)]) (Out H.length K):=by
 have hk':=hk
 obtain ⟨k1,k2,k3,⟨k4,k5⟩,k6,k7⟩:=hk
 have hsX : ∀ st,HSc (H ++ [.cells c.cs,usB st]):=fun st=>hs.append (by simp [AB.sc,Cor.cs,usB,AV.scA,AV.scB])
 refine zK6 (Inv:=fun q tI H'=>∃ (i : Nat) (st : List Int),i ≤ c.codes.length ∧ q = c.codes.length - i ∧ tI = .int .i64 i ∧ st.length = c.exprs.length ∧ zcu c.exprs 0 (ownC (c.codes.drop i) i st) = zaW c ∧ H' = H ++ [.cells c.cs,usB st]) c.codes.length ?_ ?_
 ·intro _; exact ⟨0,_,by omega,by omega,rfl,by simp,rfl,rfl⟩
 rintro q tI H' ⟨i,st,hi,rfl,rfl,hs1,ho,rfl⟩ hsc hlen hsF Kb hKb
 by_cases hlt : i < c.codes.length
 ·obtain ⟨x,y,z,hvv,hx,hy,hz,hce⟩:=zez hlt
  obtain ⟨b,hb,hbl⟩:=hp.body i hlt
  rw [List.drop_eq_getElem_cons hlt,ownC,hb,Int.toNat_natCast] at ho
  have hbs : b < st.length:=by omega
  simp [zqA,hlt,hce,hx,hy,hz,hb,hbl,usB,hs1]
  rw [zaq (by omega) (by omega),zfj hbs]
  refine ⟨by omega,hKb _ _ ⟨c.codes.length - (i + 1),by omega,Back.at (J:=[_]) (H2:=H ++ [.cells c.cs,usB (st.set b i)]) (by simp [usB]; rfl) (by simp) (hsX _) ?_ ⟨_,rfl,i + 1,_,by omega,rfl,by simp,by simpa using hs1,ho,rfl⟩⟩⟩
  simp [zlg,AV.sc,AV.scV,AV.scA,AV.scB]
 ·obtain rfl : i = c.codes.length:=by omega
  rw [List.drop_length,ownC] at ho
  have:=zK0 hk' hp hs _ K hK hs1 ho
  simp [zqA,Cor.cs] at this ⊢
  exact this
theorem zHe {c : Cor} (hk : zaP c) (hp : BodP c) {H : zaa} (hs : HSc H) (R : List Int) (K : Kt) (hK : K (.sl (ints R) .none) H) {st : List Int} (hst : st.length = c.exprs.length) (hR : zcu c.exprs 0 st = R) :
  zpt (.ms (H.length + 1) 0 c.exprs.length c.exprs.length) (.sl (c.exprs.map CEx.cs) .none) (.int .i64 c.exprs.length) (.int .i64 0) (H ++ [.cells c.cs,usB st]) (Out H.length K):=by
 obtain ⟨k1,k2,k3,⟨k4,k5⟩,k6,k7⟩:=hk
 have hsX : ∀ st,HSc (H ++ [.cells c.cs,usB st]):=fun st=>hs.append (by simp [AB.sc,Cor.cs,usB,AV.scA,AV.scB])
 refine zHj (Inv:=fun q tI H'=>∃ (i : Nat) (st : List Int),i ≤ c.exprs.length ∧ q = c.exprs.length - i ∧ tI = .int .i64 i ∧ st.length = c.exprs.length ∧ zcu (c.exprs.drop i) i st = R ∧ H' = H ++ [.cells c.cs,usB st]) c.exprs.length ?_ ?_
 ·intro _; exact ⟨0,st,by omega,by omega,rfl,hst,hR,rfl⟩
 rintro q tI H' ⟨i,st,hi,rfl,rfl,hs1,ho,rfl⟩ hsc hlen hsF Kb hKb
 by_cases hlt : i < c.exprs.length
 ·obtain ⟨x,y,z,hvv,hx,hy,hz,hce⟩:=zdw hlt
  have hkd:=hp.kids i hlt
  obtain ⟨_,_,kk,_⟩:=k7 _ (List.getElem_mem hlt)
  rw [List.drop_eq_getElem_cons hlt,zcu] at ho
  have hvs:=VT.cs_scA (c.exprs[i]).ty (H.length + 3)
  rw [hvv] at hvs
  simp at hvs
  generalize hE : c.exprs[i] = E at *
  simp [zpo,hlt,hE,hce,hx,hy,hz]
  have hsY : ∀ st,HSc (H ++ [.cells c.cs,usB st,.cells [.int .i64 E.op,.int .i64 E.num,.sl (ints E.vars) .none,.sl (rows E.binds) .none,.sl (ints E.kids) .none,x,y,z]]):=fun st=>hs.append (by simp [AB.sc,Cor.cs,usB,AV.scA,AV.scB] at hvs ⊢; exact hvs)
  refine zHk (Inv:=fun q tJ H'=>∃ (j : Nat) (st : List Int),j ≤ E.kids.length ∧ q = E.kids.length - j ∧ tJ = .int .i64 j ∧ st.length = c.exprs.length ∧ zcu (c.exprs.drop (i + 1)) (i + 1) (zdm i (E.kids.drop j) st) = R ∧ H' = H ++ [.cells c.cs,usB st,.cells [.int .i64 E.op,.int .i64 E.num,.sl (ints E.vars) .none,.sl (rows E.binds) .none,.sl (ints E.kids) .none,x,y,z]]) E.kids.length ?_ ?_
  ·intro _; exact ⟨0,st,by omega,by omega,rfl,hs1,by simpa using ho,rfl⟩
  rintro q tJ H' ⟨j,st1,hj,rfl,rfl,hs2,ho2,rfl⟩ hsc1 hlen1 hsF1 Kb1 hKb1
  by_cases hjl : j < E.kids.length
  ·have hkr:=hkd _ (List.getElem_mem hjl)
   obtain ⟨k,hkk⟩ : ∃ k : Nat,E.kids[j] = k:=⟨(E.kids[j]).toNat,by omega⟩
   have hkn : k < c.exprs.length:=by omega
   have hks : k < st1.length:=by omega
   have hgt : (i : Int) < k:=by omega
   have hgt' : i < k:=by omega
   have his : i < st1.length:=by omega
   have hgd : st1.getD i 0 = st1[i]:=by rw [List.getD_eq_getElem?_getD,List.getElem?_eq_getElem his]; rfl
   have hrd:=fun k=>zuQ (st:=st1) his k
   rw [List.drop_eq_getElem_cons hjl,zdm,hkk,Int.toNat_natCast] at ho2
   simp [zpp,zps,zvZ,hjl,hkk,hkn,hlt,hs2,usB,hrd,his,hgt,hgt']
   rw [zaq (by omega) (by omega),zfj hks]
   rw [hgd] at ho2
   refine ⟨by omega,hKb1 _ _ ⟨E.kids.length - (j + 1),by omega,Back.here (by simp) (hsY _) ?_ ⟨_,rfl,j + 1,_,by omega,rfl,by simp,by simpa using hs2,ho2,rfl⟩⟩⟩
   simp [zkg,AV.sc,AV.scV,AV.scA,AV.scB]
  ·obtain rfl : j = E.kids.length:=by omega
   rw [List.drop_length,zdm] at ho2
   simp [zpp]
   rw [zaq (by omega) (by omega)]
   refine hKb _ _ ⟨c.exprs.length - (i + 1),by omega,Back.at (J:=[_]) (H2:=H ++ [.cells c.cs,usB st1]) (by simp; rfl) (by simp) (hsX _) ?_ ⟨_,rfl,i + 1,st1,by omega,rfl,by simp,hs2,ho2,rfl⟩⟩
   simp [zkf,AV.sc,AV.scV,AV.scA,AV.scB]
 ·obtain rfl : i = c.exprs.length:=by omega
  rw [List.drop_length,zcu] at ho
  subst ho
  simp [zpo]
  exact ztQ hs hs1 hK
theorem zHd {c : Cor} (hk : zaP c) (hp : BodP c) {H : zaa} (hs : HSc H) (K : Kt) (hK : K (.sl (ints (zaW c)) .none) H) :
  zpu (.ptr H.length 0) (.ms (H.length + 1) 0 c.exprs.length c.exprs.length) (.sl (c.codes.map Cod.cs) .none) (.int .i64 c.codes.length) (.int .i64 0) (H ++ [.cells c.cs,usB (List.replicate c.exprs.length 0)]) (Out H.length K):=by
 have hk':=hk
 obtain ⟨k1,k2,k3,⟨k4,k5⟩,k6,k7⟩:=hk
 have hsX : ∀ st,HSc (H ++ [.cells c.cs,usB st]):=fun st=>hs.append (by simp [AB.sc,Cor.cs,usB,AV.scA,AV.scB])
 refine zHl (Inv:=fun q tI H'=>∃ (i : Nat) (st : List Int),i ≤ c.codes.length ∧ q = c.codes.length - i ∧ tI = .int .i64 i ∧ st.length = c.exprs.length ∧ zcu c.exprs 0 (ownC (c.codes.drop i) i st) = zaW c ∧ H' = H ++ [.cells c.cs,usB st]) c.codes.length ?_ ?_
 ·intro _; exact ⟨0,_,by omega,by omega,rfl,by simp,rfl,rfl⟩
 rintro q tI H' ⟨i,st,hi,rfl,rfl,hs1,ho,rfl⟩ hsc hlen hsF Kb hKb
 by_cases hlt : i < c.codes.length
 ·obtain ⟨x,y,z,hvv,hx,hy,hz,hce⟩:=zez hlt
  obtain ⟨b,hb,hbl⟩:=hp.body i hlt
  rw [List.drop_eq_getElem_cons hlt,ownC,hb,Int.toNat_natCast] at ho
  have hbs : b < st.length:=by omega
  simp [zpq,hlt,hce,hx,hy,hz,hb,hbl,usB,hs1]
  rw [zaq (by omega) (by omega),zfj hbs]
  refine ⟨by omega,hKb _ _ ⟨c.codes.length - (i + 1),by omega,Back.at (J:=[_]) (H2:=H ++ [.cells c.cs,usB (st.set b i)]) (by simp [usB]; rfl) (by simp) (hsX _) ?_ ⟨_,rfl,i + 1,_,by omega,rfl,by simp,by simpa using hs1,ho,rfl⟩⟩⟩
  simp [zkh,AV.sc,AV.scV,AV.scA,AV.scB]
 ·obtain rfl : i = c.codes.length:=by omega
  rw [List.drop_length,ownC] at ho
  have:=zHe hk' hp hs _ K hK hs1 ho
  simp [zpq,Cor.cs] at this ⊢
  exact this
theorem zLb (c : Cor) (hk : zaP c) (hp : BodP c) (H : zaa) (K : Kt) (hK : K (.sl (ints (zaW c)) .none) H) : ACalls tP znB [.agg c.cs] H K:=by
 refine ACalls.out (zLa fun hs=>?_)
 have hk':=hk
 obtain ⟨k1,k2,k3,⟨k4,k5⟩,k6,k7⟩:=hk'
 have:=zKZ hk hp hs K hK
 simp [zxw,Cor.cs] at this ⊢
 simp only [zaN,Int.toNat_natCast,zhc]
 refine ⟨⟨by omega,by omega,by omega,by omega⟩,?_⟩
 simpa [usB] using this
theorem znX {H J : zaa} {K : Kt} (hs : HSc H) (hK : K (.sl (ints []) .none) H) : Out H.length K .snil (H ++ J):=Out.one hs (.atom .snil) rfl rfl hK
theorem zHp (c : Cor) (hk : zaP c) (H : zaa) (K : Kt) (hK : K (.sl (ints (zi0 c)) .none) H) : ACalls tP zno [.agg c.cs] H K:=by
 refine ACalls.out (zHo fun hs=>?_)
 have hk':=hk
 obtain ⟨k1,k2,k3,⟨k4,k5⟩,k6,k7⟩:=hk'
 have hat : c.cs = [.sl (c.data.map Dat.cs) .none,.sl (c.codes.map Cod.cs) .none,.sl (VT.css c.vars) .none,.sl (c.exprs.map CEx.cs) .none]:=rfl
 simp [zvX,hat]
 rw [← hat]
 refine zvH c hk _ _ ?_
 cases hv : vOk c with
 | false=>
  rw [zi0,if_neg (by simp [hv])] at hK
  simp
  exact znX hs hK
 | true=>
  rw [zi0,if_pos hv] at hK
  have:=zHd hk (zso hv) hs K hK
  simp [Cor.cs] at this ⊢
  simp only [zaN,Int.toNat_natCast,zhc]
  refine ⟨⟨by omega,by omega,by omega,by omega⟩,?_⟩
  simpa [usB] using this
theorem ztS : ∀ (l : List Cod) (i : Nat) (st : List Int),(ownC l i st).length = st.length
 | [],_,_=>rfl
 | f :: l,i,st=>by rw [ownC,ztS]; simp
theorem ztW (i : Nat) : ∀ (l : List Int) (st : List Int),(zdm i l st).length = st.length
 | [],_=>rfl
 | k :: l,st=>by rw [zdm,ztW]; simp
theorem ztU : ∀ (l : List CEx) (i : Nat) (st : List Int),(zcu l i st).length = st.length
 | [],_,_=>rfl
 | e :: l,i,st=>by rw [zcu,ztU,ztW]
end Go.Proofs.Ytkdmpbhbmmhijaa
namespace Go.Abs
def lst (L : List Bool) (k : Nat) : Bool:=L.getD k false
def zbQ (R : Nat → Nat → Bool) (n i : Nat) : List Nat:=(List.range n).filter fun k=>R i k && R k i
def ready (R : Nat → Nat → Bool) (n : Nat) (L : List Bool) (i : Nat) : Bool:=(List.range n).all fun k=>!(R i k && !R k i) || lst L k
def zc5 (R : Nat → Nat → Bool) (n : Nat) (L : List Bool) : Option Nat:=(List.range n).find? fun i=>!lst L i && ready R n L i
def mark (L : List Bool) (c : List Nat) : List Bool:=c.foldl (fun l k=>l.set k true) L
def zcl (R : Nat → Nat → Bool) (n : Nat) : Nat → List Bool → List (List Nat)
 | 0,_=>[]
 | f + 1,L=>match zc5 R n L with
  | none=>[]
  | some i=>zbQ R n i :: zcl R n f (mark L (zbQ R n i))
@[simp] theorem zA7 : ∀ (c : List Nat) (L : List Bool),(mark L c).length = L.length
 | [],L=>rfl
 | k :: c,L=>by simp only [mark,List.foldl_cons]; have:=zA7 c (L.set k true); simpa [mark] using this
theorem znd (L : List Bool) (k : Nat) (c : List Nat) : mark L (k :: c) = mark (L.set k true) c:=rfl
theorem zA6 {L : List Bool} {k j : Nat} (hk : k < L.length) : lst (L.set k true) j = (lst L j || decide (j = k)):=by
 simp only [lst,List.getD_eq_getElem?_getD,List.getElem?_set]
 by_cases h : k = j
 ·subst h; simp [hk]
 ·simp [h,show ¬ j = k from fun e=>h e.symm]
theorem ztq : ∀ (c : List Nat) (L : List Bool) (j : Nat),(∀ k ∈ c,k < L.length) → lst (mark L c) j = (lst L j || c.contains j)
 | [],L,j,_=>by simp [mark]
 | k :: c,L,j,h=>by
  rw [znd,ztq c (L.set k true) j (fun x hx=>by simpa using h x (by simp [hx])),zA6 (h k (by simp))]
  simp [Bool.or_assoc]
theorem comp_mem {R : Nat → Nat → Bool} {n i k : Nat} : k ∈ zbQ R n i ↔ k < n ∧ R i k = true ∧ R k i = true:=by
 simp [zbQ]
def Cl (R : Nat → Nat → Bool) (n : Nat) (L : List Bool) : Prop:=∀ k j,j < n → lst L k = true → R k j = true → R j k = true → lst L j = true
theorem Cl.start (R : Nat → Nat → Bool) (n m : Nat) : Cl R n (List.replicate m false):=fun k j _ h=>by
 simp only [lst,List.getD_eq_getElem?_getD,List.getElem?_replicate] at h
 split at h <;> simp at h
theorem Cl.mark {R : Nat → Nat → Bool} {n : Nat} {L : List Bool} (hL : L.length = n) (htr : ∀ a b c,R a b = true → R b c = true → R a c = true) (h : Cl R n L) (i : Nat) : Cl R n (mark L (zbQ R n i)):=fun k j hj hk h1 h2=>by
 have hlt : ∀ k ∈ zbQ R n i,k < L.length:=fun k hk=>by rw [hL]; exact (comp_mem.1 hk).1
 rw [ztq _ _ _ hlt,Bool.or_eq_true,List.contains_iff_mem] at hk ⊢
 rcases hk with hk | hk
 ·exact .inl (h k j hj hk h1 h2)
 ·obtain ⟨_,a,b⟩:=comp_mem.1 hk
  exact .inr (comp_mem.2 ⟨hj,htr _ _ _ a h1,htr _ _ _ h2 b⟩)
theorem zmZ {p : Nat → Bool} {n i : Nat} (h : (List.range n).find? p = some i) : i < n ∧ p i = true ∧ ∀ k,k < i → p k = false:=by
 rw [List.find?_range_eq_some] at h
 exact ⟨List.mem_range.1 h.2.1,h.1,fun k hk=>by simpa using h.2.2 k hk⟩
theorem zBb {R : Nat → Nat → Bool} {n : Nat} {L : List Bool} (htr : ∀ a b c,R a b = true → R b c = true → R a c = true) (h : Cl R n L) {i : Nat} (hi : zc5 R n L = some i) : ∀ k ∈ zbQ R n i,i ≤ k:=fun k hk=>by
 obtain ⟨hin,hp,hmin⟩:=zmZ hi
 obtain ⟨hkn,h1,h2⟩:=comp_mem.1 hk
 by_cases hlt : k < i
 ·exfalso
  have hno:=hmin k hlt
  rw [Bool.and_eq_true] at hp
  have hkl : lst L k = false:=by
   cases hl : lst L k with
   | false=>rfl
   | true=>
    have:=h k i hin hl h2 h1
    rw [this] at hp
    simp at hp
  have hkr : ready R n L k = true:=by
   have hr:=hp.2
   simp only [ready,List.all_eq_true,List.mem_range,Bool.or_eq_true,Bool.not_eq_true',Bool.and_eq_false_iff,Bool.not_eq_false'] at hr ⊢
   intro j hj
   rcases hr j hj with (hr | hr) | hr
   ·left; left
    cases hkj : R k j with
    | false=>rfl
    | true=>rw [htr _ _ _ h1 hkj] at hr; cases hr
   ·exact .inl (.inr (htr _ _ _ hr h1))
   ·exact .inr hr
  rw [hkl,hkr] at hno
  simp at hno
 ·omega
end Go.Abs
namespace Go.Abs
noncomputable def zaI (g : List (List Nat)) (i j : Nat) : Bool:=@decide (Rch g i j) (Classical.propDecidable _)
theorem rchB_iff {g : List (List Nat)} {i j : Nat} : zaI g i j = true ↔ Rch g i j:=by simp [zaI]
theorem zt7 {g : List (List Nat)} (a b c : Nat) (h1 : zaI g a b = true) (h2 : zaI g b c = true) : zaI g a c = true:=rchB_iff.2 ((rchB_iff.1 h1).trans (rchB_iff.1 h2))
theorem zn2 (g : List (List Nat)) (a : Nat) : zaI g a a = true:=rchB_iff.2 (.refl a)
theorem RInv.val {g : List (List Nat)} {i : Nat} {set : List Bool} (h : RInv g i set []) {j : Nat} (hj : j < g.length) : set[j]? = some (zaI g i j):=by
 have hl : j < set.length:=by rw [h.len]; exact hj
 have hf:=h.fin j
 rw [← rchB_iff] at hf
 rw [List.getElem?_eq_getElem hl] at hf ⊢
 cases hb : set[j] <;> cases hr : zaI g i j <;> simp [hb,hr] at hf ⊢
theorem zne : ∀ (c : List Nat) (L : List Bool),(mark L c).count false ≤ L.count false
 | [],L=>Nat.le_refl _
 | k :: c,L=>by
  rw [znd]
  refine Nat.le_trans (zne c _) ?_
  by_cases hk : k < L.length
  ·rw [List.set_eq_take_append_cons_drop,if_pos hk]
   have h0 : L = L.take k ++ L[k] :: L.drop (k + 1):=by rw [← List.drop_eq_getElem_cons hk,List.take_append_drop]
   have h1 : L.count false = (L.take k ++ L[k] :: L.drop (k + 1)).count false:=by rw [← h0]
   rw [h1,List.count_append,List.count_append,List.count_cons,List.count_cons]
   cases L[k] <;> simp
  ·rw [List.set_eq_of_length_le (by omega)]; exact Nat.le_refl _
theorem zCF (L : List Bool) (k : Nat) : (L.set k true).count false ≤ L.count false:=zne [k] L
theorem zuo : ∀ {L : List Bool} {k : Nat},k < L.length → lst L k = false → (L.set k true).count false + 1 = L.count false
 | [],k,h,_=>by simp at h
 | b :: L,0,_,h=>by
  have : b = false:=by simpa [lst] using h
  subst this
  simp
 | b :: L,k + 1,h,hl=>by
  have:=zuo (L:=L) (k:=k) (by simpa using h) (by simpa [lst] using hl)
  simp only [List.set_cons_succ,List.count_cons]
  omega
theorem zts : ∀ {c : List Nat} {L : List Bool} {i : Nat},i ∈ c → i < L.length → lst L i = false → (mark L c).count false < L.count false
 | [],L,i,h,_,_=>by simp at h
 | k :: c,L,i,h,hl,h0=>by
  rw [znd]
  by_cases hk : k = i
  ·subst hk
   have h1:=zuo hl h0
   have h2:=zne c (L.set k true)
   omega
  ·have hic : i ∈ c:=by
    rcases List.mem_cons.1 h with rfl | h
    ·exact absurd rfl hk
    ·exact h
   have hli : lst (L.set k true) i = false:=by
    simp only [lst,List.getD_eq_getElem?_getD] at h0 ⊢
    rw [List.getElem?_set_ne hk]; exact h0
   have h1:=zts hic (L:=L.set k true) (by simpa using hl) hli
   have h2:=zCF L k
   omega
theorem zBc {R : Nat → Nat → Bool} {n : Nat} {L : List Bool} (hL : L.length = n) (hrf : ∀ a,R a a = true) {i : Nat} (hi : zc5 R n L = some i) : (mark L (zbQ R n i)).count false < L.count false:=by
 obtain ⟨hin,hp,_⟩:=zmZ hi
 rw [Bool.and_eq_true,Bool.not_eq_true'] at hp
 exact zts (comp_mem.2 ⟨hin,hrf i,hrf i⟩) (by omega) hp.1
end Go.Abs
namespace Go.Abs
theorem ztb {R : Nat → Nat → Bool} {n f : Nat} {L : List Bool} (hL : L.length = n) (hrf : ∀ a,R a a = true) (hf : L.count false ≤ f) {i : Nat} (hi : zc5 R n L = some i) :
  ∃ f',f = f' + 1 ∧ zcl R n f L = zbQ R n i :: zcl R n f' (mark L (zbQ R n i)) ∧ (mark L (zbQ R n i)).count false ≤ f':=by
 have hlt:=zBc hL hrf hi
 cases f with
 | zero=>omega
 | succ f=>exact ⟨f,rfl,by rw [zcl,hi],by omega⟩
theorem ztc {R : Nat → Nat → Bool} {n f : Nat} {L : List Bool} (hi : zc5 R n L = none) : zcl R n f L = []:=by
 cases f with
 | zero=>rfl
 | succ f=>rw [zcl,hi]
def NoB (R : Nat → Nat → Bool) (n : Nat) (L : List Bool) (i : Nat) : Prop:=∀ j,j < i → (!lst L j && ready R n L j) = false
theorem NoB.zero (R : Nat → Nat → Bool) (n : Nat) (L : List Bool) : NoB R n L 0:=fun j hj=>absurd hj (by omega)
theorem NoB.succ {R : Nat → Nat → Bool} {n : Nat} {L : List Bool} {i : Nat} (h : NoB R n L i) (hi : (!lst L i && ready R n L i) = false) : NoB R n L (i + 1):=fun j hj=>by
 by_cases hji : j = i
 ·subst hji; exact hi
 ·exact h j (by omega)
theorem NoB.none {R : Nat → Nat → Bool} {n : Nat} {L : List Bool} (h : NoB R n L n) : zc5 R n L = none:=by
 rw [zc5,List.find?_eq_none]
 intro x hx
 rw [h x (List.mem_range.1 hx)]
 simp
theorem NoB.next {R : Nat → Nat → Bool} {n : Nat} {L : List Bool} {i : Nat} (h : NoB R n L i) (hin : i < n) (h1 : lst L i = false) (h2 : ready R n L i = true) : zc5 R n L = some i:=by
 rw [zc5,List.find?_range_eq_some]
 refine ⟨by rw [h1,h2]; rfl,List.mem_range.2 hin,fun j hj=>by rw [h j hj]; rfl⟩
def zdi (R : Nat → Nat → Bool) (i k : Nat) : List Nat:=(List.range k).filter fun k=>R i k && R k i
theorem zAo (R : Nat → Nat → Bool) (i k : Nat) : zdi R i (k + 1) = zdi R i k ++ (if (R i k && R k i) = true then [k] else []):=by
 rw [zdi,List.range_succ,List.filter_append,zdi]
 cases h : (R i k && R k i) <;> simp [List.filter_cons,h]
theorem zsF (R : Nat → Nat → Bool) (i k : Nat) : (zdi R i k).length ≤ k:=by
 exact Nat.le_trans (List.length_filter_le _ _) (by simp)
theorem zsG (R : Nat → Nat → Bool) (n i : Nat) : (zbQ R n i).length ≤ n:=zsF R i n
def zdn (R : Nat → Nat → Bool) (L : List Bool) (i k : Nat) : Bool:=(List.range k).all fun k=>!(R i k && !R k i) || lst L k
theorem zt8 (R : Nat → Nat → Bool) (L : List Bool) (i k : Nat) : zdn R L i (k + 1) = (zdn R L i k && (!(R i k && !R k i) || lst L k)):=by
 rw [zdn,List.range_succ,List.all_append,zdn]
 simp
theorem zAp {R : Nat → Nat → Bool} {n : Nat} {L : List Bool} (hrf : ∀ a,R a a = true) (htr : ∀ a b c,R a b = true → R b c = true → R a c = true) (h : Cl R n L) {i : Nat} (hi : zc5 R n L = some i) : (zbQ R n i)[0]? = some i:=by
 have hle:=zBb htr h hi
 have hin:=(zmZ hi).1
 have hm : i ∈ zbQ R n i:=comp_mem.2 ⟨hin,hrf i,hrf i⟩
 have hp : (zbQ R n i).Pairwise (· < ·):=List.Pairwise.filter _ List.pairwise_lt_range
 cases hc : zbQ R n i with
 | nil=>rw [hc] at hm; simp at hm
 | cons a l=>
  rw [hc] at hm hp hle
  rcases List.mem_cons.1 hm with rfl | hm
  ·rfl
  ·have h1:=(List.pairwise_cons.1 hp).1 i hm
   have h2:=hle a (by simp)
   omega
theorem zA8 (L : List Bool) (c : List Nat) (k : Nat) : mark L (c ++ [k]) = (mark L c).set k true:=by simp [mark]
theorem zA9 {L : List Bool} {c : List Nat} {j : Nat} (h : j < c.length) : mark L (c.take (j + 1)) = (mark L (c.take j)).set c[j] true:=by
 rw [List.take_succ_eq_append_getElem h,zA8]
theorem zik {R : Nat → Nat → Bool} {n : Nat} : ∀ (f : Nat) (L : List Bool) ,(zcl R n f L).length ≤ f
 | 0,L=>by simp [zcl]
 | f + 1,L=>by
  rw [zcl]
  cases zc5 R n L with
  | none=>simp
  | some i=>simp; exact zik f _
theorem zta {R : Nat → Nat → Bool} {n : Nat} : ∀ (f : Nat) (L : List Bool),∀ c ∈ zcl R n f L,c.length ≤ n
 | 0,L,c,h=>by simp [zcl] at h
 | f + 1,L,c,h=>by
  rw [zcl] at h
  cases hi : zc5 R n L with
  | none=>rw [hi] at h; simp at h
  | some i=>
   rw [hi] at h
   rcases List.mem_cons.1 h with rfl | h
   ·exact zsG R n i
   ·exact zta f _ c h
end Go.Abs
