/- The abstract layer, part L: regions that draw their order, code, loops, bodies. -/
import Derived.Test.YtmbegappkkbfpaaAbsK
import Derived.Scope
namespace Go.Abs
open Go Go.RowKit

variable {P : Program} {B : Nat} {w : World} {G : Gh} {H : Heap}

def inS (listed : Array Bool) (i : Nat) : Bool := listed.getD i false

theorem inS_set {listed : Array Bool} {i : Nat} (hi : i < listed.size) (k : Nat) : inS (listed.setIfInBounds i true) k = if k = i then true else inS listed k := by
  unfold inS
  by_cases hk : k = i
  · subst hk; simp [hi]
  · simp [hk, Array.getElem?_setIfInBounds_ne (fun h => hk h.symm)]

theorem inS_rep (n i : Nat) : inS (Array.replicate n false) i = false := by
  unfold inS
  rw [Array.getD_eq_getD_getElem?, Array.getElem?_replicate]
  split <;> rfl

theorem drawn_any {ops : Array Oper} {F0 rs Fn : List AV} {K : List AV → Heap → Prop} {Q : Exit → Act → World → Prop} {w0 : World} {G0 : Gh} (hO : Ord ops) (ht : TrL P ops H ops.toList F0 rs Fn) (hK : K Fn H)
    (hQ : ∀ a w G F H, Ext B w0 G0 w G → HRel B w G H → FRel w G a.tmps F → a.defers = [] → K F H → Q .normal a w) :
    ∀ (fuel : Nat) (listed : Array Bool) (a : Act) (w : World) (G : Gh) (F : List AV), listed.size = ops.size → listed.toList.count false ≤ fuel →
      (∀ (j : Nat) oj, ops[j]? = some oj → inS listed j = true → ∀ e ∈ oj.after, Region.binds .any e = true → inS listed e.on = true) →
      Ext B w0 G0 w G → HRel B w G H → FlRel ops F0 rs (inS listed) F → FRel w G a.tmps F → a.defers = [] → wpAny P .any ops Q fuel listed a w := by
  obtain ⟨hlen, hfn, hat⟩ := ht.at
  have hlen' : rs.length = ops.size := by simpa using hlen
  -- nothing is ready only at the end
  have fin : ∀ (listed : Array Bool) (a : Act) (w : World) (G : Gh) (F : List AV), listed.size = ops.size → Ext B w0 G0 w G → HRel B w G H → FlRel ops F0 rs (inS listed) F → FRel w G a.tmps F → a.defers = [] →
      Region.ready .any ops listed = [] → Q .normal a w := by
    intro listed a w G F hsz hE hH hFl hF hd hr
    have all : ∀ i, i < ops.size → inS listed i = true := by
      intro i
      induction i using Nat.strongRecOn with
      | _ i ih =>
        intro hi
        cases hS : inS listed i with
        | true => rfl
        | false =>
          have : i ∈ Region.ready .any ops listed := by
            rw [mem_ready]
            refine ⟨?_, ops[i], by simp [hi], fun e he hb => ?_⟩
            · have hi' : i < listed.size := by omega
              simpa [inS, hi'] using hS
            · have hlt := hO.edge i ops[i] (by simp [hi]) e he hb
              exact ih e.on hlt (by omega)
          rw [hr] at this
          cases this
    have h1 : FlRel ops F0 rs (fun k => decide (k < ops.size)) F := hFl.congr fun i hi => by rw [all i hi]; simp [hi]
    have h2 := frk_rel hO ht ops.size (Nat.le_refl _)
    have : F = Fn := by
      rw [FlRel.same hlen' h1 h2, ← hfn]
      simp
    rw [this] at hF
    exact hQ a w G Fn H hE hH hF hd hK
  intro fuel
  induction fuel with
  | zero =>
    intro listed a w G F hsz hc hcl hE hH hFl hF hd
    have hr : Region.ready .any ops listed = [] := by
      cases hr : Region.ready .any ops listed with
      | nil => rfl
      | cons i is =>
        have hi : i ∈ Region.ready .any ops listed := by rw [hr]; simp
        obtain ⟨h1, o, ho, _⟩ := mem_ready.1 hi
        have hi' : i < listed.size := by rw [hsz]; exact (Array.getElem?_eq_some_iff.1 ho).1
        have hf : listed[i] = false := by simpa [hi'] using h1
        have : false ∈ listed.toList := by
          rw [← hf]
          simp
        have := List.count_pos_iff.2 this
        omega
    exact ⟨hr, fin listed a w G F hsz hE hH hFl hF hd hr⟩
  | succ fuel ih =>
    intro listed a w G F hsz hc hcl hE hH hFl hF hd
    refine ⟨fin listed a w G F hsz hE hH hFl hF hd, fun i hi => ?_⟩
    obtain ⟨h1, o, ho, hedge⟩ := mem_ready.1 hi
    have hin : i < ops.size := (Array.getElem?_eq_some_iff.1 ho).1
    have hi' : i < listed.size := by omega
    have hSi : inS listed i = false := by
      have : listed[i] = false := by simpa [hi'] using h1
      simp [inS, hi', this]
    obtain ⟨r, hr, htr, _⟩ := hat i o (by simpa using ho)
    have hreads := reads_same hO hlen' hFl (frk_rel hO ht i (by omega)) ho hSi hedge hcl
    have htr' : TrOK P ops H F o r := htr.congr fun s hs => (hreads s hs).symm
    -- what comes behind it
    have next : ∀ (a' : Act) (w' : World) (G' : Gh), Ext B w G w' G' → HRel B w' G' H → FRel w' G' a'.tmps (putF F o.dst r) → a'.defers = [] → wpAny P .any ops Q fuel (listed.setIfInBounds i true) a' w' := by
      intro a' w' G' hE' hH' hF' hd'
      refine ih _ a' w' G' (putF F o.dst r) (by simpa using hsz) ?_ ?_ (hE.trans hE') hH' ?_ hF' hd'
      · have hf : listed.toList[i]'(by simpa using hi') = false := by
          have : listed[i] = false := by simpa [hi'] using h1
          simpa using this
        rw [Array.toList_setIfInBounds, List.count_set (by simpa using hi')]
        rw [hf]
        simp only [beq_self_eq_true, if_true, Bool.true_eq_false, beq_iff_eq, if_false]
        omega
      · intro j oj hj hSj e he hb
        rw [inS_set hi'] at hSj ⊢
        by_cases hji : j = i
        · subst hji
          rw [ho] at hj
          cases hj
          have := hedge e he hb
          by_cases hei : e.on = j
          · simp [hei]
          · simp only [hei, if_false]; exact this
        · simp only [hji, if_false] at hSj
          have := hcl j oj hj hSj e he hb
          by_cases hei : e.on = i
          · simp [hei]
          · simp only [hei, if_false]; exact this
      · exact (FlRel.step hO hFl ho hr).congr fun k _ => (inS_set hi' k).symm
    unfold wpOp
    simp only [ho]
    have hput : ∀ v, (a.put o.dst v).defers = [] := fun v => by cases hdst : o.dst <;> simpa [Act.put] using hd
    have run : (aop P o F H fun v H' => v = r ∧ H' = H) → o.wp P a w (wpAny P .any ops Q fuel (listed.setIfInBounds i true)) Q := fun hop =>
      oper_of_ok hF (op_sound hH hF hop) fun v av w' G' H' k1 k2 k3 k4 => by
        obtain ⟨rfl, rfl⟩ := k4
        exact next _ w' G' k1 k2 ((hF.ext k1).put k3) (hput v)
    have skip : r = .tup [] → wpAny P .any ops Q fuel (listed.setIfInBounds i true) (a.put o.dst undef) w := fun hr0 => by
      subst hr0
      exact next _ w G (Ext.refl _ _ _) hH (hF.put undef_rel) (hput _)
    unfold TrOK at htr'
    split at htr'
    · rename_i hg
      rw [if_pos (by simp [Region.wanted, hg])]
      exact .inl (run htr')
    · rename_i j want hg
      obtain ⟨d, hdd, hcase⟩ := htr'
      rcases hcase with ⟨b, hb, hw, hop⟩ | ⟨b, hb, hw, hr0⟩ | ⟨hb, hr0⟩
      · rw [wanted_bool hF hg hdd hb, if_pos hw]
        exact .inl (run hop)
      · rw [wanted_bool hF hg hdd hb, if_neg (by simp [hw])]
        exact skip hr0
      · rw [wanted_tup hF hg hdd hb, if_neg (by simp)]
        exact skip hr0

theorem Post.of {w0 : World} {G0 : Gh} {Q : AExit → List AV → Heap → Prop} {a : Act} {F : List AV} {e : AExit} (hE : Ext B w0 G0 w G) (hH : HRel B w G H) (hF : FRel w G a.tmps F) (hd : a.defers = []) (h : Q e F H) : Post B w0 G0 Q e.toExit a w :=
  ⟨F, H, G, e, rfl, hE, hH, hF, hd, h⟩

theorem mask_rel : ∀ (m : List Bool) {tm : List Value} {F : List AV}, All2 (TRel w G) tm F → All2 (TRel w G) tm (mask m F)
  | [], tm, F, h => by unfold mask; exact h
  | b :: m, [], [], h => by cases b <;> trivial
  | true :: m, v :: tm, a :: F, h => ⟨h.1, mask_rel m h.2⟩
  | false :: m, v :: tm, a :: F, h => ⟨trivial, mask_rel m h.2⟩

/-- **The abstract transformer is sound for the model's runs.** -/
theorem awp_sound {M : Nat → List Bool} : ∀ (c : Code) (Q : AExit → List AV → Heap → Prop) (F : List AV) (H : Heap), awp P M c Q F H → AWp P c Q F H := by
  intro c
  induction c with
  | skip => intro Q F H h B w G a hH hF hd; exact wp_skip (Post.of (e := .normal) (Ext.refl _ _ _) hH hF hd h)
  | label l => intro Q F H h B w G a hH hF hd; exact wp_label (Post.of (e := .normal) (Ext.refl _ _ _) hH hF hd h)
  | region id ops draw =>
    intro Q F H h B w G a hH hF hd
    cases draw with
    | false =>
      refine wp_region_list ?_
      exact runOps_sound (K := Q .normal) (fun a w G F H h1 h2 h3 h4 h5 => Post.of (e := .normal) h1 h2 h3 h4 h5) ops.toList F H a w G (Ext.refl _ _ _) hH hF hd h
    | true =>
      simp only [awp] at h
      split at h
      · rename_i hb
        simp only [Bool.and_eq_true] at hb
        obtain ⟨hord, hm⟩ := hb
        obtain ⟨rs, Fn, ht, hK⟩ := runD_trace ops.toList F h
        refine wp_region_any hm ?_
        refine drawn_any (ord_of hord) ht (K := Q .normal) hK (w0 := w) (G0 := G) (fun a w G F H h1 h2 h3 h4 h5 => Post.of (e := .normal) h1 h2 h3 h4 h5) ops.size _ a _ G F (by simp) (by simp) ?_ (Ext.drew B w G _) (hH.drew _) ?_ ?_ hd
        · intro j oj _ hj
          rw [inS_rep] at hj
          cases hj
        · refine ⟨rfl, fun i o s r _ _ hS => ?_, fun s _ => rfl⟩
          rw [inS_rep] at hS
          cases hS
        · exact hF.ext (Ext.drew B w G _)
      · exact h.elim
  | seq x y ihx ihy =>
    intro Q F H h B w G a hH hF hd
    refine wp_seq (wp_mono (ihx _ F H h B w G a hH hF hd) fun e a' w' hp => ?_)
    obtain ⟨F', H', G', e', rfl, h1, h2, h3, h4, h5⟩ := hp
    cases e' with
    | normal =>
      refine wp_mono (ihy Q F' H' h5 B w' G' a' h2 h3 h4) fun e a'' w'' hp => ?_
      obtain ⟨F'', H'', G'', e'', rfl, k1, k2, k3, k4, k5⟩ := hp
      exact ⟨F'', H'', G'', e'', rfl, h1.trans k1, k2, k3, k4, k5⟩
    | exit id => exact Post.of (e := .exit id) h1 h2 h3 h4 h5
    | ret => exact Post.of (e := .ret) h1 h2 h3 h4 h5
  | scope c ih =>
    intro Q F H h B w G a hH hF hd
    refine wp_scope_straight (wp_mono (ih Q F H h B w G a hH hF hd) fun e a' w' hp => ?_)
    obtain ⟨F', H', G', e', rfl, h1, h2, h3, h4, h5⟩ := hp
    cases e' with
    | normal => exact Post.of (e := .normal) h1 h2 h3 h4 h5
    | exit id => exact Post.of (e := .exit id) h1 h2 h3 h4 h5
    | ret => exact Post.of (e := .ret) h1 h2 h3 h4 h5
  | cond c x y ihx ihy =>
    intro Q F H h B w G a hH hF hd
    simp only [awp, aTest] at h
    split at h
    · rename_i t ht
      have hc := ev_rel hF c
      rw [ht] at hc
      have hc : a.eval c = .bool t := hc
      unfold aIf at h
      refine wp_cond hc ?_
      cases t with
      | true => exact ihx Q F H (by simpa using h) B w G a hH hF hd
      | false => exact ihy Q F H (by simpa using h) B w G a hH hF hd
    · exact h.elim
  | block id c ih =>
    intro Q F H h B w G a hH hF hd
    refine wp_block (wp_mono (ih _ F H h B w G a hH hF hd) fun e a' w' hp => ?_)
    obtain ⟨F', H', G', e', rfl, h1, h2, h3, h4, h5⟩ := hp
    cases e' with
    | normal => exact Post.of (e := .normal) h1 h2 h3 h4 h5
    | ret => exact Post.of (e := .ret) h1 h2 h3 h4 h5
    | exit id' =>
      simp only [AExit.toExit, Exit.inBlock]
      simp only [blkQ] at h5
      split at h5
      · rename_i hid
        rw [if_pos (by simpa using hid)]
        exact Post.of (e := .normal) h1 h2 h3 h4 h5
      · rename_i hid
        rw [if_neg (by simpa using hid)]
        exact Post.of (e := .exit id') h1 h2 h3 h4 h5
  | loop c ih =>
    intro Q F H h B w G a hH hF hd
    exact h B w G a hH (mask_rel _ hF) hd
  | ret => intro Q F H h B w G a hH hF hd; exact wp_ret (Post.of (e := .ret) (Ext.refl _ _ _) hH hF hd h)
  | exit id => intro Q F H h B w G a hH hF hd; exact wp_exit (Post.of (e := .exit id) (Ext.refl _ _ _) hH hF hd h)
  | _ => intro Q F H h; exact h.elim

end Go.Abs
