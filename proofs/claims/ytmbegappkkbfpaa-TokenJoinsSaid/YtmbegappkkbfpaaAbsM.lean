/- The abstract layer, part M: weakening, what may be forgotten, loops, bodies of functions, calls. -/
import Derived.Test.YtmbegappkkbfpaaAbsL
namespace Go.Abs
open Go Go.RowKit

variable {P : Program} {B : Nat} {w : World} {G : Gh} {H : Heap}

/-! ### Ids that a value names -/
def AV.scB (n : Nat) : AV → Bool
  | .ptr id _ => decide (id < n)
  | .ms id _ _ _ => decide (id < n)
  | .map id => decide (id < n)
  | .sl _ (.own id) => decide (id < n)
  | _ => true
def AV.scA (n : Nat) : AV → Bool
  | .fn _ caps => caps.all (AV.scB n)
  | a => a.scB n
def AV.scV (n : Nat) : AV → Bool
  | .agg cs => cs.all (AV.scA n)
  | a => a.scA n
def AV.sc (n : Nat) : AV → Bool
  | .tup vs => vs.all (AV.scV n)
  | a => a.scV n
def AB.sc (n : Nat) : AB → Bool
  | .cells cs => cs.all (AV.scA n)
  | .map _ => false
  | _ => true
def HSc (H : Heap) : Prop := ∀ b ∈ H, b.sc H.length = true

theorem lt_of_μ {id : Nat} {gi : GI} (h : G.μ[id]? = some gi) : id < G.μ.length := (List.getElem?_eq_some_iff.1 h).1

theorem BRel.sc {v : Value} {a : AV} (h : BRel w G v a) : a.scB G.μ.length = true := by
  cases a with
  | ptr id off => obtain ⟨b, h1, _⟩ := h; simpa [AV.scB] using lt_of_μ h1
  | ms id off len cap => obtain ⟨b, h1, _⟩ := h; simpa [AV.scB] using lt_of_μ h1
  | map id => obtain ⟨b, h1, _⟩ := h; simpa [AV.scB] using lt_of_μ h1
  | sl es tok =>
    cases tok with
    | own id => obtain ⟨_, v', s, n, h1, _⟩ := h; simpa [AV.scB] using lt_of_μ h1
    | none => rfl
    | full => rfl
  | _ => rfl
theorem All2.all_of {R : Value → AV → Prop} {p : AV → Bool} (hp : ∀ v a, R v a → p a = true) : ∀ {vs : List Value} {as : List AV}, All2 R vs as → as.all p = true
  | [], [], _ => rfl
  | _ :: _, _ :: _, h => by simp only [List.all_cons, Bool.and_eq_true]; exact ⟨hp _ _ h.1, All2.all_of hp h.2⟩
theorem ARel.sc {v : Value} {a : AV} (h : ARel w G v a) : a.scA G.μ.length = true := by
  have hb : ∀ {x : AV}, BRel w G v x → x.scB G.μ.length = true := fun h => h.sc
  cases a with
  | fn f caps => obtain ⟨vs, _, h2⟩ := h; exact All2.all_of (fun v a (h : BRel w G v a) => h.sc) h2
  | unk => exact hb (x := .unk) h
  | bool b => exact hb (x := .bool b) h
  | int k n => exact hb (x := .int k n) h
  | str s => exact hb (x := .str s) h
  | nilp => exact hb (x := .nilp) h
  | ptr i o => exact hb (x := .ptr i o) h
  | view cs => exact hb (x := .view cs) h
  | snil => exact hb (x := .snil) h
  | sl es t => exact hb (x := .sl es t) h
  | ms i o l c => exact hb (x := .ms i o l c) h
  | map i => exact hb (x := .map i) h
  | nilfn => exact hb (x := .nilfn) h
  | agg cs => exact hb (x := .agg cs) h
  | tup vs => exact hb (x := .tup vs) h
theorem HRel.sc (h : HRel B w G H) : HSc H := by
  intro ab hab
  obtain ⟨id, hid⟩ := List.mem_iff_getElem?.1 hab
  have hlt : id < G.μ.length := by rw [h.len]; exact (List.getElem?_eq_some_iff.1 hid).1
  have hok := h.ok id ab _ hid (List.getElem?_eq_getElem hlt)
  cases ab with
  | cells cs =>
    cases hg : G.μ[id] with
    | blk b =>
      rw [hg] at hok
      obtain ⟨_, _, vs, e, _, h2⟩ := hok
      have := All2.all_of (fun v a (h : ARel w G v a) => h.sc) h2
      rw [h.len] at this
      exact this
    | own v s n => rw [hg] at hok; exact hok.elim
  | map kvs => cases hg : G.μ[id] <;> rw [hg] at hok <;> exact hok.elim
  | perm e s n => rfl

/-! ### Forgetting the last blocks -/
/-- The ghost in which only n ids are left; the blocks of the others do not change any more. -/
def Gh.cut (G : Gh) (w : World) (n : Nat) : Gh :=
  ⟨fun b => if (G.μ.drop n).any (fun gi => match gi with | .blk x => x == b | _ => false) = true then (match w.heap[b]? with | some (.cells c _ _) => c.size | _ => 0) else G.L b, G.μ.take n⟩

theorem cut_ids {n id : Nat} (h : id < n) : (G.cut w n).μ[id]? = G.μ[id]? := by simp [Gh.cut, h]
theorem cut_ids' {n id : Nat} {gi : GI} (h : (G.cut w n).μ[id]? = some gi) : id < n ∧ G.μ[id]? = some gi := by
  simp only [Gh.cut, List.getElem?_take] at h
  split at h
  · rename_i hlt; exact ⟨hlt, h⟩
  · cases h
theorem cut_dropped {n b : Nat} : ((G.μ.drop n).any (fun gi => match gi with | .blk x => x == b | _ => false) = true) ↔ ∃ id, n ≤ id ∧ G.μ[id]? = some (.blk b) := by
  rw [List.any_eq_true]
  constructor
  · rintro ⟨gi, h1, h2⟩
    obtain ⟨k, hk⟩ := List.mem_iff_getElem?.1 h1
    rw [List.getElem?_drop] at hk
    cases gi with
    | blk x => simp at h2; subst h2; exact ⟨n + k, by omega, hk⟩
    | own _ _ _ => simp at h2
  · rintro ⟨id, h1, h2⟩
    refine ⟨.blk b, List.mem_iff_getElem?.2 ⟨id - n, ?_⟩, by simp⟩
    rw [List.getElem?_drop, show n + (id - n) = id by omega]
    exact h2

theorem cut_lev (h : HRel B w G H) (n b : Nat) : G.L b ≤ (G.cut w n).L b := by
  simp only [Gh.cut]
  split
  · rename_i hd
    obtain ⟨id, _, hid⟩ := cut_dropped.1 hd
    have hlt : id < H.length := by rw [← h.len]; exact lt_of_μ hid
    have hok := h.ok id _ _ (List.getElem?_eq_getElem hlt) hid
    cases hb : H[id] with
    | cells cs => rw [hb] at hok; rw [hok.2.1]; exact Nat.zero_le _
    | perm e s n => rw [hb] at hok; exact hok.elim
    | map kvs => rw [hb] at hok; exact hok.elim
  · exact Nat.le_refl _


theorem cut_keep (h : HRel B w G H) {n id : Nat} {gi : GI} {b : Nat} (hn : id < n) (hid : G.μ[id]? = some gi) (hb : gi.block = some b) : (G.cut w n).L b = G.L b := by
  simp only [Gh.cut]
  split
  · rename_i hd
    obtain ⟨id', h1, h2⟩ := cut_dropped.1 hd
    have := h.dist id id' gi _ b hid h2 hb rfl
    omega
  · rfl

theorem cut_ext (h : HRel B w G H) {w0 : World} {G0 : Gh} {n : Nat} (hE : Ext B w0 G0 w G) (hn : G0.μ.length ≤ n) : Ext B w0 G0 w (G.cut w n) :=
  ⟨hE.below, fun b => Nat.le_trans (hE.lev b) (cut_lev h n b), hE.cell, fun id gi hg => by
    obtain ⟨g', h1, h2⟩ := hE.ids id gi hg
    exact ⟨g', by rw [cut_ids (Nat.lt_of_lt_of_le (lt_of_μ hg) hn)]; exact h1, h2⟩⟩

theorem cut_drel (h : HRel B w G H) {n : Nat} {v : Value} {a : AV} (hd : DRel w G.L v a) : DRel w (G.cut w n).L v a := hd.mono (fun b => cut_lev h n b) (fun _ _ _ => rfl)
theorem cut_brel (h : HRel B w G H) {n : Nat} {v : Value} {a : AV} (hr : BRel w G v a) (hs : a.scB n = true) : BRel w (G.cut w n) v a := by
  cases a with
  | ptr id off => obtain ⟨b, h1, h2⟩ := hr; simp [AV.scB] at hs; exact ⟨b, by rw [cut_ids hs]; exact h1, h2⟩
  | ms id off len cap => obtain ⟨b, h1, h2⟩ := hr; simp [AV.scB] at hs; exact ⟨b, by rw [cut_ids hs]; exact h1, h2⟩
  | map id => obtain ⟨b, h1, h2⟩ := hr; simp [AV.scB] at hs; exact ⟨b, by rw [cut_ids hs]; exact h1, h2⟩
  | view cs => obtain ⟨b, off, h1, h2⟩ := hr; exact ⟨b, off, h1, h2.mono (fun b => cut_lev h n b) (fun _ _ _ => rfl)⟩
  | sl es tok =>
    cases tok with
    | none => exact cut_drel h hr
    | full => exact ⟨cut_drel h hr.1, hr.2⟩
    | own id =>
      obtain ⟨h1, v', s, m, h2, h3⟩ := hr
      simp [AV.scB] at hs
      exact ⟨cut_drel h h1, v', s, m, by rw [cut_ids hs]; exact h2, h3⟩
  | _ => exact hr
theorem cut_all {R R' : Value → AV → Prop} {p : AV → Bool} (hp : ∀ v a, R v a → p a = true → R' v a) : ∀ {vs : List Value} {as : List AV}, All2 R vs as → as.all p = true → All2 R' vs as
  | [], [], _, _ => trivial
  | _ :: _, _ :: _, h, hs => by
    simp only [List.all_cons, Bool.and_eq_true] at hs
    exact ⟨hp _ _ h.1 hs.1, cut_all hp h.2 hs.2⟩
theorem cut_arel (h : HRel B w G H) {n : Nat} {v : Value} {a : AV} (hr : ARel w G v a) (hs : a.scA n = true) : ARel w (G.cut w n) v a := by
  cases a with
  | fn f caps => obtain ⟨vs, h1, h2⟩ := hr; exact ⟨vs, h1, cut_all (p := AV.scB n) (fun _ _ => cut_brel h) h2 hs⟩
  | _ => exact ARel.of_b (cut_brel h hr hs)
theorem cut_vrel (h : HRel B w G H) {n : Nat} {v : Value} {a : AV} (hr : VRel w G v a) (hs : a.scV n = true) : VRel w (G.cut w n) v a := by
  cases a with
  | agg cs => obtain ⟨vs, h1, h2⟩ := hr; exact ⟨vs, h1, cut_all (p := AV.scA n) (fun _ _ => cut_arel h) h2 hs⟩
  | _ => exact VRel.of_a (cut_arel h hr hs)
theorem cut_trel (h : HRel B w G H) {n : Nat} {v : Value} {a : AV} (hr : TRel w G v a) (hs : a.sc n = true) : TRel w (G.cut w n) v a := by
  cases a with
  | tup cs => obtain ⟨vs, h1, h2⟩ := hr; exact ⟨vs, h1, cut_all (p := AV.scV n) (fun _ _ => cut_vrel h) h2 hs⟩
  | _ => exact TRel.of_v (cut_vrel h hr hs)

theorem HRel.cut {J : Heap} (h : HRel B w G (H ++ J)) (hs : HSc H) : HRel B w (G.cut w H.length) H := by
  refine ⟨?_, ?_, ?_, ?_, ?_, h.base⟩
  · have := h.len
    simp [Gh.cut] at this ⊢
    omega
  · intro id ab gi h1 h2
    obtain ⟨hlt, h2⟩ := cut_ids' h2
    have hok := h.ok id ab gi (by rw [List.getElem?_append_left hlt]; exact h1) h2
    have hsc := hs ab (List.mem_iff_getElem?.2 ⟨id, h1⟩)
    cases ab with
    | cells cs =>
      cases gi with
      | blk b =>
        obtain ⟨k1, k2, vs, e, k3, k4⟩ := hok
        exact ⟨k1, by rw [cut_keep h hlt h2 rfl]; exact k2, vs, e, k3, cut_all (p := AV.scA H.length) (fun _ _ => cut_arel h) k4 hsc⟩
      | own v s n => exact hok.elim
    | perm e s n =>
      cases gi with
      | blk b => exact hok.elim
      | own v s' n' =>
        obtain ⟨k1, k2, k3, k4⟩ := hok
        exact ⟨k1, k2, k3, fun b hb => by rw [cut_keep h hlt h2 (by simpa [GI.block] using hb)]; exact k4 b hb⟩
    | map kvs => cases gi <;> exact hok.elim
  · intro id id' gi gi' b h1 h2
    exact h.dist id id' gi gi' b (cut_ids' h1).2 (cut_ids' h2).2
  · intro b hb
    simp only [Gh.cut]
    split
    · rename_i hd
      obtain ⟨id, _, hid⟩ := cut_dropped.1 hd
      have := h.lt id _ b hid rfl
      omega
    · exact h.fresh b hb
  · intro id gi b h1 h2
    exact h.lt id gi b (cut_ids' h1).2 h2

/-! ### Weaker values -/
inductive WkA : AV → AV → Prop
  | refl (a : AV) : WkA a a
  | sl (es : List (List AV)) (t : Tok) : WkA (.sl es t) (.sl es .none)
  | snil : WkA .snil (.sl [] .none)
inductive WkV : AV → AV → Prop
  | unk (a : AV) : WkV a .unk
  | atom {a b : AV} (h : WkA a b) : WkV a b
  | agg {cs ds : List AV} (h : All2 WkA cs ds) : WkV (.agg cs) (.agg ds)
theorem WkA.arel {v : Value} {a b : AV} (h : WkA a b) (hr : ARel w G v a) : ARel w G v b := by
  cases h with
  | refl => exact hr
  | sl es t => cases t with
    | none => exact hr
    | full => exact hr.1
    | own id => exact hr.1
  | snil => cases hr; exact .slE _ _
theorem All2.wk {as bs : List AV} (h : All2 WkA as bs) : ∀ {vs : List Value}, All2 (ARel w G) vs as → All2 (ARel w G) vs bs := by
  induction as generalizing bs with
  | nil =>
    intro vs hr
    cases bs with
    | nil => exact hr
    | cons b bs => exact h.elim
  | cons a as ih =>
    intro vs hr
    cases bs with
    | nil => exact h.elim
    | cons b bs =>
      cases vs with
      | nil => exact hr.elim
      | cons v vs => exact ⟨h.1.arel hr.1, ih h.2 hr.2⟩
theorem WkV.trel {v : Value} {a b : AV} (h : WkV a b) (hr : TRel w G v a) : TRel w G v b := by
  cases h with
  | unk => trivial
  | atom h =>
    cases h with
    | refl => exact hr
    | sl es t => exact TRel.of_v (VRel.of_a (WkA.arel (.sl es t) hr))
    | snil => exact TRel.of_v (VRel.of_a (WkA.arel .snil hr))
  | agg h =>
    obtain ⟨vs, h1, h2⟩ := hr
    exact ⟨vs, h1, h.wk h2⟩
theorem wk_all {as bs : List AV} (h : All2 WkV as bs) : ∀ {vs : List Value}, All2 (TRel w G) vs as → All2 (TRel w G) vs bs := by
  induction as generalizing bs with
  | nil =>
    intro vs hr
    cases bs with
    | nil => exact hr
    | cons b bs => exact h.elim
  | cons a as ih =>
    intro vs hr
    cases bs with
    | nil => exact h.elim
    | cons b bs =>
      cases vs with
      | nil => exact hr.elim
      | cons v vs => exact ⟨h.1.trel hr.1, ih h.2 hr.2⟩

/-! ### Calls -/
theorem ACalls.mono {f : FuncId} {args : List AV} {K K' : AV → Heap → Prop} (h : ACalls P f args H K) (hk : ∀ r H', K r H' → K' r H') : ACalls P f args H K' :=
  fun B w G vs hH hv => (h B w G vs hH hv).mono fun _ _ ⟨v, r, H', G', h1, h2, h3, h4, h5⟩ => ⟨v, r, H', G', h1, h2, h3, h4, hk _ _ h5⟩
theorem ACalls.wk {f : FuncId} {args args' : List AV} {K : AV → Heap → Prop} (h : ACalls P f args' H K) (ha : All2 WkV args args') : ACalls P f args H K :=
  fun B w G vs hH hv => h B w G vs hH (wk_all ha hv)

/-! ### Loops -/
/-- At a round's end: the frame may be weakened, and the last blocks forgotten. -/
def Back (n0 : Nat) (Inv : List AV → Heap → Prop) (F : List AV) (H : Heap) : Prop :=
  ∃ F2 H2 J, H = H2 ++ J ∧ n0 ≤ H2.length ∧ HSc H2 ∧ All2 WkV F F2 ∧ F2.all (AV.sc H2.length) = true ∧ Inv F2 H2

theorem mask_sc {n : Nat} : ∀ (m : List Bool) (F : List AV), F.all (AV.sc n) = true → (mask m F).all (AV.sc n) = true
  | [], F, h => by unfold mask; exact h
  | b :: m, [], h => by cases b <;> rfl
  | true :: m, a :: F, h => by
    simp only [mask, List.all_cons, Bool.and_eq_true] at h ⊢
    exact ⟨h.1, mask_sc m F h.2⟩
  | false :: m, a :: F, h => by
    simp only [mask, List.all_cons, Bool.and_eq_true] at h ⊢
    exact ⟨rfl, mask_sc m F h.2⟩

theorem VRel.sc {v : Value} {a : AV} (h : VRel w G v a) : a.scV G.μ.length = true := by
  have ha : ∀ {x : AV}, ARel w G v x → x.scA G.μ.length = true := fun h => h.sc
  cases a with
  | agg cs => obtain ⟨vs, _, h2⟩ := h; exact All2.all_of (fun v a (h : ARel w G v a) => h.sc) h2
  | fn f caps => exact ha (x := .fn f caps) h
  | unk => rfl
  | bool b => rfl
  | int k n => rfl
  | str s => rfl
  | nilp => rfl
  | ptr i o => exact ha (x := .ptr i o) h
  | view cs => rfl
  | snil => rfl
  | sl es t => exact ha (x := .sl es t) h
  | ms i o l c => exact ha (x := .ms i o l c) h
  | map i => exact ha (x := .map i) h
  | nilfn => rfl
  | tup vs => exact ha (x := .tup vs) h
theorem TRel.sc {v : Value} {a : AV} (h : TRel w G v a) : a.sc G.μ.length = true := by
  have ha : ∀ {x : AV}, VRel w G v x → x.scV G.μ.length = true := fun h => h.sc
  cases a with
  | tup vs => obtain ⟨us, _, h2⟩ := h; exact All2.all_of (fun v a (h : VRel w G v a) => h.sc) h2
  | agg cs => exact ha (x := .agg cs) h
  | fn f caps => exact ha (x := .fn f caps) h
  | unk => rfl
  | bool b => rfl
  | int k n => rfl
  | str s => rfl
  | nilp => rfl
  | ptr i o => exact ha (x := .ptr i o) h
  | view cs => rfl
  | snil => rfl
  | sl es t => exact ha (x := .sl es t) h
  | ms i o l c => exact ha (x := .ms i o l c) h
  | map i => exact ha (x := .map i) h
  | nilfn => rfl
theorem FRel.sc {tm : Array Value} {F : List AV} (hH : HRel B w G H) (h : FRel w G tm F) : F.all (AV.sc H.length) = true := by
  rw [← hH.len]
  exact All2.all_of (fun v a (h : TRel w G v a) => h.sc) h

/-- A loop: 'Inv' holds at the head of each round, with a measure that falls. -/
theorem aloop {M : Nat → List Bool} {c : Code} {Q : AExit → List AV → Heap → Prop} {F : List AV} (m : List Bool) (Inv : Nat → List AV → Heap → Prop) (n : Nat) (h0 : HSc H → F.all (AV.sc H.length) = true → Inv n F H)
    (round : ∀ n F H', Inv n F H' → HSc H' → H.length ≤ H'.length → F.all (AV.sc H'.length) = true → awp P M c (roundQ m (fun F'' H'' => ∃ n', n' < n ∧ Back H.length (Inv n') F'' H'') Q) F H') : ALoop P c Q F H := by
  intro B w G a hH hF hd b k cs
  have key : ∀ n (a' : Act) (w' : World) (G' : Gh) (F' : List AV) (H' : Heap), Ext B w G w' G' → HRel B w' G' H' → FRel w' G' a'.tmps F' → a'.defers = [] → H.length ≤ H'.length → Inv n F' H' →
      ∃ e a'' w'', Post B w G Q e a'' w'' ∧ Arrives P (lone (b.at a' (.code c :: .inLoop c :: k)) cs w') b k cs e a'' w'' := by
    intro n
    induction n using Nat.strongRecOn with
    | _ n ih =>
      intro a' w' G' F' H' hE hH' hF' hd' hlen hI
      obtain ⟨e, a₁, w₁, hq, harr⟩ := awp_sound c _ F' H' (round n F' H' hI hH'.sc hlen (FRel.sc hH' hF')) B w' G' a' hH' hF' hd' b (.inLoop c :: k) cs
      obtain ⟨F1, H1, G1, e1, rfl, k1, k2, k3, k4, k5⟩ := hq
      cases e1 with
      | normal =>
        obtain ⟨n', hlt, F2, H2, J, hJ, hn0, hsc, hwk, hsF, hI2⟩ := k5
        subst hJ
        have hE2 : Ext B w G w₁ (G1.cut w₁ H2.length) := cut_ext k2 (hE.trans k1) (by rw [hH.len]; exact hn0)
        have hF2 : FRel w₁ (G1.cut w₁ H2.length) a₁.tmps F2 := cut_all (p := AV.sc H2.length) (fun _ _ => cut_trel k2) (wk_all hwk (mask_rel m k3)) hsF
        obtain ⟨e₂, a₂, w₂, hq₂, harr₂⟩ := ih n' hlt a₁ w₁ _ F2 H2 hE2 (k2.cut hsc) hF2 k4 hn0 hI2
        exact ⟨e₂, a₂, w₂, hq₂, .of_steps (Steps.trans harr (.one step_inLoop)) harr₂⟩
      | exit id => exact ⟨_, a₁, w₁, ⟨F1, H1, G1, .exit id, rfl, hE.trans k1, k2, k3, k4, k5⟩, .pass (x := .inLoop c) rfl (fun _ _ => .inl (by simp [AExit.toExit])) harr⟩
      | ret => exact ⟨_, a₁, w₁, ⟨F1, H1, G1, .ret, rfl, hE.trans k1, k2, k3, k4, k5⟩, .pass (x := .inLoop c) rfl (fun _ _ => .inl (by simp [AExit.toExit])) harr⟩
  obtain ⟨e, a', w', hq, harr⟩ := key n a w G F H (Ext.refl _ _ _) hH hF hd (Nat.le_refl _) (h0 hH.sc (FRel.sc hH hF))
  exact ⟨e, a', w', hq, .of_steps (.one step_loop) harr⟩

theorem wk_refl : ∀ F : List AV, All2 WkV F F
  | [] => trivial
  | a :: F => ⟨.atom (.refl a), wk_refl F⟩
theorem Back.same {n0 : Nat} {Inv : List AV → Heap → Prop} {F : List AV} {J : Heap} (hn : n0 ≤ H.length) (hsc : HSc H) (hs : F.all (AV.sc H.length) = true) (h : Inv F H) : Back n0 Inv F (H ++ J) :=
  ⟨F, H, J, rfl, hn, hsc, wk_refl F, hs, h⟩

/-! ### Bodies -/
def AV.isV : AV → Bool
  | .tup _ => false
  | _ => true
def aRes (P : Program) : List ResultVar → List AV → Heap → (List AV → Prop) → Prop
  | [], _, _, K => K []
  | .tmp t :: rs, F, H, K => aRes P rs F H fun vs => K (F.getD t .unk :: vs)
  | .cell a t :: rs, F, H, K => (match tAgg P t, tSize P t with
    | some g, some n => aLoad g n (F.getD a .unk) H fun v => aRes P rs F H fun vs => K (v :: vs)
    | _, _ => False)
def aRet (vs : List AV) (K : AV → Prop) : Prop :=
  match vs with
  | [v] => K v
  | vs => vs.all AV.isV = true ∧ K (.tup vs)
def retQ (P : Program) (rs : List ResultVar) (K : AV → Heap → Prop) (e : AExit) (F : List AV) (H : Heap) : Prop :=
  match e with
  | .exit _ => False
  | _ => aRes P rs F H fun vs => aRet vs (K · H)

theorem isV_rel {v : Value} {a : AV} (h : TRel w G v a) (hv : a.isV = true) : VRel w G v a := by
  cases a <;> first | exact h | (simp [AV.isV] at hv; done)

def resOf (tm : Array Value) : ResultVar → Sem Value
  | .tmp t => pure (tm.getD t undef)
  | .cell a t => do loadVar t (← asAddr (tm.getD a undef))
theorem results_eq (fn : Func) (tm : Array Value) : results fn tm = (do
    let vs ← fn.results.mapM (resOf tm)
    pure (if h : vs.size = 1 then vs[0] else .tuple vs)) := by
  unfold results
  congr 1

theorem run_res {tm : Array Value} {F : List AV} (hH : HRel B w G H) (hF : FRel w G tm F) : ∀ (rs : List ResultVar) (K : List AV → Prop), aRes P rs F H K →
    ∃ vs as, (rs.mapM (m := Sem) (resOf tm)).run P w = .ok vs w ∧ All2 (TRel w G) vs as ∧ K as
  | [], K, h => ⟨[], [], by simp, trivial, h⟩
  | .tmp t :: rs, K, h => by
    obtain ⟨vs, as, h1, h2, h3⟩ := run_res hH hF rs _ h
    have ht := ev_rel (a := ⟨tm, []⟩) hF (.tmp t)
    exact ⟨tm.getD t undef :: vs, F.getD t .unk :: as, by simp only [List.mapM_cons, Sem.run_bind, resOf, Sem.run_pure, Result.andThen_ok, h1], ⟨ht, h2⟩, h3⟩
  | .cell a t :: rs, K, h => by
    unfold aRes at h
    split at h
    · rename_i g n hg hn
      have ht := ev_rel (a := ⟨tm, []⟩) hF (.tmp a)
      have ht : TRel w G (tm.getD a undef) (F.getD a .unk) := ht
      obtain ⟨u, h1, av, h2, h3⟩ := sound_load (K := fun v _ => aRes P rs F H fun vs => K (v :: vs)) hH ht hg hn h
      obtain ⟨vs, as, k1, k2, k3⟩ := run_res hH hF rs _ h3
      refine ⟨u :: vs, av :: as, ?_, ⟨h2, k2⟩, k3⟩
      have hld : (resOf tm (.cell a t)).run P w = .ok u w := by
        have hsa : ∃ x, tm.getD a undef = .pointer (some x) := by
          unfold aLoad at h
          split at h
          · rename_i hx; rw [hx] at ht; obtain ⟨b, _, hb⟩ := ht; exact ⟨_, hb⟩
          · rename_i hx; rw [hx] at ht; obtain ⟨b, off, hb, _⟩ := ht; exact ⟨_, hb⟩
          · exact h.elim
        obtain ⟨x, hx⟩ := hsa
        show ((do loadVar t (← asAddr (tm.getD a undef))) : Sem Value).run P w = .ok u w
        rw [hx] at h1 ⊢
        simpa [Instr.loadAt, Instr.sureAddr, asAddr] using h1
      simp only [List.mapM_cons, Sem.run_bind, hld, Result.andThen_ok, k1, Sem.run_pure]
    · exact h.elim

theorem acalls_body {M : Nat → List Bool} {f : FuncId} {fn : Func} {c : Code} {args : List AV} {K : AV → Heap → Prop} (hf : P.funcs[f]? = some fn) (hb : fn.body = some c)
    (h : HSc H → awp P M c (retQ P fn.results.toList K) (args ++ List.replicate (fn.ntmps - args.length) .unk) H) : ACalls P f args H K := by
  intro B w G vs hH hv
  refine calls_of_wp hf hb ?_
  have hF : FRel w G (vs ++ Array.replicate (fn.ntmps - vs.size) undef) (args ++ List.replicate (fn.ntmps - args.length) .unk) := by
    unfold FRel
    have hl : vs.size = args.length := by simpa using hv.length
    rw [hl]
    simpa using hv.append (All2.replicate (R := TRel w G) (a := undef) (b := .unk) trivial (fn.ntmps - args.length))
  refine wp_mono (awp_sound c _ _ H (h hH.sc) B w G ⟨_, []⟩ hH hF rfl) fun e a' w' hp => ?_
  obtain ⟨F', H', G', e', rfl, h1, h2, h3, h4, h5⟩ := hp
  have fin : (aRes P fn.results.toList F' H' fun vs => aRet vs (K · H')) → ∃ v, (results fn a'.tmps).run P w' = .ok v w' ∧ ∃ v' r H'' G'', Ending.returned v = .returned v' ∧ Ext B w G w' G'' ∧ HRel B w' G'' H'' ∧ TRel w' G'' v' r ∧ K r H'' := by
    intro h5
    obtain ⟨us, as, k1, k2, k3⟩ := run_res h2 h3 fn.results.toList _ h5
    have hres : (results fn a'.tmps).run P w' = .ok (if hh : us.toArray.size = 1 then us.toArray[0] else .tuple us.toArray) w' := by
      rw [results_eq, Sem.run_bind, Array.mapM_eq_mapM_toList, Sem.run_map, k1]
      rfl
    refine ⟨_, hres, (if hh : us.toArray.size = 1 then us.toArray[0] else .tuple us.toArray), ?_⟩
    have hl := k2.length
    unfold aRet at k3
    split at k3
    · rename_i r
      match us, hl, k2, hres with
      | [u], _, k2, _ => exact ⟨r, H', G', rfl, h1, h2, by simpa using k2.1, k3⟩
    · rename_i hne
      refine ⟨.tup as, H', G', rfl, h1, h2, ?_, k3.2⟩
      have hsz : ¬ us.toArray.size = 1 := by
        intro hs
        have : as.length = 1 := by rw [← hl]; simpa using hs
        match as, this with
        | [x], _ => exact hne x rfl
      rw [dif_neg hsz]
      exact ⟨us.toArray, rfl, cut_all (p := AV.isV) (fun _ _ => isV_rel) k2 k3.1⟩
  cases e' with
  | normal => exact ⟨h4, fin h5⟩
  | ret => exact ⟨h4, fin h5⟩
  | exit id => exact h5.elim

end Go.Abs
