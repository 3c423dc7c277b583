import Derived.Test.YtacebbdfgbfgiaaGreatAbsL
import Derived.Test.YtacebbdfgbfgiaaGreatKNum
import Derived.Test.YtacebbdfgbfgiaaGreatProg
import Derived.KernelRfl
import Derived.Test.YtacebbdfgbfgiaaGreatAbsQ1
import Derived.IntWalk
set_option linter.unusedVariables false
namespace Go.Abs
open Go Go.RowKit
variable {P : Program}
def zom : Code → Array Oper
 | .region _ ops _ => ops
 | .seq a _ => zom a
 | _ => #[]
def opS : Op → Bool
 | .move _ => true
 | .fieldAddr _ _ _ => true
 | _ => false
def opT : Op → Bool
 | .move _ => true
 | .assign _ => true
 | .fieldAddr _ _ _ => true
 | .indexAddr _ _ _ => true
 | .load _ _ => true
 | .store _ _ _ => true
 | .buildSlice _ _ _ => true
 | .slice _ _ _ _ none => true
 | .call c => (match c.callee with
  | .builtin .append => true
  | .value (.func _) => true
  | _ => false)
 | _ => false
theorem ACalls.monoZ {H : zaa} {f : FuncId} {args : List AV} {K K' : AV → zaa → Prop} (h : ACalls P f args H K) (hk : ∀ r H', K r H' → K' r H') : ACalls P f args H K' :=
 fun B w G vs hH hv => (h B w G vs hH hv).mono fun _ _ ⟨v, r, H', G', h1, h2, h3, h4, h5⟩ => ⟨v, r, H', G', h1, h2, h3, h4, hk _ _ h5⟩
theorem zc7 {x : Option AV} {d : Nat} {K K' : Nat → Prop} (hk : ∀ n, K n → K' n) (h : zbc x d K) : zbc x d K' := by
 unfold zbc at h ⊢
 split at h
 ·exact hk _ h
 ·exact ⟨h.1, hk _ h.2⟩
 ·exact h
theorem zm3 {u esz : Nat} {x : AV} {lo hi : Option AV} {K K' : AV → Prop} (hk : ∀ v, K v → K' v) (h : zaC u esz x lo hi K) : zaC u esz x lo hi K' := by
 unfold zaC at h ⊢
 split at h
 ·exact zc7 (fun _ => zc7 fun _ h => ⟨h.1, hk _ h.2⟩) h
 ·exact zc7 (fun _ => zc7 fun _ h => ⟨h.1, hk _ h.2⟩) h
 ·exact zc7 (fun _ => zc7 fun _ h => ⟨h.1, hk _ h.2⟩) h
 ·exact zc7 (fun _ => zc7 fun _ h => ⟨h.1, hk _ h.2⟩) h
 ·exact h
theorem zi2 {o : Oper} {F : List AV} {H : zaa} {K K' : AV → zaa → Prop} (hT : opT o.op = true) (hk : ∀ v H', K v H' → K' v H') (h : aop P o F H K) : aop P o F H K' := by
 obtain ⟨dst, op, type, pos, after, guard⟩ := o
 cases op <;> simp only [opT] at hT <;> first | exact absurd hT (by decide) | skip
 case move x => exact hk _ _ h
 case assign x => exact hk _ _ h
 case fieldAddr s x i =>
  simp only [aop, isM, zbn] at h ⊢
  split at h
  ·split at h
   ·unfold zaf at h ⊢
    split at h
    ·exact hk _ _ h
    ·exact h
   ·exact h
  ·exact h
 case slice t x lo hi m =>
  cases m with
  | some m => exact absurd hT (by simp)
  | none =>
   simp only [aop, isM, zbn] at h ⊢
   split at h
   ·exact zm3 (fun v => hk v _) h
   ·split at h
    ·exact zm3 (fun v => hk v _) h
    ·exact h
   ·exact h
 case indexAddr t x i =>
  simp only [aop, isM, zbn] at h ⊢
  split at h
  ·unfold zaj at h ⊢
   split at h
   ·exact hk _ _ h
   ·exact h
  ·exact h
 case load t a =>
  simp only [aop, isM, zbn] at h ⊢
  split at h
  ·unfold zad at h ⊢
   split at h
   ·unfold zaR at h ⊢
    split at h
    ·exact ⟨h.1, hk _ _ h.2⟩
    ·split at h
     ·exact hk _ _ h
     ·exact h
   ·exact h
  ·exact h
 case store t a x =>
  simp only [aop, isM, zbn] at h ⊢
  split at h
  ·unfold zak at h ⊢
   split at h
   ·exact hk _ _ h
   ·exact h
  ·exact h
 case buildSlice t n ps =>
  simp only [aop, isM, zbn] at h ⊢
  split at h
  ·split at h
   ·unfold zaw at h ⊢
    split at h
    ·split at h
     ·exact hk _ _ h
     ·exact h
    ·exact h
   ·exact h
  ·exact h
 case call c =>
  obtain ⟨callee, args, ats⟩ := c
  simp only [aop, isM, zbn] at h ⊢
  cases callee with
  | invoke _ _ => exact absurd hT (by simp)
  | value f =>
   cases f with
   | func g =>
    simp only [ev, aCallV] at h ⊢
    split at h
    ·exact ACalls.monoZ h hk
    ·exact h
   | _ => exact absurd hT (by simp)
  | builtin b =>
   cases b <;> (try (simp at hT; done))
   case append =>
    simp only [zc8] at h ⊢
    split at h
    ·split at h
     ·split at h
      ·exact zmZ hk h
      ·exact h
     ·exact h
    ·exact h
theorem sil {o : Oper} {F : List AV} {H : zaa} {K : AV → zaa → Prop} (hS : opS o.op = true) (h : aop P o F H K) :
  ∃ v, K v H ∧ ∀ (F' : List AV) (H' : zaa) (K' : AV → zaa → Prop), (∀ x ∈ o.op.operands, ev F x = ev F' x) → K' v H' → aop P o F' H' K' := by
 have hc := fun (F' : List AV) (H' : zaa) (K' : AV → zaa → Prop) (hx : ∀ x ∈ o.op.operands, ev F x = ev F' x) => (zi1 (P := P) (H := H') (K := K') hx)
 obtain ⟨dst, op, type, pos, after, guard⟩ := o
 cases op <;> simp only [opS] at hS <;> first | exact absurd hS (by decide) | skip
 case move x =>
  refine ⟨ev F x, h, fun F' H' K' hx hk => ?_⟩
  rw [← hc F' H' K' hx]
  exact hk
 case fieldAddr s x i =>
  simp only [aop, isM, zbn] at h
  split at h
  ·rename_i f hf
   split at h
   ·rename_i n hn
    unfold zaf at h
    split at h
    ·rename_i v hv
     refine ⟨v, h, fun F' H' K' hx hk => ?_⟩
     rw [← hc F' H' K' hx]
     simp only [aop, isM, zbn, hf, hn, zaf, hv]
     exact hk
    ·exact h.elim
   ·exact h.elim
  ·exact h.elim
def zkn (ops : Array Oper) (i : Nat) : Bool := match ops[i]? with
 | some o => opS o.op
 | none => false
def zeq (P : Program) (ops : Array Oper) (K : List AV → zaa → Prop) : Nat → Array Bool → List AV → zaa → Prop
 | 0, listed, F, H => (match Region.ready .any ops listed with
  | [] => K F H
  | _ => False)
 | n + 1, listed, F, H => (match Region.ready .any ops listed with
  | [] => K F H
  | i :: is => (match (i :: is).find? (zkn ops) with
   | some j => (match ops[j]? with
    | some o => aop P o F H fun v H' => zeq P ops K n (listed.setIfInBounds j true) (zaN F o.dst v) H'
    | none => False)
   | none => zeJ (i :: is) fun i => (match ops[i]? with
    | some o => aop P o F H fun v H' => zeq P ops K n (listed.setIfInBounds i true) (zaN F o.dst v) H'
    | none => False)))
theorem zfP {α : Type} {p : α → Prop} : ∀ {l : List α}, (∀ i ∈ l, p i) → zeJ l p
 | [], _ => trivial
 | [i], h => h i (by simp)
 | i :: j :: l, h => ⟨h i (by simp), zfP fun k hk => h k (by simp [List.mem_cons.1 hk])⟩
theorem zkf {ops : Array Oper} {listed : Array Bool} {i j : Nat} (hj : j ∈ Region.ready .any ops listed) (hne : j ≠ i) : j ∈ Region.ready .any ops (listed.setIfInBounds i true) := by
 obtain ⟨h1, o, ho, he⟩ := mem_ready.1 hj
 refine mem_ready.2 ⟨?_, o, ho, fun e hem hb => ?_⟩
 ·have : (listed.setIfInBounds i true)[j]? = listed[j]? := by rw [Array.getElem?_setIfInBounds]; rw [if_neg (fun h => hne h.symm)]
  rw [Array.getD_eq_getD_getElem?] at h1 ⊢
  rw [this]
  exact h1
 ·have h2 := he e hem hb
  rw [Array.getD_eq_getD_getElem?] at h2 ⊢
  rw [Array.getElem?_setIfInBounds]
  split
  ·rename_i h
   have hl : e.on < listed.size := by
    by_cases hl : e.on < listed.size
    ·exact hl
    ·rw [Array.getElem?_eq_none (by omega)] at h2
     cases h2
   subst h
   simp [hl]
  ·exact h2
theorem zoh {ops : Array Oper} {listed : Array Bool} {i j : Nat} {o : Oper} (hi : i ∈ Region.ready .any ops listed) (hj : j ∈ Region.ready .any ops listed) (ho : ops[i]? = some o) : ¬ ∃ e ∈ o.after, Region.binds .any e = true ∧ e.on = j := by
 rintro ⟨e, he, hb, rfl⟩
 obtain ⟨_, o', ho', h1⟩ := mem_ready.1 hi
 obtain ⟨h2, _⟩ := mem_ready.1 hj
 rw [ho] at ho'
 obtain rfl := Option.some.inj ho'
 have h3 := h1 e he hb
 rw [Array.getD_eq_getD_getElem?] at h2 h3
 cases hx : listed[e.on]? with
 | none => rw [hx] at h3; cases h3
 | some b => rw [hx] at h2 h3; simp at h2 h3; rw [h2] at h3; cases h3
theorem znD {ops : Array Oper} {listed : Array Bool} {i j : Nat} {oi oj : Oper} (hO : Ord ops) (hi : i ∈ Region.ready .any ops listed) (hj : j ∈ Region.ready .any ops listed) (hne : i ≠ j) (hoi : ops[i]? = some oi) (hoj : ops[j]? = some oj) (F : List AV) (v : AV) :
  ∀ x ∈ oi.op.operands, ev F x = ev (zaN F oj.dst v) x := by
 intro x hx
 cases x with
 | tmp t =>
  cases hd : oj.dst with
  | none => rfl
  | some d =>
   by_cases htd : t = d
   ·exfalso
    subst htd
    have hr : t ∈ zcv ops oi := by
     simp only [zcv, List.mem_append, List.mem_filterMap]
     exact .inl ⟨.tmp t, by simpa using hx, rfl⟩
    by_cases hlt : j < i
    ·exact zoh hi hj hoi (hO.before i j oi oj t hoi hoj hlt hd hr)
    ·exact zoh hj hi hoj (hO.behind i j oi oj t hoi hoj (by omega) hd hr)
   ·simp only [ev, zaN, List.getD_eq_getElem?_getD, List.getElem?_set]
    rw [if_neg (fun h => htd h.symm)]
 | _ => rfl
theorem zt4 {ops : Array Oper} {i j : Nat} {oi oj : Oper} (hO : Ord ops) (hne : i ≠ j) (hoi : ops[i]? = some oi) (hoj : ops[j]? = some oj) (F : List AV) (v u : AV) : zaN (zaN F oi.dst v) oj.dst u = zaN (zaN F oj.dst u) oi.dst v := by
 cases h1 : oi.dst with
 | none => rfl
 | some d =>
  cases h2 : oj.dst with
  | none => rfl
  | some e =>
   have hde : d ≠ e := fun h => hO.dst i j oi oj e hoi hoj hne h2 (by rw [h1, h])
   exact List.set_comm _ _ hde
theorem zuf {ops : Array Oper} {K : List AV → zaa → Prop} (hO : Ord ops) (hN : ∀ (i : Nat) o, ops[i]? = some o → o.guard = none) (hT : ∀ (i : Nat) o, ops[i]? = some o → opT o.op = true) :
  ∀ (n : Nat) (listed : Array Bool) (F : List AV) (H : zaa) (i : Nat) (o : Oper), i ∈ Region.ready .any ops listed → ops[i]? = some o → opS o.op = true →
   aop P o F H (fun v H' => runT P ops K n (listed.setIfInBounds i true) (zaN F o.dst v) H') → runT P ops K (n + 1) listed F H := by
 intro n
 induction n with
 | zero =>
  intro listed F H i o hi ho hS h
  obtain ⟨v, hv, _⟩ := sil hS h
  have key : ∀ j ∈ Region.ready .any ops listed, j = i := fun j hj => by
   by_cases hne : j = i
   ·exact hne
   ·exfalso
    have hr := zkf hj hne
    unfold runT at hv
    split at hv
    ·rename_i hnil; rw [hnil] at hr; cases hr
    ·exact hv
  unfold runT
  split
  ·rename_i hnil; rw [hnil] at hi; cases hi
  ·rename_i i0 is hr
   refine zfP fun j hj => ?_
   obtain rfl := key j (by rw [hr]; exact hj)
   simp only [ho, hN _ _ ho]
   exact h
 | succ n ih =>
  intro listed F H i o hi ho hS h
  obtain ⟨v, hv, hsil⟩ := sil hS h
  unfold runT
  split
  ·rename_i hnil; rw [hnil] at hi; cases hi
  ·rename_i i0 is hr
   refine zfP fun j hj => ?_
   have hj : j ∈ Region.ready .any ops listed := by rw [hr]; exact hj
   by_cases hne : j = i
   ·subst hne
    simp only [ho, hN _ _ ho]
    exact h
   ·obtain ⟨_, oj, hoj, _⟩ := mem_ready.1 hj
    simp only [hoj, hN _ _ hoj]
    have hr2 := zkf hj hne
    unfold runT at hv
    split at hv
    ·rename_i hnil; rw [hnil] at hr2; cases hr2
    ·rename_i k0 ks hk
     have h1 := zfO hv j (by rw [← hk]; exact hr2)
     simp only [hoj, hN _ _ hoj] at h1
     rw [← zi1 (znD hO hj hi hne hoj ho F v)] at h1
     refine zi2 (hT _ _ hoj) (fun u H' h2 => ?_) h1
     refine ih _ _ _ i o (zkf hi (fun h => hne h.symm)) ho hS ?_
     refine hsil _ _ _ (znD hO hi hj (fun h => hne h.symm) ho hoj F u) ?_
     rw [zt4 hO (fun h => hne h.symm) ho hoj F v u] at h2
     have e2 : (listed.setIfInBounds i true).setIfInBounds j true = (listed.setIfInBounds j true).setIfInBounds i true := Array.setIfInBounds_comm _ _ (fun h => hne h.symm)
     rw [e2] at h2
     exact h2
theorem zud {ops : Array Oper} {K : List AV → zaa → Prop} (hO : Ord ops) (hN : ∀ (i : Nat) o, ops[i]? = some o → o.guard = none) (hT : ∀ (i : Nat) o, ops[i]? = some o → opT o.op = true) :
  ∀ (n : Nat) (listed : Array Bool) (F : List AV) (H : zaa), zeq P ops K n listed F H → runT P ops K n listed F H := by
 intro n
 induction n with
 | zero => intro listed F H h; exact h
 | succ n ih =>
  intro listed F H h
  unfold zeq at h
  split at h
  ·rename_i hr
   unfold runT
   split
   ·exact h
   ·rename_i hr2; rw [hr] at hr2; cases hr2
  ·rename_i i0 is hr
   split at h
   ·rename_i j hj
    have hjm : j ∈ Region.ready .any ops listed := by rw [hr]; exact List.mem_of_find?_eq_some hj
    have hjs : zkn ops j = true := List.find?_some hj
    split at h
    ·rename_i o ho
     unfold zkn at hjs
     rw [ho] at hjs
     exact zuf hO hN hT n listed F H j o hjm ho hjs (zi2 (hT _ _ ho) (fun v H' h => ih _ _ _ h) h)
    ·exact h.elim
   ·unfold runT
    split
    ·rename_i hr2; rw [hr] at hr2; cases hr2
    ·rename_i k0 ks hr2
     rw [hr] at hr2
     obtain ⟨rfl, rfl⟩ := List.cons.inj hr2
     refine zfP fun j hj => ?_
     have h1 := zfO h j hj
     split at h1
     ·rename_i o ho
      simp only [ho, hN _ _ ho]
      exact zi2 (hT _ _ ho) (fun v H' h => ih _ _ _ h) h1
     ·exact h1.elim
def okS (ops : Array Oper) : Bool := zcV ops && ops.toList.all fun o => o.guard.isNone && opT o.op
theorem zue {ops : Array Oper} {K : List AV → zaa → Prop} (h : okS ops = true) {n : Nat} {listed : Array Bool} {F : List AV} {H : zaa} (hs : zeq P ops K n listed F H) : runT P ops K n listed F H := by
 unfold okS at h
 rw [Bool.and_eq_true, List.all_eq_true] at h
 have mem : ∀ (i : Nat) o, ops[i]? = some o → o ∈ ops.toList := fun i o ho => List.mem_iff_getElem?.2 ⟨i, by simpa using ho⟩
 have h2 : ∀ (i : Nat) o, ops[i]? = some o → o.guard.isNone = true ∧ opT o.op = true := fun i o ho => by
  have := h.2 o (mem i o ho)
  simpa using this
 exact zud (zgv h.1) (fun i o ho => by simpa using (h2 i o ho).1) (fun i o ho => (h2 i o ho).2) n listed F H hs
end Go.Abs
namespace Go.Proofs.YtacebbdfgbfgiaaGreat
open Go Go.Abs
set_option maxRecDepth 100000
def zAn : Nat → List Bool
 | 300001 => rl false [0,1]
 | _ => []
noncomputable def zAo : Code := Tryz.f55.body.getD .skip
def zh7 (t0 : AV) (H : zaa) (K : Kt) : Prop :=
 zd8 true .eql t0 fun t4 =>
 zag t4
 (K .snil H)
 (zaw 2 [(.int .i64 0), .snil] 0 [] fun t5 =>
 zar zaY 2 32 t5 t0 H fun t7 H =>
 K t7 H)
theorem zAp {t0 : AV} {H : zaa} {K : Kt} (h : HSc H → zh7 t0 H K) : ACalls tP zgf [t0] H K :=
 zal (M := zAn) Tryz.func55 (c := zAo) (by kernel_rfl) (fun hs => Eq.mpr (by kernel_rfl) (h hs))
def zce : Nat → List Bool
 | 13 => rl false [0,1,1,1,4,1,2,1,1,2,1,1,49,3,85]
 | 20 => rl false [7,1,5,1,1,1,2,1,83,3,48]
 | 27 => rl false [18,1,112,3,19]
 | 30 => rl false [18,1,3,1,108,3,4,2,13]
 | _ => []
noncomputable def zd2 : Code := Tryz.f10.body.getD .skip
noncomputable def zmC : List ResultVar := Tryz.f10.results.toList
def ziL (t0 t2 t7 t10 t12 t13 t15 t65 t66 t67 : AV) : List AV := t0 :: ux 1 (t2 :: ux 4 (t7 :: ux 2 (t10 :: ux 1 (t12 :: t13 :: ux 1 (t15 :: ux 49 (t65 :: t66 :: t67 :: ux 85 []))))))
def zCC : List Bool := zce 13
noncomputable def zCv : Code := zap [1, 1, 1, 1, 1, 1, 1, 1, 0, 1, 0, 0] zd2
def zCs (K : Kt) : AExit → List AV → zaa → Prop := zaq tP zce [1, 1, 1, 1, 1, 1, 1, 1, 0, 1, 0] zd2 (zax tP zmC K)
def ziO (t0 t2 t7 t10 t12 t13 t15 t65 t66 t67 : AV) (H : zaa) (K : Kt) : Prop := ALoop tP zCv (zCs K) (ziL t0 t2 t7 t10 t12 t13 t15 t65 t66 t67) H
def ziM (t7 t13 t15 t18 t102 t103 t104 : AV) : List AV := ux 7 (t7 :: ux 5 (t13 :: ux 1 (t15 :: ux 2 (t18 :: ux 83 (t102 :: t103 :: t104 :: ux 48 [])))))
def zCD : List Bool := zce 20
noncomputable def zCw : Code := zap [1, 1, 1, 1, 1, 1, 1, 1, 1, 1, 0, 1, 0, 0, 1, 0, 0] zd2
def zCt (K : Kt) : AExit → List AV → zaa → Prop := zaq tP zce [1, 1, 1, 1, 1, 1, 1, 1, 1, 1, 0, 1, 0, 0, 1, 0] zd2 (zax tP zmC K)
def zrN (t7 t13 t15 t18 t102 t103 t104 : AV) (H : zaa) (K : Kt) : Prop := ALoop tP zCw (zCt K) (ziM t7 t13 t15 t18 t102 t103 t104) H
def zfA (t18 t131 t132 t133 : AV) : List AV := ux 18 (t18 :: ux 112 (t131 :: t132 :: t133 :: ux 19 []))
def zrQ : List Bool := zce 27
noncomputable def zmB : Code := zap [1, 1, 1, 1, 1, 1, 1, 1, 1, 1, 1, 1, 0, 1, 0, 0] zd2
def zrM (K : Kt) : AExit → List AV → zaa → Prop := zaq tP zce [1, 1, 1, 1, 1, 1, 1, 1, 1, 1, 1, 1, 0, 1, 0] zd2 (zax tP zmC K)
def zrO (t18 t131 t132 t133 : AV) (H : zaa) (K : Kt) : Prop := ALoop tP zmB (zrM K) (zfA t18 t131 t132 t133) H
def ziN (t18 t22 t131 t132 t133 t138 t139 : AV) : List AV := ux 18 (t18 :: ux 3 (t22 :: ux 108 (t131 :: t132 :: t133 :: ux 4 (t138 :: t139 :: ux 13 []))))
def zCE : List Bool := zce 30
noncomputable def zCx : Code := zap [1, 1, 0, 0, 1, 1, 0, 0] zmB
def zCu (K : Kt) (Kb27 : Lt) : AExit → List AV → zaa → Prop := zaq tP zce [1, 1, 0, 0, 1, 1, 0] zmB (zby zrQ Kb27 (zrM K))
def zrP (t18 t22 t131 t132 t133 t138 t139 : AV) (H : zaa) (K : Kt) (Kb27 : Lt) : Prop := ALoop tP zCx (zCu K Kb27) (ziN t18 t22 t131 t132 t133 t138 t139) H
def zmA (t18 t22 t131 t132 t133 t138 t139 : AV) (H : zaa) (K : Kt) (Kb27 : Lt) (Kb30 : Lt) : Prop :=
 zac .lss false t139 t138 fun t140 =>
 zag t140
 (zaj 2 t22 t139 fun t146 =>
 zad true 2 t146 H fun t147 =>
 ACalls tP zfa [t147] H fun t148 H =>
 zaj 2 t22 t139 fun t149 =>
 zak 2 t149 t148 H fun H =>
 zac .add false t139 (.int .i64 1) fun t150 =>
 Kb30 (ziN t18 t22 t131 t132 t133 t138 t150) H)
 (zac .add false t133 (.int .i64 1) fun t151 =>
 Kb27 (zfA t18 t131 t132 t151) H)
def zmz (t18 t131 t132 t133 : AV) (H : zaa) (K : Kt) (Kb27 : Lt) : Prop :=
 zac .lss false t133 t132 fun t134 =>
 zag t134
 (zaj 1 t131 t133 fun t135 =>
 zad false 1 t135 H fun t136 =>
 zah 1 t136 fun t138 =>
 zrP t18 t136 t131 t132 t133 t138 (.int .i64 0) H K Kb27)
 (zas [t18, (.int .i64 0)] (K · H))
def zfB (t18 : AV) (H : zaa) (K : Kt) : Prop :=
 ACalls tP ztH [t18, (.fn zjN [])] H fun t130 H =>
 zah 1 t18 fun t132 =>
 zrO t18 t18 t132 (.int .i64 0) H K
def zmy (t7 t13 t15 t18 t102 t103 t104 : AV) (H : zaa) (K : Kt) (Kb20 : Lt) : Prop :=
 zac .lss false t104 t103 fun t105 =>
 zag t105
 (zaj 1 t102 t104 fun t107 =>
 zad false 1 t107 H fun t108 =>
 zaf 1 t7 fun t111 =>
 zad false 1 t111 H fun t112 =>
 zaj 2 t112 (.int .i64 0) fun t113 =>
 zaf 1 t113 fun t114 =>
 zad false 1 t114 H fun t115 =>
 zaj 2 t115 t104 fun t117 =>
 zad true 2 t117 H fun t118 =>
 zaj 2 t15 t108 fun t119 =>
 zak 2 t119 t118 H fun H =>
 zac .add false t104 (.int .i64 1) fun t120 =>
 Kb20 (ziM t7 t13 t15 t18 t102 t103 t120) H)
 (zaf 1 t7 fun t124 =>
 zad false 1 t124 H fun t125 =>
 zaC 1 2 t125 (some (.int .i64 1)) none fun t126 =>
 ACalls tP zdN [t15, t13, t126] H fun t127 H =>
 zar zbk 1 24 t18 t127 H fun t128 H =>
 zfB t128 H K)
def zmx (t0 t2 t7 t10 t12 t13 t15 t65 t66 t67 : AV) (H : zaa) (K : Kt) (Kb13 : Lt) : Prop :=
 zac .lss false t67 t66 fun t68 =>
 zag t68
 (zaj 1 t65 t67 fun t69 =>
 zad false 1 t69 H fun t70 =>
 zaj 3 t10 t70 fun t77 =>
 zad true 3 t77 H fun t78 =>
 ACalls tP zjL [t0, t78] H fun t79 H =>
 zat t79 0 fun t80 =>
 zat t79 1 fun t81 =>
 zaj 2 t15 t70 fun t82 =>
 zak 2 t82 t80 H fun H =>
 zac .add false t67 (.int .i64 1) fun t83 =>
 Kb13 (ziL t0 t2 t7 t10 t12 t13 t15 t65 t66 t83) H)
 (zaf 1 t7 fun t86 =>
 zad false 1 t86 H fun t87 =>
 ACalls tP zdN [t15, t13, t87] H fun t88 H =>
 zaf 1 t7 fun t89 =>
 zad false 1 t89 H fun t90 =>
 zah 1 t90 fun t91 =>
 zac .gtr false t91 (.int .i64 0) fun t92 =>
 zab t92 true H (fun K' => zaf 1 t7 (K' · H)) fun t94 H =>
 zab t92 true H (fun K' => zad false 1 t94 H (K' · H)) fun t95 H =>
 zab t92 true H (fun K' => zaj 2 t95 (.int .i64 0) (K' · H)) fun t96 H =>
 zab t92 true H (fun K' => zaf 0 t96 (K' · H)) fun t97 H =>
 zab t92 true H (fun K' => zad false 1 t97 H (K' · H)) fun t98 H =>
 zab t92 true H (fun K' => K' t2 H) fun t99 H =>
 zab t92 true H (fun K' => zac .eql false t98 t99 (K' · H)) fun t100 H =>
 zai t92 t100 (.bool false) fun t101 =>
 zag t101
 (zah 1 t12 fun t103 =>
 zrN t7 t13 t15 t88 t12 t103 (.int .i64 0) H K)
 (zfB t88 H K))
def zq8 (t0 t1 t2 t3 : AV) (H : zaa) (K : Kt) : Prop :=
 zao t1 H fun t5 H =>
 zao t3 H fun t7 H =>
 zad true 3 t5 H fun t25 =>
 zad true 2 t7 H fun t26 =>
 ACalls tP zf7 [t0, t25, t26] H fun t27 H =>
 aUn .not t27 fun t28 =>
 zag t28
 (zas [.snil, (.int .i64 1)] (K · H))
 (zaf 0 t5 fun t29 =>
 zad false 1 t29 H fun t30 =>
 zac .neq false t30 (.int .i64 5) fun t31 =>
 zag t31
 (zas [.snil, (.int .i64 6)] (K · H))
 (zac .lss false t2 (.int .i64 0) fun t33 =>
 zab t33 false H (fun K' => K' t2 H) fun t35 H =>
 zab t33 false H (fun K' => K' t0 H) fun t36 H =>
 zab t33 false H (fun K' => zaf 1 t5 (K' · H)) fun t37 H =>
 zab t33 false H (fun K' => zad false 1 t37 H (K' · H)) fun t38 H =>
 zab t33 false H (fun K' => zaj 3 t36 t38 (K' · H)) fun t39 H =>
 zab t33 false H (fun K' => zaf 2 t39 (K' · H)) fun t40 H =>
 zab t33 false H (fun K' => zad false 1 t40 H (K' · H)) fun t41 H =>
 zab t33 false H (fun K' => zah 1 t41 (K' · H)) fun t42 H =>
 zab t33 false H (fun K' => zac .geq false t35 t42 (K' · H)) fun t43 H =>
 zai t33 (.bool true) t43 fun t44 =>
 zag t44
 (zas [.snil, (.int .i64 8)] (K · H))
 (zad true 3 t5 H fun t47 =>
 ACalls tP ze9 [t0, t47, t2] H fun t49 H =>
 zat t49 0 fun t50 =>
 zat t49 1 fun t51 =>
 aUn .not t51 fun t53 =>
 zag t53
 (zas [.snil, (.int .i64 0)] (K · H))
 (zad true 3 t5 H fun t56 =>
 ACalls tP zjK [t0, t56, t2] H fun t58 H =>
 zat t58 0 fun t59 =>
 zat t58 1 fun t60 =>
 zat t58 2 fun t61 =>
 zah 1 t50 fun t63 =>
 zbm 32 [(.int .i64 0), .snil] t63 t63 H fun t64 H =>
 zah 1 t59 fun t66 =>
 ziO t0 t2 t7 t50 t59 t60 t64 t59 t66 (.int .i64 0) H K))))
theorem zCB {t18 t22 t131 t132 t133 t138 t139 : AV} {H : zaa} {K : Kt} {Kb27 : Lt} (Inv : Nat → AV → zaa → Prop) (n : Nat) (h0 : HSc H → Inv n t139 H)
  (round : Rd1 (fun t139 => ziN t18 t22 t131 t132 t133 t138 t139) (fun t139 => fun H Kb30 => zmA t18 t22 t131 t132 t133 t138 t139 H K Kb27 Kb30) H Inv) : zrP t18 t22 t131 t132 t133 t138 t139 H K Kb27 :=
 lp1 (M := zce) zCE t139 (by kernel_rfl) Inv n h0 round
theorem zCA {t18 t131 t132 t133 : AV} {H : zaa} {K : Kt} (Inv : Nat → AV → zaa → Prop) (n : Nat) (h0 : HSc H → Inv n t133 H)
  (round : Rd1 (fun t133 => zfA t18 t131 t132 t133) (fun t133 => fun H Kb27 => zmz t18 t131 t132 t133 H K Kb27) H Inv) : zrO t18 t131 t132 t133 H K :=
 lp1 (M := zce) zrQ t133 (by kernel_rfl) Inv n h0 round
theorem zCz {t7 t13 t15 t18 t102 t103 t104 : AV} {H : zaa} {K : Kt} (Inv : Nat → AV → zaa → Prop) (n : Nat) (h0 : HSc H → Inv n t104 H)
  (round : Rd1 (fun t104 => ziM t7 t13 t15 t18 t102 t103 t104) (fun t104 => fun H Kb20 => zmy t7 t13 t15 t18 t102 t103 t104 H K Kb20) H Inv) : zrN t7 t13 t15 t18 t102 t103 t104 H K :=
 lp1 (M := zce) zCD t104 (by kernel_rfl) Inv n h0 round
theorem zCy {t0 t2 t7 t10 t12 t13 t15 t65 t66 t67 : AV} {H : zaa} {K : Kt} (Inv : Nat → AV → zaa → Prop) (n : Nat) (h0 : HSc H → Inv n t67 H)
  (round : Rd1 (fun t67 => ziL t0 t2 t7 t10 t12 t13 t15 t65 t66 t67) (fun t67 => fun H Kb13 => zmx t0 t2 t7 t10 t12 t13 t15 t65 t66 t67 H K Kb13) H Inv) : ziO t0 t2 t7 t10 t12 t13 t15 t65 t66 t67 H K :=
 lp1 (M := zce) zCC t67 (by kernel_rfl) Inv n h0 round
theorem zCF {t0 t1 t2 t3 : AV} {H : zaa} {K : Kt} (h : HSc H → zq8 t0 t1 t2 t3 H K) : ACalls tP zgl [t0, t1, t2, t3] H K :=
 zal (M := zce) Tryz.func10 (c := zd2) (by kernel_rfl) (fun hs => Eq.mpr (by kernel_rfl) (h hs))
def zdX : Nat → List Bool
 | 300004 => rl false [0,1]
 | 7 => rl false [0,3,4,1,13,2,24]
 | 200011 => rl false [0,14]
 | 100012 => rl false [0,3,4,1,13,2,24]
 | _ => []
noncomputable def zlm : Code := Tryz.f31.body.getD .skip
noncomputable def zyE : List ResultVar := Tryz.f31.results.toList
def zhC (t0 t1 t2 t7 t21 t22 : AV) : List AV := t0 :: t1 :: t2 :: ux 4 (t7 :: ux 13 (t21 :: t22 :: ux 24 []))
def zqz : List Bool := zdX 7
noncomputable def zhB : Code := zap [1, 1, 1, 0, 1, 0, 0] zlm
def zqw (K : Kt) : AExit → List AV → zaa → Prop := zaq tP zdX [1, 1, 1, 0, 1, 0] zlm (zax tP zyE K)
def zhD (t0 t1 t2 t7 t21 t22 : AV) (H : zaa) (K : Kt) : Prop := ALoop tP zhB (zqw K) (zhC t0 t1 t2 t7 t21 t22) H
noncomputable def zqy : Code := zap [1, 1, 1] zhB
def zqx (K : Kt) (Kb7 : Lt) : AExit → List AV → zaa → Prop := zaq tP zdX [1, 1, 1] zhB (zby zqz Kb7 (zqw K))
def zyB (t0 t1 t2 t7 t21 t22 : AV) (H : zaa) (K : Kt) (Kb7 : Lt) : Prop := AWp tP zqy (zqx K Kb7) (t0 :: t1 :: t2 :: ux 4 (t7 :: ux 13 (t21 :: t22 :: ux 24 []))) H
def zln (t0 t1 t2 t7 t21 t22 : AV) (H : zaa) (K : Kt) (Kb7 : Lt) : Prop :=
 zac .add false t22 (.int .i64 1) fun t45 =>
 Kb7 (zhC t0 t1 t2 t7 t21 t45) H
noncomputable def zlo : Array Oper := zom (zap [1, 1, 0, 0, 1, 1, 1] zhB)
def zll (t0 t1 t2 t7 t21 t22 : AV) (H : zaa) (K : Kt) (Kb7 : Lt) : Prop :=
 zac .lss false t22 t21 fun t23 =>
 zag t23
 (ACalls tP zgf [t0] H fun t26 H =>
 zae H (fun K' => K' t26 H) fun t27 =>
 zae H (fun K' => K' t1 H) fun t28 =>
 zae H (fun K' => zaj 1 t28 (.int .i64 0) (K' · H)) fun t29 =>
 zae H (fun K' => zam false 1 t29 H (K' · H)) fun t30 =>
 zae H (fun K' => K' t2 H) fun t31 =>
 zae H (fun K' => K' t22 H) fun t32 =>
 zae H (fun K' => zaC 1 2 t31 none (some t32) (K' · H)) fun t33 =>
 zae H (fun K' => zav [(.int .i64 0), .snil] [(0, 1), (1, 1)] [(1, t33)] (K' · H)) fun t34 =>
 zae H (fun K' => zaj 2 t27 t30 (K' · H)) fun t35 =>
 zak 2 t35 t34 H fun H =>
 Go.Abs.runT tP zlo (fun F H => AWp tP zqy (zqx K Kb7) (zdj (zdX 100012) F) H) 10 (zdr 0 10) (t0 :: t1 :: t2 :: ux 4 (t7 :: t22 :: t26 :: ux 11 (t21 :: t22 :: t23 :: t22 :: t0 :: t26 :: t27 :: t28 :: t29 :: t30 :: t31 :: t32 :: t33 :: t34 :: t35 :: ux 11 []))) H)
 (K t7 H)
def zhA (t0 t1 t2 : AV) (H : zaa) (K : Kt) : Prop :=
 zah 1 t1 fun t11 =>
 zac .eql false t11 (.int .i64 0) fun t12 =>
 zag t12
 (zah 1 t2 fun t14 =>
 zac .gtr false t14 (.int .i64 0) fun t15 =>
 zag t15
 (K .snil H)
 (ACalls tP zgf [t0] H fun t17 H =>
 zd5 zbk 1 1 [(0, t17)] H fun t18 H =>
 K t18 H))
 (zah 1 t2 fun t20 =>
 zac .add false t20 (.int .i64 1) fun t21 =>
 zhD t0 t1 t2 .snil t21 (.int .i64 0) H K)
theorem zyC {t0 t1 t2 t7 t21 t22 : AV} {H : zaa} {K : Kt} {Kb7 : Lt} (h : HSc H → zln t0 t1 t2 t7 t21 t22 H K Kb7) : zyB t0 t1 t2 t7 t21 t22 H K Kb7 :=
 fun B w G a hH hF hd => zdC (M := zdX) _ _ _ _ (Eq.mpr (by kernel_rfl) (h hH.sc)) B w G a hH hF hd
theorem zyF (t0 t1 t2 t7 t22 t26 t21 t23 t27 t28 t29 t30 t31 t32 t33 t34 t35 : AV) (H : zaa) (KF : List AV → zaa → Prop) : zeq tP zlo KF 10 (zdr 0 10) (t0 :: t1 :: t2 :: ux 4 (t7 :: t22 :: t26 :: ux 11 (t21 :: t22 :: t23 :: t22 :: t0 :: t26 :: t27 :: t28 :: t29 :: t30 :: t31 :: t32 :: t33 :: t34 :: t35 :: ux 11 []))) H = (
 (zaC 1 1 t1 (some (.int .i64 1)) none fun t39 =>
 zaC 1 2 t2 (some t22) none fun t42 =>
 ACalls tP zdN [t26, t39, t42] H fun t43 H =>
 zar zbk 1 24 t7 t43 H fun t44 H =>
 KF (t0 :: t1 :: t2 :: ux 4 (t44 :: t22 :: t26 :: ux 11 (t21 :: t22 :: t23 :: t22 :: t0 :: t26 :: t27 :: t28 :: t29 :: t30 :: t31 :: t32 :: t33 :: t34 :: t35 :: t7 :: t26 :: t1 :: t39 :: t2 :: t22 :: t42 :: t43 :: t44 :: ux 2 []))) H) ∧ (zaC 1 2 t2 (some t22) none fun t42 =>
 zaC 1 1 t1 (some (.int .i64 1)) none fun t39 =>
 ACalls tP zdN [t26, t39, t42] H fun t43 H =>
 zar zbk 1 24 t7 t43 H fun t44 H =>
 KF (t0 :: t1 :: t2 :: ux 4 (t44 :: t22 :: t26 :: ux 11 (t21 :: t22 :: t23 :: t22 :: t0 :: t26 :: t27 :: t28 :: t29 :: t30 :: t31 :: t32 :: t33 :: t34 :: t35 :: t7 :: t26 :: t1 :: t39 :: t2 :: t22 :: t42 :: t43 :: t44 :: ux 2 []))) H)) := by kernel_rfl
theorem zyG : okS zlo = true := by kernel_rfl
theorem zyD {t0 t1 t2 t7 t21 t22 : AV} {H : zaa} {K : Kt} (Inv : Nat → AV → AV → zaa → Prop) (n : Nat) (h0 : HSc H → Inv n t7 t22 H)
  (round : Rd2 (fun t7 => fun t22 => zhC t0 t1 t2 t7 t21 t22) (fun t7 => fun t22 => fun H Kb7 => zll t0 t1 t2 t7 t21 t22 H K Kb7) H Inv) : zhD t0 t1 t2 t7 t21 t22 H K :=
 lp2 (M := zdX) zqz t7 t22 (by kernel_rfl) Inv n h0 round
theorem zqA {t0 t1 t2 : AV} {H : zaa} {K : Kt} (h : HSc H → zhA t0 t1 t2 H K) : ACalls tP zdN [t0, t1, t2] H K :=
 zal (M := zdX) Tryz.func31 (c := zlm) (by kernel_rfl) (fun hs => Eq.mpr (by kernel_rfl) (h hs))
def zhv : Nat → List Bool
 | 7 => rl false [6,2,22,3,16]
 | _ => []
noncomputable def zlk : Code := Tryz.f29.body.getD .skip
noncomputable def zyv : List ResultVar := Tryz.f29.results.toList
def zhx (t6 t7 t30 t31 t32 : AV) : List AV := ux 6 (t6 :: t7 :: ux 22 (t30 :: t31 :: t32 :: ux 16 []))
def zyt : List Bool := zhv 7
noncomputable def zyr : Code := zap [1, 1, 1, 0, 1, 0, 0] zlk
def zyq (K : Kt) : AExit → List AV → zaa → Prop := zaq tP zhv [1, 1, 1, 0, 1, 0] zlk (zax tP zyv K)
def zhz (t6 t7 t30 t31 t32 : AV) (H : zaa) (K : Kt) : Prop := ALoop tP zyr (zyq K) (zhx t6 t7 t30 t31 t32) H
def zqu (t6 t7 t30 t31 t32 : AV) (H : zaa) (K : Kt) (Kb7 : Lt) : Prop :=
 zac .add false t32 (.int .i64 1) fun t46 =>
 Kb7 (zhx t6 t7 t30 t31 t46) H
def zhy (t6 t7 t30 t31 t32 : AV) (H : zaa) (K : Kt) (Kb7 : Lt) : Prop :=
 zqu t6 t7 t30 t31 t32 H K Kb7
def zhw (t6 t7 t30 t31 t32 : AV) (H : zaa) (K : Kt) (Kb7 : Lt) : Prop :=
 zac .lss false t32 t31 fun t33 =>
 zag t33
 (zaj 1 t30 t32 fun t35 =>
 zad false 1 t35 H fun t36 =>
 zag t36
 (zaw 1 [(.int .i64 0)] 1 [(0, t32)] fun t40 =>
 zar zaS 1 8 t7 t40 H fun t41 H =>
 zhy t6 t41 t30 t31 t32 H K Kb7)
 (zaw 1 [(.int .i64 0)] 1 [(0, t32)] fun t44 =>
 zar zaS 1 8 t6 t44 H fun t45 H =>
 zhy t45 t7 t30 t31 t32 H K Kb7))
 (zas [t6, t7, (.bool true)] (K · H))
def zqt (t0 t1 t2 : AV) (H : zaa) (K : Kt) : Prop :=
 zao t1 H fun t4 H =>
 zad true 3 t4 H fun t14 =>
 ACalls tP zfe [t0, t14] H fun t15 H =>
 aUn .not t15 fun t16 =>
 zag t16
 (zas [.snil, .snil, (.bool false)] (K · H))
 (zad true 3 t4 H fun t19 =>
 ACalls tP ze9 [t0, t19, t2] H fun t21 H =>
 zat t21 0 fun t22 =>
 zat t21 1 fun t23 =>
 aUn .not t23 fun t25 =>
 zag t25
 (zas [.snil, .snil, (.bool false)] (K · H))
 (zaf 1 t4 fun t27 =>
 zad false 1 t27 H fun t28 =>
 ACalls tP zdl [t0, t28, t2] H fun t30 H =>
 zah 1 t30 fun t31 =>
 zhz .snil .snil t30 t31 (.int .i64 0) H K))
theorem zys {t6 t7 t30 t31 t32 : AV} {H : zaa} {K : Kt} (Inv : Nat → AV → AV → AV → zaa → Prop) (n : Nat) (h0 : HSc H → Inv n t6 t7 t32 H)
  (round : Rd3 (fun t6 => fun t7 => fun t32 => zhx t6 t7 t30 t31 t32) (fun t6 => fun t7 => fun t32 => fun H Kb7 => zhw t6 t7 t30 t31 t32 H K Kb7) H Inv) : zhz t6 t7 t30 t31 t32 H K :=
 lp3 (M := zhv) zyt t6 t7 t32 (by kernel_rfl) Inv n h0 round
theorem zyu {t0 t1 t2 : AV} {H : zaa} {K : Kt} (h : HSc H → zqt t0 t1 t2 H K) : ACalls tP zjK [t0, t1, t2] H K :=
 zal (M := zhv) Tryz.func29 (c := zlk) (by kernel_rfl) (fun hs => Eq.mpr (by kernel_rfl) (h hs))
end Go.Proofs.YtacebbdfgbfgiaaGreat
namespace Go.Abs
open Go Go.RowKit

section
variable {H : zaa} {K : AV → zaa → Prop} {k : AV → Prop}
@[simp] theorem zEE (p q : Prop) : aIf true p q = p := propext Iff.rfl
@[simp] theorem zED (p q : Prop) : aIf false p q = q := propext Iff.rfl
theorem zm4 (b : Bool) (p q : Prop) : zag (.bool b) p q = (if b = true then p else q) := rfl
@[simp] theorem zF3 (p q : Prop) : zag (.bool true) p q = p := propext Iff.rfl
@[simp] theorem zF2 (p q : Prop) : zag (.bool false) p q = q := propext Iff.rfl
@[simp] theorem zFs (x y : AV) : zai (.bool true) x y k = k x := propext Iff.rfl
@[simp] theorem zFr (x y : AV) : zai (.bool false) x y k = k y := propext Iff.rfl
@[simp] theorem zEu (p q : Prop) : zcj (.bool true) true p q = p := propext Iff.rfl
@[simp] theorem zEr (p q : Prop) : zcj (.bool false) false p q = p := propext Iff.rfl
@[simp] theorem zEt (p q : Prop) : zcj (.bool true) false p q = q := propext Iff.rfl
@[simp] theorem zEs (p q : Prop) : zcj (.bool false) true p q = q := propext Iff.rfl
@[simp] theorem zEv (want : Bool) (p q : Prop) : zcj (.tup []) want p q = q := propext Iff.rfl
@[simp] theorem zEo (p : (AV → zaa → Prop) → Prop) (J : AV → zaa → Prop) : zab (.bool true) true H p J = p J := propext Iff.rfl
@[simp] theorem zEl (p : (AV → zaa → Prop) → Prop) (J : AV → zaa → Prop) : zab (.bool false) false H p J = p J := propext Iff.rfl
@[simp] theorem zEn (p : (AV → zaa → Prop) → Prop) (J : AV → zaa → Prop) : zab (.bool true) false H p J = J (.tup []) H := propext Iff.rfl
@[simp] theorem zEm (p : (AV → zaa → Prop) → Prop) (J : AV → zaa → Prop) : zab (.bool false) true H p J = J (.tup []) H := propext Iff.rfl
@[simp] theorem zEp (want : Bool) (p : (AV → zaa → Prop) → Prop) (J : AV → zaa → Prop) : zab (.tup []) want H p J = J (.tup []) H := propext Iff.rfl
@[simp] theorem zF9 (cs : List AV) : (AV.agg cs).cs? = some cs := rfl
@[simp] theorem zGc (j : IntKind) (n : Int) : (AV.int j n).cs? = some [.int j n] := rfl
@[simp] theorem zGa (b : Bool) : (AV.bool b).cs? = some [.bool b] := rfl
@[simp] theorem zGm (s : List UInt8) : (AV.str s).cs? = some [.str s] := rfl
@[simp] theorem zGk (es : List (List AV)) (t : Tok) : (AV.sl es t).cs? = some [.sl es t] := rfl
@[simp] theorem zGl : (AV.snil).cs? = some [.snil] := rfl
@[simp] theorem zGj (i o : Nat) : (AV.ptr i o).cs? = some [.ptr i o] := rfl
@[simp] theorem zGe (i o l c : Nat) : (AV.ms i o l c).cs? = some [.ms i o l c] := rfl
@[simp] theorem zGb (f : Nat) (c : List AV) : (AV.fn f c).cs? = some [.fn f c] := rfl
@[simp] theorem zGh : (AV.nilp).cs? = some [.nilp] := rfl
@[simp] theorem zGg : (AV.nili).cs? = some [.nili] := rfl
@[simp] theorem zGi (i n : Nat) : (AV.ov i n).cs? = some [.ov i n] := rfl
@[simp] theorem zGn (i n o : Nat) : (AV.vp i n o).cs? = some [.vp i n o] := rfl
@[simp] theorem zGf : (AV.nilfn).cs? = some [.nilfn] := rfl
@[simp] theorem zFf (cs : List AV) : zau cs H K = K (.ptr H.length 0) (H ++ [.cells cs]) := propext Iff.rfl
@[simp] theorem zDH (cs : List AV) : zao (.agg cs) H K = K (.ptr H.length 0) (H ++ [.cells cs]) := propext Iff.rfl
@[simp] theorem zDL (j : IntKind) (n : Int) : zao (.int j n) H K = K (.ptr H.length 0) (H ++ [.cells [.int j n]]) := propext Iff.rfl
@[simp] theorem zDS (s : List UInt8) : zao (.str s) H K = K (.ptr H.length 0) (H ++ [.cells [.str s]]) := propext Iff.rfl
@[simp] theorem zDI (b : Bool) : zao (.bool b) H K = K (.ptr H.length 0) (H ++ [.cells [.bool b]]) := propext Iff.rfl
@[simp] theorem zDQ (es : List (List AV)) (t : Tok) : zao (.sl es t) H K = K (.ptr H.length 0) (H ++ [.cells [.sl es t]]) := propext Iff.rfl
@[simp] theorem zDW (n off : Nat) (cs : List AV) : zaR true n off cs k = (off + n ≤ cs.length ∧ k (.agg ((cs.drop off).take n))) := propext Iff.rfl
theorem zsz {cs : List AV} {off : Nat} {c : AV} (n : Nat) (h : cs[off]? = some c) : zaR false n off cs k = k c := by simp [zaR, h]
@[simp] theorem zDZ (n : Nat) (c : AV) (cs : List AV) : zaR false n 0 (c :: cs) k = k c := propext Iff.rfl
@[simp] theorem zDY (n i : Nat) (c : AV) (cs : List AV) : zaR false n (i + 1) (c :: cs) k = zaR false n i cs k := by simp [zaR]
@[simp] theorem zEY (g : Bool) (n : Nat) (cs : List AV) : zad g n (.view cs) H k = zaR g n 0 cs k := propext Iff.rfl
def zfJ (g : Bool) (n off : Nat) (b : Option AB) (k : AV → Prop) : Prop :=
 match b with
 | some (.cells cs) => zaR g n off cs k
 | _ => False
@[simp] theorem zES (g : Bool) (n off : Nat) (cs : List AV) : zfJ g n off (some (.cells cs)) k = zaR g n off cs k := propext Iff.rfl
@[simp] theorem zEX (g : Bool) (n id off : Nat) : zad g n (.ptr id off) H k = zfJ g n off H[id]? k := by
 rw [zeG]; rfl
def zdB (n off id : Nat) (xs : Option (List AV)) (b : Option AB) (H : zaa) (K : zaa → Prop) : Prop :=
 match xs, b with
 | some xs, some (.cells cs) => (xs.length = n ∧ off + n ≤ cs.length ∧ xs.all AV.known = true) ∧ K (H.set id (.cells (cs.take off ++ xs ++ cs.drop (off + n))))
 | _, _ => False
@[simp] theorem zFV {K' : zaa → Prop} (n off id : Nat) (xs cs : List AV) : zdB n off id (some xs) (some (.cells cs)) H K' = ((xs.length = n ∧ off + n ≤ cs.length ∧ xs.all AV.known = true) ∧ K' (H.set id (.cells (cs.take off ++ xs ++ cs.drop (off + n))))) := propext Iff.rfl
@[simp] theorem zFY {K' : zaa → Prop} (n id off : Nat) (x : AV) : zak n (.ptr id off) x H K' = zdB n off id x.cs? H[id]? H K' := by
 cases hx : x.cs? with
 | none => simp [zda, zdB, hx]
 | some xs => cases hb : H[id]? with
  | none => simp [zda, zdB, hx, hb]
  | some b => cases b <;> simp [zda, zdB, hx, hb]
def zm2 (g : Bool) (n m off : Nat) (b : Option AB) (k : AV → Prop) : Prop :=
 match b with
 | some (.vec _ _ m' cs) => m' = m ∧ zaR g n off cs k
 | _ => False
@[simp] theorem zEV (g : Bool) (n m off e s m' : Nat) (cs : List AV) : zm2 g n m off (some (.vec e s m' cs)) k = (m' = m ∧ zaR g n off cs k) := propext Iff.rfl
@[simp] theorem zEZ (g : Bool) (n id m off : Nat) : zad g n (.vp id m off) H k = zm2 g n m off H[id]? k := by
 rw [zeG]; rfl
def zeH (n m off id : Nat) (xs : Option (List AV)) (b : Option AB) (H : zaa) (K' : zaa → Prop) : Prop :=
 match xs, b with
 | some xs, some (.vec e s m' cs) => (m' = m ∧ xs.length = n ∧ off + n ≤ cs.length ∧ xs.all AV.known = true) ∧ K' (H.set id (.vec e s m' (cs.take off ++ xs ++ cs.drop (off + n))))
 | _, _ => False
@[simp] theorem zFW {K' : zaa → Prop} (n m off id e s m' : Nat) (xs cs : List AV) : zeH n m off id (some xs) (some (.vec e s m' cs)) H K' = ((m' = m ∧ xs.length = n ∧ off + n ≤ cs.length ∧ xs.all AV.known = true) ∧ K' (H.set id (.vec e s m' (cs.take off ++ xs ++ cs.drop (off + n))))) := propext Iff.rfl
@[simp] theorem zFZ {K' : zaa → Prop} (n id m off : Nat) (x : AV) : zak n (.vp id m off) x H K' = zeH n m off id x.cs? H[id]? H K' := by
 cases hx : x.cs? with
 | none => simp [zda, zeH, hx]
 | some xs => cases hb : H[id]? with
  | none => simp [zda, zeH, hx, hb]
  | some b => cases b <;> simp [zda, zeH, hx, hb]
def ziW (e size bytes n id : Nat) (ys : List (List AV)) (b : Option AB) (H : zaa) (K : AV → zaa → Prop) : Prop :=
 match b with
 | some (.vec e' s' n' cs) => ((e' = e ∧ s' = size ∧ n' = n) ∧ (n + ys.length) * bytes ≤ 140737488355328 ∧ n + ys.length ≤ 9223372036854775807) ∧ K (.ov id (n + ys.length)) (H.set id (.vec e size (n + ys.length) (cs ++ ys.flatten)))
 | _ => False
@[simp] theorem zDD (e size bytes n id e' s' n' : Nat) (ys : List (List AV)) (cs : List AV) : ziW e size bytes n id ys (some (.vec e' s' n' cs)) H K = (((e' = e ∧ s' = size ∧ n' = n) ∧ (n + ys.length) * bytes ≤ 140737488355328 ∧ n + ys.length ≤ 9223372036854775807) ∧ K (.ov id (n + ys.length)) (H.set id (.vec e size (n + ys.length) (cs ++ ys.flatten)))) := propext Iff.rfl
@[simp] theorem zDC (e size bytes id n : Nat) (ys : List (List AV)) : zaF e size bytes (.ov id n) ys H K = ziW e size bytes n id ys H[id]? H K := by
 unfold zaF ziW; rfl
@[simp] theorem zEy (esz id m : Nat) (j : IntKind) (n : Int) : zaj esz (.ov id m) (.int j n) k = ((0 ≤ n ∧ n < m) ∧ k (.vp id m (n.toNat * esz))) := zfI ..
@[simp] theorem zEH (id n : Nat) : zah 1 (.ov id n) k = k (.int .i64 n) := propext Iff.rfl
@[simp] theorem zEh (off i m o : Nat) : zaf off (.vp i m o) k = k (.vp i m (o + off)) := propext Iff.rfl
@[simp] theorem zFo (i m o : Nat) : za3 (.vp i m o) k = k (.vp i m o) := propext Iff.rfl
@[simp] theorem zDO (i n : Nat) : zao (.ov i n) H K = K (.ptr H.length 0) (H ++ [.cells [.ov i n]]) := propext Iff.rfl
@[simp] theorem zGA (i n : Nat) : (AV.ov i n).known = true := rfl
@[simp] theorem zGL (m i n : Nat) : (AV.ov i n).scA m = decide (i < m) := rfl
@[simp] theorem zFm (i o : Nat) : za3 (.ptr i o) k = k (.ptr i o) := propext Iff.rfl
@[simp] theorem zFn (cs : List AV) : za3 (.view cs) k = k (.view cs) := propext Iff.rfl
@[simp] theorem zFl (f : Nat) (c : List AV) : za3 (.fn f c) k = k (.fn f c) := propext Iff.rfl
@[simp] theorem zEf (off i o : Nat) : zaf off (.ptr i o) k = k (.ptr i (o + off)) := propext Iff.rfl
@[simp] theorem zEg (off : Nat) (cs : List AV) : zaf off (.view cs) k = (off ≤ cs.length ∧ k (.view (cs.drop off))) := zm1 ..
@[simp] theorem zEc (g : Bool) (n off : Nat) (cs : List AV) : zci g n off (.agg cs) k = zaR g n off cs k := propext Iff.rfl
@[simp] theorem zEz (esz : Nat) (es : List (List AV)) (t : Tok) (j : IntKind) (n : Int) : zaj esz (.sl es t) (.int j n) k = ((0 ≤ n ∧ n < es.length) ∧ ((es.getD n.toNat []).length = esz ∧ k (.view (es.getD n.toNat [])))) := zfI ..
@[simp] theorem zEx (esz id off len cap : Nat) (j : IntKind) (n : Int) : zaj esz (.ms id off len cap) (.int j n) k = ((0 ≤ n ∧ n < len) ∧ k (.ptr id (off + n.toNat * esz))) := zfI ..
@[simp] theorem zEB (s : List UInt8) (j : IntKind) (n : Int) : za7 (.str s) (.int j n) k = ((0 ≤ n ∧ n < s.length) ∧ k (.int .u8 (s.getD n.toNat 0).toNat)) := propext Iff.rfl
@[simp] theorem zEK (s : List UInt8) : zah 0 (.str s) k = k (.int .i64 s.length) := propext Iff.rfl
@[simp] theorem zEI (es : List (List AV)) (t : Tok) : zah 1 (.sl es t) k = k (.int .i64 es.length) := propext Iff.rfl
@[simp] theorem zEJ : zah 1 .snil k = k (.int .i64 0) := propext Iff.rfl
@[simp] theorem zEG (i o l c : Nat) : zah 1 (.ms i o l c) k = k (.int .i64 l) := propext Iff.rfl
@[simp] theorem zsy (d : Nat) (q : Nat → Prop) : zbc none d q = q d := propext Iff.rfl
@[simp] theorem zsx (j : IntKind) (n : Int) (d : Nat) (q : Nat → Prop) : zbc (some (.int j n)) d q = (0 ≤ n ∧ q n.toNat) := propext Iff.rfl
@[simp] theorem zsD (s : List UInt8) (lo hi : Option AV) : zaC 0 0 (.str s) lo hi k = zbc hi s.length fun h => zbc lo 0 fun l => (l ≤ h ∧ h ≤ s.length) ∧ k (.str ((s.take h).drop l)) := propext Iff.rfl
@[simp] theorem zFS (esz : Nat) (es : List (List AV)) (t : Tok) (lo hi : Option AV) : zaC 1 esz (.sl es t) lo hi k = zbc hi es.length fun h => zbc lo 0 fun l => (l ≤ h ∧ h ≤ es.length ∧ ∀ c ∈ es, c.length = esz) ∧ k (.sl ((es.take h).drop l) .none) := propext Iff.rfl
@[simp] theorem zDz (b : Bool) (j : IntKind) (m n : Int) : zac .add b (.int j m) (.int j n) k = k (.int j (j.wrap (m + n))) := by simp [zbK]
@[simp] theorem zF0 (b : Bool) (j : IntKind) (m n : Int) : zac .sub b (.int j m) (.int j n) k = k (.int j (j.wrap (m - n))) := by simp [zbK]
@[simp] theorem zE9 (b : Bool) (j : IntKind) (m n : Int) : zac .mul b (.int j m) (.int j n) k = k (.int j (j.wrap (m * n))) := by simp [zbK]
@[simp] theorem zD7 (b : Bool) (j : IntKind) (m n : Int) : zac .eql b (.int j m) (.int j n) k = k (.bool (m == n)) := by simp [zbK]
@[simp] theorem zFc (b : Bool) (j : IntKind) (m n : Int) : zac .neq b (.int j m) (.int j n) k = k (.bool (m != n)) := by simp [zbK]
@[simp] theorem zE0 (b : Bool) (j : IntKind) (m n : Int) : zac .lss b (.int j m) (.int j n) k = k (.bool (decide (m < n))) := by simp [zbK]
@[simp] theorem zEL (b : Bool) (j : IntKind) (m n : Int) : zac .leq b (.int j m) (.int j n) k = k (.bool (decide (m ≤ n))) := by simp [zbK]
@[simp] theorem zEj (b : Bool) (j : IntKind) (m n : Int) : zac .gtr b (.int j m) (.int j n) k = k (.bool (decide (m > n))) := by simp [zbK]
@[simp] theorem zEi (b : Bool) (j : IntKind) (m n : Int) : zac .geq b (.int j m) (.int j n) k = k (.bool (decide (m ≥ n))) := by simp [zbK]
@[simp] theorem zD8 (b : Bool) (s t : List UInt8) : zac .eql b (.str s) (.str t) k = k (.bool (s == t)) := propext Iff.rfl
@[simp] theorem zFd (b : Bool) (s t : List UInt8) : zac .neq b (.str s) (.str t) k = k (.bool (!(s == t))) := rfl
@[simp] theorem zDA (b : Bool) (s t : List UInt8) : zac .add b (.str s) (.str t) k = (s.length + t.length ≤ 9223372036854775807 ∧ k (.str (s ++ t))) := zbK ..
@[simp] theorem zD6 (m n : Bool) : zac .eql true (.bool m) (.bool n) k = k (.bool (m == n)) := by simp [zbK]
@[simp] theorem zFb (m n : Bool) : zac .neq true (.bool m) (.bool n) k = k (.bool (!(m == n))) := by simp [zbK]
@[simp] theorem zFp (b : Bool) : aUn .not (.bool b) k = k (.bool (!b)) := rfl
@[simp] theorem zFa (j : IntKind) (n : Int) : aUn .neg (.int j n) k = k (.int j (j.wrap (0 - n))) := rfl
@[simp] theorem zD5 (j i : IntKind) (n : Int) : zcf j (.int i n) k = k (.int j (j.wrap n)) := propext Iff.rfl
@[simp] theorem zD3 (s : List UInt8) : zcA (.str s) k = k (.str s) := propext Iff.rfl
@[simp] theorem zD9 (v : AV) (vs : List AV) : zat (.tup (v :: vs)) 0 k = k v := propext Iff.rfl
@[simp] theorem zEb (v : AV) (vs : List AV) (i : Nat) : zat (.tup (v :: vs)) (i + 1) k = zat (.tup vs) i k := by simp [zat]
@[simp] theorem zD1 (f : Nat) (caps : List AV) : zbQ f caps k = (caps.all AV.isB = true ∧ k (.fn f caps)) := propext Iff.rfl
@[simp] theorem zFP (v : AV) : zas [v] k = k v := propext Iff.rfl
@[simp] theorem zFQ (v u : AV) (vs : List AV) : zas (v :: u :: vs) k = ((v :: u :: vs).all AV.isV = true ∧ k (.tup (v :: u :: vs))) := propext Iff.rfl
end


section
variable {H : zaa} {K : AV → zaa → Prop} {k : AV → Prop} {kh : zaa → Prop}
@[simp] theorem zGd (i : Nat) : (AV.map i).cs? = some [.map i] := rfl
@[simp] theorem zE8 : zc9 H K = K (.map H.length) (H ++ [.map []]) := propext Iff.rfl
def zd6 (zero : AV) (ok : Bool) (s : List UInt8) (b : Option AB) (k : AV → Prop) : Prop :=
 match b with
 | some (.map kvs) => k (match ok with
   | true => .tup [(zbx kvs s).getD zero, .bool (zbx kvs s).isSome]
   | false => (zbx kvs s).getD zero)
 | _ => False
@[simp] theorem zEQ (z : AV) (ok : Bool) (id : Nat) (s : List UInt8) : zcB z ok (.map id) (.str s) H k = zd6 z ok s H[id]? k := by unfold zcB zd6; rfl
@[simp] theorem zEN (z : AV) (s : List UInt8) (kvs : List (List UInt8 × AV)) : zd6 z false s (some (.map kvs)) k = k ((zbx kvs s).getD z) := propext Iff.rfl
@[simp] theorem zEO (z : AV) (s : List UInt8) (kvs : List (List UInt8 × AV)) : zd6 z true s (some (.map kvs)) k = k (.tup [(zbx kvs s).getD z, .bool (zbx kvs s).isSome]) := propext Iff.rfl
def zd7 (id : Nat) (s : List UInt8) (x : AV) (b : Option AB) (H : zaa) (kh : zaa → Prop) : Prop :=
 match b with
 | some (.map kvs) => (match x with
   | .tup _ => False
   | x => kh (H.set id (.map (zcn kvs s x))))
 | _ => False
@[simp] theorem zE5 (id : Nat) (s : List UInt8) (x : AV) : zb6 (.map id) (.str s) x H kh = zd7 id s x H[id]? H kh := by unfold zb6 zd7; rfl
@[simp] theorem zE1 (id : Nat) (s : List UInt8) (b : Bool) (kvs : List (List UInt8 × AV)) : zd7 id s (.bool b) (some (.map kvs)) H kh = kh (H.set id (.map (zcn kvs s (.bool b)))) := propext Iff.rfl
@[simp] theorem zE3 (id : Nat) (s : List UInt8) (j : IntKind) (n : Int) (kvs : List (List UInt8 × AV)) : zd7 id s (.int j n) (some (.map kvs)) H kh = kh (H.set id (.map (zcn kvs s (.int j n)))) := propext Iff.rfl
@[congr] theorem zE7 {H' : zaa} (hH : H = H') : zc9 H K = zc9 H' K := by rw [hH]
@[congr] theorem zEP {H' : zaa} {z : AV} {ok : Bool} {m m' x x' : AV} (hm : m = m') (hx : x = x') (hH : H = H') : zcB z ok m x H k = zcB z ok m' x' H' k := by rw [hm, hx, hH]
@[congr] theorem zEM {z : AV} {ok : Bool} {s s' : List UInt8} {b b' : Option AB} (hs : s = s') (hb : b = b') : zd6 z ok s b k = zd6 z ok s' b' k := by rw [hs, hb]
@[congr] theorem zE4 {H' : zaa} {m m' y y' x x' : AV} (hm : m = m') (hy : y = y') (hx : x = x') (hH : H = H') : zb6 m y x H kh = zb6 m' y' x' H' kh := by rw [hm, hy, hx, hH]
@[congr] theorem zE2 {H' : zaa} {id id' : Nat} {s s' : List UInt8} {x x' : AV} {b b' : Option AB} (hi : id = id') (hs : s = s') (hx : x = x') (hb : b = b') (hH : H = H') : zd7 id s x b H kh = zd7 id' s' x' b' H' kh := by rw [hi, hs, hx, hb, hH]
end

section
variable {H H' : zaa} {K : AV → zaa → Prop} {k : AV → Prop} {kh : zaa → Prop}
@[congr] theorem zEC {b b' : Bool} {p q : Prop} (h : b = b') : aIf b p q = aIf b' p q := by rw [h]
@[congr] theorem zF1 {c c' : AV} {p q : Prop} (h : c = c') : zag c p q = zag c' p q := by rw [h]
@[congr] theorem zEq {c c' : AV} {w : Bool} {p q : Prop} (h : c = c') : zcj c w p q = zcj c' w p q := by rw [h]
@[congr] theorem zEk {c c' : AV} {w : Bool} {p : (AV → zaa → Prop) → Prop} {J : AV → zaa → Prop} (h : c = c') (hH : H = H') : zab c w H p J = zab c' w H' p J := by rw [h, hH]
@[congr] theorem zFq {c c' a a' b b' : AV} (h : c = c') (ha : a = a') (hb : b = b') : zai c a b k = zai c' a' b' k := by rw [h, ha, hb]
@[congr] theorem zDJ {x x' : AV} (h : x = x') (hH : H = H') : zao x H K = zao x' H' K := by rw [h, hH]
@[congr] theorem zFe {x x' : List AV} (h : x = x') (hH : H = H') : zau x H K = zau x' H' K := by rw [h, hH]
@[congr] theorem zDX {g : Bool} {n n' o o' : Nat} {c c' : List AV} (hn : n = n') (ho : o = o') (hc : c = c') : zaR g n o c k = zaR g n' o' c' k := by rw [hn, ho, hc]
@[congr] theorem zEW {g : Bool} {n : Nat} {x x' : AV} (h : x = x') (hH : H = H') : zad g n x H k = zad g n x' H' k := by rw [h, hH]
@[congr] theorem zER {g : Bool} {n o o' : Nat} {b b' : Option AB} (ho : o = o') (h : b = b') : zfJ g n o b k = zfJ g n o' b' k := by rw [h, ho]
@[congr] theorem zFX {n : Nat} {a a' x x' : AV} (ha : a = a') (h : x = x') (hH : H = H') : zak n a x H kh = zak n a' x' H' kh := by rw [ha, h, hH]
@[congr] theorem zFU {n o o' i i' : Nat} {x x' : Option (List AV)} {b b' : Option AB} (ho : o = o') (hi : i = i') (h : x = x') (hb : b = b') (hH : H = H') : zdB n o i x b H kh = zdB n o' i' x' b' H' kh := by rw [ho, hi, h, hb, hH]
@[congr] theorem zEe {n : Nat} {x x' : AV} (h : x = x') : zaf n x k = zaf n x' k := by rw [h]
@[congr] theorem zEd {g : Bool} {n o : Nat} {x x' : AV} (h : x = x') : zci g n o x k = zci g n o x' k := by rw [h]
@[congr] theorem zEw {n : Nat} {x x' i i' : AV} (h : x = x') (hi : i = i') : zaj n x i k = zaj n x' i' k := by rw [h, hi]
@[congr] theorem zEA {x x' i i' : AV} (h : x = x') (hi : i = i') : za7 x i k = za7 x' i' k := by rw [h, hi]
@[congr] theorem zEF {u : Nat} {x x' : AV} (h : x = x') : zah u x k = zah u x' k := by rw [h]
@[congr] theorem zDG {x x' : Option AV} {d d' : Nat} {q : Nat → Prop} (h : x = x') (hd : d = d') : zbc x d q = zbc x' d' q := by rw [h, hd]
@[congr] theorem zFR {u e : Nat} {x x' : AV} {l l' h h' : Option AV} (hx : x = x') (hl : l = l') (hh : h = h') : zaC u e x l h k = zaC u e x' l' h' k := by rw [hx, hl, hh]
@[congr] theorem zDF {o : BinOp} {b : Bool} {x x' y y' : AV} (h : x = x') (hy : y = y') : zac o b x y k = zac o b x' y' k := by rw [h, hy]
@[congr] theorem zF4 {o : UnOp} {x x' : AV} (h : x = x') : aUn o x k = aUn o x' k := by rw [h]
@[congr] theorem zD4 {o : IntKind} {x x' : AV} (h : x = x') : zcf o x k = zcf o x' k := by rw [h]
@[congr] theorem zD2 {x x' : AV} (h : x = x') : zcA x k = zcA x' k := by rw [h]
@[congr] theorem zEa {x x' : AV} {i : Nat} (h : x = x') : zat x i k = zat x' i k := by rw [h]
@[congr] theorem zD0 {f : Nat} {x x' : List AV} (h : x = x') : zbQ f x k = zbQ f x' k := by rw [h]
@[congr] theorem zFk {x x' : AV} (h : x = x') : za3 x k = za3 x' k := by rw [h]
@[congr] theorem zDU {z : List AV} {p : List (Nat × Nat)} {x x' : List (Nat × AV)} (h : x = x') : zav z p x k = zav z p x' k := by rw [h]
@[congr] theorem zDT {e : Nat} {z : List AV} {l : Nat} {x x' : List (Nat × AV)} (h : x = x') : zaw e z l x k = zaw e z l x' k := by rw [h]
@[congr] theorem zE6 {b : Nat} {z : List AV} {l l' c c' : AV} (h : l = l') (hc : c = c') (hH : H = H') : zbm b z l c H K = zbm b z l' c' H' K := by rw [h, hc, hH]
@[congr] theorem zDE {e s b : Nat} {x x' y y' : AV} (h : x = x') (hy : y = y') (hH : H = H') : zar e s b x y H K = zar e s b x' y' H' K := by rw [h, hy, hH]
@[congr] theorem zDB {e s b : Nat} {x x' : AV} {y y' : List (List AV)} (h : x = x') (hy : y = y') (hH : H = H') : zaF e s b x y H K = zaF e s b x' y' H' K := by rw [h, hy, hH]
@[congr] theorem zFT {x x' : AV} {q : List (List AV) → Prop} (h : x = x') : zaW x q = zaW x' q := by rw [h]
@[congr] theorem zDx {P : Program} {f : FuncId} {x x' : List AV} (h : x = x') (hH : H = H') : ACalls P f x H K = ACalls P f x' H' K := by rw [h, hH]
@[congr] theorem zDV {P : Program} {g g' : AV} {x x' : List AV} (hg : g = g') (h : x = x') (hH : H = H') : aCallV P g x H K = aCallV P g' x' H' K := by rw [hg, h, hH]
@[congr] theorem zFw {p : (AV → zaa → Prop) → Prop} : zae H p k = zae H p k := rfl
@[congr] theorem zDy {n : Nat} {r r' : AV} (hr : r = r') (hH : H = H') : Out n K r H = Out n K r' H' := by rw [hr, hH]
end
section
variable {H : zaa} {k : AV → Prop}
theorem zbt {p : (AV → Prop) → Prop} (h : ∀ q : AV → Prop, p q ↔ ∃ v, p (fun u => u = v) ∧ q v) : zae H (fun K' => p fun v => K' v H) k = p k := by
 unfold zae
 rw [eq_iff_iff, h k]
 simp only [and_true]
@[simp] theorem zFE (x : AV) : zae H (fun K' => K' x H) k = k x := by simp [zae]
theorem zi6 (g : Bool) (n o : Nat) (cs : List AV) (q : AV → Prop) : zaR g n o cs q ↔ ∃ v, zaR g n o cs (fun u => u = v) ∧ q v := by
 unfold zaR
 split
 ·constructor
  ·rintro ⟨h1, h2⟩; exact ⟨_, ⟨h1, rfl⟩, h2⟩
  ·rintro ⟨v, ⟨h1, rfl⟩, h2⟩; exact ⟨h1, h2⟩
 ·split <;> simp
theorem zsI {a : Prop} {p : Prop} {p' : AV → Prop} {q : AV → Prop} (h : p ↔ ∃ v, p' v ∧ q v) : (a ∧ p) ↔ ∃ v, (a ∧ p' v) ∧ q v := by
 constructor
 ·rintro ⟨h1, h2⟩; obtain ⟨v, h3, h4⟩ := h.1 h2; exact ⟨v, ⟨h1, h3⟩, h4⟩
 ·rintro ⟨v, ⟨h1, h3⟩, h4⟩; exact ⟨h1, h.2 ⟨v, h3, h4⟩⟩
@[simp] theorem zFI (g : Bool) (n : Nat) (a : AV) : zae H (fun K' => zad g n a H fun v => K' v H) k = zad g n a H k := zbt (p := fun q => zad g n a H q) fun q => by
 unfold zad
 split
 ·exact zi6 _ _ _ _ q
 ·simp
@[simp] theorem zET (g : Bool) (n id off : Nat) : zam g n (.ptr id off) H k = zad g n (.ptr id off) H k := propext Iff.rfl
@[simp] theorem zEU (g : Bool) (n : Nat) (cs : List AV) : zam g n (.view cs) H k = zad g n (.view cs) H k := propext Iff.rfl
@[simp] theorem zFJ (g : Bool) (n : Nat) (a : AV) : zae H (fun K' => zam g n a H fun v => K' v H) k = zam g n a H k := zbt (p := fun q => zam g n a H q) fun q => by
 unfold zam
 split
 ·simp
 unfold zad
 split
 ·exact zi6 _ _ _ _ q
 ·simp
@[simp] theorem zFL (b : Bool) (o : BinOp) (x : AV) : zae H (fun K' => zbW b o x fun v => K' v H) k = zbW b o x k := zbt (p := fun q => zbW b o x q) fun q => by
 unfold zbW
 refine zsI ?_
 split
 ·split <;> simp
 ·split <;> simp
 ·simp
@[simp] theorem zFj : zbW true .neq .nili k = k (.bool false) := by simp [zbW]
@[simp] theorem zFh : zbW true .neq .ifc k = k (.bool true) := by simp [zbW]
@[simp] theorem zFi : zbW true .eql .nili k = k (.bool true) := by simp [zbW]
@[simp] theorem zFg : zbW true .eql .ifc k = k (.bool false) := by simp [zbW]
@[simp] theorem zFM (c a b : AV) : zae H (fun K' => zai c a b fun v => K' v H) k = zai c a b k := zbt (p := fun q => zai c a b q) fun q => by
 unfold zai; split <;> simp
@[simp] theorem zFC (o : Nat) (a : AV) : zae H (fun K' => zaf o a fun v => K' v H) k = zaf o a k := zbt (p := fun q => zaf o a q) fun q => by
 unfold zaf; split <;> simp
@[simp] theorem zFD (g : Bool) (n o : Nat) (a : AV) : zae H (fun K' => zci g n o a fun v => K' v H) k = zci g n o a k := zbt (p := fun q => zci g n o a q) fun q => by
 unfold zci
 split
 ·exact zi6 _ _ _ _ q
 ·simp
@[simp] theorem zFF (n : Nat) (x i : AV) : zae H (fun K' => zaj n x i fun v => K' v H) k = zaj n x i k := zbt (p := fun q => zaj n x i q) fun q => by
 unfold zaj; split <;> simp
@[simp] theorem zFG (x i : AV) : zae H (fun K' => za7 x i fun v => K' v H) k = za7 x i k := zbt (p := fun q => za7 x i q) fun q => by
 unfold za7
 split
 ·constructor
  ·rintro ⟨h1, h2⟩; exact ⟨_, ⟨h1, rfl⟩, h2⟩
  ·rintro ⟨v, ⟨h1, rfl⟩, h2⟩; exact ⟨h1, h2⟩
 ·simp
@[simp] theorem zFH (u : Nat) (x : AV) : zae H (fun K' => zah u x fun v => K' v H) k = zah u x k := zbt (p := fun q => zah u x q) fun q => by
 unfold zah; split <;> simp
@[simp] theorem zFO (o : UnOp) (x : AV) : zae H (fun K' => aUn o x fun v => K' v H) k = aUn o x k := zbt (p := fun q => aUn o x q) fun q => by
 unfold aUn; split <;> simp
@[simp] theorem zFy (o : IntKind) (x : AV) : zae H (fun K' => zcf o x fun v => K' v H) k = zcf o x k := zbt (p := fun q => zcf o x q) fun q => by
 unfold zcf; split <;> simp
@[simp] theorem zFA (x : AV) : zae H (fun K' => zcA x fun v => K' v H) k = zcA x k := zbt (p := fun q => zcA x q) fun q => by
 unfold zcA; split <;> simp
@[simp] theorem zFz (x : AV) : zae H (fun K' => zdz x fun v => K' v H) k = zdz x k := zbt (p := fun q => zdz x q) fun q => by
 unfold zdz
 split
 ·split <;> simp
 ·simp
 ·simp
@[simp] theorem zFK (x : AV) : zae H (fun K' => za3 x fun v => K' v H) k = za3 x k := zbt (p := fun q => za3 x q) fun q => by
 unfold za3; split <;> simp
@[simp] theorem zFB (x : AV) (i : Nat) : zae H (fun K' => zat x i fun v => K' v H) k = zat x i k := zbt (p := fun q => zat x i q) fun q => by
 unfold zat
 split
 ·split <;> simp
 ·simp
@[simp] theorem zFu (z : List AV) (ps : List (Nat × Nat)) (x : List (Nat × AV)) : zae H (fun K' => zav z ps x fun v => K' v H) k = zav z ps x k := zbt (p := fun q => zav z ps x q) fun q => by
 unfold zav; split <;> simp
@[simp] theorem zFv (e : Nat) (z : List AV) (l : Nat) (x : List (Nat × AV)) : zae H (fun K' => zaw e z l x fun v => K' v H) k = zaw e z l x k := zbt (p := fun q => zaw e z l x q) fun q => by
 unfold zaw
 split
 ·split <;> simp
 ·simp
@[simp] theorem zFt (o : BinOp) (b : Bool) (x y : AV) : zae H (fun K' => zac o b x y fun v => K' v H) k = zac o b x y k := zbt (p := fun q => zac o b x y q) fun q => by
 unfold zac; split <;> simp
@[simp] theorem zFx (f : Nat) (x : List AV) : zae H (fun K' => zbQ f x fun v => K' v H) k = zbQ f x k := zbt (p := fun q => zbQ f x q) fun q => by
 unfold zbQ
 constructor
 ·rintro ⟨h1, h2⟩; exact ⟨_, ⟨h1, rfl⟩, h2⟩
 ·rintro ⟨v, ⟨h1, rfl⟩, h2⟩; exact ⟨h1, h2⟩
end
@[simp] theorem ztk (A l : zaa) : (A ++ l)[A.length]? = l[0]? := by rw [List.getElem?_append_right (Nat.le_refl _)]; simp
@[simp] theorem ztl (A l : zaa) (k : Nat) : (A ++ l)[A.length + k]? = l[k]? := by rw [List.getElem?_append_right (by omega)]; congr 1; omega
@[simp] theorem zus (A l : zaa) (x : AB) : (A ++ l).set A.length x = A ++ l.set 0 x := by rw [List.set_append_right _ _ (Nat.le_refl _)]; simp
@[simp] theorem zoT (A l : zaa) (k : Nat) (x : AB) : (A ++ l).set (A.length + k) x = A ++ l.set k x := by rw [List.set_append_right _ _ (by omega)]; congr 2; omega
@[simp] theorem zGp (A l : zaa) (i : Nat) (y : AB) : (A.set i y ++ l)[A.length]? = l[0]? := by have := ztk (A.set i y) l; rwa [List.length_set] at this
@[simp] theorem zGq (A l : zaa) (i : Nat) (y : AB) (k : Nat) : (A.set i y ++ l)[A.length + k]? = l[k]? := by have := ztl (A.set i y) l k; rwa [List.length_set] at this
@[simp] theorem zGR (A l : zaa) (i : Nat) (x y : AB) : (A.set i y ++ l).set A.length x = A.set i y ++ l.set 0 x := by have := zus (A.set i y) l x; rwa [List.length_set] at this
@[simp] theorem zGS (A l : zaa) (i : Nat) (y : AB) (k : Nat) (x : AB) : (A.set i y ++ l).set (A.length + k) x = A.set i y ++ l.set k x := by have := zoT (A.set i y) l k x; rwa [List.length_set] at this
theorem zct {H J : zaa} {id : Nat} {b : AB} (h : H[id]? = some b) : (H ++ J)[id]? = some b := by
 rw [List.getElem?_append_left (List.getElem?_eq_some_iff.1 h).1]; exact h
theorem zeg {H : zaa} {id : Nat} {b : AB} (h : H[id]? = some b) : id < H.length := (List.getElem?_eq_some_iff.1 h).1
theorem zcQ {H J : zaa} {id : Nat} {b : AB} (x : AB) (h : H[id]? = some b) : (H ++ J).set id x = H.set id x ++ J := List.set_append_left _ _ (zeg h)
theorem zcp {H : zaa} {id : Nat} {b : AB} (x : AB) (h : H[id]? = some b) : (H.set id x)[id]? = some x := List.getElem?_set_self (zeg h)

theorem zan {n : Int} (h1 : -9223372036854775808 ≤ n) (h2 : n ≤ 9223372036854775807) : IntKind.i64.wrap n = n := IntWalk.i64_in n ⟨h1, h2⟩

theorem HSc.set {H : zaa} {id : Nat} {b : AB} (h : HSc H) (hb : b.sc H.length = true) : HSc (H.set id b) := by
 intro x hx
 rw [List.length_set]
 rcases List.mem_or_eq_of_mem_set hx with h1 | h1
 ·exact h x h1
 ·rw [h1]; exact hb
theorem zbO {n m : Nat} (h : n ≤ m) : ∀ {a : AV}, a.sc n = true → a.sc m = true := by
 have hB : ∀ {a : AV}, a.scB n = true → a.scB m = true := by
  intro a ha
  cases a with
  | sl es t => cases t <;> simp_all [AV.scB]; omega
  | _ => simp_all [AV.scB] <;> omega
 have hA : ∀ {a : AV}, a.scA n = true → a.scA m = true := by
  intro a ha
  cases a with
  | fn f caps => simp only [AV.scA, List.all_eq_true] at ha ⊢; exact fun x hx => hB (ha x hx)
  | _ => simp only [AV.scA] at ha ⊢; exact hB ha
 have hV : ∀ {a : AV}, a.scV n = true → a.scV m = true := by
  intro a ha
  cases a with
  | agg caps => simp only [AV.scV, List.all_eq_true] at ha ⊢; exact fun x hx => hA (ha x hx)
  | _ => simp only [AV.scV] at ha ⊢; exact hA ha
 intro a ha
 cases a with
 | tup caps => simp only [AV.sc, List.all_eq_true] at ha ⊢; exact fun x hx => hV (ha x hx)
 | _ => simp only [AV.sc] at ha ⊢; exact hV ha
theorem Back.here {n0 : Nat} {Inv : List AV → zaa → Prop} {F : List AV} {H : zaa} (hn : n0 ≤ H.length) (hsc : HSc H) (hs : F.all (AV.sc H.length) = true) (h : Inv F H) : Back n0 Inv F H := by
 have := Back.same (J := []) hn hsc hs h
 simpa using this
theorem zkk {n m : Nat} (h : n ≤ m) {a : AV} (ha : a.scA n = true) : a.scA m = true := by
 cases a with
 | agg cs => rfl
 | tup vs => rfl
 | fn f caps => exact zbO h (a := .fn f caps) ha
 | sl es t => exact zbO h (a := .sl es t) ha
 | ptr i o => exact zbO h (a := .ptr i o) ha
 | ms i o l c => exact zbO h (a := .ms i o l c) ha
 | ov i n => exact zbO h (a := .ov i n) ha
 | vp i n o => exact zbO h (a := .vp i n o) ha
 | map i => exact zbO h (a := .map i) ha
 | _ => rfl
theorem zuo {n m : Nat} (h : n ≤ m) {a : AV} (ha : a.scV n = true) : a.scV m = true := by
 cases a with
 | tup vs => rfl
 | agg cs => exact zbO h (a := .agg cs) ha
 | fn f caps => exact zbO h (a := .fn f caps) ha
 | sl es t => exact zbO h (a := .sl es t) ha
 | ptr i o => exact zbO h (a := .ptr i o) ha
 | ms i o l c => exact zbO h (a := .ms i o l c) ha
 | ov i n => exact zbO h (a := .ov i n) ha
 | vp i n o => exact zbO h (a := .vp i n o) ha
 | map i => exact zbO h (a := .map i) ha
 | _ => rfl
theorem zsq {n m : Nat} (h : n ≤ m) {b : AB} (hb : b.sc n = true) : b.sc m = true := by
 cases b with
 | cells cs => simp only [AB.sc, List.all_eq_true] at hb ⊢; exact fun x hx => zkk h (hb x hx)
 | perm e s n => rfl
 | gap => rfl
 | dead => rfl
 | fact φ => rfl
 | map kvs => simp only [AB.sc, List.all_eq_true] at hb ⊢; exact fun x hx => zuo h (hb x hx)
 | bld t cs => simp only [AB.sc, List.all_eq_true] at hb ⊢; exact fun x hx => zkk h (hb x hx)
 | vec e s n cs => simp only [AB.sc, List.all_eq_true] at hb ⊢; exact fun x hx => zkk h (hb x hx)
theorem HSc.append {A J : zaa} (hA : HSc A) (hJ : J.all (AB.sc (A.length + J.length)) = true) : HSc (A ++ J) := by
 intro x hx
 rw [List.length_append]
 rcases List.mem_append.1 hx with h1 | h1
 ·exact zsq (by omega) (hA x h1)
 ·exact List.all_eq_true.1 hJ x h1
end Go.Abs
namespace Go.Abs
open Go

inductive VT where
 | mk (kind num : Int) (kids : List VT)

mutual
def VT.cs : VT → List AV
 | .mk k n ks => [.int .i64 k, .int .i64 n, .sl (VT.css ks) .none]
def VT.css : List VT → List (List AV)
 | [] => []
 | v :: vs => VT.cs v :: VT.css vs
end
mutual
def VT.nodes : VT → Nat
 | .mk _ _ ks => VT.nodesL ks + 1
def VT.nodesL : List VT → Nat
 | [] => 0
 | v :: vs => VT.nodes v + VT.nodesL vs
end
theorem VT.css_map : ∀ ks : List VT, VT.css ks = ks.map VT.cs
 | [] => rfl
 | v :: vs => by simp [VT.css, VT.css_map vs]
theorem VT.nodes_pos : ∀ v : VT, 0 < v.nodes
 | .mk _ _ _ => by simp [VT.nodes]
theorem VT.nodesL_app : ∀ (a b : List VT), VT.nodesL (a ++ b) = VT.nodesL a + VT.nodesL b
 | [], b => by simp [VT.nodesL]
 | v :: a, b => by simp [VT.nodesL, VT.nodesL_app a b]; omega
@[simp] theorem VT.cs_len (v : VT) : v.cs.length = 3 := by cases v; simp [VT.cs]
@[simp] theorem VT.css_len (ks : List VT) : (VT.css ks).length = ks.length := by simp [VT.css_map]
@[simp] theorem VT.cs_take (v : VT) : v.cs.take 3 = v.cs := by cases v; simp [VT.cs]
@[simp] theorem VT.cs_known (v : VT) : v.cs.all AV.known = true := by cases v; simp [VT.cs, AV.known]
@[simp] theorem VT.cs_scA (v : VT) (n : Nat) : v.cs.all (AV.scA n) = true := by cases v; simp [VT.cs, AV.scA, AV.scB]
@[simp] theorem VT.css_at {ks : List VT} {i : Nat} (h : i < ks.length) : (VT.css ks)[i]?.getD [] = (ks[i]).cs := by simp [VT.css_map, h]
@[simp] theorem VT.css_get {ks : List VT} {i : Nat} (h : i < (VT.css ks).length) : (VT.css ks)[i] = (ks[i]'(by simpa using h)).cs := by simp [VT.css_map]
theorem VT.css_getD {ks : List VT} {i : Nat} (h : i < ks.length) : (VT.css ks).getD i [] = (ks[i]).cs := by simp [VT.css_map, List.getD_eq_getElem?_getD, h]
theorem VT.kid_lt {k n : Int} {ks : List VT} {i : Nat} (h : i < ks.length) : (ks[i]).nodes < (VT.mk k n ks).nodes := by
 have h1 : VT.nodesL ks = VT.nodesL (ks.take i) + ((ks[i]).nodes + VT.nodesL (ks.drop (i + 1))) := by
  conv => lhs; rw [← List.take_append_drop i ks, VT.nodesL_app, List.drop_eq_getElem_cons h]
  rw [VT.nodesL]
 simp only [VT.nodes]
 omega
theorem VT.len_le : ∀ ks : List VT, ks.length ≤ VT.nodesL ks
 | [] => by simp
 | v :: vs => by have := VT.len_le vs; have := v.nodes_pos; simp [VT.nodesL]; omega
theorem VT.nodesL_take {ks : List VT} {i : Nat} (h : i < ks.length) : VT.nodesL (ks.take (i + 1)) = VT.nodesL (ks.take i) + (ks[i]).nodes := by
 rw [List.take_succ_eq_append_getElem h, VT.nodesL_app]; simp [VT.nodesL]
theorem VT.nodesL_take_le (ks : List VT) (i : Nat) : VT.nodesL (ks.take i) ≤ VT.nodesL ks := by
 conv => rhs; rw [← List.take_append_drop i ks, VT.nodesL_app]
 omega
def VT.leaf (k : Int) : Bool := k == 6 || k == 7 || k == 8
mutual
def VT.size : VT → Nat
 | .mk k _ ks => if VT.leaf k = true then 1 else VT.sizeL ks + 1
def VT.sizeL : List VT → Nat
 | [] => 0
 | v :: vs => VT.size v + VT.sizeL vs
end
mutual
theorem VT.size_le : ∀ v : VT, v.size ≤ v.nodes
 | .mk k n ks => by
  have := VT.sizeL_le ks
  simp only [VT.size, VT.nodes]
  split <;> omega
theorem VT.sizeL_le : ∀ ks : List VT, VT.sizeL ks ≤ VT.nodesL ks
 | [] => by simp [VT.sizeL, VT.nodesL]
 | v :: vs => by have := VT.size_le v; have := VT.sizeL_le vs; simp only [VT.sizeL, VT.nodesL]; omega
end
/- The guard on a value's nodes: what is left of a number behind it, and whether it was enough. -/
mutual
def VT.val : VT → Int → Bool × Int
 | .mk _ _ ks, n => if n - 1 < 0 then (false, n - 1) else VT.valL ks (n - 1)
def VT.valL : List VT → Int → Bool × Int
 | [], n => (true, n)
 | v :: vs, n => match VT.val v n with
  | (true, m) => VT.valL vs m
  | (false, m) => (false, m)
end
mutual
theorem VT.val_spec : ∀ (v : VT) (n : Int), 0 ≤ n → ((VT.val v n).1 = true → (VT.val v n).2 = n - v.nodes ∧ 0 ≤ (VT.val v n).2) ∧ -1 ≤ (VT.val v n).2 ∧ (VT.val v n).2 ≤ n
 | .mk k m ks, n, h => by
  simp only [VT.val, VT.nodes]
  split
  ·simp; omega
  ·have := VT.valL_spec ks (n - 1) (by omega)
   refine ⟨fun ht => ?_, by omega, by omega⟩
   have := this.1 ht
   omega
theorem VT.valL_spec : ∀ (ks : List VT) (n : Int), 0 ≤ n → ((VT.valL ks n).1 = true → (VT.valL ks n).2 = n - VT.nodesL ks ∧ 0 ≤ (VT.valL ks n).2) ∧ -1 ≤ (VT.valL ks n).2 ∧ (VT.valL ks n).2 ≤ n
 | [], n, h => by simp [VT.valL, VT.nodesL]; omega
 | v :: vs, n, h => by
  have h1 := VT.val_spec v n h
  simp only [VT.valL, VT.nodesL]
  split
  ·rename_i m hm
   rw [hm] at h1
   have h2 := h1.1 rfl
   simp only at h2
   have h3 := VT.valL_spec vs m h2.2
   refine ⟨fun ht => ?_, by omega, by omega⟩
   have := h3.1 ht
   omega
  ·rename_i m hm
   rw [hm] at h1
   simp only at h1
   exact ⟨by simp, by omega, by omega⟩
end
theorem VT.valL_drop {ks : List VT} {i : Nat} (h : i < ks.length) (n : Int) : VT.valL (ks.drop i) n = match VT.val ks[i] n with
  | (true, m) => VT.valL (ks.drop (i + 1)) m
  | (false, m) => (false, m) := by rw [List.drop_eq_getElem_cons h, VT.valL]
end Go.Abs
namespace Go.Abs
open Go
def icmp (a b : Int) : Int := if a < b then -1 else if b < a then 1 else 0
def cor (a b : Int) : Int := if a = 0 then b else a
theorem zeZ (a b : Int) : icmp a b = - icmp b a := by unfold icmp; split <;> split <;> first | omega | (split <;> omega)
theorem zjp (a b : Int) : icmp a b = 0 ↔ a = b := by unfold icmp; split <;> first | omega | (split <;> omega)
theorem ze0 (a b : Int) : icmp a b = -1 ∨ icmp a b = 0 ∨ icmp a b = 1 := by unfold icmp; split <;> first | omega | (split <;> omega)
theorem zdE {a a' b b' : Int} (h : a = - b) (h' : a' = - b') : cor a a' = - cor b b' := by unfold cor; split <;> split <;> omega
theorem zeQ (a b : Int) : cor a b = 0 ↔ a = 0 ∧ b = 0 := by unfold cor; split <;> omega
theorem zdF {a b : Int} (h : a = -1 ∨ a = 0 ∨ a = 1) (h' : b = -1 ∨ b = 0 ∨ b = 1) : cor a b = -1 ∨ cor a b = 0 ∨ cor a b = 1 := by unfold cor; split <;> omega
theorem znq {a b : Int} (h : a ≠ 0) : cor a b = a := by simp [cor, h]
theorem znr {a b : Int} (h : a = 0) : cor a b = b := by simp [cor, h]
def Tri (a b c : Int) : Prop := a ≤ 0 → b ≤ 0 → c ≤ 0 ∧ (c = 0 → a = 0 ∧ b = 0)
theorem Tri.icmp (x y z : Int) : Tri (icmp x y) (icmp y z) (icmp x z) := by
 unfold Tri Go.Abs.icmp
 intro h1 h2
 split at h1 <;> split at h2 <;> (try split at h1) <;> (try split at h2) <;> split <;> (try split) <;> omega
theorem Tri.cor {a b c a' b' c' : Int} (h : Tri a b c) (h' : Tri a' b' c') : Tri (cor a a') (cor b b') (cor c c') := by
 unfold Tri Go.Abs.cor at *
 intro h1 h2
 by_cases ha : a = 0 <;> by_cases hb : b = 0 <;> by_cases hc : c = 0 <;> simp only [ha, hb, hc, if_true, if_false] at * <;> first | omega | (simp_all; done) | (have := h' h1 h2; simp_all; omega)
mutual
def VT.cmp : VT → VT → Int
 | .mk k n ks, .mk k' n' ks' => cor (icmp k k') (cor (icmp n n') (cor (icmp ks.length ks'.length) (VT.cmpL ks ks')))
def VT.cmpL : List VT → List VT → Int
 | v :: vs, w :: ws => cor (VT.cmp v w) (VT.cmpL vs ws)
 | [], [] => 0
 | [], _ :: _ => -1
 | _ :: _, [] => 1
end
mutual
def VT.same : VT → VT → Bool
 | .mk k n ks, .mk k' n' ks' => k == k' && n == n' && VT.sameL ks ks'
def VT.sameL : List VT → List VT → Bool
 | v :: vs, w :: ws => VT.same v w && VT.sameL vs ws
 | [], [] => true
 | [], _ :: _ => false
 | _ :: _, [] => false
end
mutual
theorem VT.cmp_anti : ∀ v w : VT, VT.cmp v w = - VT.cmp w v
 | .mk k n ks, .mk k' n' ks' => by
  simp only [VT.cmp]
  exact zdE (zeZ _ _) (zdE (zeZ _ _) (zdE (zeZ _ _) (VT.cmpL_anti ks ks')))
theorem VT.cmpL_anti : ∀ v w : List VT, VT.cmpL v w = - VT.cmpL w v
 | v :: vs, w :: ws => by simp only [VT.cmpL]; exact zdE (VT.cmp_anti v w) (VT.cmpL_anti vs ws)
 | [], [] => by simp [VT.cmpL]
 | [], _ :: _ => by simp [VT.cmpL]
 | _ :: _, [] => by simp [VT.cmpL]
end
mutual
theorem VT.cmp_rng : ∀ v w : VT, VT.cmp v w = -1 ∨ VT.cmp v w = 0 ∨ VT.cmp v w = 1
 | .mk k n ks, .mk k' n' ks' => by
  simp only [VT.cmp]
  exact zdF (ze0 _ _) (zdF (ze0 _ _) (zdF (ze0 _ _) (VT.cmpL_rng ks ks')))
theorem VT.cmpL_rng : ∀ v w : List VT, VT.cmpL v w = -1 ∨ VT.cmpL v w = 0 ∨ VT.cmpL v w = 1
 | v :: vs, w :: ws => by simp only [VT.cmpL]; exact zdF (VT.cmp_rng v w) (VT.cmpL_rng vs ws)
 | [], [] => by simp [VT.cmpL]
 | [], _ :: _ => by simp [VT.cmpL]
 | _ :: _, [] => by simp [VT.cmpL]
end
theorem VT.sameL_len : ∀ v w : List VT, VT.sameL v w = true → v.length = w.length
 | v :: vs, w :: ws => by simp only [VT.sameL, Bool.and_eq_true, List.length_cons]; intro h; have := VT.sameL_len vs ws h.2; omega
 | [], [] => by simp
 | [], _ :: _ => by simp [VT.sameL]
 | _ :: _, [] => by simp [VT.sameL]
mutual
theorem VT.cmp_zero : ∀ v w : VT, VT.cmp v w = 0 ↔ VT.same v w = true
 | .mk k n ks, .mk k' n' ks' => by
  have h := VT.cmpL_zero ks ks'
  simp only [VT.cmp, VT.same, zeQ, zjp, Bool.and_eq_true, beq_iff_eq, and_assoc, h]
  constructor
  ·rintro ⟨a, b, _, c⟩; exact ⟨a, b, c⟩
  ·rintro ⟨a, b, c⟩; exact ⟨a, b, by have := VT.sameL_len _ _ c; omega, c⟩
theorem VT.cmpL_zero : ∀ v w : List VT, VT.cmpL v w = 0 ↔ VT.sameL v w = true
 | v :: vs, w :: ws => by simp only [VT.cmpL, VT.sameL, zeQ, Bool.and_eq_true, VT.cmp_zero v w, VT.cmpL_zero vs ws]
 | [], [] => by simp [VT.cmpL, VT.sameL]
 | [], _ :: _ => by simp [VT.cmpL, VT.sameL]
 | _ :: _, [] => by simp [VT.cmpL, VT.sameL]
end
mutual
theorem VT.cmp_tri : ∀ v w x : VT, Tri (VT.cmp v w) (VT.cmp w x) (VT.cmp v x)
 | .mk k n ks, .mk k' n' ks', .mk k'' n'' ks'' => by
  simp only [VT.cmp]
  exact (Tri.icmp _ _ _).cor ((Tri.icmp _ _ _).cor ((Tri.icmp _ _ _).cor (VT.cmpL_tri ks ks' ks'')))
theorem VT.cmpL_tri : ∀ v w x : List VT, Tri (VT.cmpL v w) (VT.cmpL w x) (VT.cmpL v x)
 | v :: vs, w :: ws, x :: xs => by simp only [VT.cmpL]; exact (VT.cmp_tri v w x).cor (VT.cmpL_tri vs ws xs)
 | [], [], [] => by simp [VT.cmpL, Tri]
 | [], [], _ :: _ => by simp [VT.cmpL, Tri]
 | [], _ :: _, [] => by simp [VT.cmpL, Tri]
 | [], _ :: _, _ :: _ => by simp [VT.cmpL, Tri]
 | _ :: _, [], [] => by simp [VT.cmpL, Tri]
 | _ :: _, [], _ :: _ => by simp [VT.cmpL, Tri]
 | _ :: _, _ :: _, [] => by simp [VT.cmpL, Tri]
end
theorem VT.cmpL_drop {a b : List VT} {i : Nat} (ha : i < a.length) (hb : i < b.length) : VT.cmpL (a.drop i) (b.drop i) = cor (VT.cmp a[i] b[i]) (VT.cmpL (a.drop (i + 1)) (b.drop (i + 1))) := by
 rw [List.drop_eq_getElem_cons ha, List.drop_eq_getElem_cons hb, VT.cmpL]
theorem VT.sameL_drop {a b : List VT} {i : Nat} (ha : i < a.length) (hb : i < b.length) : VT.sameL (a.drop i) (b.drop i) = (VT.same a[i] b[i] && VT.sameL (a.drop (i + 1)) (b.drop (i + 1))) := by
 rw [List.drop_eq_getElem_cons ha, List.drop_eq_getElem_cons hb, VT.sameL]
end Go.Abs
