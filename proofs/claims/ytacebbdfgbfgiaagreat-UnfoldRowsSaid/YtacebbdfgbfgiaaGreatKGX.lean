import Derived.Test.YtacebbdfgbfgiaaGreatAbsL
import Derived.Test.YtacebbdfgbfgiaaGreatKNum
import Derived.Test.YtacebbdfgbfgiaaGreatProg
import Derived.KernelRfl
set_option linter.unusedSimpArgs false
set_option linter.unusedVariables false
namespace Go.Abs
open Go Go.RowKit
variable {P : Program}
def zpP : Code → Array Oper
 | .region _ ops _ => ops
 | .seq a _ => zpP a
 | _ => #[]
def opS : Op → Bool
 | .move _ => true
 | .fieldAddr _ _ _ => true
 | _ => false
def opT : Op → Bool
 | .move _ => true
 | .assign _ => true
 | .fieldAddr _ _ _ => true
 | .indexAddr _ _ _ => true
 | .load _ _ => true
 | .store _ _ _ => true
 | .buildSlice _ _ _ => true
 | .slice _ _ _ _ none => true
 | .call c => (match c.callee with
  | .builtin .append => true
  | .value (.func _) => true
  | _ => false)
 | _ => false
theorem ACalls.monoZ {H : zaa} {f : FuncId} {args : List AV} {K K' : AV → zaa → Prop} (h : ACalls P f args H K) (hk : ∀ r H', K r H' → K' r H') : ACalls P f args H K' :=
 fun B w G vs hH hv => (h B w G vs hH hv).mono fun _ _ ⟨v, r, H', G', h1, h2, h3, h4, h5⟩ => ⟨v, r, H', G', h1, h2, h3, h4, hk _ _ h5⟩
theorem zdj {x : Option AV} {d : Nat} {K K' : Nat → Prop} (hk : ∀ n, K n → K' n) (h : zbk x d K) : zbk x d K' := by
 unfold zbk at h ⊢
 split at h
 ·exact hk _ h
 ·exact ⟨h.1, hk _ h.2⟩
 ·exact h
theorem zop {u esz : Nat} {x : AV} {lo hi : Option AV} {K K' : AV → Prop} (hk : ∀ v, K v → K' v) (h : zaD u esz x lo hi K) : zaD u esz x lo hi K' := by
 unfold zaD at h ⊢
 split at h
 ·exact zdj (fun _ => zdj fun _ h => ⟨h.1, hk _ h.2⟩) h
 ·exact zdj (fun _ => zdj fun _ h => ⟨h.1, hk _ h.2⟩) h
 ·exact zdj (fun _ => zdj fun _ h => ⟨h.1, hk _ h.2⟩) h
 ·exact zdj (fun _ => zdj fun _ h => ⟨h.1, hk _ h.2⟩) h
 ·exact h
theorem zjX {o : Oper} {F : List AV} {H : zaa} {K K' : AV → zaa → Prop} (hT : opT o.op = true) (hk : ∀ v H', K v H' → K' v H') (h : aop P o F H K) : aop P o F H K' := by
 obtain ⟨dst, op, type, pos, after, guard⟩ := o
 cases op <;> simp only [opT] at hT <;> first | exact absurd hT (by decide) | skip
 case move x => exact hk _ _ h
 case assign x => exact hk _ _ h
 case fieldAddr s x i =>
  simp only [aop, isM, zbw] at h ⊢
  split at h
  ·split at h
   ·unfold zaf at h ⊢
    split at h
    ·exact hk _ _ h
    ·exact h
   ·exact h
  ·exact h
 case slice t x lo hi m =>
  cases m with
  | some m => exact absurd hT (by simp)
  | none =>
   simp only [aop, isM, zbw] at h ⊢
   split at h
   ·exact zop (fun v => hk v _) h
   ·split at h
    ·exact zop (fun v => hk v _) h
    ·exact h
   ·exact h
 case indexAddr t x i =>
  simp only [aop, isM, zbw] at h ⊢
  split at h
  ·unfold zai at h ⊢
   split at h
   ·exact hk _ _ h
   ·exact h
  ·exact h
 case load t a =>
  simp only [aop, isM, zbw] at h ⊢
  split at h
  ·unfold zad at h ⊢
   split at h
   ·unfold zaX at h ⊢
    split at h
    ·exact ⟨h.1, hk _ _ h.2⟩
    ·split at h
     ·exact hk _ _ h
     ·exact h
   ·exact h
  ·exact h
 case store t a x =>
  simp only [aop, isM, zbw] at h ⊢
  split at h
  ·unfold zak at h ⊢
   split at h
   ·exact hk _ _ h
   ·exact h
  ·exact h
 case buildSlice t n ps =>
  simp only [aop, isM, zbw] at h ⊢
  split at h
  ·split at h
   ·unfold zaA at h ⊢
    split at h
    ·split at h
     ·exact hk _ _ h
     ·exact h
    ·exact h
   ·exact h
  ·exact h
 case call c =>
  obtain ⟨callee, args, ats⟩ := c
  simp only [aop, isM, zbw] at h ⊢
  cases callee with
  | invoke _ _ => exact absurd hT (by simp)
  | value f =>
   cases f with
   | func g =>
    simp only [ev, aCallV] at h ⊢
    split at h
    ·exact ACalls.monoZ h hk
    ·exact h
   | _ => exact absurd hT (by simp)
  | builtin b =>
   cases b <;> (try (simp at hT; done))
   case append =>
    simp only [zdk] at h ⊢
    split at h
    ·split at h
     ·split at h
      ·exact zom hk h
      ·exact h
     ·exact h
    ·exact h
theorem sil {o : Oper} {F : List AV} {H : zaa} {K : AV → zaa → Prop} (hS : opS o.op = true) (h : aop P o F H K) :
  ∃ v, K v H ∧ ∀ (F' : List AV) (H' : zaa) (K' : AV → zaa → Prop), (∀ x ∈ o.op.operands, ev F x = ev F' x) → K' v H' → aop P o F' H' K' := by
 have hc := fun (F' : List AV) (H' : zaa) (K' : AV → zaa → Prop) (hx : ∀ x ∈ o.op.operands, ev F x = ev F' x) => (zjW (P := P) (H := H') (K := K') hx)
 obtain ⟨dst, op, type, pos, after, guard⟩ := o
 cases op <;> simp only [opS] at hS <;> first | exact absurd hS (by decide) | skip
 case move x =>
  refine ⟨ev F x, h, fun F' H' K' hx hk => ?_⟩
  rw [← hc F' H' K' hx]
  exact hk
 case fieldAddr s x i =>
  simp only [aop, isM, zbw] at h
  split at h
  ·rename_i f hf
   split at h
   ·rename_i n hn
    unfold zaf at h
    split at h
    ·rename_i v hv
     refine ⟨v, h, fun F' H' K' hx hk => ?_⟩
     rw [← hc F' H' K' hx]
     simp only [aop, isM, zbw, hf, hn, zaf, hv]
     exact hk
    ·exact h.elim
   ·exact h.elim
  ·exact h.elim
def zlg (ops : Array Oper) (i : Nat) : Bool := match ops[i]? with
 | some o => opS o.op
 | none => false
def zeC (P : Program) (ops : Array Oper) (K : List AV → zaa → Prop) : Nat → Array Bool → List AV → zaa → Prop
 | 0, listed, F, H => (match Region.ready .any ops listed with
  | [] => K F H
  | _ => False)
 | n + 1, listed, F, H => (match Region.ready .any ops listed with
  | [] => K F H
  | i :: is => (match (i :: is).find? (zlg ops) with
   | some j => (match ops[j]? with
    | some o => aop P o F H fun v H' => zeC P ops K n (listed.setIfInBounds j true) (zaR F o.dst v) H'
    | none => False)
   | none => zeY (i :: is) fun i => (match ops[i]? with
    | some o => aop P o F H fun v H' => zeC P ops K n (listed.setIfInBounds i true) (zaR F o.dst v) H'
    | none => False)))
theorem zgf {α : Type} {p : α → Prop} : ∀ {l : List α}, (∀ i ∈ l, p i) → zeY l p
 | [], _ => trivial
 | [i], h => h i (by simp)
 | i :: j :: l, h => ⟨h i (by simp), zgf fun k hk => h k (by simp [List.mem_cons.1 hk])⟩
theorem zk4 {ops : Array Oper} {listed : Array Bool} {i j : Nat} (hj : j ∈ Region.ready .any ops listed) (hne : j ≠ i) : j ∈ Region.ready .any ops (listed.setIfInBounds i true) := by
 obtain ⟨h1, o, ho, he⟩ := mem_ready.1 hj
 refine mem_ready.2 ⟨?_, o, ho, fun e hem hb => ?_⟩
 ·have : (listed.setIfInBounds i true)[j]? = listed[j]? := by rw [Array.getElem?_setIfInBounds]; rw [if_neg (fun h => hne h.symm)]
  rw [Array.getD_eq_getD_getElem?] at h1 ⊢
  rw [this]
  exact h1
 ·have h2 := he e hem hb
  rw [Array.getD_eq_getD_getElem?] at h2 ⊢
  rw [Array.getElem?_setIfInBounds]
  split
  ·rename_i h
   have hl : e.on < listed.size := by
    by_cases hl : e.on < listed.size
    ·exact hl
    ·rw [Array.getElem?_eq_none (by omega)] at h2
     cases h2
   subst h
   simp [hl]
  ·exact h2
theorem zpK {ops : Array Oper} {listed : Array Bool} {i j : Nat} {o : Oper} (hi : i ∈ Region.ready .any ops listed) (hj : j ∈ Region.ready .any ops listed) (ho : ops[i]? = some o) : ¬ ∃ e ∈ o.after, Region.binds .any e = true ∧ e.on = j := by
 rintro ⟨e, he, hb, rfl⟩
 obtain ⟨_, o', ho', h1⟩ := mem_ready.1 hi
 obtain ⟨h2, _⟩ := mem_ready.1 hj
 rw [ho] at ho'
 obtain rfl := Option.some.inj ho'
 have h3 := h1 e he hb
 rw [Array.getD_eq_getD_getElem?] at h2 h3
 cases hx : listed[e.on]? with
 | none => rw [hx] at h3; cases h3
 | some b => rw [hx] at h2 h3; simp at h2 h3; rw [h2] at h3; cases h3
theorem zo2 {ops : Array Oper} {listed : Array Bool} {i j : Nat} {oi oj : Oper} (hO : Ord ops) (hi : i ∈ Region.ready .any ops listed) (hj : j ∈ Region.ready .any ops listed) (hne : i ≠ j) (hoi : ops[i]? = some oi) (hoj : ops[j]? = some oj) (F : List AV) (v : AV) :
  ∀ x ∈ oi.op.operands, ev F x = ev (zaR F oj.dst v) x := by
 intro x hx
 cases x with
 | tmp t =>
  cases hd : oj.dst with
  | none => rfl
  | some d =>
   by_cases htd : t = d
   ·exfalso
    subst htd
    have hr : t ∈ zcF ops oi := by
     simp only [zcF, List.mem_append, List.mem_filterMap]
     exact .inl ⟨.tmp t, by simpa using hx, rfl⟩
    by_cases hlt : j < i
    ·exact zpK hi hj hoi (hO.before i j oi oj t hoi hoj hlt hd hr)
    ·exact zpK hj hi hoj (hO.behind i j oi oj t hoi hoj (by omega) hd hr)
   ·simp only [ev, zaR, List.getD_eq_getElem?_getD, List.getElem?_set]
    rw [if_neg (fun h => htd h.symm)]
 | _ => rfl
theorem zv0 {ops : Array Oper} {i j : Nat} {oi oj : Oper} (hO : Ord ops) (hne : i ≠ j) (hoi : ops[i]? = some oi) (hoj : ops[j]? = some oj) (F : List AV) (v u : AV) : zaR (zaR F oi.dst v) oj.dst u = zaR (zaR F oj.dst u) oi.dst v := by
 cases h1 : oi.dst with
 | none => rfl
 | some d =>
  cases h2 : oj.dst with
  | none => rfl
  | some e =>
   have hde : d ≠ e := fun h => hO.dst i j oi oj e hoi hoj hne h2 (by rw [h1, h])
   exact List.set_comm _ _ hde
theorem zwe {ops : Array Oper} {K : List AV → zaa → Prop} (hO : Ord ops) (hN : ∀ (i : Nat) o, ops[i]? = some o → o.guard = none) (hT : ∀ (i : Nat) o, ops[i]? = some o → opT o.op = true) :
  ∀ (n : Nat) (listed : Array Bool) (F : List AV) (H : zaa) (i : Nat) (o : Oper), i ∈ Region.ready .any ops listed → ops[i]? = some o → opS o.op = true →
   aop P o F H (fun v H' => runT P ops K n (listed.setIfInBounds i true) (zaR F o.dst v) H') → runT P ops K (n + 1) listed F H := by
 intro n
 induction n with
 | zero =>
  intro listed F H i o hi ho hS h
  obtain ⟨v, hv, _⟩ := sil hS h
  have key : ∀ j ∈ Region.ready .any ops listed, j = i := fun j hj => by
   by_cases hne : j = i
   ·exact hne
   ·exfalso
    have hr := zk4 hj hne
    unfold runT at hv
    split at hv
    ·rename_i hnil; rw [hnil] at hr; cases hr
    ·exact hv
  unfold runT
  split
  ·rename_i hnil; rw [hnil] at hi; cases hi
  ·rename_i i0 is hr
   refine zgf fun j hj => ?_
   obtain rfl := key j (by rw [hr]; exact hj)
   simp only [ho, hN _ _ ho]
   exact h
 | succ n ih =>
  intro listed F H i o hi ho hS h
  obtain ⟨v, hv, hsil⟩ := sil hS h
  unfold runT
  split
  ·rename_i hnil; rw [hnil] at hi; cases hi
  ·rename_i i0 is hr
   refine zgf fun j hj => ?_
   have hj : j ∈ Region.ready .any ops listed := by rw [hr]; exact hj
   by_cases hne : j = i
   ·subst hne
    simp only [ho, hN _ _ ho]
    exact h
   ·obtain ⟨_, oj, hoj, _⟩ := mem_ready.1 hj
    simp only [hoj, hN _ _ hoj]
    have hr2 := zk4 hj hne
    unfold runT at hv
    split at hv
    ·rename_i hnil; rw [hnil] at hr2; cases hr2
    ·rename_i k0 ks hk
     have h1 := zge hv j (by rw [← hk]; exact hr2)
     simp only [hoj, hN _ _ hoj] at h1
     rw [← zjW (zo2 hO hj hi hne hoj ho F v)] at h1
     refine zjX (hT _ _ hoj) (fun u H' h2 => ?_) h1
     refine ih _ _ _ i o (zk4 hi (fun h => hne h.symm)) ho hS ?_
     refine hsil _ _ _ (zo2 hO hi hj (fun h => hne h.symm) ho hoj F u) ?_
     rw [zv0 hO (fun h => hne h.symm) ho hoj F v u] at h2
     have e2 : (listed.setIfInBounds i true).setIfInBounds j true = (listed.setIfInBounds j true).setIfInBounds i true := Array.setIfInBounds_comm _ _ (fun h => hne h.symm)
     rw [e2] at h2
     exact h2
theorem zwc {ops : Array Oper} {K : List AV → zaa → Prop} (hO : Ord ops) (hN : ∀ (i : Nat) o, ops[i]? = some o → o.guard = none) (hT : ∀ (i : Nat) o, ops[i]? = some o → opT o.op = true) :
  ∀ (n : Nat) (listed : Array Bool) (F : List AV) (H : zaa), zeC P ops K n listed F H → runT P ops K n listed F H := by
 intro n
 induction n with
 | zero => intro listed F H h; exact h
 | succ n ih =>
  intro listed F H h
  unfold zeC at h
  split at h
  ·rename_i hr
   unfold runT
   split
   ·exact h
   ·rename_i hr2; rw [hr] at hr2; cases hr2
  ·rename_i i0 is hr
   split at h
   ·rename_i j hj
    have hjm : j ∈ Region.ready .any ops listed := by rw [hr]; exact List.mem_of_find?_eq_some hj
    have hjs : zlg ops j = true := List.find?_some hj
    split at h
    ·rename_i o ho
     unfold zlg at hjs
     rw [ho] at hjs
     exact zwe hO hN hT n listed F H j o hjm ho hjs (zjX (hT _ _ ho) (fun v H' h => ih _ _ _ h) h)
    ·exact h.elim
   ·unfold runT
    split
    ·rename_i hr2; rw [hr] at hr2; cases hr2
    ·rename_i k0 ks hr2
     rw [hr] at hr2
     obtain ⟨rfl, rfl⟩ := List.cons.inj hr2
     refine zgf fun j hj => ?_
     have h1 := zge h j hj
     split at h1
     ·rename_i o ho
      simp only [ho, hN _ _ ho]
      exact zjX (hT _ _ ho) (fun v H' h => ih _ _ _ h) h1
     ·exact h1.elim
def okS (ops : Array Oper) : Bool := zcP ops && ops.toList.all fun o => o.guard.isNone && opT o.op
theorem zwd {ops : Array Oper} {K : List AV → zaa → Prop} (h : okS ops = true) {n : Nat} {listed : Array Bool} {F : List AV} {H : zaa} (hs : zeC P ops K n listed F H) : runT P ops K n listed F H := by
 unfold okS at h
 rw [Bool.and_eq_true, List.all_eq_true] at h
 have mem : ∀ (i : Nat) o, ops[i]? = some o → o ∈ ops.toList := fun i o ho => List.mem_iff_getElem?.2 ⟨i, by simpa using ho⟩
 have h2 : ∀ (i : Nat) o, ops[i]? = some o → o.guard.isNone = true ∧ opT o.op = true := fun i o ho => by
  have := h.2 o (mem i o ho)
  simpa using this
 exact zwc (zg4 h.1) (fun i o ho => by simpa using (h2 i o ho).1) (fun i o ho => (h2 i o ho).2) n listed F H hs
end Go.Abs
namespace Go.Proofs.YtacebbdfgbfgiaaGreat
open Go Go.Abs
set_option maxRecDepth 100000
def zCT : Nat → List Bool
 | 300001 => rl false [0,1]
 | _ => []
noncomputable def zCU : Code := Tryz.f55.body.getD .skip
def ziS (t0 : AV) (H : zaa) (K : Kt) : Prop :=
 zem true .eql t0 fun t4 =>
 zag t4
 (K .snil H)
 (zaA 2 [(.int .i64 0), .snil] 0 [] fun t5 =>
 zar zaO 2 32 t5 t0 H fun t7 H =>
 K t7 H)
theorem zCV {t0 : AV} {H : zaa} {K : Kt} (h : HSc H → ziS t0 H K) : ACalls tP zgM [t0] H K :=
 zam (M := zCT) Tryz.func55 (c := zCU) (by kernel_rfl) (fun hs => Eq.mpr (by kernel_rfl) (h hs))
def zco : Nat → List Bool
 | 13 => rl false [0,1,1,1,4,1,2,1,1,2,1,1,49,3,85]
 | 20 => rl false [7,1,5,1,1,1,2,1,83,3,48]
 | 27 => rl false [18,1,112,3,19]
 | 30 => rl false [18,1,3,1,108,3,4,2,13]
 | _ => []
noncomputable def zei : Code := Tryz.f10.body.getD .skip
noncomputable def znY : List ResultVar := Tryz.f10.results.toList
def zjE (t0 t2 t7 t10 t12 t13 t15 t65 t66 t67 : AV) : List AV := t0 :: ux 1 (t2 :: ux 4 (t7 :: ux 2 (t10 :: ux 1 (t12 :: t13 :: ux 1 (t15 :: ux 49 (t65 :: t66 :: t67 :: ux 85 []))))))
def zFn : List Bool := zco 13
noncomputable def zFg : Code := zao [1, 1, 1, 1, 1, 1, 1, 1, 0, 1, 0, 0] zei
def zFd (K : Kt) : AExit → List AV → zaa → Prop := zap tP zco [1, 1, 1, 1, 1, 1, 1, 1, 0, 1, 0] zei (zaw tP znY K)
def zjH (t0 t2 t7 t10 t12 t13 t15 t65 t66 t67 : AV) (H : zaa) (K : Kt) : Prop := ALoop tP zFg (zFd K) (zjE t0 t2 t7 t10 t12 t13 t15 t65 t66 t67) H
def zjF (t7 t13 t15 t18 t102 t103 t104 : AV) : List AV := ux 7 (t7 :: ux 5 (t13 :: ux 1 (t15 :: ux 2 (t18 :: ux 83 (t102 :: t103 :: t104 :: ux 48 [])))))
def zFo : List Bool := zco 20
noncomputable def zFh : Code := zao [1, 1, 1, 1, 1, 1, 1, 1, 1, 1, 0, 1, 0, 0, 1, 0, 0] zei
def zFe (K : Kt) : AExit → List AV → zaa → Prop := zap tP zco [1, 1, 1, 1, 1, 1, 1, 1, 1, 1, 0, 1, 0, 0, 1, 0] zei (zaw tP znY K)
def ztC (t7 t13 t15 t18 t102 t103 t104 : AV) (H : zaa) (K : Kt) : Prop := ALoop tP zFh (zFe K) (zjF t7 t13 t15 t18 t102 t103 t104) H
def zfZ (t18 t131 t132 t133 : AV) : List AV := ux 18 (t18 :: ux 112 (t131 :: t132 :: t133 :: ux 19 []))
def ztF : List Bool := zco 27
noncomputable def znX : Code := zao [1, 1, 1, 1, 1, 1, 1, 1, 1, 1, 1, 1, 0, 1, 0, 0] zei
def ztB (K : Kt) : AExit → List AV → zaa → Prop := zap tP zco [1, 1, 1, 1, 1, 1, 1, 1, 1, 1, 1, 1, 0, 1, 0] zei (zaw tP znY K)
def ztD (t18 t131 t132 t133 : AV) (H : zaa) (K : Kt) : Prop := ALoop tP znX (ztB K) (zfZ t18 t131 t132 t133) H
def zjG (t18 t22 t131 t132 t133 t138 t139 : AV) : List AV := ux 18 (t18 :: ux 3 (t22 :: ux 108 (t131 :: t132 :: t133 :: ux 4 (t138 :: t139 :: ux 13 []))))
def zFp : List Bool := zco 30
noncomputable def zFi : Code := zao [1, 1, 0, 0, 1, 1, 0, 0] znX
def zFf (K : Kt) (Kb27 : Lt) : AExit → List AV → zaa → Prop := zap tP zco [1, 1, 0, 0, 1, 1, 0] znX (zbm ztF Kb27 (ztB K))
def ztE (t18 t22 t131 t132 t133 t138 t139 : AV) (H : zaa) (K : Kt) (Kb27 : Lt) : Prop := ALoop tP zFi (zFf K Kb27) (zjG t18 t22 t131 t132 t133 t138 t139) H
def znW (t18 t22 t131 t132 t133 t138 t139 : AV) (H : zaa) (K : Kt) (Kb27 : Lt) (Kb30 : Lt) : Prop :=
 zac .lss false t139 t138 fun t140 =>
 zag t140
 (zai 2 t22 t139 fun t146 =>
 zad true 2 t146 H fun t147 =>
 ACalls tP zgD [t147] H fun t148 H =>
 zai 2 t22 t139 fun t149 =>
 zak 2 t149 t148 H fun H =>
 zac .add false t139 (.int .i64 1) fun t150 =>
 Kb30 (zjG t18 t22 t131 t132 t133 t138 t150) H)
 (zac .add false t133 (.int .i64 1) fun t151 =>
 Kb27 (zfZ t18 t131 t132 t151) H)
def znV (t18 t131 t132 t133 : AV) (H : zaa) (K : Kt) (Kb27 : Lt) : Prop :=
 zac .lss false t133 t132 fun t134 =>
 zag t134
 (zai 1 t131 t133 fun t135 =>
 zad false 1 t135 H fun t136 =>
 zah 1 t136 fun t138 =>
 ztE t18 t136 t131 t132 t133 t138 (.int .i64 0) H K Kb27)
 (zax [t18, (.int .i64 0)] (K · H))
def zf0 (t18 : AV) (H : zaa) (K : Kt) : Prop :=
 ACalls tP zvC [t18, (.fn zkD [])] H fun t130 H =>
 zah 1 t18 fun t132 =>
 ztD t18 t18 t132 (.int .i64 0) H K
def znU (t7 t13 t15 t18 t102 t103 t104 : AV) (H : zaa) (K : Kt) (Kb20 : Lt) : Prop :=
 zac .lss false t104 t103 fun t105 =>
 zag t105
 (zai 1 t102 t104 fun t107 =>
 zad false 1 t107 H fun t108 =>
 zaf 1 t7 fun t111 =>
 zad false 1 t111 H fun t112 =>
 zai 2 t112 (.int .i64 0) fun t113 =>
 zaf 1 t113 fun t114 =>
 zad false 1 t114 H fun t115 =>
 zai 2 t115 t104 fun t117 =>
 zad true 2 t117 H fun t118 =>
 zai 2 t15 t108 fun t119 =>
 zak 2 t119 t118 H fun H =>
 zac .add false t104 (.int .i64 1) fun t120 =>
 Kb20 (zjF t7 t13 t15 t18 t102 t103 t120) H)
 (zaf 1 t7 fun t124 =>
 zad false 1 t124 H fun t125 =>
 zaD 1 2 t125 (some (.int .i64 1)) none fun t126 =>
 ACalls tP zd0 [t15, t13, t126] H fun t127 H =>
 zar zay 1 24 t18 t127 H fun t128 H =>
 zf0 t128 H K)
def znT (t0 t2 t7 t10 t12 t13 t15 t65 t66 t67 : AV) (H : zaa) (K : Kt) (Kb13 : Lt) : Prop :=
 zac .lss false t67 t66 fun t68 =>
 zag t68
 (zai 1 t65 t67 fun t69 =>
 zad false 1 t69 H fun t70 =>
 zai 3 t10 t70 fun t77 =>
 zad true 3 t77 H fun t78 =>
 ACalls tP zkC [t0, t78] H fun t79 H =>
 zas t79 0 fun t80 =>
 zas t79 1 fun t81 =>
 zai 2 t15 t70 fun t82 =>
 zak 2 t82 t80 H fun H =>
 zac .add false t67 (.int .i64 1) fun t83 =>
 Kb13 (zjE t0 t2 t7 t10 t12 t13 t15 t65 t66 t83) H)
 (zaf 1 t7 fun t86 =>
 zad false 1 t86 H fun t87 =>
 ACalls tP zd0 [t15, t13, t87] H fun t88 H =>
 zaf 1 t7 fun t89 =>
 zad false 1 t89 H fun t90 =>
 zah 1 t90 fun t91 =>
 zac .gtr false t91 (.int .i64 0) fun t92 =>
 zab t92 true H (fun K' => zaf 1 t7 (K' · H)) fun t94 H =>
 zab t92 true H (fun K' => zad false 1 t94 H (K' · H)) fun t95 H =>
 zab t92 true H (fun K' => zai 2 t95 (.int .i64 0) (K' · H)) fun t96 H =>
 zab t92 true H (fun K' => zaf 0 t96 (K' · H)) fun t97 H =>
 zab t92 true H (fun K' => zad false 1 t97 H (K' · H)) fun t98 H =>
 zab t92 true H (fun K' => K' t2 H) fun t99 H =>
 zab t92 true H (fun K' => zac .eql false t98 t99 (K' · H)) fun t100 H =>
 zaj t92 t100 (.bool false) fun t101 =>
 zag t101
 (zah 1 t12 fun t103 =>
 ztC t7 t13 t15 t88 t12 t103 (.int .i64 0) H K)
 (zf0 t88 H K))
def zq8 (t0 t1 t2 t3 : AV) (H : zaa) (K : Kt) : Prop :=
 zaq t1 H fun t5 H =>
 zaq t3 H fun t7 H =>
 zad true 3 t5 H fun t25 =>
 zad true 2 t7 H fun t26 =>
 ACalls tP zkA [t0, t25, t26] H fun t27 H =>
 aUn .not t27 fun t28 =>
 zag t28
 (zax [.snil, (.int .i64 1)] (K · H))
 (zaf 0 t5 fun t29 =>
 zad false 1 t29 H fun t30 =>
 zac .neq false t30 (.int .i64 5) fun t31 =>
 zag t31
 (zax [.snil, (.int .i64 6)] (K · H))
 (zac .lss false t2 (.int .i64 0) fun t33 =>
 zab t33 false H (fun K' => K' t2 H) fun t35 H =>
 zab t33 false H (fun K' => K' t0 H) fun t36 H =>
 zab t33 false H (fun K' => zaf 1 t5 (K' · H)) fun t37 H =>
 zab t33 false H (fun K' => zad false 1 t37 H (K' · H)) fun t38 H =>
 zab t33 false H (fun K' => zai 3 t36 t38 (K' · H)) fun t39 H =>
 zab t33 false H (fun K' => zaf 2 t39 (K' · H)) fun t40 H =>
 zab t33 false H (fun K' => zad false 1 t40 H (K' · H)) fun t41 H =>
 zab t33 false H (fun K' => zah 1 t41 (K' · H)) fun t42 H =>
 zab t33 false H (fun K' => zac .geq false t35 t42 (K' · H)) fun t43 H =>
 zaj t33 (.bool true) t43 fun t44 =>
 zag t44
 (zax [.snil, (.int .i64 8)] (K · H))
 (zad true 3 t5 H fun t47 =>
 ACalls tP zfq [t0, t47, t2] H fun t49 H =>
 zas t49 0 fun t50 =>
 zas t49 1 fun t51 =>
 aUn .not t51 fun t53 =>
 zag t53
 (zax [.snil, (.int .i64 0)] (K · H))
 (zad true 3 t5 H fun t56 =>
 ACalls tP zkB [t0, t56, t2] H fun t58 H =>
 zas t58 0 fun t59 =>
 zas t58 1 fun t60 =>
 zas t58 2 fun t61 =>
 zah 1 t50 fun t63 =>
 zbo 32 [(.int .i64 0), .snil] t63 t63 H fun t64 H =>
 zah 1 t59 fun t66 =>
 zjH t0 t2 t7 t50 t59 t60 t64 t59 t66 (.int .i64 0) H K))))
theorem zFm {t18 t22 t131 t132 t133 t138 t139 : AV} {H : zaa} {K : Kt} {Kb27 : Lt} (Inv : Nat → AV → zaa → Prop) (n : Nat) (h0 : HSc H → Inv n t139 H)
  (round : Rd1 (fun t139 => zjG t18 t22 t131 t132 t133 t138 t139) (fun t139 => fun H Kb30 => znW t18 t22 t131 t132 t133 t138 t139 H K Kb27 Kb30) H Inv) : ztE t18 t22 t131 t132 t133 t138 t139 H K Kb27 :=
 lp1 (M := zco) zFp t139 (by kernel_rfl) Inv n h0 round
theorem zFl {t18 t131 t132 t133 : AV} {H : zaa} {K : Kt} (Inv : Nat → AV → zaa → Prop) (n : Nat) (h0 : HSc H → Inv n t133 H)
  (round : Rd1 (fun t133 => zfZ t18 t131 t132 t133) (fun t133 => fun H Kb27 => znV t18 t131 t132 t133 H K Kb27) H Inv) : ztD t18 t131 t132 t133 H K :=
 lp1 (M := zco) ztF t133 (by kernel_rfl) Inv n h0 round
theorem zFk {t7 t13 t15 t18 t102 t103 t104 : AV} {H : zaa} {K : Kt} (Inv : Nat → AV → zaa → Prop) (n : Nat) (h0 : HSc H → Inv n t104 H)
  (round : Rd1 (fun t104 => zjF t7 t13 t15 t18 t102 t103 t104) (fun t104 => fun H Kb20 => znU t7 t13 t15 t18 t102 t103 t104 H K Kb20) H Inv) : ztC t7 t13 t15 t18 t102 t103 t104 H K :=
 lp1 (M := zco) zFo t104 (by kernel_rfl) Inv n h0 round
theorem zFj {t0 t2 t7 t10 t12 t13 t15 t65 t66 t67 : AV} {H : zaa} {K : Kt} (Inv : Nat → AV → zaa → Prop) (n : Nat) (h0 : HSc H → Inv n t67 H)
  (round : Rd1 (fun t67 => zjE t0 t2 t7 t10 t12 t13 t15 t65 t66 t67) (fun t67 => fun H Kb13 => znT t0 t2 t7 t10 t12 t13 t15 t65 t66 t67 H K Kb13) H Inv) : zjH t0 t2 t7 t10 t12 t13 t15 t65 t66 t67 H K :=
 lp1 (M := zco) zFn t67 (by kernel_rfl) Inv n h0 round
theorem zFq {t0 t1 t2 t3 : AV} {H : zaa} {K : Kt} (h : HSc H → zq8 t0 t1 t2 t3 H K) : ACalls tP zfx [t0, t1, t2, t3] H K :=
 zam (M := zco) Tryz.func10 (c := zei) (by kernel_rfl) (fun hs => Eq.mpr (by kernel_rfl) (h hs))
def zec : Nat → List Bool
 | 300004 => rl false [0,1]
 | 7 => rl false [0,3,4,1,13,2,24]
 | 200011 => rl false [0,14]
 | 100012 => rl false [0,3,4,1,13,2,24]
 | _ => []
noncomputable def zmn : Code := Tryz.f31.body.getD .skip
noncomputable def zAQ : List ResultVar := Tryz.f31.results.toList
def zig (t0 t1 t2 t7 t21 t22 : AV) : List AV := t0 :: t1 :: t2 :: ux 4 (t7 :: ux 13 (t21 :: t22 :: ux 24 []))
def zsa : List Bool := zec 7
noncomputable def zif : Code := zao [1, 1, 1, 0, 1, 0, 0] zmn
def zr7 (K : Kt) : AExit → List AV → zaa → Prop := zap tP zec [1, 1, 1, 0, 1, 0] zmn (zaw tP zAQ K)
def zih (t0 t1 t2 t7 t21 t22 : AV) (H : zaa) (K : Kt) : Prop := ALoop tP zif (zr7 K) (zig t0 t1 t2 t7 t21 t22) H
noncomputable def zr9 : Code := zao [1, 1, 1] zif
def zr8 (K : Kt) (Kb7 : Lt) : AExit → List AV → zaa → Prop := zap tP zec [1, 1, 1] zif (zbm zsa Kb7 (zr7 K))
def zAN (t0 t1 t2 t7 t21 t22 : AV) (H : zaa) (K : Kt) (Kb7 : Lt) : Prop := AWp tP zr9 (zr8 K Kb7) (t0 :: t1 :: t2 :: ux 4 (t7 :: ux 13 (t21 :: t22 :: ux 24 []))) H
def zmo (t0 t1 t2 t7 t21 t22 : AV) (H : zaa) (K : Kt) (Kb7 : Lt) : Prop :=
 zac .add false t22 (.int .i64 1) fun t45 =>
 Kb7 (zig t0 t1 t2 t7 t21 t45) H
noncomputable def zmp : Array Oper := zpP (zao [1, 1, 0, 0, 1, 1, 1] zif)
def zmm (t0 t1 t2 t7 t21 t22 : AV) (H : zaa) (K : Kt) (Kb7 : Lt) : Prop :=
 zac .lss false t22 t21 fun t23 =>
 zag t23
 (ACalls tP zgM [t0] H fun t26 H =>
 zae H (fun K' => K' t26 H) fun t27 =>
 zae H (fun K' => K' t1 H) fun t28 =>
 zae H (fun K' => zai 1 t28 (.int .i64 0) (K' · H)) fun t29 =>
 zae H (fun K' => zan false 1 t29 H (K' · H)) fun t30 =>
 zae H (fun K' => K' t2 H) fun t31 =>
 zae H (fun K' => K' t22 H) fun t32 =>
 zae H (fun K' => zaD 1 2 t31 none (some t32) (K' · H)) fun t33 =>
 zae H (fun K' => zav [(.int .i64 0), .snil] [(0, 1), (1, 1)] [(1, t33)] (K' · H)) fun t34 =>
 zae H (fun K' => zai 2 t27 t30 (K' · H)) fun t35 =>
 zak 2 t35 t34 H fun H =>
 Go.Abs.runT tP zmp (fun F H => AWp tP zr9 (zr8 K Kb7) (zdw (zec 100012) F) H) 10 (zdD 0 10) (t0 :: t1 :: t2 :: ux 4 (t7 :: t22 :: t26 :: ux 11 (t21 :: t22 :: t23 :: t22 :: t0 :: t26 :: t27 :: t28 :: t29 :: t30 :: t31 :: t32 :: t33 :: t34 :: t35 :: ux 11 []))) H)
 (K t7 H)
def zie (t0 t1 t2 : AV) (H : zaa) (K : Kt) : Prop :=
 zah 1 t1 fun t11 =>
 zac .eql false t11 (.int .i64 0) fun t12 =>
 zag t12
 (zah 1 t2 fun t14 =>
 zac .gtr false t14 (.int .i64 0) fun t15 =>
 zag t15
 (K .snil H)
 (ACalls tP zgM [t0] H fun t17 H =>
 zcC zay 1 1 [(0, t17)] H fun t18 H =>
 K t18 H))
 (zah 1 t2 fun t20 =>
 zac .add false t20 (.int .i64 1) fun t21 =>
 zih t0 t1 t2 .snil t21 (.int .i64 0) H K)
theorem zAO {t0 t1 t2 t7 t21 t22 : AV} {H : zaa} {K : Kt} {Kb7 : Lt} (h : HSc H → zmo t0 t1 t2 t7 t21 t22 H K Kb7) : zAN t0 t1 t2 t7 t21 t22 H K Kb7 :=
 fun B w G a hH hF hd => zdP (M := zec) _ _ _ _ (Eq.mpr (by kernel_rfl) (h hH.sc)) B w G a hH hF hd
theorem zAR (t0 t1 t2 t7 t22 t26 t21 t23 t27 t28 t29 t30 t31 t32 t33 t34 t35 : AV) (H : zaa) (KF : List AV → zaa → Prop) : zeC tP zmp KF 10 (zdD 0 10) (t0 :: t1 :: t2 :: ux 4 (t7 :: t22 :: t26 :: ux 11 (t21 :: t22 :: t23 :: t22 :: t0 :: t26 :: t27 :: t28 :: t29 :: t30 :: t31 :: t32 :: t33 :: t34 :: t35 :: ux 11 []))) H = (
 (zaD 1 1 t1 (some (.int .i64 1)) none fun t39 =>
 zaD 1 2 t2 (some t22) none fun t42 =>
 ACalls tP zd0 [t26, t39, t42] H fun t43 H =>
 zar zay 1 24 t7 t43 H fun t44 H =>
 KF (t0 :: t1 :: t2 :: ux 4 (t44 :: t22 :: t26 :: ux 11 (t21 :: t22 :: t23 :: t22 :: t0 :: t26 :: t27 :: t28 :: t29 :: t30 :: t31 :: t32 :: t33 :: t34 :: t35 :: t7 :: t26 :: t1 :: t39 :: t2 :: t22 :: t42 :: t43 :: t44 :: ux 2 []))) H) ∧ (zaD 1 2 t2 (some t22) none fun t42 =>
 zaD 1 1 t1 (some (.int .i64 1)) none fun t39 =>
 ACalls tP zd0 [t26, t39, t42] H fun t43 H =>
 zar zay 1 24 t7 t43 H fun t44 H =>
 KF (t0 :: t1 :: t2 :: ux 4 (t44 :: t22 :: t26 :: ux 11 (t21 :: t22 :: t23 :: t22 :: t0 :: t26 :: t27 :: t28 :: t29 :: t30 :: t31 :: t32 :: t33 :: t34 :: t35 :: t7 :: t26 :: t1 :: t39 :: t2 :: t22 :: t42 :: t43 :: t44 :: ux 2 []))) H)) := by kernel_rfl
theorem zAS : okS zmp = true := by kernel_rfl
theorem zAP {t0 t1 t2 t7 t21 t22 : AV} {H : zaa} {K : Kt} (Inv : Nat → AV → AV → zaa → Prop) (n : Nat) (h0 : HSc H → Inv n t7 t22 H)
  (round : Rd2 (fun t7 => fun t22 => zig t0 t1 t2 t7 t21 t22) (fun t7 => fun t22 => fun H Kb7 => zmm t0 t1 t2 t7 t21 t22 H K Kb7) H Inv) : zih t0 t1 t2 t7 t21 t22 H K :=
 lp2 (M := zec) zsa t7 t22 (by kernel_rfl) Inv n h0 round
theorem zsb {t0 t1 t2 : AV} {H : zaa} {K : Kt} (h : HSc H → zie t0 t1 t2 H K) : ACalls tP zd0 [t0, t1, t2] H K :=
 zam (M := zec) Tryz.func31 (c := zmn) (by kernel_rfl) (fun hs => Eq.mpr (by kernel_rfl) (h hs))
def zGh (_ : Nat) : List Bool := []
noncomputable def zGi : Code := Tryz.f11.body.getD .skip
def zq9 (t0 t1 t2 t3 : AV) (H : zaa) (K : Kt) : Prop :=
 zaq t1 H fun t5 H =>
 zaq t3 H fun t7 H =>
 zad true 3 t5 H fun t11 =>
 zad true 2 t7 H fun t12 =>
 ACalls tP zkE [t0, t11, t12] H fun t13 H =>
 aUn .not t13 fun t14 =>
 zag t14
 (zax [.snil, (.int .i64 1)] (K · H))
 (zaf 0 t5 fun t15 =>
 zad false 1 t15 H fun t16 =>
 zac .neq false t16 (.int .i64 5) fun t17 =>
 zag t17
 (zax [.snil, (.int .i64 6)] (K · H))
 (zac .lss false t2 (.int .i64 0) fun t19 =>
 zab t19 false H (fun K' => K' t2 H) fun t21 H =>
 zab t19 false H (fun K' => K' t0 H) fun t22 H =>
 zab t19 false H (fun K' => zaf 1 t5 (K' · H)) fun t23 H =>
 zab t19 false H (fun K' => zad false 1 t23 H (K' · H)) fun t24 H =>
 zab t19 false H (fun K' => zai 3 t22 t24 (K' · H)) fun t25 H =>
 zab t19 false H (fun K' => zaf 2 t25 (K' · H)) fun t26 H =>
 zab t19 false H (fun K' => zad false 1 t26 H (K' · H)) fun t27 H =>
 zab t19 false H (fun K' => zah 1 t27 (K' · H)) fun t28 H =>
 zab t19 false H (fun K' => zac .geq false t21 t28 (K' · H)) fun t29 H =>
 zaj t19 (.bool true) t29 fun t30 =>
 zag t30
 (zax [.snil, (.int .i64 8)] (K · H))
 (zad true 3 t5 H fun t32 =>
 zad true 2 t7 H fun t34 =>
 ACalls tP zgE [t0, t32, t2, t34] H fun t35 H =>
 zax [t35, (.int .i64 0)] (K · H))))
theorem zGj {t0 t1 t2 t3 : AV} {H : zaa} {K : Kt} (h : HSc H → zq9 t0 t1 t2 t3 H K) : ACalls tP zkR [t0, t1, t2, t3] H K :=
 zam (M := zGh) Tryz.func11 (c := zGi) (by kernel_rfl) (fun hs => Eq.mpr (by kernel_rfl) (h hs))
def zbJ : Nat → List Bool
 | 7 => rl false [2,1,4,1,1,1,1,4,152]
 | 32 => rl false [13,1,9,1,143]
 | 35 => rl false [13,1,9,2,142]
 | 400035 => rl false [0,1]
 | 400037 => rl false [0,1]
 | 14 => rl false [2,1,4,1,1,1,1,4,50,3,99]
 | 18 => rl false [2,1,4,1,1,1,1,4,2,2,46,3,6,3,90]
 | 25 => rl false [2,1,4,1,1,1,1,4,2,2,46,3,36,3,60]
 | 300029 => rl false [0,1]
 | _ => []
noncomputable def zfQ : Code := Tryz.f38.body.getD .skip
noncomputable def zsr : List ResultVar := Tryz.f38.results.toList
def zeP (t2 t7 t9 t11 t12 t13 t14 : AV) : List AV := ux 2 (t2 :: ux 4 (t7 :: ux 1 (t9 :: ux 1 (t11 :: t12 :: t13 :: t14 :: ux 152 []))))
def zsp : List Bool := zbJ 7
noncomputable def zmD : Code := zao [1, 1, 1, 1, 1, 0, 1, 0, 0] zfQ
def zsj (K : Kt) : AExit → List AV → zaa → Prop := zap tP zbJ [1, 1, 1, 1, 1, 0, 1, 0] zfQ (zaw tP zsr K)
def zit (t2 t7 t9 t11 t12 t13 t14 : AV) (H : zaa) (K : Kt) : Prop := ALoop tP zmD (zsj K) (zeP t2 t7 t9 t11 t12 t13 t14) H
def zfT (t13 t23 : AV) : List AV := ux 13 (t13 :: ux 9 (t23 :: ux 143 []))
def zso : List Bool := zbJ 32
noncomputable def zmC : Code := zao [1, 1, 1, 1, 1, 1, 0, 1, 0, 0] zfQ
def zsi (K : Kt) : AExit → List AV → zaa → Prop := zap tP zbJ [1, 1, 1, 1, 1, 1, 0, 1, 0] zfQ (zaw tP zsr K)
def zsm (t13 t23 : AV) (H : zaa) (K : Kt) : Prop := ALoop tP zmC (zsi K) (zfT t13 t23) H
def zip (t13 t23 t24 : AV) : List AV := ux 13 (t13 :: ux 9 (t23 :: t24 :: ux 142 []))
def zBu : List Bool := zbJ 35
noncomputable def zBl : Code := zao [1, 0, 0, 1, 0, 0] zmC
def zBi (K : Kt) (Kb32 : Lt) : AExit → List AV → zaa → Prop := zap tP zbJ [1, 0, 0, 1, 0] zmC (zbm zso Kb32 (zsi K))
def zsn (t13 t23 t24 : AV) (H : zaa) (K : Kt) (Kb32 : Lt) : Prop := ALoop tP zBl (zBi K Kb32) (zip t13 t23 t24) H
def zmB (t13 t23 t24 : AV) (H : zaa) (K : Kt) (Kb32 : Lt) (Kb35 : Lt) : Prop :=
 zae H (fun K' => K' t24 H) fun t133 =>
 zae H (fun K' => zac .gtr false t133 (.int .i64 0) (K' · H)) fun t134 =>
 zae H (fun K' => K' t134 H) fun t135 =>
 zab t135 true H (fun K' => zae H (fun K'' => K'' t13 H) (K' · H)) fun t136 H =>
 zab t135 true H (fun K' => zae H (fun K'' => K'' t24 H) (K' · H)) fun t137 H =>
 zab t135 true H (fun K' => zae H (fun K'' => zai 1 t136 t137 (K'' · H)) (K' · H)) fun t138 H =>
 zab t135 true H (fun K' => zae H (fun K'' => zad false 1 t138 H (K'' · H)) (K' · H)) fun t139 H =>
 zab t135 true H (fun K' => zae H (fun K'' => K'' t13 H) (K' · H)) fun t140 H =>
 zab t135 true H (fun K' => zae H (fun K'' => K'' t24 H) (K' · H)) fun t141 H =>
 zab t135 true H (fun K' => zae H (fun K'' => zac .sub false t141 (.int .i64 1) (K'' · H)) (K' · H)) fun t142 H =>
 zab t135 true H (fun K' => zae H (fun K'' => zai 1 t140 t142 (K'' · H)) (K' · H)) fun t143 H =>
 zab t135 true H (fun K' => zae H (fun K'' => zad false 1 t143 H (K'' · H)) (K' · H)) fun t144 H =>
 zab t135 true H (fun K' => zbl H (fun H K'' => ACalls tP zdY [t139, t144] H K'') (K' · H)) fun t145 H =>
 zab t135 true H (fun K' => zae H (fun K'' => zac .lss false t145 (.int .i64 0) (K'' · H)) (K' · H)) fun t146 H =>
 zae H (fun K' => zaj t135 t146 (.bool false) (K' · H)) fun t147 =>
 zag t147
 (zae H (fun K' => K' t13 H) fun t150 =>
 zae H (fun K' => K' t24 H) fun t151 =>
 zae H (fun K' => K' t13 H) fun t152 =>
 zae H (fun K' => K' t24 H) fun t153 =>
 zae H (fun K' => zac .sub false t153 (.int .i64 1) (K' · H)) fun t154 =>
 zae H (fun K' => K' t13 H) fun t155 =>
 zae H (fun K' => K' t24 H) fun t156 =>
 zae H (fun K' => zac .sub false t156 (.int .i64 1) (K' · H)) fun t157 =>
 zae H (fun K' => zai 1 t155 t157 (K' · H)) fun t158 =>
 zae H (fun K' => zad false 1 t158 H (K' · H)) fun t159 =>
 zae H (fun K' => K' t13 H) fun t160 =>
 zae H (fun K' => K' t24 H) fun t161 =>
 zae H (fun K' => zai 1 t160 t161 (K' · H)) fun t162 =>
 zae H (fun K' => zad false 1 t162 H (K' · H)) fun t163 =>
 zae H (fun K' => zai 1 t150 t151 (K' · H)) fun t164 =>
 zak 1 t164 t159 H fun H =>
 zae H (fun K' => zai 1 t152 t154 (K' · H)) fun t165 =>
 zak 1 t165 t163 H fun H =>
 zac .sub false t24 (.int .i64 1) fun t149 =>
 Kb35 (zip t13 t23 t149) H)
 (zac .add false t23 (.int .i64 1) fun t131 =>
 Kb32 (zfT t13 t131) H)
def zmA (t13 t23 : AV) (H : zaa) (K : Kt) (Kb32 : Lt) : Prop :=
 zah 1 t13 fun t128 =>
 zac .lss false t23 t128 fun t129 =>
 zag t129
 (zsn t13 t23 t23 H K Kb32)
 (K t13 H)
def zsk (t13 : AV) (H : zaa) (K : Kt) : Prop :=
 zsm t13 (.int .i64 1) H K
def zfU (t13 : AV) (H : zaa) (K : Kt) : Prop :=
 zsk t13 H K
def zin (t2 t7 t9 t11 t12 t13 t14 t65 t66 t67 : AV) : List AV := ux 2 (t2 :: ux 4 (t7 :: ux 1 (t9 :: ux 1 (t11 :: t12 :: t13 :: t14 :: ux 50 (t65 :: t66 :: t67 :: ux 99 [])))))
def zmG : List Bool := zbJ 14
noncomputable def zfR : Code := zao [1, 0, 0, 1, 1, 1, 0, 0] zmD
def zmw (K : Kt) (Kb7 : Lt) : AExit → List AV → zaa → Prop := zap tP zbJ [1, 0, 0, 1, 1, 1, 0] zmD (zbm zsp Kb7 (zsj K))
def zmF (t2 t7 t9 t11 t12 t13 t14 t65 t66 t67 : AV) (H : zaa) (K : Kt) (Kb7 : Lt) : Prop := ALoop tP zfR (zmw K Kb7) (zin t2 t7 t9 t11 t12 t13 t14 t65 t66 t67) H
def zfS (t2 t7 t9 t11 t12 t13 t14 t17 t18 t65 t66 t67 t74 t75 t76 : AV) : List AV := ux 2 (t2 :: ux 4 (t7 :: ux 1 (t9 :: ux 1 (t11 :: t12 :: t13 :: t14 :: ux 2 (t17 :: t18 :: ux 46 (t65 :: t66 :: t67 :: ux 6 (t74 :: t75 :: t76 :: ux 90 [])))))))
def zBs : List Bool := zbJ 18
noncomputable def zBj : Code := zao [1, 1, 0, 0, 1, 1, 0, 1, 0, 0] zfR
def zBg (K : Kt) (Kb7 : Lt) (Kb14 : Lt) : AExit → List AV → zaa → Prop := zap tP zbJ [1, 1, 0, 0, 1, 1, 0, 1, 0] zfR (zbm zmG Kb14 (zmw K Kb7))
def zis (t2 t7 t9 t11 t12 t13 t14 t17 t18 t65 t66 t67 t74 t75 t76 : AV) (H : zaa) (K : Kt) (Kb7 : Lt) (Kb14 : Lt) : Prop := ALoop tP zBj (zBg K Kb7 Kb14) (zfS t2 t7 t9 t11 t12 t13 t14 t17 t18 t65 t66 t67 t74 t75 t76) H
def zmE (t2 t7 t9 t11 t12 t13 t14 t17 t18 t65 t66 t67 t74 t75 t76 : AV) (H : zaa) (K : Kt) (Kb7 : Lt) (Kb14 : Lt) (Kb18 : Lt) : Prop :=
 zac .add false t76 (.int .i64 1) fun t103 =>
 Kb18 (zfS t2 t7 t9 t11 t12 t13 t14 t17 t18 t65 t66 t67 t74 t75 t103) H
def zir (t2 t7 t9 t11 t12 t13 t14 t17 t18 t65 t66 t67 t74 t75 t76 : AV) (H : zaa) (K : Kt) (Kb7 : Lt) (Kb14 : Lt) (Kb18 : Lt) : Prop :=
 zmE t2 t7 t9 t11 t12 t13 t14 t17 t18 t65 t66 t67 t74 t75 t76 H K Kb7 Kb14 Kb18
def zio (t2 t7 t9 t11 t12 t13 t14 t17 t18 t65 t66 t67 t104 t105 t106 : AV) : List AV := ux 2 (t2 :: ux 4 (t7 :: ux 1 (t9 :: ux 1 (t11 :: t12 :: t13 :: t14 :: ux 2 (t17 :: t18 :: ux 46 (t65 :: t66 :: t67 :: ux 36 (t104 :: t105 :: t106 :: ux 60 [])))))))
def zBt : List Bool := zbJ 25
noncomputable def zBk : Code := zao [1, 1, 0, 0, 1, 1, 1, 0, 1, 0, 0] zfR
def zBh (K : Kt) (Kb7 : Lt) (Kb14 : Lt) : AExit → List AV → zaa → Prop := zap tP zbJ [1, 1, 0, 0, 1, 1, 1, 0, 1, 0] zfR (zbm zmG Kb14 (zmw K Kb7))
def zsl (t2 t7 t9 t11 t12 t13 t14 t17 t18 t65 t66 t67 t104 t105 t106 : AV) (H : zaa) (K : Kt) (Kb7 : Lt) (Kb14 : Lt) : Prop := ALoop tP zBk (zBh K Kb7 Kb14) (zio t2 t7 t9 t11 t12 t13 t14 t17 t18 t65 t66 t67 t104 t105 t106) H
def zmz (t2 t7 t9 t11 t12 t13 t14 t17 t18 t65 t66 t67 t104 t105 t106 : AV) (H : zaa) (K : Kt) (Kb7 : Lt) (Kb14 : Lt) (Kb25 : Lt) : Prop :=
 zac .lss false t106 t105 fun t107 =>
 zag t107
 (zai 1 t104 t106 fun t109 =>
 zad false 1 t109 H fun t110 =>
 zai 1 t17 t106 fun t115 =>
 zad false 1 t115 H fun t116 =>
 zav [(.int .i64 0), .snil] [(0, 1), (1, 1)] [(1, t116)] fun t117 =>
 ACalls tP zfs [t117] H fun t118 H =>
 zai 2 t18 t110 fun t119 =>
 zak 2 t119 t118 H fun H =>
 zac .add false t106 (.int .i64 1) fun t120 =>
 Kb25 (zio t2 t7 t9 t11 t12 t13 t14 t17 t18 t65 t66 t67 t104 t105 t120) H)
 (zcC zay 1 1 [(0, t18)] H fun t123 H =>
 zar zay 1 24 t13 t123 H fun t124 H =>
 zac .add false t67 (.int .i64 1) fun t125 =>
 Kb14 (zin t2 t7 t9 t11 t12 t124 t14 t65 t66 t125) H)
def zmy (t2 t7 t9 t11 t12 t13 t14 t17 t18 t65 t66 t67 t74 t75 t76 : AV) (H : zaa) (K : Kt) (Kb7 : Lt) (Kb14 : Lt) (Kb18 : Lt) : Prop :=
 zac .lss false t76 t75 fun t77 =>
 zag t77
 (zai 1 t74 t76 fun t79 =>
 zad false 1 t79 H fun t80 =>
 zai 3 t9 t80 fun t85 =>
 zad true 3 t85 H fun t86 =>
 ACalls tP zgP [t86] H fun t87 H =>
 zai 2 t18 t80 fun t88 =>
 zak 2 t88 t87 H fun H =>
 zac .eql false t14 (.int .i64 1) fun t90 =>
 zag t90
 (zaf 1 t7 fun t93 =>
 zad false 1 t93 H fun t94 =>
 zai 2 t94 (.int .i64 0) fun t95 =>
 zaf 1 t95 fun t96 =>
 zad false 1 t96 H fun t97 =>
 zai 2 t97 t76 fun t99 =>
 zad true 2 t99 H fun t100 =>
 ACalls tP zfs [t100] H fun t101 H =>
 zai 2 t18 t80 fun t102 =>
 zak 2 t102 t101 H fun H =>
 zir t2 t7 t9 t11 t12 t13 t14 t17 t18 t65 t66 t67 t74 t75 t76 H K Kb7 Kb14 Kb18)
 (zir t2 t7 t9 t11 t12 t13 t14 t17 t18 t65 t66 t67 t74 t75 t76 H K Kb7 Kb14 Kb18))
 (zah 1 t12 fun t105 =>
 zsl t2 t7 t9 t11 t12 t13 t14 t17 t18 t65 t66 t67 t12 t105 (.int .i64 0) H K Kb7 Kb14)
def zmx (t2 t7 t9 t11 t12 t13 t14 t65 t66 t67 : AV) (H : zaa) (K : Kt) (Kb7 : Lt) (Kb14 : Lt) : Prop :=
 zac .lss false t67 t66 fun t68 =>
 zag t68
 (zai 1 t65 t67 fun t69 =>
 zad false 1 t69 H fun t70 =>
 zah 1 t9 fun t72 =>
 zbo 32 [(.int .i64 0), .snil] t72 t72 H fun t73 H =>
 zah 1 t11 fun t75 =>
 zis t2 t7 t9 t11 t12 t13 t14 t70 t73 t65 t66 t67 t11 t75 (.int .i64 0) H K Kb7 Kb14)
 (zac .add false t14 (.int .i64 1) fun t44 =>
 Kb7 (zeP t2 t7 t9 t11 t12 t13 t44) H)
def ziq (t2 t7 t9 t11 t12 t13 t14 t15 : AV) (H : zaa) (K : Kt) (Kb7 : Lt) : Prop :=
 zah 1 t12 fun t64 =>
 ACalls tP zgO [t15, t64] H fun t65 H =>
 zah 1 t65 fun t66 =>
 zmF t2 t7 t9 t11 t12 t13 t14 t65 t66 (.int .i64 0) H K Kb7
def zeO (t2 t7 t9 t11 t12 t13 t14 : AV) (H : zaa) (K : Kt) (Kb7 : Lt) : Prop :=
 zac .lss false t14 (.int .i64 2) fun t42 =>
 zag t42
 (zaf 1 t7 fun t45 =>
 zad false 1 t45 H fun t46 =>
 zac .eql false t14 (.int .i64 1) fun t48 =>
 zag t48
 (zah 1 t46 fun t50 =>
 zac .eql false t50 (.int .i64 0) fun t51 =>
 zab t51 false H (fun K' => K' t46 H) fun t53 H =>
 zab t51 false H (fun K' => zai 2 t53 (.int .i64 0) (K' · H)) fun t54 H =>
 zab t51 false H (fun K' => zaf 0 t54 (K' · H)) fun t55 H =>
 zab t51 false H (fun K' => zad false 1 t55 H (K' · H)) fun t56 H =>
 zab t51 false H (fun K' => K' t2 H) fun t57 H =>
 zab t51 false H (fun K' => zac .neq false t56 t57 (K' · H)) fun t58 H =>
 zaj t51 (.bool true) t58 fun t59 =>
 zag t59
 (zfU t13 H K)
 (zaD 1 2 t46 (some (.int .i64 1)) none fun t61 =>
 ziq t2 t7 t9 t11 t12 t13 t14 t61 H K Kb7))
 (ziq t2 t7 t9 t11 t12 t13 t14 t46 H K Kb7))
 (zfU t13 H K)
def zmv (t0 t1 t2 t3 : AV) (H : zaa) (K : Kt) : Prop :=
 zaq t1 H fun t5 H =>
 zaq t3 H fun t7 H =>
 zad true 3 t5 H fun t27 =>
 ACalls tP zfl [t0, t27, t2] H fun t29 H =>
 zas t29 0 fun t30 =>
 zas t29 1 fun t31 =>
 aUn .not t31 fun t33 =>
 zag t33
 (K .snil H)
 (zad true 3 t5 H fun t36 =>
 ACalls tP zkI [t0, t36, t2] H fun t38 H =>
 zas t38 0 fun t39 =>
 zas t38 1 fun t40 =>
 zit t2 t7 t30 t39 t40 .snil (.int .i64 0) H K)
theorem zBq {t13 t23 t24 : AV} {H : zaa} {K : Kt} {Kb32 : Lt} (Inv : Nat → AV → zaa → Prop) (n : Nat) (h0 : HSc H → Inv n t24 H)
  (round : Rd1 (fun t24 => zip t13 t23 t24) (fun t24 => fun H Kb35 => zmB t13 t23 t24 H K Kb32 Kb35) H Inv) : zsn t13 t23 t24 H K Kb32 :=
 lp1 (M := zbJ) zBu t24 (by kernel_rfl) Inv n h0 round
theorem zBp {t13 t23 : AV} {H : zaa} {K : Kt} (Inv : Nat → AV → zaa → Prop) (n : Nat) (h0 : HSc H → Inv n t23 H)
  (round : Rd1 (fun t23 => zfT t13 t23) (fun t23 => fun H Kb32 => zmA t13 t23 H K Kb32) H Inv) : zsm t13 t23 H K :=
 lp1 (M := zbJ) zso t23 (by kernel_rfl) Inv n h0 round
theorem zBo {t2 t7 t9 t11 t12 t13 t14 t17 t18 t65 t66 t67 t104 t105 t106 : AV} {H : zaa} {K : Kt} {Kb7 : Lt} {Kb14 : Lt} (Inv : Nat → AV → zaa → Prop) (n : Nat) (h0 : HSc H → Inv n t106 H)
  (round : Rd1 (fun t106 => zio t2 t7 t9 t11 t12 t13 t14 t17 t18 t65 t66 t67 t104 t105 t106) (fun t106 => fun H Kb25 => zmz t2 t7 t9 t11 t12 t13 t14 t17 t18 t65 t66 t67 t104 t105 t106 H K Kb7 Kb14 Kb25) H Inv) : zsl t2 t7 t9 t11 t12 t13 t14 t17 t18 t65 t66 t67 t104 t105 t106 H K Kb7 Kb14 :=
 lp1 (M := zbJ) zBt t106 (by kernel_rfl) Inv n h0 round
theorem zBn {t2 t7 t9 t11 t12 t13 t14 t17 t18 t65 t66 t67 t74 t75 t76 : AV} {H : zaa} {K : Kt} {Kb7 : Lt} {Kb14 : Lt} (Inv : Nat → AV → zaa → Prop) (n : Nat) (h0 : HSc H → Inv n t76 H)
  (round : Rd1 (fun t76 => zfS t2 t7 t9 t11 t12 t13 t14 t17 t18 t65 t66 t67 t74 t75 t76) (fun t76 => fun H Kb18 => zmy t2 t7 t9 t11 t12 t13 t14 t17 t18 t65 t66 t67 t74 t75 t76 H K Kb7 Kb14 Kb18) H Inv) : zis t2 t7 t9 t11 t12 t13 t14 t17 t18 t65 t66 t67 t74 t75 t76 H K Kb7 Kb14 :=
 lp1 (M := zbJ) zBs t76 (by kernel_rfl) Inv n h0 round
theorem zBm {t2 t7 t9 t11 t12 t13 t14 t65 t66 t67 : AV} {H : zaa} {K : Kt} {Kb7 : Lt} (Inv : Nat → AV → AV → zaa → Prop) (n : Nat) (h0 : HSc H → Inv n t13 t67 H)
  (round : Rd2 (fun t13 => fun t67 => zin t2 t7 t9 t11 t12 t13 t14 t65 t66 t67) (fun t13 => fun t67 => fun H Kb14 => zmx t2 t7 t9 t11 t12 t13 t14 t65 t66 t67 H K Kb7 Kb14) H Inv) : zmF t2 t7 t9 t11 t12 t13 t14 t65 t66 t67 H K Kb7 :=
 lp2 (M := zbJ) zmG t13 t67 (by kernel_rfl) Inv n h0 round
theorem zBr {t2 t7 t9 t11 t12 t13 t14 : AV} {H : zaa} {K : Kt} (Inv : Nat → AV → AV → zaa → Prop) (n : Nat) (h0 : HSc H → Inv n t13 t14 H)
  (round : Rd2 (fun t13 => fun t14 => zeP t2 t7 t9 t11 t12 t13 t14) (fun t13 => fun t14 => fun H Kb7 => zeO t2 t7 t9 t11 t12 t13 t14 H K Kb7) H Inv) : zit t2 t7 t9 t11 t12 t13 t14 H K :=
 lp2 (M := zbJ) zsp t13 t14 (by kernel_rfl) Inv n h0 round
theorem zsq {t0 t1 t2 t3 : AV} {H : zaa} {K : Kt} (h : HSc H → zmv t0 t1 t2 t3 H K) : ACalls tP zgE [t0, t1, t2, t3] H K :=
 zam (M := zbJ) Tryz.func38 (c := zfQ) (by kernel_rfl) (fun hs => Eq.mpr (by kernel_rfl) (h hs))
def zee : Nat → List Bool
 | 7 => rl false [0,2,3,2,36]
 | 10 => rl false [0,2,3,2,19,3,14]
 | 300012 => rl false [0,1]
 | _ => []
noncomputable def zne : Code := Tryz.f61.body.getD .skip
noncomputable def zDe : List ResultVar := Tryz.f61.results.toList
def ziY (t0 t1 t5 t6 : AV) : List AV := t0 :: t1 :: ux 3 (t5 :: t6 :: ux 36 [])
def zsS : List Bool := zee 7
noncomputable def znf : Code := zao [1, 1, 1, 0, 1, 0, 0] zne
def zsQ (K : Kt) : AExit → List AV → zaa → Prop := zap tP zee [1, 1, 1, 0, 1, 0] zne (zaw tP zDe K)
def ziZ (t0 t1 t5 t6 : AV) (H : zaa) (K : Kt) : Prop := ALoop tP znf (zsQ K) (ziY t0 t1 t5 t6) H
def ziX (t0 t1 t5 t6 t26 t27 t28 : AV) : List AV := t0 :: t1 :: ux 3 (t5 :: t6 :: ux 19 (t26 :: t27 :: t28 :: ux 14 []))
def zDd : List Bool := zee 10
noncomputable def zDa : Code := zao [1, 0, 0, 1, 0, 0] znf
def zC9 (K : Kt) (Kb7 : Lt) : AExit → List AV → zaa → Prop := zap tP zee [1, 0, 0, 1, 0] znf (zbm zsS Kb7 (zsQ K))
def zsR (t0 t1 t5 t6 t26 t27 t28 : AV) (H : zaa) (K : Kt) (Kb7 : Lt) : Prop := ALoop tP zDa (zC9 K Kb7) (ziX t0 t1 t5 t6 t26 t27 t28) H
def znc (t0 t1 t5 t6 t26 t27 t28 : AV) (H : zaa) (K : Kt) (Kb7 : Lt) (Kb10 : Lt) : Prop :=
 zac .lss false t28 t27 fun t29 =>
 zag t29
 (zai 1 t26 t28 fun t30 =>
 zad false 1 t30 H fun t31 =>
 zaD 1 2 t0 none (some t6) fun t35 =>
 zcC zay 1 1 [(0, t35)] H fun t36 H =>
 zar zay 1 24 t36 t31 H fun t38 H =>
 zcC zca 1 1 [(0, t38)] H fun t39 H =>
 zar zca 1 24 t5 t39 H fun t40 H =>
 zac .add false t28 (.int .i64 1) fun t41 =>
 Kb10 (ziX t0 t1 t40 t6 t26 t27 t41) H)
 (zac .add false t6 (.int .i64 1) fun t20 =>
 Kb7 (ziY t0 t1 t5 t20) H)
def znd (t0 t1 t5 t6 : AV) (H : zaa) (K : Kt) (Kb7 : Lt) : Prop :=
 zah 1 t0 fun t17 =>
 zac .leq false t6 t17 fun t18 =>
 zag t18
 (zaD 1 2 t0 (some t6) none fun t23 =>
 zac .sub false t1 (.int .i64 1) fun t25 =>
 ACalls tP zgO [t23, t25] H fun t26 H =>
 zah 1 t26 fun t27 =>
 zsR t0 t1 t5 t6 t26 t27 (.int .i64 0) H K Kb7)
 (K t5 H)
def ziW (t0 t1 : AV) (H : zaa) (K : Kt) : Prop :=
 zac .eql false t1 (.int .i64 0) fun t10 =>
 zag t10
 (zah 1 t0 fun t12 =>
 zac .gtr false t12 (.int .i64 0) fun t13 =>
 zag t13
 (K .snil H)
 (zaA 1 [.snil] 1 [(0, .snil)] fun t14 =>
 K t14 H))
 (ziZ t0 t1 .snil (.int .i64 0) H K)
theorem zDb {t0 t1 t5 t6 t26 t27 t28 : AV} {H : zaa} {K : Kt} {Kb7 : Lt} (Inv : Nat → AV → AV → zaa → Prop) (n : Nat) (h0 : HSc H → Inv n t5 t28 H)
  (round : Rd2 (fun t5 => fun t28 => ziX t0 t1 t5 t6 t26 t27 t28) (fun t5 => fun t28 => fun H Kb10 => znc t0 t1 t5 t6 t26 t27 t28 H K Kb7 Kb10) H Inv) : zsR t0 t1 t5 t6 t26 t27 t28 H K Kb7 :=
 lp2 (M := zee) zDd t5 t28 (by kernel_rfl) Inv n h0 round
theorem zDc {t0 t1 t5 t6 : AV} {H : zaa} {K : Kt} (Inv : Nat → AV → AV → zaa → Prop) (n : Nat) (h0 : HSc H → Inv n t5 t6 H)
  (round : Rd2 (fun t5 => fun t6 => ziY t0 t1 t5 t6) (fun t5 => fun t6 => fun H Kb7 => znd t0 t1 t5 t6 H K Kb7) H Inv) : ziZ t0 t1 t5 t6 H K :=
 lp2 (M := zee) zsS t5 t6 (by kernel_rfl) Inv n h0 round
theorem zsT {t0 t1 : AV} {H : zaa} {K : Kt} (h : HSc H → ziW t0 t1 H K) : ACalls tP zgO [t0, t1] H K :=
 zam (M := zee) Tryz.func61 (c := zne) (by kernel_rfl) (fun hs => Eq.mpr (by kernel_rfl) (h hs))
def zC5 (_ : Nat) : List Bool := []
noncomputable def zC6 : Code := Tryz.f60.body.getD .skip
def zsP (t0 t1 t2 : AV) (H : zaa) (K : Kt) : Prop :=
 zaq t1 H fun t4 H =>
 zad true 3 t4 H fun t13 =>
 ACalls tP zgU [t0, t13, t2] H fun t15 H =>
 zas t15 0 fun t16 =>
 zas t15 1 fun t17 =>
 zas t15 2 fun t18 =>
 zax [t16, t17] (K · H)
theorem zC7 {t0 t1 t2 : AV} {H : zaa} {K : Kt} (h : HSc H → zsP t0 t1 t2 H K) : ACalls tP zkI [t0, t1, t2] H K :=
 zam (M := zC5) Tryz.func60 (c := zC6) (by kernel_rfl) (fun hs => Eq.mpr (by kernel_rfl) (h hs))
def zh9 : Nat → List Bool
 | 7 => rl false [6,2,22,3,16]
 | _ => []
noncomputable def zml : Code := Tryz.f29.body.getD .skip
noncomputable def zAH : List ResultVar := Tryz.f29.results.toList
def zib (t6 t7 t30 t31 t32 : AV) : List AV := ux 6 (t6 :: t7 :: ux 22 (t30 :: t31 :: t32 :: ux 16 []))
def zAF : List Bool := zh9 7
noncomputable def zAD : Code := zao [1, 1, 1, 0, 1, 0, 0] zml
def zAC (K : Kt) : AExit → List AV → zaa → Prop := zap tP zh9 [1, 1, 1, 0, 1, 0] zml (zaw tP zAH K)
def zid (t6 t7 t30 t31 t32 : AV) (H : zaa) (K : Kt) : Prop := ALoop tP zAD (zAC K) (zib t6 t7 t30 t31 t32) H
def zr5 (t6 t7 t30 t31 t32 : AV) (H : zaa) (K : Kt) (Kb7 : Lt) : Prop :=
 zac .add false t32 (.int .i64 1) fun t46 =>
 Kb7 (zib t6 t7 t30 t31 t46) H
def zic (t6 t7 t30 t31 t32 : AV) (H : zaa) (K : Kt) (Kb7 : Lt) : Prop :=
 zr5 t6 t7 t30 t31 t32 H K Kb7
def zia (t6 t7 t30 t31 t32 : AV) (H : zaa) (K : Kt) (Kb7 : Lt) : Prop :=
 zac .lss false t32 t31 fun t33 =>
 zag t33
 (zai 1 t30 t32 fun t35 =>
 zad false 1 t35 H fun t36 =>
 zag t36
 (zaA 1 [(.int .i64 0)] 1 [(0, t32)] fun t40 =>
 zar zaZ 1 8 t7 t40 H fun t41 H =>
 zic t6 t41 t30 t31 t32 H K Kb7)
 (zaA 1 [(.int .i64 0)] 1 [(0, t32)] fun t44 =>
 zar zaZ 1 8 t6 t44 H fun t45 H =>
 zic t45 t7 t30 t31 t32 H K Kb7))
 (zax [t6, t7, (.bool true)] (K · H))
def zr4 (t0 t1 t2 : AV) (H : zaa) (K : Kt) : Prop :=
 zaq t1 H fun t4 H =>
 zad true 3 t4 H fun t14 =>
 ACalls tP zfv [t0, t14] H fun t15 H =>
 aUn .not t15 fun t16 =>
 zag t16
 (zax [.snil, .snil, (.bool false)] (K · H))
 (zad true 3 t4 H fun t19 =>
 ACalls tP zfq [t0, t19, t2] H fun t21 H =>
 zas t21 0 fun t22 =>
 zas t21 1 fun t23 =>
 aUn .not t23 fun t25 =>
 zag t25
 (zax [.snil, .snil, (.bool false)] (K · H))
 (zaf 1 t4 fun t27 =>
 zad false 1 t27 H fun t28 =>
 ACalls tP zc7 [t0, t28, t2] H fun t30 H =>
 zah 1 t30 fun t31 =>
 zid .snil .snil t30 t31 (.int .i64 0) H K))
theorem zAE {t6 t7 t30 t31 t32 : AV} {H : zaa} {K : Kt} (Inv : Nat → AV → AV → AV → zaa → Prop) (n : Nat) (h0 : HSc H → Inv n t6 t7 t32 H)
  (round : Rd3 (fun t6 => fun t7 => fun t32 => zib t6 t7 t30 t31 t32) (fun t6 => fun t7 => fun t32 => fun H Kb7 => zia t6 t7 t30 t31 t32 H K Kb7) H Inv) : zid t6 t7 t30 t31 t32 H K :=
 lp3 (M := zh9) zAF t6 t7 t32 (by kernel_rfl) Inv n h0 round
theorem zAG {t0 t1 t2 : AV} {H : zaa} {K : Kt} (h : HSc H → zr4 t0 t1 t2 H K) : ACalls tP zkB [t0, t1, t2] H K :=
 zam (M := zh9) Tryz.func29 (c := zml) (by kernel_rfl) (fun hs => Eq.mpr (by kernel_rfl) (h hs))
end Go.Proofs.YtacebbdfgbfgiaaGreat
