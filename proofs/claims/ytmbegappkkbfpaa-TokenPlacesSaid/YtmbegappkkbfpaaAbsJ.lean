/- The abstract layer, part J: lists of operations, regions that draw their order. -/
import Derived.Test.YtmbegappkkbfpaaAbsI
import Derived.Still
namespace Go.Abs
open Go Go.RowKit

variable {P : Program} {B : Nat} {w : World} {G : Gh} {H : Heap}

theorem FRel.put {a : Act} {F : List AV} {d : Option Tmp} {v : Value} {av : AV} (hF : FRel w G a.tmps F) (hv : TRel w G v av) : FRel w G (a.put d v).tmps (putF F d av) := by
  cases d with
  | none => exact hF
  | some d =>
    unfold FRel at *
    simp only [Act.put, putF, Array.toList_setIfInBounds]
    exact All2.set d hF hv
theorem FRel.ext {w' : World} {G' : Gh} {tm : Array Value} {F : List AV} (hF : FRel w G tm F) (he : Ext B w G w' G') : FRel w' G' tm F := All2.mono (fun _ _ => he.trel) hF

theorem frel_get {tm : Array Value} {F : List AV} {d : Nat} {x : AV} (hF : FRel w G tm F) (h : F.getD d .unk = x) (hx : x ≠ .unk) : ∃ v, tm[d]? = some v ∧ TRel w G v x := by
  rw [List.getD_eq_getElem?_getD] at h
  cases hd : F[d]? with
  | none => rw [hd] at h; exact absurd h.symm hx
  | some y =>
    rw [hd] at h
    simp at h
    subst h
    obtain ⟨v, h1, h2⟩ := All2.get hF hd
    exact ⟨v, by simpa using h1, h2⟩

theorem wanted_bool {ops : Array Oper} {o : Oper} {a : Act} {F : List AV} {j d : Nat} {want b : Bool} (hF : FRel w G a.tmps F) (hg : o.guard = some (j, want)) (hd : (ops[j]?).bind (·.dst) = some d)
    (hb : F.getD d .unk = .bool b) : Region.wanted o (yielded ops a.tmps) = (b == want) := by
  obtain ⟨v, h1, h2⟩ := frel_get hF hb (by simp)
  have h2 : v = .bool b := h2
  subst h2
  simp [Region.wanted, hg, yielded, hd, h1]
theorem wanted_tup {ops : Array Oper} {o : Oper} {a : Act} {F : List AV} {j d : Nat} {want : Bool} (hF : FRel w G a.tmps F) (hg : o.guard = some (j, want)) (hd : (ops[j]?).bind (·.dst) = some d)
    (hb : F.getD d .unk = .tup []) : Region.wanted o (yielded ops a.tmps) = false := by
  obtain ⟨v, h1, h2⟩ := frel_get hF hb (by simp)
  obtain ⟨vs, rfl, _⟩ := h2
  simp [Region.wanted, hg, yielded, hd, h1]

theorem undef_rel : TRel w G undef (.tup []) := ⟨#[], rfl, trivial⟩

/-- From what an operation came to, to the model's own step. -/
theorem oper_of_ok {o : Oper} {a : Act} {F : List AV} {K : AV → Heap → Prop} {K' : Act → World → Prop} {Q : Exit → Act → World → Prop} (hF : FRel w G a.tmps F)
    (h : OpOK P B w G K ((execOp a.eval o).run P w))
    (hK : ∀ v av w' G' H', Ext B w G w' G' → HRel B w' G' H' → TRel w' G' v av → K av H' → K' (a.put o.dst v) w') : o.wp P a w K' Q := by
  unfold Oper.wp
  generalize (execOp a.eval o).run P w = r at *
  cases r with
  | halt x w' => cases x <;> exact h.elim
  | ok n w' =>
    cases n <;> simp only [OpOK] at h <;> simp only [Oper.upon]
    case value v =>
      obtain ⟨av, G', H', h1, h2, h3, h4⟩ := h
      exact hK v av w' G' H' h1 h2 h3 h4
    case skip =>
      obtain ⟨G', H', h1, h2, h4⟩ := h
      exact hK undef (.tup []) w' G' H' h1 h2 undef_rel h4
    case enter f vs =>
      obtain ⟨rfl, hc⟩ := h
      refine hc.mono fun e w'' he => ?_
      obtain ⟨v, r, H', G', rfl, h1, h2, h3, h4⟩ := he
      exact hK v r w'' G' H' h1 h2 h3 h4

theorem runOps_sound {ops : Array Oper} {K : List AV → Heap → Prop} {Q : Exit → Act → World → Prop} {w0 : World} {G0 : Gh}
    (hQ : ∀ a w G F H, Ext B w0 G0 w G → HRel B w G H → FRel w G a.tmps F → a.defers = [] → K F H → Q .normal a w) :
    ∀ (l : List Oper) (F : List AV) (H : Heap) (a : Act) (w : World) (G : Gh), Ext B w0 G0 w G → HRel B w G H → FRel w G a.tmps F → a.defers = [] → runOps P ops l K F H → wpList P ops Q l a w
  | [], F, H, a, w, G, hE, hH, hF, hd, h => hQ a w G F H hE hH hF hd h
  | o :: l, F, H, a, w, G, hE, hH, hF, hd, h => by
    have go : ∀ (K' : Act → World → Prop), (∀ a w, wpList P ops Q l a w → K' a w) → aop P o F H (fun v H' => runOps P ops l K (putF F o.dst v) H') → o.wp P a w K' Q := fun K' hK' hop =>
      oper_of_ok hF (op_sound hH hF hop) fun v av w' G' H' h1 h2 h3 h4 =>
        hK' _ _ (runOps_sound hQ l _ _ _ _ G' (hE.trans h1) h2 ((hF.ext h1).put h3) (by cases hdst : o.dst <;> simpa [Act.put, hdst] using hd) h4)
    have skip : ∀ (K' : Act → World → Prop), (∀ a w, wpList P ops Q l a w → K' a w) → runOps P ops l K (putF F o.dst (.tup [])) H → K' (a.put o.dst undef) w := fun K' hK' hop =>
      hK' _ _ (runOps_sound hQ l _ _ _ _ G hE hH (hF.put undef_rel) (by cases hdst : o.dst <;> simpa [Act.put, hdst] using hd) hop)
    refine wpList_step fun K' hK' => ?_
    unfold runOps at h
    split at h
    · rename_i hg
      rw [if_pos (by simp [Region.wanted, hg])]
      exact go K' hK' h
    · rename_i j want hg
      split at h
      · rename_i d hd'
        unfold aGuardJ aGuard at h
        split at h
        · rename_i b hb
          rw [wanted_bool hF hg hd' hb]
          unfold aIf at h
          split at h
          · rename_i hw
            rw [if_pos hw]
            exact go K' hK' h
          · rename_i hw
            rw [if_neg hw]
            exact skip K' hK' h
        · rename_i hb
          rw [wanted_tup hF hg hd' hb, if_neg (by simp)]
          exact skip K' hK' h
        · exact h.elim
      · exact h.elim


/-! ### Regions that draw their order -/
theorem aop_congr {o : Oper} {F F' : List AV} {K : AV → Heap → Prop} (h : ∀ x ∈ o.op.operands, ev F x = ev F' x) : aop P o F H K = aop P o F' H K := by
  obtain ⟨dst, op, type, pos, after, guard⟩ := o
  have pairs : ∀ ps : Array (Nat × Operand), (∀ x ∈ ps.toList.map (·.2), ev F x = ev F' x) → (ps.toList.map fun p => (p.1, ev F p.2)) = (ps.toList.map fun p => (p.1, ev F' p.2)) := fun ps hp =>
    List.map_congr_left fun p hm => by rw [hp p.2 (List.mem_map.2 ⟨p, hm, rfl⟩)]
  cases op <;> simp only [Op.operands] at h <;> simp only [aop]
  case build t ps => rw [pairs ps (by simpa using h)]
  case buildSlice t n ps => rw [pairs ps (by simpa using h)]
  case makeFunc fn first caps =>
    cases fn <;> simp only []
    rw [List.map_congr_left (l := caps.toList) (fun x hx => h x (Array.mem_append.2 (.inr (by simpa using hx))))]
  case slice t x lo hi mx =>
    cases mx <;> simp only []
    have hx := h x (by simp)
    have hlo : lo.map (ev F) = lo.map (ev F') := by cases lo <;> simp_all
    have hhi : hi.map (ev F) = hi.map (ev F') := by cases hi <;> simp_all
    rw [hx, hlo, hhi]
  case call c =>
    cases hc : c.callee with
    | value f =>
      have hf := h f (by simp [Call.operands, hc])
      have ha : c.args.toList.map (ev F) = c.args.toList.map (ev F') := List.map_congr_left fun x hx => h x (by simp [Call.operands, hc]; exact .inr (by simpa using hx))
      simp only [hf, ha]
    | builtin b =>
      have ha : ∀ x ∈ c.args.toList, ev F x = ev F' x := fun x hx => h x (by simp [Call.operands, hc]; simpa using hx)
      cases b <;> simp only [aBuiltin]
      all_goals
        split
        · rename_i hargs _
          rw [hargs] at ha
          simp only [List.mem_cons, List.not_mem_nil, or_false, forall_eq_or_imp, forall_eq] at ha
          simp only [ha]
        · rfl
    | invoke r m => rfl
  all_goals (first | rfl | (simp_all; done))

/-- One operation of a drawn region, in the frame F: it yields r. -/
def TrOK (P : Program) (ops : Array Oper) (H : Heap) (F : List AV) (o : Oper) (r : AV) : Prop :=
  match o.guard with
  | none => aop P o F H fun v H' => v = r ∧ H' = H
  | some (j, want) => ∃ d, (ops[j]?).bind (·.dst) = some d ∧
      ((∃ b, F.getD d .unk = .bool b ∧ (b == want) = true ∧ aop P o F H fun v H' => v = r ∧ H' = H) ∨
       (∃ b, F.getD d .unk = .bool b ∧ (b == want) = false ∧ r = .tup []) ∨ (F.getD d .unk = .tup [] ∧ r = .tup []))

theorem TrOK.congr {ops : Array Oper} {F F' : List AV} {o : Oper} {r : AV} (h : ∀ s ∈ opReads ops o, F.getD s .unk = F'.getD s .unk) (ht : TrOK P ops H F o r) : TrOK P ops H F' o r := by
  have hev : ∀ x ∈ o.op.operands, ev F x = ev F' x := fun x hx => by
    cases x with
    | tmp t => exact h t (by simp only [opReads, List.mem_append, List.mem_filterMap]; exact .inl ⟨.tmp t, by simpa using hx, rfl⟩)
    | _ => rfl
  have hop : (aop P o F H fun v H' => v = r ∧ H' = H) = aop P o F' H fun v H' => v = r ∧ H' = H := aop_congr hev
  unfold TrOK at *
  split at ht
  · rw [← hop]; exact ht
  · rename_i j want hg
    obtain ⟨d, hd, ht⟩ := ht
    have hs := h d (by simp [opReads, hg, hd])
    refine ⟨d, hd, ?_⟩
    rw [← hs, ← hop]
    exact ht

inductive TrL (P : Program) (ops : Array Oper) (H : Heap) : List Oper → List AV → List AV → List AV → Prop
  | nil (F : List AV) : TrL P ops H [] F [] F
  | cons {o : Oper} {os : List Oper} {F rs Fn : List AV} {r : AV} (h : TrOK P ops H F o r) (t : TrL P ops H os (putF F o.dst r) rs Fn) : TrL P ops H (o :: os) F (r :: rs) Fn

theorem runD_trace {ops : Array Oper} {K : List AV → Heap → Prop} : ∀ (l : List Oper) (F : List AV), runD P ops l K F H → ∃ rs Fn, TrL P ops H l F rs Fn ∧ K Fn H
  | [], F, h => ⟨[], F, .nil F, h⟩
  | o :: l, F, h => by
    unfold runD at h
    split at h
    · rename_i hg
      obtain ⟨r, h1, h2⟩ := h
      obtain ⟨rs, Fn, h3, h4⟩ := runD_trace l _ h2
      exact ⟨r :: rs, Fn, .cons (by unfold TrOK; rw [hg]; exact h1) h3, h4⟩
    · rename_i j want hg
      split at h
      · rename_i d hd
        unfold aGuardJ aGuard at h
        split at h
        · rename_i b hb
          unfold aIf at h
          split at h
          · rename_i hw
            obtain ⟨r, h1, h2⟩ := h
            obtain ⟨rs, Fn, h3, h4⟩ := runD_trace l _ h2
            exact ⟨r :: rs, Fn, .cons (by unfold TrOK; rw [hg]; exact ⟨d, hd, .inl ⟨b, hb, hw, h1⟩⟩) h3, h4⟩
          · rename_i hw
            obtain ⟨rs, Fn, h3, h4⟩ := runD_trace l _ h
            exact ⟨.tup [] :: rs, Fn, .cons (by unfold TrOK; rw [hg]; exact ⟨d, hd, .inr (.inl ⟨b, hb, by simpa using hw, rfl⟩)⟩) h3, h4⟩
        · rename_i hb
          obtain ⟨rs, Fn, h3, h4⟩ := runD_trace l _ h
          exact ⟨.tup [] :: rs, Fn, .cons (by unfold TrOK; rw [hg]; exact ⟨d, hd, .inr (.inr ⟨hb, rfl⟩)⟩) h3, h4⟩
        · exact h.elim
      · exact h.elim

/-- The frame after i operations in the order of the text. -/
def frk : List Oper → List AV → List AV → Nat → List AV
  | _, _, F, 0 => F
  | o :: os, r :: rs, F, i + 1 => frk os rs (putF F o.dst r) i
  | _, _, F, _ => F

theorem TrL.at {ops : Array Oper} {l : List Oper} {F rs Fn : List AV} (h : TrL P ops H l F rs Fn) : rs.length = l.length ∧ frk l rs F l.length = Fn ∧
    ∀ (i : Nat) o, l[i]? = some o → ∃ r, rs[i]? = some r ∧ TrOK P ops H (frk l rs F i) o r ∧ frk l rs F (i + 1) = putF (frk l rs F i) o.dst r := by
  induction h with
  | nil F => exact ⟨rfl, rfl, fun i o h => by simp at h⟩
  | cons h t ih =>
    obtain ⟨h1, h2, h3⟩ := ih
    refine ⟨by simp [h1], by simpa [frk] using h2, fun i o' ho => ?_⟩
    cases i with
    | zero => simp at ho; subst ho; exact ⟨_, rfl, h, by simp [frk]⟩
    | succ i =>
      obtain ⟨r, h4, h5, h6⟩ := h3 i o' (by simpa using ho)
      exact ⟨r, by simpa using h4, h5, by simpa [frk] using h6⟩

end Go.Abs
