/- The abstract layer, part I: append; every operation is sound. -/
import Derived.Test.YtmbegappkkbfpaaAbsH
namespace Go.Abs
open Go Go.RowKit

variable {P : Program} {B : Nat} {w : World} {G : Gh} {H : Heap}

/-- The right to append to a nil slice. -/
theorem HRel.newOwn (h : HRel B w G H) (e size : Nat) :
    Ext B w G w ⟨G.L, G.μ ++ [.own (.slice none 0 0) size 0]⟩ ∧ HRel B w ⟨G.L, G.μ ++ [.own (.slice none 0 0) size 0]⟩ (H ++ [.perm e size 0]) := by
  have he : Ext B w G w ⟨G.L, G.μ ++ [.own (.slice none 0 0) size 0]⟩ := ⟨Below.refl _ _, fun _ => Nat.le_refl _, fun _ _ _ => rfl, fun id gi hg => ⟨gi, by
    have : id < G.μ.length := (List.getElem?_eq_some_iff.1 hg).1
    simp only []
    rw [List.getElem?_append_left this]; exact hg, gi.le_refl⟩⟩
  have split : ∀ (id : Nat) gi, (G.μ ++ [.own (.slice none 0 0) size 0])[id]? = some gi → G.μ[id]? = some gi ∨ (id = G.μ.length ∧ gi = .own (.slice none 0 0) size 0) := by
    intro id gi hg
    by_cases hlt : id < G.μ.length
    · rw [List.getElem?_append_left hlt] at hg; exact .inl hg
    · have hlt2 := (List.getElem?_eq_some_iff.1 hg).1
      simp at hlt2
      have : id = G.μ.length := by omega
      subst this
      simp at hg
      exact .inr ⟨rfl, hg.symm⟩
  refine ⟨he, by simp [h.len], ?_, ?_, h.fresh, ?_, h.base⟩
  · intro id ab gi h1 h2
    rcases split id gi h2 with h2 | ⟨rfl, rfl⟩
    · have hlt : id < H.length := by rw [← h.len]; exact (List.getElem?_eq_some_iff.1 h2).1
      rw [List.getElem?_append_left hlt] at h1
      exact (h.ok id ab gi h1 h2).keep he (fun b hb => ⟨rfl, rfl⟩)
    · rw [h.len] at h1
      simp at h1
      subst h1
      exact ⟨rfl, rfl, ⟨[], World.ownsRow_nil w B e size⟩, fun b hb => by simp [Value.ownBlock] at hb⟩
  · intro id id' gi gi' b h1 h2 h3 h4
    rcases split id gi h1 with k1 | ⟨e1, e2⟩ <;> rcases split id' gi' h2 with k2 | ⟨e3, e4⟩
    · exact h.dist id id' gi gi' b k1 k2 h3 h4
    · rw [e4] at h4; simp [GI.block, Value.ownBlock] at h4
    · rw [e2] at h3; simp [GI.block, Value.ownBlock] at h3
    · rw [e1, e3]
  · intro id gi b h1 h2
    rcases split id gi h1 with k1 | ⟨e1, e2⟩
    · exact h.lt id gi b k1 h2
    · rw [e2] at h2; simp [GI.block, Value.ownBlock] at h2

theorem drel_one {v : Value} {a : AV} (h : DRel w G.L v a) : v.oneCell' = true := by cases h <;> rfl

theorem xs_rel {e size n : Nat} {v : Value} {xs : List Value} {es : List (List AV)} (hown : w.ownsRow B e size v n xs) (hd : DRel w G.L v (.sl es .none)) (hes : es.length = n) (hsz : ∀ c ∈ es, c.length = size) : All2 (DRel w G.L) xs es.flatten := by
  by_cases hne : es = []
  · subst hne
    simp at hes
    subst hes
    have : xs = [] := List.eq_nil_of_length_eq_zero (by simpa using hown.1)
    rw [this]
    trivial
  · obtain ⟨b, off, cap, zs, hv, hl, hr, hc, _⟩ := hd.flat hne hsz
    have hoff : off = 0 := by
      rcases hown.2 with ⟨h1, _⟩ | ⟨g, cap', cur, h1, _⟩
      · rw [hv] at h1; simp at h1
      · rw [hv] at h1; simp at h1; exact h1.1.2
    subst hoff
    rw [hv, hes] at hown
    obtain ⟨hxl, _, _, hcx⟩ := ownsRow_cells hown
    have : xs = zs := by
      apply List.ext_getElem?
      intro j
      by_cases hj : j < n * size
      · have hz : j < zs.length := by rw [hl, hes]; exact hj
        have := hc j zs[j] (by simp [hz])
        rw [Nat.zero_add] at this
        rw [← hcx j hj, this]
        simp [hz]
      · rw [List.getElem?_eq_none (by omega), List.getElem?_eq_none (by rw [hl, hes]; omega)]
    rw [this]
    exact hr

theorem sound_append {t e ty : TypeId} {size bytes : Nat} {z : Value} {vx vy : Value} {x y : AV} {K : AV → Heap → Prop} (hH : HRel B w G H) (he : tElem P t = some e) (hn : tSize P e = some size) (hby : tBytes P e = some bytes)
    (hz : tZero P e = some z) (hzl : (constCells z).length = size) (hx : TRel w G vx x) (hy : TRel w G vy y) (h : aAppend e size bytes x y H K) :
    OpOK P B w G K (((do pure (.value (← Builtin.append_ #[t, t] ty #[vx, vy]))) : Sem Next).run P w) := by
  obtain ⟨ys, hdy, hsy, h⟩ : ∃ ys, DRel w G.L vy (.sl ys .none) ∧ (∀ c ∈ ys, c.length = size) ∧ aAppTo e size bytes x ys H K := by
    unfold aAppend aSrc at h
    split at h
    · rename_i ys tok
      exact ⟨ys, sl_drel hy, h.1, h.2⟩
    · cases hy
      exact ⟨[], .slE _ _, h.1, h.2⟩
    · exact h.elim
  have hzr := rel_cells (w := w) (G := G) z
  have hzs : z.cells.size = size := by have := hzr.length; simp at this; omega
  -- the general step, for a right that is there already
  have main : ∀ (G0 : Gh) (H0 : Heap) (id : Nat) (es : List (List AV)) (v : Value), Ext B w G w G0 → HRel B w G0 H0 → H0[id]? = some (.perm e size es.length) → G0.μ[id]? = some (.own v size es.length) → DRel w G.L v (.sl es .none) →
      (∀ c ∈ es, c.length = size) → vx = v → (es.length + ys.length) * bytes ≤ 140737488355328 → es.length + ys.length ≤ 9223372036854775807 → K (.sl (es ++ ys) (.own id)) (H0.set id (.perm e size (es.length + ys.length))) →
      OpOK P B w G K (((do pure (.value (← Builtin.append_ #[t, t] ty #[vx, vy]))) : Sem Next).run P w) := by
    intro G0 H0 id es v hE hH0 hid hμ hdx hsx hvx hb1 hb2 hk
    subst hvx
    obtain ⟨_, _, ⟨xs, hown⟩, _⟩ := hH0.ok id _ _ hid hμ
    by_cases hys : ys = []
    · subst hys
      obtain ⟨ay, capy, rfl, _⟩ := hdy.slice_form
      obtain ⟨ax, capx, rfl, hle⟩ := ownsRow_form hown
      have hrun := run_append_zero (P := P) (w := w) (ty := ty) (a := ax) (c := ay) (cap' := capy) he he ⟨size, hn⟩ hle
      simp only [List.length_nil]
      rw [Sem.run_bind, hrun]
      refine ⟨.sl es (.own id), G0, H0, hE, hH0, ⟨hE.drel hdx, _, size, es.length, hμ, Nat.le_refl _, fun _ => ⟨rfl, hsx⟩⟩, ?_⟩
      have : H0.set id (.perm e size (es.length + 0)) = H0 := by
        apply List.ext_getElem?
        intro k
        by_cases hk : k = id
        · subst hk
          rw [List.getElem?_set_self (List.getElem?_eq_some_iff.1 hid).1]
          exact hid.symm
        · rw [List.getElem?_set_ne (fun h => hk h.symm)]
      rw [List.length_nil, this] at hk
      simpa using hk
    · obtain ⟨b, off, capy, news, hvy, hln, hrn, hcn, _⟩ := hdy.flat hys hsy
      subst hvy
      have hm0 : 0 < ys.length := by cases ys <;> simp_all
      unfold tSize at hn
      unfold tBytes at hby
      unfold tZero at hz
      cases hi : P.info? e with
      | none => simp [hi] at hn
      | some i =>
        simp [hi] at hn hby hz
        subst hn
        subst hby
        have hone : ∀ u ∈ news, u.oneCell' = true := fun u hu => by
          obtain ⟨j, hj⟩ := List.mem_iff_getElem?.1 hu
          obtain ⟨c, _, h2⟩ := hrn.get' hj
          exact drel_one h2
        obtain ⟨v', w', hrun, hown', hcase⟩ := own_run (P := P) (ty := ty) (und_elem he) hi hz hzs hown ⟨b, off, none⟩ ys.length capy news hln (fun j u hj => by rw [add_lit]; exact hcn j u hj) hone hm0 (by simp only [maxLen]; omega) hb1 hH0.base
        obtain ⟨G', hE', hH', hT⟩ := own_step hH0 hid hμ hown hown' hcase rfl hm0 rfl hsx hsy (xs_rel hown (hE.drel hdx) rfl hsx) (hrn.mono fun _ _ => hE.drel)
        rw [Sem.run_bind, hrun]
        exact ⟨_, G', _, hE.trans hE', hH', hT, hk⟩
  unfold aAppTo at h
  split at h
  · cases hx
    obtain ⟨hE, hH0⟩ := hH.newOwn e size
    have hid : (H ++ [.perm e size 0])[H.length]? = some (.perm e size ([] : List (List AV)).length) := by simp
    refine main _ _ H.length [] _ hE hH0 hid (by rw [← hH.len]; simp) (.slE _ _) (by simp) rfl (by simpa using h.1.1) (by simpa using h.1.2) ?_
    simpa using h.2
  · rename_i es id _
    obtain ⟨h1, ⟨h2, h3⟩, hk⟩ := h
    obtain ⟨hd, v', s', n', hμ, hle, heq⟩ := hx
    have hok := hH.ok id _ _ h1 hμ
    obtain ⟨hss, hnn, _⟩ := hok
    subst hnn
    subst hss
    obtain ⟨hvv, hsx⟩ := heq rfl
    subst hvv
    exact main G H id es _ (Ext.refl _ _ _) hH h1 hμ hd hsx rfl h2 h3 hk
  · exact h.elim

/-! ### Function values, nil checks, calls -/
theorem isB_rel {v : Value} {a : AV} (h : TRel w G v a) (hb : a.isB = true) : BRel w G v a := by
  cases a <;> first | exact h | (simp [AV.isB] at hb; done)
theorem isB_rels : ∀ {vs : List Value} {as : List AV}, All2 (TRel w G) vs as → as.all AV.isB = true → All2 (BRel w G) vs as
  | [], [], _, _ => trivial
  | v :: vs, a :: as, h, hb => by
    simp only [List.all_cons, Bool.and_eq_true] at hb
    exact ⟨isB_rel h.1 hb.1, isB_rels h.2 hb.2⟩


theorem of_pure {s : Sem Value} {K : AV → Heap → Prop} (hH : HRel B w G H) (h : ∃ r, s.run P w = .ok r w ∧ ∃ av, TRel w G r av ∧ K av H) : OpOK P B w G K (((do pure (.value (← s))) : Sem Next).run P w) := by
  obtain ⟨r, h1, av, h2, h3⟩ := h
  rw [Sem.run_bind, h1]
  exact ⟨av, G, H, Ext.refl _ _ _, hH, h2, h3⟩

theorem opt_rels {a : Act} {F : List AV} (hF : FRel w G a.tmps F) (x : Option Operand) : All2 (TRel w G) (x.map a.eval).toList (x.map (ev F)).toList := by
  cases x with
  | none => trivial
  | some x => exact ⟨ev_rel hF x, trivial⟩

theorem part_rels {a : Act} {F : List AV} (hF : FRel w G a.tmps F) (ps : List (Nat × Operand)) :
    All2 (fun (p : Nat × Value) (q : Nat × AV) => p.1 = q.1 ∧ TRel w G p.2 q.2) (ps.map fun (i, x) => (i, a.eval x)) (ps.map fun p => (p.1, ev F p.2)) := by
  induction ps with
  | nil => trivial
  | cons p ps ih => exact ⟨⟨rfl, ev_rel hF p.2⟩, ih⟩

theorem run_callFunc {f : FuncId} {vs : Array Value} (h : callable P f = true) : (callFunc f vs).run P w = .ok (.enter f vs) w := by
  unfold callable at h
  cases hf : P.funcs[f]? with
  | none => simp [hf] at h
  | some fn =>
    simp only [hf, Bool.and_eq_true, Bool.not_eq_true'] at h
    obtain ⟨h1, h2⟩ := h
    have h3 : fn.body.isNone = false := by cases hb : fn.body <;> simp_all
    simp only [callFunc, Sem.run_bind, run_program, Result.andThen_ok, hf, h1, h3, Bool.false_eq_true, if_false, Sem.run_pure]

theorem sound_call {c : Call} {ty : TypeId} {a : Act} {F : List AV} {fo : Operand} {K : AV → Heap → Prop} (hH : HRel B w G H) (hF : FRel w G a.tmps F) (hc : c.callee = .value fo)
    (h : aCallV P (ev F fo) (c.args.toList.map (ev F)) H K) : OpOK P B w G K (((do let d ← resolve a.eval c ty; invoke d.target d.args) : Sem Next).run P w) := by
  have hf := ev_rel hF fo
  unfold aCallV at h
  split at h
  · rename_i f caps hfe
    rw [hfe] at hf
    obtain ⟨cs, hfv, hcaps⟩ := hf
    split at h
    · rename_i hcall
      have hrun : ((do let d ← resolve a.eval c ty; invoke d.target d.args) : Sem Next).run P w = .ok (.enter f (c.args.map a.eval ++ cs)) w := by
        simp only [resolve, hc, hfv, Deferred.ofValue, Sem.run_bind, Sem.run_pure, Result.andThen_ok, invoke, Array.empty_append]
        exact run_callFunc hcall
      rw [hrun]
      refine ⟨rfl, h B w G _ hH ?_⟩
      have h1 := ev_rels hF c.args.toList
      have h2 : All2 (TRel w G) cs.toList caps := hcaps.mono fun _ _ hb => TRel.of_v (VRel.of_a (ARel.of_b hb))
      simpa using h1.append h2
    · exact h.elim
  · exact h.elim

theorem arr1 {α : Type} {xs : Array α} {x : α} (h : xs.toList = [x]) : xs = #[x] := by cases xs; simp_all
theorem arr2 {α : Type} {xs : Array α} {x y : α} (h : xs.toList = [x, y]) : xs = #[x, y] := by cases xs; simp_all

theorem sound_builtin {c : Call} {ty : TypeId} {a : Act} {F : List AV} {b : Builtin} {K : AV → Heap → Prop} (hH : HRel B w G H) (hF : FRel w G a.tmps F) (hc : c.callee = .builtin b)
    (h : aBuiltin P b c F H K) : OpOK P B w G K (((do let d ← resolve a.eval c ty; invoke d.target d.args) : Sem Next).run P w) := by
  cases b <;> simp only [aBuiltin] at h <;> (try exact h.elim)
  case append =>
    split at h
    · rename_i x y t t' hargs htypes
      split at h
      · rename_i e size bytes z he hs hb hz htt
        simp only [beq_iff_eq] at htt
        subst htt
        split at h
        · rename_i hq
          simp only [Bool.and_eq_true, decide_eq_true_eq, beq_iff_eq] at hq
          simp only [he, Option.bind_some] at hs hz hb
          have h1 := arr2 hargs
          have h2 := arr2 htypes
          have hrun : ((do let d ← resolve a.eval c ty; invoke d.target d.args) : Sem Next).run P w = ((do pure (.value (← Builtin.append_ #[t, t] ty #[a.eval x, a.eval y]))) : Sem Next).run P w := by
            simp only [resolve, hc, h1, h2, List.map_toArray, List.map_cons, List.map_nil, Sem.run_bind, Sem.run_pure, Result.andThen_ok, invoke, builtin]
          rw [hrun]
          exact sound_append hH he hs hb hz hq.2 (ev_rel hF x) (ev_rel hF y) h
        · exact h.elim
      · exact h.elim
    · exact h.elim
  case len =>
    split at h
    · rename_i x t hargs htypes
      split at h
      · rename_i u hu
        have h1 := arr1 hargs
        have h2 := arr1 htypes
        have hrun : ((do let d ← resolve a.eval c ty; invoke d.target d.args) : Sem Next).run P w = ((do pure (.value (← Builtin.len_ #[t] ty #[a.eval x]))) : Sem Next).run P w := by
          simp only [resolve, hc, h1, h2, List.map_toArray, List.map_cons, List.map_nil, Sem.run_bind, Sem.run_pure, Result.andThen_ok, invoke, builtin]
        rw [hrun]
        exact of_pure hH (sound_len (ev_rel hF x) hu h)
      · exact h.elim
    · exact h.elim

theorem op_sound {o : Oper} {a : Act} {F : List AV} {K : AV → Heap → Prop} (hH : HRel B w G H) (hF : FRel w G a.tmps F) (h : aop P o F H K) : OpOK P B w G K ((execOp a.eval o).run P w) := by
  obtain ⟨dst, op, type, pos, after, guard⟩ := o
  unfold aop at h
  simp only [] at h
  cases op <;> (try simp only [] at h) <;> (try exact h.elim) <;> simp only [execOp]
  case move x => exact OpOK.same hH (ev_rel hF x) h
  case assign x => exact OpOK.same hH (ev_rel hF x) h
  case pick c x y =>
    unfold aPick at h
    split at h
    · rename_i t ht
      have hc := ev_rel hF c
      rw [ht] at hc
      have hc : a.eval c = .bool t := hc
      have hrun : ((do pure (.value (if ← asBool (a.eval c) then a.eval x else a.eval y))) : Sem Next).run P w = .ok (.value (if t = true then a.eval x else a.eval y)) w := by
        rw [hc]; cases t <;> rfl
      rw [hrun]
      refine OpOK.same hH ?_ h
      cases t
      · exact ev_rel hF y
      · exact ev_rel hF x
    · exact h.elim
  case alloc t =>
    split at h
    · rename_i z hz
      exact sound_alloc hH hz h
    · exact h.elim
  case box t x => exact sound_box hH (ev_rel hF x) h
  case build t parts =>
    split at h
    · rename_i z ps hz hp
      exact of_pure hH (sound_build hz hp (by simpa using part_rels hF parts.toList) h)
    · exact h.elim
  case buildSlice t len parts =>
    split at h
    · rename_i size z hs hz
      split at h
      · rename_i hb
        simp only [Bool.and_eq_true, decide_eq_true_eq, beq_iff_eq] at hb
        cases he : tElem P t with
        | none => simp [he] at hs
        | some e =>
          simp only [he, Option.bind_some] at hs hz
          exact sound_buildS hH he hs hz hb.1.1 hb.1.2 hb.2 (by simpa using part_rels hF parts.toList) h
      · exact h.elim
    · exact h.elim
  case load t x =>
    split at h
    · rename_i g n hg hn
      obtain ⟨u, h1, av, h2, h3⟩ := sound_load hH (ev_rel hF x) hg hn h
      exact of_pure hH ⟨u, h1, av, h2, h3⟩
    · exact h.elim
  case store t x y =>
    split at h
    · rename_i n hn
      obtain ⟨w', H', h1, h2, h3, h4⟩ := sound_store hH (ev_rel hF x) (ev_rel hF y) hn h
      have hrun : ((do Instr.storeAt t (a.eval x) (a.eval y); pure .skip) : Sem Next).run P w = .ok .skip w' := by rw [Sem.run_bind, h1]; rfl
      rw [hrun]
      exact ⟨G, H', h2, h3, h4⟩
    · exact h.elim
  case nilCheck x =>
    have hx := ev_rel hF x
    unfold aNil at h
    split at h
    · rename_i id off hid
      rw [hid] at hx h
      obtain ⟨b, hμ, hv⟩ := hx
      rw [hv]
      exact OpOK.same hH (av := .ptr id off) ⟨b, hμ, rfl⟩ h
    · rename_i cs hid
      rw [hid] at hx h
      obtain ⟨b, off, hv, hc⟩ := hx
      rw [hv]
      exact OpOK.same hH (av := .view cs) ⟨b, off, rfl, hc⟩ h
    · rename_i f cs hid
      rw [hid] at hx h
      obtain ⟨vs, hv, hc⟩ := hx
      rw [hv]
      exact OpOK.same hH (av := .fn f cs) ⟨vs, rfl, hc⟩ h
    · exact h.elim
  case binOp op t x y yt => exact of_pure hH (sound_bin (ev_rel hF x) (ev_rel hF y) h)
  case unOp op t x => exact of_pure hH (sound_un (ev_rel hF x) h)
  case convert s t x =>
    split at h
    · rename_i j k hs ht
      exact of_pure hH (sound_conv (ev_rel hF x) hs ht h)
    · rename_i hs ht
      exact of_pure hH (sound_convS (ev_rel hF x) hs ht h)
    · exact h.elim
  case makeFunc fn first caps =>
    cases fn <;> simp only [] at h <;> (try exact h.elim)
    rename_i f
    split at h
    · rename_i hfirst
      obtain ⟨hb, hk⟩ := h
      have hf0 : first = #[] := by cases first; simp_all
      subst hf0
      have hrun : ((do pure (.value (← Instr.makeFunc (.func f) (Array.map a.eval #[]) (caps.map a.eval)))) : Sem Next).run P w = .ok (.value (.func (.func f) #[] (caps.map a.eval))) w := by simp [Instr.makeFunc]
      rw [hrun]
      refine OpOK.same hH (av := .fn f (caps.toList.map (ev F))) ⟨_, rfl, ?_⟩ hk
      have := isB_rels (ev_rels hF caps.toList) hb
      simpa using this
    · exact h.elim
  case makeSlice t l c =>
    split at h
    · rename_i size bytes z hs hb hz
      split at h
      · rename_i hq
        simp only [Bool.and_eq_true, decide_eq_true_eq, beq_iff_eq] at hq
        cases he : tElem P t with
        | none => simp [he] at hs
        | some e =>
          simp only [he, Option.bind_some] at hs hz hb
          exact sound_make hH he hs hb hz hq.1 hq.2 (ev_rel hF l) (ev_rel hF c) h
      · exact h.elim
    · exact h.elim
  case slice t x lo hi mx =>
    cases mx <;> simp only [] at h <;> (try exact h.elim)
    split at h
    · rename_i ht
      exact of_pure hH (sound_slice (ev_rel hF x) (opt_rels hF lo) (opt_rels hF hi) ht (by omega) h)
    · rename_i ht
      split at h
      · rename_i size hs
        exact of_pure hH (sound_slice (ev_rel hF x) (opt_rels hF lo) (opt_rels hF hi) ht (fun _ => hs) h)
      · exact h.elim
    · exact h.elim
  case fieldAddr s x i =>
    split at h
    · rename_i f hf
      split at h
      · rename_i n hn
        exact of_pure hH (sound_fld (ev_rel hF x) hf hn h)
      · exact h.elim
    · exact h.elim
  case field s x i =>
    split at h
    · rename_i f hf
      split at h
      · rename_i g n hg hn
        exact of_pure hH (sound_fldV (ev_rel hF x) hf hg hn h)
      · exact h.elim
    · exact h.elim
  case indexAddr t x i =>
    split at h
    · rename_i size hs
      cases he : tElem P t with
      | none => simp [he] at hs
      | some e =>
        simp only [he, Option.bind_some] at hs
        exact of_pure hH (sound_idxA (ev_rel hF x) (ev_rel hF i) he hs h)
    · exact h.elim
  case index t x i =>
    split at h
    · rename_i ht
      exact of_pure hH (sound_idxS (ev_rel hF x) (ev_rel hF i) ht h)
    · exact h.elim
  case extract x i => exact of_pure hH (sound_ext (ev_rel hF x) h)
  case call c =>
    split at h
    · rename_i fo hc
      exact sound_call hH hF hc h
    · rename_i b hc
      exact sound_builtin hH hF hc h
    · exact h.elim

end Go.Abs
