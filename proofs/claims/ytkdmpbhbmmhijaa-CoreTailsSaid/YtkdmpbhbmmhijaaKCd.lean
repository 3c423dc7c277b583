/- The reference's Valid. -/
import Derived.Test.YtkdmpbhbmmhijaaKCc
namespace Go.Proofs.Ytkdmpbhbmmhijaa
open Go Go.Abs
set_option linter.unusedSimpArgs false
set_option linter.unusedVariables false
set_option maxRecDepth 8000
def inR (n : Nat) (x : Int) : Bool := decide (0 ≤ x ∧ x < (n : Int))
theorem takeWhile_take {p : Int → Bool} : ∀ (l : List Int) (j : Nat) (h : j < l.length), (∀ x ∈ l.take j, p x = true) → p l[j] = false → l.takeWhile p = l.take j
  | [], j, h, _, _ => by simp at h
  | a :: l, 0, h, _, h2 => by simp at h2; simp [h2]
  | a :: l, j + 1, h, h1, h2 => by
    have := takeWhile_take l j (by simpa using h) (fun x hx => h1 x (by simp [hx])) (by simpa using h2)
    have ha := h1 a (by simp)
    simp [ha, this]
theorem count_det {H : Heap} {id n : Nat} {l S : List Int} (hid : H[id]? = some (usB (cnt n S))) (hl : S.length + l.length ≤ 1000000) {tok : Tok} (K : Kt)
    (hT : (∀ x ∈ l, 0 ≤ x ∧ x < n) → K (.bool true) (H.set id (usB (cnt n (S ++ l))))) (hF : ¬ (∀ x ∈ l, 0 ≤ x ∧ x < (n : Int)) → K (.bool false) (H.set id (usB (cnt n (S ++ l.takeWhile (inR n)))))) :
    ACalls tP n_zq48 [.ms id 0 n n, .sl (ints l) tok] H K := by
  refine ACalls.wk (args' := [.ms id 0 n n, .sl (ints l) .none]) ?_ ⟨.rfl', .atom (.sl _ _), trivial⟩
  refine zq48_ok fun hs => ?_
  have hil := lt_get hid
  simp [zq48]
  have scU : ∀ us : List Int, (usB us).sc H.length = true := fun us => by simp [usB, AB.sc, AV.scA, AV.scB]
  refine zq48_loop2 (Inv := fun q t9 H' => ∃ j : Nat, j ≤ l.length ∧ q = l.length - j ∧ t9 = .int .i64 j ∧ (∀ x ∈ l.take j, 0 ≤ x ∧ x < (n : Int)) ∧ H' = H.set id (usB (cnt n (S ++ l.take j)))) l.length ?_ ?_
  · intro _; exact ⟨0, by omega, by omega, rfl, by simp, by simp [set_self hid]⟩
  · rintro q t9 H' ⟨j, hj, rfl, rfl, hr, rfl⟩ hsc hlen hsF Kb hKb
    have hg : ∀ us, (H.set id (usB us))[id]? = some (.cells (us.map fun n => .int .i64 n)) := fun us => by rw [set_get _ hid]; rfl
    by_cases hjl : j < l.length
    · have tw : ¬ (0 ≤ l[j] ∧ l[j] < (n : Int)) → l.takeWhile (inR n) = l.take j := fun h => takeWhile_take l j hjl (fun x hx => decide_eq_true (hr x hx)) (decide_eq_false h)
      by_cases h0 : l[j] < 0
      · simp [zq48_b2, hjl, h0]
        rw [← tw (by omega)]
        exact hF (fun h => by have := h _ (List.getElem_mem hjl); omega)
      by_cases hge : (n : Int) ≤ l[j]
      · simp [zq48_b2, hjl, h0, hge]
        rw [← tw (by omega)]
        exact hF (fun h => by have := h _ (List.getElem_mem hjl); omega)
      obtain ⟨e, he⟩ : ∃ e : Nat, l[j] = e := ⟨(l[j]).toNat, by omega⟩
      have hen : e < n := by omega
      have hen' : ¬ n ≤ e := by omega
      have he0 : ¬ (e : Int) < 0 := by omega
      have hnx : S ++ l.take (j + 1) = (S ++ l.take j) ++ [(e : Int)] := by rw [take_snoc hjl, he, List.append_assoc]
      have hcl : (S ++ l.take j).length ≤ 1000000 := by rw [List.length_append, List.length_take]; omega
      clear tw
      generalize hS1 : S ++ l.take j = S1 at *
      have hce := List.count_le_length (a := (e : Int)) (l := S1)
      have hel : e < (cnt n S1).length := by simpa using hen
      have hu1 : ∀ k : AV → Prop, aCells false 1 e ((cnt n S1).map fun n => AV.int .i64 n) k = k (.int .i64 ((S1.count (e : Int) : Nat) : Int)) := fun k => by rw [aCells_one 1 (us_at hel), cnt_get]
      simp [zq48_b2, hjl, he, he0, hen, hen', hg, hu1]
      rw [wrap_in (by omega) (by omega), wrap_in (by omega) (by omega), us_set hel, cnt_set S1 hen]
      refine ⟨by omega, hKb _ _ ⟨l.length - (j + 1), by omega, Back.here (by simp) (hs.set (scU _)) ?_ ⟨_, rfl, j + 1, by omega, rfl, by simp, ?_, ?_⟩⟩⟩
      · simp [zq48_fr2, AV.sc, AV.scV, AV.scA, AV.scB]; omega
      · exact mem_take_succ hjl hr (by rw [he]; omega)
      · rw [hnx]; rfl
    · obtain rfl : j = l.length := by omega
      rw [List.take_length] at *
      simp [zq48_b2]
      exact hT hr
structure RCode (c : Cor) (i : Nat) (f : Cod) : Prop where
  order : f.name = [] → ∀ h : i + 1 < c.codes.length, (c.codes[i + 1]).name = []
  capt : f.name ≠ [] → f.capt = []
  pars : f.params.length ≤ 6
  res : tyValid c.data 0 f.res = true
  rp : inV c f.params
  rc : inV c f.capt
  body : ∃ b : Nat, f.body = b ∧ ∃ hb : b < c.exprs.length, (c.exprs[b]).ty.same f.res = true
structure RExpr (c : Cor) (i : Nat) (e : CEx) : Prop where
  kids : ∀ k ∈ e.kids, (i : Int) < k
  range : inE c e.kids
  bk : e.binds.length = e.kids.length
  binds : ∀ l ∈ e.binds, inV c l
  vars : inV c e.vars
  lam : e.op = 11 → 0 ≤ e.num ∧ e.num < c.codes.length
def nms (l : List Cod) : List (List UInt8) := (l.map Cod.name).filter fun s => !s.isEmpty
def lamsOf (l : List CEx) : List Int := (l.filter fun e => e.op == 11).map CEx.num
def startB (c : Cor) (f : Cod) : List Bool := setF (setF (List.replicate c.vars.length false) f.params true) f.capt true
structure RefV (c : Cor) : Prop where
  data : RData c.data
  vars : ∀ v ∈ c.vars, tyValid c.data 0 v = true
  codes : ∀ i (h : i < c.codes.length), RCode c i c.codes[i]
  names : (nms c.codes).Nodup
  exprs : ∀ i (h : i < c.exprs.length), RExpr c i c.exprs[i]
  bound : ∀ v : Nat, v < c.vars.length → (allV c).count (v : Int) = 1
  placed : ∀ v : Nat, v < c.exprs.length → (allE c).count (v : Int) = 1
  made : ∀ i (h : i < c.codes.length), (lamsOf c.exprs).count (i : Int) = if (c.codes[i]).name = [] then 1 else 0
  rules : ∀ i (h : i < c.exprs.length), refRule c c.exprs[i] = true
  scopes : ∀ i (h : i < c.codes.length), (visitG c c.exprs.length (c.codes[i]).body.toNat (startB c c.codes[i])).1 = true
def vH (H : Heap) (c : Cor) (S T M : List Int) (m : Nat) : Heap := H ++ [.cells (cCells c), usB (cnt c.vars.length S), usB (cnt c.exprs.length T), usB (cnt c.codes.length M), .perm e_string 1 m]
theorem vH_sc {H : Heap} (hs : HSc H) (c : Cor) (S T M : List Int) (m : Nat) : HSc (vH H c S T M m) := hs.append (by simp [AB.sc, cCells, usB, AV.scA, AV.scB])
@[simp] theorem vH_len (H : Heap) (c : Cor) (S T M : List Int) (m : Nat) : (vH H c S T M m).length = H.length + 5 := by simp [vH]
theorem vH0 (H : Heap) (c : Cor) (S T M : List Int) (m : Nat) (J : Heap) : (vH H c S T M m ++ J)[H.length]? = some (.cells (cCells c)) := by simp [vH]
theorem vH1 (H : Heap) (c : Cor) (S T M : List Int) (m : Nat) (J : Heap) : (vH H c S T M m ++ J)[H.length + 1]? = some (usB (cnt c.vars.length S)) := by simp [vH]
theorem vH2 (H : Heap) (c : Cor) (S T M : List Int) (m : Nat) (J : Heap) : (vH H c S T M m ++ J)[H.length + 2]? = some (usB (cnt c.exprs.length T)) := by simp [vH]
theorem vH3 (H : Heap) (c : Cor) (S T M : List Int) (m : Nat) (J : Heap) : (vH H c S T M m ++ J)[H.length + 3]? = some (usB (cnt c.codes.length M)) := by simp [vH]
theorem vHs1 (H : Heap) (c : Cor) (S T M S' : List Int) (m : Nat) (J : Heap) : (vH H c S T M m ++ J).set (H.length + 1) (usB (cnt c.vars.length S')) = vH H c S' T M m ++ J := by simp [vH]
theorem vHs2 (H : Heap) (c : Cor) (S T M S' : List Int) (m : Nat) (J : Heap) : (vH H c S T M m ++ J).set (H.length + 2) (usB (cnt c.exprs.length S')) = vH H c S S' M m ++ J := by simp [vH]
theorem vH5 (H : Heap) (c : Cor) (S T M : List Int) (m k : Nat) (J : Heap) : (vH H c S T M m ++ J)[H.length + 5 + k]? = J[k]? := by
  have : H.length + 5 + k = (vH H c S T M m).length + k := by simp
  rw [this, get_len_add]
def ScP (c : Cor) : Prop := ∀ i (h : i < c.codes.length), (visitG c c.exprs.length (c.codes[i]).body.toNat (startB c c.codes[i])).1 = true
theorem ref_78 {c : Cor} (hc : KCore c) (hcodes : ∀ i (h : i < c.codes.length), RCode c i c.codes[i]) (hexprs : ∀ i (h : i < c.exprs.length), RExpr c i c.exprs[i]) {H : Heap} (hs : HSc H) {S T M : List Int} {m : Nat} (K : Kt) (hb : ∀ b : Bool, (b = true ↔ ScP c) → ∀ J, Out H.length K (.bool b) (H ++ J)) :
    zq12_l78 (.ptr H.length 0) (.sl (c.codes.map Cod.cs) .none) (.int .i64 c.codes.length) (.int .i64 0) (vH H c S T M m) (Out H.length K) := by
  have hbJ : ∀ b : Bool, (b = true ↔ ScP c) → ∀ J, Out H.length K (.bool b) (vH H c S T M m ++ J) := fun b h J => by rw [vH, List.append_assoc]; exact hb b h _
  obtain ⟨k1, k2, k3, ⟨k4, k5⟩, k6, k7⟩ := hc
  have hp : InP c := ⟨⟨k1, k2, k3, ⟨k4, k5⟩, k6, k7⟩, fun i h => (hexprs i h).bk, fun i h k hk => ⟨(hexprs i h).kids k hk, ((hexprs i h).range k hk).2⟩, fun i h => (hexprs i h).binds, fun i h => ⟨(hcodes i h).rp, (hcodes i h).rc⟩, fun i h => by obtain ⟨b, h1, h2, _⟩ := (hcodes i h).body; exact ⟨b, h1, h2⟩⟩
  refine zq12_loop78 (Inv := fun q t326 H' => ∃ i : Nat, i ≤ c.codes.length ∧ q = c.codes.length - i ∧ t326 = .int .i64 i ∧ (∀ j (h : j < c.codes.length), j < i → (visitG c c.exprs.length (c.codes[j]).body.toNat (startB c c.codes[j])).1 = true) ∧ H' = vH H c S T M m) c.codes.length ?_ ?_
  · intro _; exact ⟨0, by omega, by omega, rfl, by omega, rfl⟩
  · rintro q t326 H' ⟨i, hi, rfl, rfl, hok, rfl⟩ hsc hlen hsF Kb hKb
    by_cases hlt : i < c.codes.length
    · have hcat : (c.codes[i]).cs = fCells c.codes[i] := fCells_eq _
      obtain ⟨_, kp, kc, _⟩ := k6 _ (List.getElem_mem hlt)
      have hR := hcodes i hlt
      obtain ⟨b, hbb, hbl, _⟩ := hR.body
      have hrp := hR.rp
      have hrc := hR.rc
      have hbad : (visitG c c.exprs.length (c.codes[i]).body.toNat (startB c c.codes[i])).1 = false → ¬ ScP c := fun h hh => by rw [hh i hlt] at h; cases h
      have hgd : (visitG c c.exprs.length (c.codes[i]).body.toNat (startB c c.codes[i])).1 = true → ∀ j (h : j < c.codes.length), j < i + 1 → (visitG c c.exprs.length (c.codes[j]).body.toNat (startB c c.codes[j])).1 = true := fun h j hj hji => by
        by_cases e : j = i
        · subst e; exact h
        · exact hok j hj (by omega)
      generalize hf : c.codes[i] = f at *
      rw [hbb, Int.toNat_natCast] at hbad hgd
      have g0 := vH0 H c S T M m
      have g5 := vH5 H c S T M m
      have g50 : ∀ J, (vH H c S T M m ++ J)[H.length + 5]? = J[0]? := fun J => by have := g5 0 J; simpa using this
      simp [zq12_b78, hlt, hf, hcat, fCells, g0, cCells]
      simp only [aMake, Int.toNat_natCast, bools_rep]
      refine ⟨⟨by omega, by omega, by omega, by omega⟩, ?_⟩
      simp [g0, g50, cCells]
      obtain ⟨B, hB⟩ : ∃ B, B = vH H c S T M m ++ [.cells [.str f.name, .sl (ints f.params) .none, .sl (ints f.capt) .none, .int .i64 f.res.kind, .int .i64 f.res.num, .sl (VT.css f.res.kids) .none, .int .i64 f.body]] := ⟨_, rfl⟩
      have hBl : B.length = H.length + 6 := by rw [hB]; simp
      have hset : ∀ st st', (B ++ [boB st]).set (H.length + 6) (boB st') = B ++ [boB st'] := fun st st' => by rw [← hBl]; simp
      have hget : ∀ st, (B ++ [boB st])[H.length + 6]? = some (boB st) := fun st => by rw [← hBl]; simp
      have hb0 : ∀ st, (B ++ [boB st])[H.length]? = some (.cells (cCells c)) := fun st => by rw [hB, List.append_assoc]; exact g0 _
      have hb5 : ∀ st, (B ++ [boB st])[H.length + 5]? = some (.cells [.str f.name, .sl (ints f.params) .none, .sl (ints f.capt) .none, .int .i64 f.res.kind, .int .i64 f.res.num, .sl (VT.css f.res.kids) .none, .int .i64 f.body]) := fun st => by rw [hB, List.append_assoc, g50]; rfl
      have hHB : ∀ st, vH H c S T M m ++ [.cells [.str f.name, .sl (ints f.params) .none, .sl (ints f.capt) .none, .int .i64 f.res.kind, .int .i64 f.res.num, .sl (VT.css f.res.kids) .none, .int .i64 f.body], .cells (bools st)] = B ++ [boB st] := fun st => by rw [hB]; simp [boB]
      rw [hHB]
      refine mark_spec (hget _) (by simp) (by omega) hrp _ ?_
      rw [hset]
      simp [hb5]
      refine mark_spec (hget _) (by simp) (by omega) hrc _ ?_
      rw [hset]
      simp [hb0, hb5, cCells, hbb]
      refine scoped_spec hp (fun i h => (hexprs i h).vars) c.exprs.length b (by omega) hbl (startB c f) _ _ (hget _) (by simp [startB]) _ ?_
      rw [hset]
      cases hv : (visitG c c.exprs.length b (startB c f)).1 with
      | false =>
        simp
        rw [hB, List.append_assoc]
        exact hbJ _ (by simp; exact hbad hv) _
      | true =>
        simp
        rw [wrap_in (by omega) (by omega), hB, List.append_assoc]
        refine hKb _ _ ⟨c.codes.length - (i + 1), by omega, Back.at (H2 := vH H c S T M m) rfl (by simp) (vH_sc hs _ _ _ _ _) ?_ ⟨_, rfl, i + 1, by omega, rfl, by simp, hgd hv, rfl⟩⟩
        simp [zq12_fr78, AV.sc, AV.scV, AV.scA, AV.scB]
    · obtain rfl : i = c.codes.length := by omega
      simp [zq12_b78]
      have := hbJ true (by simp; exact fun j hj => hok j hj hj) []
      simpa using this
structure RuP (c : Cor) : Prop where
  rules : ∀ i (h : i < c.exprs.length), refRule c c.exprs[i] = true
  sc : ScP c
theorem ref_72 {c : Cor} (hc : KCore c) (hvars : ∀ v ∈ c.vars, tyValid c.data 0 v = true) (hcodes : ∀ i (h : i < c.codes.length), RCode c i c.codes[i]) (hexprs : ∀ i (h : i < c.exprs.length), RExpr c i c.exprs[i]) {H : Heap} (hs : HSc H) {S T M : List Int} {m : Nat} (K : Kt) (hb : ∀ b : Bool, (b = true ↔ RuP c) → ∀ J, Out H.length K (.bool b) (H ++ J)) :
    zq12_l72 (.ptr H.length 0) (.int .i64 c.exprs.length) (.int .i64 0) (vH H c S T M m) (Out H.length K) := by
  have hbJ : ∀ b : Bool, (b = true ↔ RuP c) → ∀ J, Out H.length K (.bool b) (vH H c S T M m ++ J) := fun b h J => by rw [vH, List.append_assoc]; exact hb b h _
  have hc' := hc
  obtain ⟨k1, k2, k3, ⟨k4, k5⟩, k6, k7⟩ := hc
  have hex : ∀ i (h : i < c.exprs.length), ExIn c c.exprs[i] := fun i h => ⟨hc', k7 _ (List.getElem_mem h), (hexprs i h).vars, (hexprs i h).range, (hexprs i h).bk, (hexprs i h).binds, fun f hf => by
    obtain ⟨j, hj, rfl⟩ := List.getElem_of_mem hf
    exact ⟨(hcodes j hj).rp, (hcodes j hj).rc⟩, hvars⟩
  refine zq12_loop72 (Inv := fun q t311 H' => ∃ i : Nat, i ≤ c.exprs.length ∧ q = c.exprs.length - i ∧ t311 = .int .i64 i ∧ (∀ j (h : j < c.exprs.length), j < i → refRule c c.exprs[j] = true) ∧ H' = vH H c S T M m) c.exprs.length ?_ ?_
  · intro _; exact ⟨0, by omega, by omega, rfl, by omega, rfl⟩
  · rintro q t311 H' ⟨i, hi, rfl, rfl, hok, rfl⟩ hsc hlen hsF Kb hKb
    have g0 : ∀ h, (vH H c S T M m)[H.length]'h = .cells (cCells c) := fun h => by simp [vH]
    by_cases hlt : i < c.exprs.length
    · have hat : (c.exprs[i]).cs = [.int .i64 (c.exprs[i]).op, .int .i64 (c.exprs[i]).num, .sl (ints (c.exprs[i]).vars) .none, .sl (rows (c.exprs[i]).binds) .none, .sl (ints (c.exprs[i]).kids) .none, .int .i64 (c.exprs[i]).ty.kind, .int .i64 (c.exprs[i]).ty.num, .sl (VT.css (c.exprs[i]).ty.kids) .none] := by rw [CEx.cs, cs_eq]
      have hcc : c.cs = [.sl (c.data.map Dat.cs) .none, .sl (c.codes.map Cod.cs) .none, .sl (VT.css c.vars) .none, .sl (c.exprs.map CEx.cs) .none] := rfl
      simp [zq12_b72, hlt, g0, cCells, hat, eCells]
      rw [← hcc, ← hat]
      refine aDet_call (.bool (refRule c c.exprs[i])) _ (rule_spec (hex i hlt) (fun h => by obtain ⟨h1, h2⟩ := (hexprs i hlt).lam h; exact ⟨(c.exprs[i]).num.toNat, by omega, by omega⟩) _ _ ⟨rfl, rfl⟩) ?_
      cases hr : refRule c c.exprs[i] with
      | false =>
        simp
        have := hbJ false (by simp; intro h; have := h.rules i hlt; rw [hr] at this; cases this) []
        simpa using this
      | true =>
        simp
        rw [wrap_in (by omega) (by omega)]
        refine hKb _ _ ⟨c.exprs.length - (i + 1), by omega, Back.here (by simp) (vH_sc hs _ _ _ _ _) ?_ ⟨_, rfl, i + 1, by omega, rfl, by simp, fun j hj hji => ?_, rfl⟩⟩
        · simp [zq12_fr72, AV.sc, AV.scV, AV.scA, AV.scB]
        · by_cases e : j = i
          · subst e; exact hr
          · exact hok j hj (by omega)
    · obtain rfl : i = c.exprs.length := by omega
      simp [zq12_b72, g0, cCells]
      refine ref_78 hc' hcodes hexprs hs K fun b h J => hb b ?_ J
      rw [h]
      exact ⟨fun h => ⟨fun j hj => hok j hj hj, h⟩, fun h => h.sc⟩
structure MaP (c : Cor) (M : List Int) : Prop where
  made : ∀ i (h : i < c.codes.length), M.count (i : Int) = if (c.codes[i]).name = [] then 1 else 0
  ru : RuP c
theorem ref_66 {c : Cor} (hc : KCore c) (hvars : ∀ v ∈ c.vars, tyValid c.data 0 v = true) (hcodes : ∀ i (h : i < c.codes.length), RCode c i c.codes[i]) (hexprs : ∀ i (h : i < c.exprs.length), RExpr c i c.exprs[i]) {H : Heap} (hs : HSc H) {S T M : List Int} {m : Nat} (K : Kt) (hb : ∀ b : Bool, (b = true ↔ MaP c M) → ∀ J, Out H.length K (.bool b) (H ++ J)) :
    zq12_l66 (.ptr H.length 0) (.ms (H.length + 3) 0 c.codes.length c.codes.length) (.int .i64 c.codes.length) (.int .i64 0) (vH H c S T M m) (Out H.length K) := by
  have hF : ¬ MaP c M → Out H.length K (.bool false) (vH H c S T M m) := fun h => by have := hb false (by simp [h]) [.cells (cCells c), usB (cnt c.vars.length S), usB (cnt c.exprs.length T), usB (cnt c.codes.length M), .perm e_string 1 m]; exact this
  have hc' := hc
  obtain ⟨k1, k2, k3, ⟨k4, k5⟩, k6, k7⟩ := hc
  refine zq12_loop66 (Inv := fun q t278 H' => ∃ i : Nat, i ≤ c.codes.length ∧ q = c.codes.length - i ∧ t278 = .int .i64 i ∧ (∀ j (h : j < c.codes.length), j < i → M.count (j : Int) = if (c.codes[j]).name = [] then 1 else 0) ∧ H' = vH H c S T M m) c.codes.length ?_ ?_
  · intro _; exact ⟨0, by omega, by omega, rfl, by omega, rfl⟩
  · rintro q t278 H' ⟨i, hi, rfl, rfl, hok, rfl⟩ hsc hlen hsF Kb hKb
    have g0 : ∀ h, (vH H c S T M m)[H.length]'h = .cells (cCells c) := fun h => by simp [vH]
    have g3 : ∀ h, (vH H c S T M m)[H.length + 3]'h = .cells ((cnt c.codes.length M).map fun n => .int .i64 n) := fun h => by simp [vH, usB]
    by_cases hlt : i < c.codes.length
    · have hel : i < (cnt c.codes.length M).length := by simpa using hlt
      have hcat : (c.codes[i]).cs = fCells c.codes[i] := fCells_eq _
      have hu1 : ∀ k : AV → Prop, aCells false 1 i ((cnt c.codes.length M).map fun n => AV.int .i64 n) k = k (.int .i64 ((M.count (i : Int) : Nat) : Int)) := fun k => by rw [aCells_one 1 (us_at hel), cnt_get]
      have good : (M.count (i : Int) = if (c.codes[i]).name = [] then 1 else 0) → Kb (zq12_fr66 (.ptr H.length 0) (.ms (H.length + 3) 0 c.codes.length c.codes.length) (.int .i64 c.codes.length) (.int .i64 ((i : Int) + 1))) (vH H c S T M m) := fun h => by
        refine hKb _ _ ⟨c.codes.length - (i + 1), by omega, Back.here (by simp) (vH_sc hs _ _ _ _ _) ?_ ⟨_, rfl, i + 1, by omega, rfl, by simp, fun j hj hji => ?_, rfl⟩⟩
        · simp [zq12_fr66, AV.sc, AV.scV, AV.scA, AV.scB]
        · by_cases e : j = i
          · subst e; exact h
          · exact hok j hj (by omega)
      have bad : ¬ (M.count (i : Int) = if (c.codes[i]).name = [] then 1 else 0) → ¬ MaP c M := fun h hh => h (hh.made i hlt)
      cases hnm : (c.codes[i]).name.isEmpty with
      | true =>
        have hn : (c.codes[i]).name = [] := by simpa using hnm
        rw [if_pos hn] at good bad
        by_cases h1 : M.count (i : Int) = 1
        · have h1' : ((M.count (i : Int) : Int) != 1) = false := by simp [h1]
          simp [zq12_b66, hlt, g0, g3, hu1, cCells, hcat, fCells, hnm, h1']
          rw [wrap_in (by omega) (by omega)]
          exact good h1
        · have h1' : ((M.count (i : Int) : Int) != 1) = true := nbt (by omega)
          simp [zq12_b66, hlt, g0, g3, hu1, cCells, hcat, fCells, hnm, h1']
          exact hF (bad h1)
      | false =>
        have hn : (c.codes[i]).name ≠ [] := by intro h; simp [h] at hnm
        rw [if_neg hn] at good bad
        by_cases h1 : M.count (i : Int) = 0
        · have h1' : ((M.count (i : Int) : Int) != 0) = false := by simp [h1]
          simp [zq12_b66, hlt, g0, g3, hu1, cCells, hcat, fCells, hnm, h1']
          rw [wrap_in (by omega) (by omega)]
          exact good h1
        · have h1' : ((M.count (i : Int) : Int) != 0) = true := nbt (by omega)
          simp [zq12_b66, hlt, g0, g3, hu1, cCells, hcat, fCells, hnm, h1']
          exact hF (bad h1)
    · obtain rfl : i = c.codes.length := by omega
      simp [zq12_b66, g0, cCells]
      refine ref_72 hc' hvars hcodes hexprs hs K fun b h J => hb b ?_ J
      rw [h]
      exact ⟨fun h => ⟨fun j hj => hok j hj hj, h⟩, fun h => h.ru⟩
structure PlP (c : Cor) (T M : List Int) : Prop where
  placed : ∀ v : Nat, v < c.exprs.length → T.count (v : Int) = 1
  ma : MaP c M
theorem ref_60 {c : Cor} (hc : KCore c) (hvars : ∀ v ∈ c.vars, tyValid c.data 0 v = true) (hcodes : ∀ i (h : i < c.codes.length), RCode c i c.codes[i]) (hexprs : ∀ i (h : i < c.exprs.length), RExpr c i c.exprs[i]) {H : Heap} (hs : HSc H) {S T M : List Int} {m : Nat} (K : Kt) (hb : ∀ b : Bool, (b = true ↔ PlP c T M) → ∀ J, Out H.length K (.bool b) (H ++ J)) :
    zq12_l60 (.ptr H.length 0) (.ms (H.length + 3) 0 c.codes.length c.codes.length) (.ms (H.length + 2) 0 c.exprs.length c.exprs.length) (.int .i64 c.exprs.length) (.int .i64 0) (vH H c S T M m) (Out H.length K) := by
  have hF : ¬ PlP c T M → Out H.length K (.bool false) (vH H c S T M m) := fun h => by have := hb false (by simp [h]) [.cells (cCells c), usB (cnt c.vars.length S), usB (cnt c.exprs.length T), usB (cnt c.codes.length M), .perm e_string 1 m]; exact this
  have hc' := hc
  obtain ⟨k1, k2, k3, ⟨k4, k5⟩, k6, k7⟩ := hc
  refine zq12_loop60 (Inv := fun q t269 H' => ∃ i : Nat, i ≤ c.exprs.length ∧ q = c.exprs.length - i ∧ t269 = .int .i64 i ∧ (∀ j, j < i → T.count (j : Int) = 1) ∧ H' = vH H c S T M m) c.exprs.length ?_ ?_
  · intro _; exact ⟨0, by omega, by omega, rfl, by omega, rfl⟩
  · rintro q t269 H' ⟨i, hi, rfl, rfl, hok, rfl⟩ hsc hlen hsF Kb hKb
    have g3 : ∀ h, (vH H c S T M m)[H.length + 2]'h = .cells ((cnt c.exprs.length T).map fun n => .int .i64 n) := fun h => by simp [vH, usB]
    by_cases hlt : i < c.exprs.length
    · have hel : i < (cnt c.exprs.length T).length := by simpa using hlt
      have hu1 : ∀ k : AV → Prop, aCells false 1 i ((cnt c.exprs.length T).map fun n => AV.int .i64 n) k = k (.int .i64 ((T.count (i : Int) : Nat) : Int)) := fun k => by rw [aCells_one 1 (us_at hel), cnt_get]
      by_cases h1 : T.count (i : Int) = 1
      · have h1' : ((T.count (i : Int) : Int) != 1) = false := by simp [h1]
        simp [zq12_b60, hlt, g3, hu1, h1']
        rw [wrap_in (by omega) (by omega)]
        refine hKb _ _ ⟨c.exprs.length - (i + 1), by omega, Back.here (by simp) (vH_sc hs _ _ _ _ _) ?_ ⟨_, rfl, i + 1, by omega, rfl, by simp, fun j hji => ?_, rfl⟩⟩
        · simp [zq12_fr60, AV.sc, AV.scV, AV.scA, AV.scB]
        · by_cases e : j = i
          · subst e; exact h1
          · exact hok j (by omega)
      · have h1' : ((T.count (i : Int) : Int) != 1) = true := nbt (by omega)
        simp [zq12_b60, hlt, g3, hu1, h1']
        exact hF fun h => h1 (h.placed i hlt)
    · obtain rfl : i = c.exprs.length := by omega
      simp [zq12_b60]
      refine ref_66 hc' hvars hcodes hexprs hs K fun b h J => hb b ?_ J
      rw [h]
      exact ⟨fun h => ⟨hok, h⟩, fun h => h.ma⟩
structure BoP (c : Cor) (S T M : List Int) : Prop where
  bound : ∀ v : Nat, v < c.vars.length → S.count (v : Int) = 1
  pl : PlP c T M
theorem ref_54 {c : Cor} (hc : KCore c) (hvars : ∀ v ∈ c.vars, tyValid c.data 0 v = true) (hcodes : ∀ i (h : i < c.codes.length), RCode c i c.codes[i]) (hexprs : ∀ i (h : i < c.exprs.length), RExpr c i c.exprs[i]) {H : Heap} (hs : HSc H) {S T M : List Int} {m : Nat} (K : Kt) (hb : ∀ b : Bool, (b = true ↔ BoP c S T M) → ∀ J, Out H.length K (.bool b) (H ++ J)) :
    zq12_l54 (.ptr H.length 0) (.ms (H.length + 2) 0 c.exprs.length c.exprs.length) (.ms (H.length + 3) 0 c.codes.length c.codes.length) (.ms (H.length + 1) 0 c.vars.length c.vars.length) (.int .i64 c.vars.length) (.int .i64 0) (vH H c S T M m) (Out H.length K) := by
  have hF : ¬ BoP c S T M → Out H.length K (.bool false) (vH H c S T M m) := fun h => by have := hb false (by simp [h]) [.cells (cCells c), usB (cnt c.vars.length S), usB (cnt c.exprs.length T), usB (cnt c.codes.length M), .perm e_string 1 m]; exact this
  have hc' := hc
  obtain ⟨k1, k2, k3, ⟨k4, k5⟩, k6, k7⟩ := hc
  refine zq12_loop54 (Inv := fun q t260 H' => ∃ i : Nat, i ≤ c.vars.length ∧ q = c.vars.length - i ∧ t260 = .int .i64 i ∧ (∀ j, j < i → S.count (j : Int) = 1) ∧ H' = vH H c S T M m) c.vars.length ?_ ?_
  · intro _; exact ⟨0, by omega, by omega, rfl, by omega, rfl⟩
  · rintro q t260 H' ⟨i, hi, rfl, rfl, hok, rfl⟩ hsc hlen hsF Kb hKb
    have g3 : ∀ h, (vH H c S T M m)[H.length + 1]'h = .cells ((cnt c.vars.length S).map fun n => .int .i64 n) := fun h => by simp [vH, usB]
    by_cases hlt : i < c.vars.length
    · have hel : i < (cnt c.vars.length S).length := by simpa using hlt
      have hu1 : ∀ k : AV → Prop, aCells false 1 i ((cnt c.vars.length S).map fun n => AV.int .i64 n) k = k (.int .i64 ((S.count (i : Int) : Nat) : Int)) := fun k => by rw [aCells_one 1 (us_at hel), cnt_get]
      by_cases h1 : S.count (i : Int) = 1
      · have h1' : ((S.count (i : Int) : Int) != 1) = false := by simp [h1]
        simp [zq12_b54, hlt, g3, hu1, h1']
        rw [wrap_in (by omega) (by omega)]
        refine hKb _ _ ⟨c.vars.length - (i + 1), by omega, Back.here (by simp) (vH_sc hs _ _ _ _ _) ?_ ⟨_, rfl, i + 1, by omega, rfl, by simp, fun j hji => ?_, rfl⟩⟩
        · simp [zq12_fr54, AV.sc, AV.scV, AV.scA, AV.scB]
        · by_cases e : j = i
          · subst e; exact h1
          · exact hok j (by omega)
      · have h1' : ((S.count (i : Int) : Int) != 1) = true := nbt (by omega)
        simp [zq12_b54, hlt, g3, hu1, h1']
        exact hF fun h => h1 (h.bound i hlt)
    · obtain rfl : i = c.vars.length := by omega
      simp [zq12_b54]
      refine ref_60 hc' hvars hcodes hexprs hs K fun b h J => hb b ?_ J
      rw [h]
      exact ⟨fun h => ⟨hok, h⟩, fun h => h.pl⟩
theorem parsTo_le {c : Cor} (hc : KCore c) (i : Nat) : (parsTo c i).length ≤ 1200 := by
  obtain ⟨k1, k2, k3, ⟨k4, k5⟩, k6, k7⟩ := hc
  have h := flat_len (fun f : Cod => f.params ++ f.capt) 50 (c.codes.take i) (fun f hf => by
    obtain ⟨_, h1, h2, _⟩ := k6 f (List.mem_of_mem_take hf)
    rw [List.length_append]; omega)
  have h2 : (c.codes.take i).length * 50 ≤ 24 * 50 := Nat.mul_le_mul_right _ (by rw [List.length_take]; omega)
  rw [parsTo]; omega
theorem flatten_le (l : List (List Int)) (h : ∀ r ∈ l, r.length ≤ 10) : l.flatten.length ≤ l.length * 10 := by
  have := flat_len (fun r : List Int => r) 10 l h
  simpa [List.flatMap] using this
theorem bindsTo_le {c : Cor} (hc : KCore c) (i : Nat) : (bindsTo c i).length ≤ 16000 := by
  obtain ⟨k1, k2, k3, ⟨k4, k5⟩, k6, k7⟩ := hc
  have h := flat_len (fun e : CEx => e.binds.flatten) 100 (c.exprs.take i) (fun e he => by
    obtain ⟨_, h1, _, _, h2⟩ := k7 e (List.mem_of_mem_take he)
    have := flatten_le e.binds h2
    have : e.binds.length * 10 ≤ 10 * 10 := Nat.mul_le_mul_right _ h1
    omega)
  have h2 : (c.exprs.take i).length * 100 ≤ 160 * 100 := Nat.mul_le_mul_right _ (by rw [List.length_take]; omega)
  rw [bindsTo]; omega
theorem kidsTo_le {c : Cor} (hc : KCore c) (i : Nat) : (kidsTo c i).length ≤ 1600 := by
  obtain ⟨k1, k2, k3, ⟨k4, k5⟩, k6, k7⟩ := hc
  have h := flat_len CEx.kids 10 (c.exprs.take i) (fun e he => (k7 e (List.mem_of_mem_take he)).2.2.1)
  have h2 : (c.exprs.take i).length * 10 ≤ 160 * 10 := Nat.mul_le_mul_right _ (by rw [List.length_take]; omega)
  rw [kidsTo]; omega
theorem bodies_le {c : Cor} (hc : KCore c) (i : Nat) : (bodies c i).length ≤ 24 := by
  obtain ⟨k1, k2, k3, ⟨k4, k5⟩, k6, k7⟩ := hc
  simp [bodies]; omega
theorem kidsTo_snoc {c : Cor} {i : Nat} (h : i < c.exprs.length) : kidsTo c (i + 1) = kidsTo c i ++ (c.exprs[i]).kids := by
  rw [kidsTo, take_snoc h, List.flatMap_append]; simp [kidsTo]
theorem lamsOf_snoc {c : Cor} {i : Nat} (h : i < c.exprs.length) : lamsOf (c.exprs.take (i + 1)) = lamsOf (c.exprs.take i) ++ (if (c.exprs[i]).op = 11 then [(c.exprs[i]).num] else []) := by
  rw [lamsOf, take_snoc h, List.filter_append, List.map_append, lamsOf]
  by_cases h1 : (c.exprs[i]).op = 11
  · simp [h1]
  · simp [h1]
theorem lamsOf_le (l : List CEx) : (lamsOf l).length ≤ l.length := by
  rw [lamsOf, List.length_map]; exact List.length_filter_le _ _
structure ExP (c : Cor) : Prop where
  exprs : ∀ i (h : i < c.exprs.length), RExpr c i c.exprs[i]
  bo : BoP c (allV c) (allE c) (lamsOf c.exprs)
theorem ref_26 {c : Cor} (hc : KCore c) (hvars : ∀ v ∈ c.vars, tyValid c.data 0 v = true) (hcodes : ∀ i (h : i < c.codes.length), RCode c i c.codes[i]) {H : Heap} (hs : HSc H) {m : Nat} (K : Kt) (hb : ∀ b : Bool, (b = true ↔ ExP c) → ∀ J, Out H.length K (.bool b) (H ++ J)) :
    zq12_l26 (.ptr H.length 0) (.ms (H.length + 1) 0 c.vars.length c.vars.length) (.ms (H.length + 2) 0 c.exprs.length c.exprs.length) (.ms (H.length + 3) 0 c.codes.length c.codes.length) (.sl (c.exprs.map CEx.cs) .none) (.int .i64 c.exprs.length) (.int .i64 0)
      (vH H c (parsTo c c.codes.length) (bodies c c.codes.length) [] m) (Out H.length K) := by
  have hF : ¬ ExP c → ∀ S T M J, Out H.length K (.bool false) (vH H c S T M m ++ J) := fun h S T M J => by rw [vH, List.append_assoc]; exact hb false (by simp [h]) _
  have hc' := hc
  obtain ⟨k1, k2, k3, ⟨k4, k5⟩, k6, k7⟩ := hc
  have lp := parsTo_le hc' c.codes.length
  have lb := bodies_le hc' c.codes.length
  refine zq12_loop26 (Inv := fun q t177 H' => ∃ i : Nat, i ≤ c.exprs.length ∧ q = c.exprs.length - i ∧ t177 = .int .i64 i ∧ (∀ j (h : j < c.exprs.length), j < i → RExpr c j c.exprs[j]) ∧ H' = vH H c (parsTo c c.codes.length ++ bindsTo c i) (bodies c c.codes.length ++ kidsTo c i) (lamsOf (c.exprs.take i)) m) c.exprs.length ?_ ?_
  · intro _; exact ⟨0, by omega, by omega, rfl, by omega, by simp [bindsTo, kidsTo, lamsOf]⟩
  rintro q t177 H' ⟨i, hi, rfl, rfl, hok, rfl⟩ hsc hlen hsF Kb hKb
  have lbi := bindsTo_le hc' i
  have lki := kidsTo_le hc' i
  have lmi := lamsOf_le (c.exprs.take i)
  rw [List.length_take] at lmi
  by_cases hlt : i < c.exprs.length
  · have hbad : ¬ RExpr c i c.exprs[i] → ∀ S T M J, Out H.length K (.bool false) (vH H c S T M m ++ J) := fun h => hF fun hh => h (hh.exprs i hlt)
    have hbs := bindsTo_succ hlt
    have hks := kidsTo_snoc hlt
    have hls := lamsOf_snoc hlt
    obtain ⟨kv, kb, kk, _, kbl⟩ := k7 _ (List.getElem_mem hlt)
    have hat : (c.exprs[i]).cs = [.int .i64 (c.exprs[i]).op, .int .i64 (c.exprs[i]).num, .sl (ints (c.exprs[i]).vars) .none, .sl (rows (c.exprs[i]).binds) .none, .sl (ints (c.exprs[i]).kids) .none, .int .i64 (c.exprs[i]).ty.kind, .int .i64 (c.exprs[i]).ty.num, .sl (VT.css (c.exprs[i]).ty.kids) .none] := by rw [CEx.cs, cs_eq]
    have hgood : RExpr c i c.exprs[i] → ∀ j (h : j < c.exprs.length), j < i + 1 → RExpr c j c.exprs[j] := fun h j hj hji => by
      by_cases e : j = i
      · subst e; exact h
      · exact hok j hj (by omega)
    generalize hE : c.exprs[i] = E at *
    generalize hS : parsTo c c.codes.length ++ bindsTo c i = S at *
    generalize hT : bodies c c.codes.length ++ kidsTo c i = T at *
    generalize hM : lamsOf (c.exprs.take i) = M at *
    have lS : S.length ≤ 20000 := by rw [← hS, List.length_append]; omega
    have lT : T.length ≤ 2000 := by rw [← hT, List.length_append]; omega
    have lfl : ∀ j, (E.binds.take j).flatten.length ≤ 100 := fun j => by
      have := flatten_le (E.binds.take j) (fun r hr => kbl r (List.mem_of_mem_take hr))
      have : (E.binds.take j).length * 10 ≤ 10 * 10 := Nat.mul_le_mul_right _ (by rw [List.length_take]; omega)
      omega
    obtain ⟨X, hX⟩ : ∃ X, X = AB.cells [.int .i64 E.op, .int .i64 E.num, .sl (ints E.vars) .none, .sl (rows E.binds) .none, .sl (ints E.kids) .none, .int .i64 E.ty.kind, .int .i64 E.ty.num, .sl (VT.css E.ty.kids) .none] := ⟨_, rfl⟩
    have g5 : ∀ S T M, (vH H c S T M m ++ [X])[H.length + 5]? = some X := fun S T M => by have := vH5 H c S T M m 0 [X]; rw [Nat.add_zero] at this; exact this
    have hscX : ∀ S T M, HSc (vH H c S T M m ++ [X]) := fun S T M => (vH_sc hs c S T M m).snoc (by rw [hX]; simp [AB.sc, AV.scA, AV.scB])
    simp [zq12_b26, hlt, hE, hat]
    rw [← hX]
    refine zq12_loop29 (Inv := fun q t185 H' => ∃ j : Nat, j ≤ E.kids.length ∧ q = E.kids.length - j ∧ t185 = .int .i64 j ∧ (∀ k ∈ E.kids.take j, (i : Int) < k) ∧ H' = vH H c S T M m ++ [X]) E.kids.length ?_ ?_
    · intro _; exact ⟨0, by omega, by omega, rfl, by simp, rfl⟩
    rintro q t185 H' ⟨j, hj, rfl, rfl, hk1, rfl⟩ hsc1 hlen1 hsF1 Kb1 hKb1
    by_cases hjl : j < E.kids.length
    · by_cases hle : E.kids[j] ≤ i
      · simp [zq12_b29, hjl, hle]
        exact hbad (fun h => by have := h.kids _ (List.getElem_mem hjl); omega) _ _ _ _
      · simp [zq12_b29, hjl, hle]
        rw [wrap_in (by omega) (by omega)]
        refine hKb1 _ _ ⟨E.kids.length - (j + 1), by omega, Back.here (by simp) (hscX _ _ _) ?_ ⟨_, rfl, j + 1, by omega, rfl, by simp, mem_take_succ hjl hk1 (by omega), rfl⟩⟩
        simp [zq12_fr29, AV.sc, AV.scV, AV.scA, AV.scB]; omega
    obtain rfl : j = E.kids.length := by omega
    rw [List.take_length] at hk1
    simp [zq12_b29, g5]
    rw [hX]
    simp
    rw [← hX]
    refine count_det (vH2 _ _ _ _ _ _ _) (by omega) _ (fun hr => ?_) (fun hr => ?_)
    rotate_left
    · rw [vHs2]
      simp
      exact hbad (fun h => hr h.range) _ _ _ _
    rw [vHs2]
    by_cases hbk : E.binds.length ≠ E.kids.length
    · have h1 : ((E.binds.length : Int) != E.kids.length) = true := nbt (by omega)
      simp [g5]
      rw [hX]
      simp [h1]
      exact hbad (fun h => hbk h.bk) _ _ _ _
    have hbk' : E.binds.length = E.kids.length := by omega
    have h1 : ((E.binds.length : Int) != E.kids.length) = false := by simp [hbk']
    simp [g5]
    rw [hX]
    simp [h1, hbk']
    rw [← hX, ← hbk']
    refine zq12_loop37 (Inv := fun q t210 H' => ∃ j : Nat, j ≤ E.binds.length ∧ q = E.binds.length - j ∧ t210 = .int .i64 j ∧ (∀ l ∈ E.binds.take j, inV c l) ∧ H' = vH H c (S ++ (E.binds.take j).flatten) (T ++ E.kids) M m ++ [X]) E.binds.length ?_ ?_
    · intro _; exact ⟨0, by omega, by omega, rfl, by simp, by simp⟩
    rintro q t210 H' ⟨j, hj, rfl, rfl, hb2, rfl⟩ hsc2 hlen2 hsF2 Kb2 hKb2
    by_cases hjl : j < E.binds.length
    · have hbl := kbl _ (List.getElem_mem hjl)
      have hfl := lfl j
      simp [zq12_b37, hjl]
      refine count_det (vH1 _ _ _ _ _ _ _) (by rw [List.length_append]; omega) _ (fun hr => ?_) (fun hr => ?_)
      · rw [vHs1]
        simp
        rw [wrap_in (by omega) (by omega)]
        have hnx : S ++ ((E.binds.take j).flatten ++ E.binds[j]) = S ++ (E.binds.take (j + 1)).flatten := by
          rw [take_snoc hjl, List.flatten_append]; simp
        rw [hnx]
        refine hKb2 _ _ ⟨E.binds.length - (j + 1), by omega, Back.here (by simp) (hscX _ _ _) ?_ ⟨_, rfl, j + 1, by omega, rfl, by simp, mem_take_succ hjl hb2 hr, rfl⟩⟩
        simp [zq12_fr37, AV.sc, AV.scV, AV.scA, AV.scB]; omega
      · rw [vHs1]
        simp
        exact hbad (fun h => hr (h.binds _ (List.getElem_mem hjl))) _ _ _ _
    obtain rfl : j = E.binds.length := by omega
    rw [List.take_length] at *
    simp [zq12_b37, g5]
    rw [hX]
    simp
    rw [← hX]
    refine zq12_loop43 (Inv := fun q t222 H' => ∃ j : Nat, j ≤ E.vars.length ∧ q = E.vars.length - j ∧ t222 = .int .i64 j ∧ (∀ x ∈ E.vars.take j, 0 ≤ x ∧ x < (c.vars.length : Int)) ∧ H' = vH H c (S ++ E.binds.flatten) (T ++ E.kids) M m ++ [X]) E.vars.length ?_ ?_
    · intro _; exact ⟨0, by omega, by omega, rfl, by simp, rfl⟩
    rintro q t222 H' ⟨j, hj, rfl, rfl, hv1, rfl⟩ hsc3 hlen3 hsF3 Kb3 hKb3
    have g0 := vH0 H c (S ++ E.binds.flatten) (T ++ E.kids) M m
    by_cases hjl : j < E.vars.length
    · by_cases h0 : E.vars[j] < 0
      · simp [zq12_b43, hjl, h0]
        exact hbad (fun h => by have := h.vars _ (List.getElem_mem hjl); omega) _ _ _ _
      by_cases hge : (c.vars.length : Int) ≤ E.vars[j]
      · simp [zq12_b43, hjl, h0, g0, cCells, hge]
        exact hbad (fun h => by have := h.vars _ (List.getElem_mem hjl); omega) _ _ _ _
      simp [zq12_b43, hjl, h0, g0, cCells, hge]
      rw [wrap_in (by omega) (by omega)]
      refine hKb3 _ _ ⟨E.vars.length - (j + 1), by omega, Back.here (by simp) (hscX _ _ _) ?_ ⟨_, rfl, j + 1, by omega, rfl, by simp, mem_take_succ hjl hv1 (by omega), rfl⟩⟩
      simp [zq12_fr43, AV.sc, AV.scV, AV.scA, AV.scB]; omega
    obtain rfl : j = E.vars.length := by omega
    rw [List.take_length] at hv1
    have back : ∀ M', lamsOf (c.exprs.take (i + 1)) = M' → RExpr c i E → zq12_j5 (.ptr H.length 0) (.ms (H.length + 1) 0 c.vars.length c.vars.length) (.ms (H.length + 2) 0 c.exprs.length c.exprs.length) (.ms (H.length + 3) 0 c.codes.length c.codes.length) (.sl (c.exprs.map CEx.cs) .none) (.int .i64 c.exprs.length) (.int .i64 i) (vH H c (S ++ E.binds.flatten) (T ++ E.kids) M' m ++ [X]) (Out H.length K) Kb := fun M' hM' hR => by
      simp [zq12_j5, zq12_j6]
      rw [wrap_in (by omega) (by omega)]
      refine hKb _ _ ⟨c.exprs.length - (i + 1), by omega, Back.at (J := [X]) (H2 := vH H c (S ++ E.binds.flatten) (T ++ E.kids) M' m) rfl (by simp) (vH_sc hs _ _ _ _ _) ?_ ⟨_, rfl, i + 1, by omega, rfl, by simp, hgood hR, ?_⟩⟩
      · simp [zq12_fr26, AV.sc, AV.scV, AV.scA, AV.scB]
      · rw [hM', hbs, hks, ← List.append_assoc, hS, ← List.append_assoc, hT]
    by_cases h11 : E.op = 11
    · rw [if_pos h11] at hls
      by_cases hn0 : E.num < 0
      · simp [zq12_b43, g5]
        rw [hX]
        simp [h11, hn0]
        exact hbad (fun h => by have := (h.lam h11).1; omega) _ _ _ _
      by_cases hnc : (c.codes.length : Int) ≤ E.num
      · simp [zq12_b43, g5, g0, cCells]
        rw [hX]
        simp [h11, hn0, g0, cCells, hnc]
        exact hbad (fun h => by have := (h.lam h11).2; omega) _ _ _ _
      obtain ⟨n, hn⟩ : ∃ n : Nat, E.num = n := ⟨E.num.toNat, by omega⟩
      have hnl : n < c.codes.length := by omega
      have hel : n < (cnt c.codes.length M).length := by simpa using hnl
      have hu1 : ∀ k : AV → Prop, aCells false 1 n ((cnt c.codes.length M).map fun n => AV.int .i64 n) k = k (.int .i64 ((M.count (n : Int) : Nat) : Int)) := fun k => by rw [aCells_one 1 (us_at hel), cnt_get]
      have hce := List.count_le_length (a := (n : Int)) (l := M)
      have g3 : ∀ J, (vH H c (S ++ E.binds.flatten) (T ++ E.kids) M m ++ J)[H.length + 3]? = some (.cells ((cnt c.codes.length M).map fun n => .int .i64 n)) := fun J => vH3 _ _ _ _ _ _ _
      have := back (M ++ [E.num]) hls ⟨hk1, hr, hbk', hb2, hv1, fun _ => by omega⟩
      have hn0' : ¬ (n : Int) < 0 := by omega
      have hnc' : ¬ c.codes.length ≤ n := by omega
      have hs3 : ∀ M', (vH H c (S ++ E.binds.flatten) (T ++ E.kids) M m).set (H.length + 3) (.cells ((cnt c.codes.length M').map fun n => .int .i64 n)) = vH H c (S ++ E.binds.flatten) (T ++ E.kids) M' m := fun M' => by simp [vH, usB]
      have g3' : ∀ h, (vH H c (S ++ E.binds.flatten) (T ++ E.kids) M m)[H.length + 3]'h = .cells ((cnt c.codes.length M).map fun n => .int .i64 n) := fun h => by simp [vH, usB]
      rw [hn] at this
      simp [zq12_b43, g5]
      rw [hX]
      simp [h11, hn, hn0', hnc', hnl]
      rw [← hn, ← h11, ← hX]
      simp [g0, cCells, hn, hnc', g3', hu1]
      rw [wrap_in (by omega) (by omega), us_set hel, cnt_set M hnl, hs3]
      exact ⟨by omega, this⟩
    · rw [if_neg h11, List.append_nil] at hls
      have := back M hls ⟨hk1, hr, hbk', hb2, hv1, fun h => absurd h h11⟩
      simp [zq12_b43, g5]
      rw [hX]
      simp [nb h11]
      rw [← hX]
      exact this
  obtain rfl : i = c.exprs.length := by omega
  rw [List.take_length] at *
  simp [zq12_b26]
  rw [← allV_eq, ← allE_eq]
  refine ref_54 hc' hvars hcodes (fun j hj => hok j hj hj) hs K fun b h J => hb b ?_ J
  rw [h]
  exact ⟨fun h => ⟨fun j hj => hok j hj hj, h⟩, fun h => h.bo⟩
theorem nms_snoc {c : Cor} {i : Nat} (h : i < c.codes.length) : nms (c.codes.take (i + 1)) = nms (c.codes.take i) ++ (if (c.codes[i]).name.isEmpty = true then [] else [(c.codes[i]).name]) := by
  rw [nms, take_snoc h, List.map_append, List.filter_append, nms]
  cases h1 : (c.codes[i]).name.isEmpty <;> simp [h1]
theorem nms_le (l : List Cod) : (nms l).length ≤ l.length := by
  rw [nms]; exact Nat.le_trans (List.length_filter_le _ _) (by simp)
theorem bodies_snoc {c : Cor} {i : Nat} (h : i < c.codes.length) : bodies c (i + 1) = bodies c i ++ [(c.codes[i]).body] := by
  rw [bodies, take_snoc h, List.map_append]; rfl
theorem buildS_int1 {m : Int} {k : AV → Prop} : aBuildS 1 [.int .i64 0] 1 [(0, .int .i64 m)] k = k (.sl (ints [m]) .full) := propext Iff.rfl
structure CoP (c : Cor) : Prop where
  codes : ∀ i (h : i < c.codes.length), RCode c i c.codes[i]
  names : (nms c.codes).Nodup
  ex : ExP c
theorem ref_14 {c : Cor} (hc : KCore c) (hvars : ∀ v ∈ c.vars, tyValid c.data 0 v = true) {H : Heap} (hs : HSc H) (K : Kt) (hb : ∀ b : Bool, (b = true ↔ CoP c) → ∀ J, Out H.length K (.bool b) (H ++ J)) :
    zq12_l14 (.ptr H.length 0) (.ms (H.length + 1) 0 c.vars.length c.vars.length) (.ms (H.length + 2) 0 c.exprs.length c.exprs.length) (.ms (H.length + 3) 0 c.codes.length c.codes.length) (.sl [] (.own (H.length + 4))) (.sl (c.codes.map Cod.cs) .none) (.int .i64 c.codes.length) (.int .i64 0)
      (vH H c [] [] [] 0) (Out H.length K) := by
  have hF : ¬ CoP c → ∀ S T M m J, Out H.length K (.bool false) (vH H c S T M m ++ J) := fun h S T M m J => by rw [vH, List.append_assoc]; exact hb false (by simp [h]) _
  have hc' := hc
  obtain ⟨k1, k2, k3, ⟨k4, k5⟩, k6, k7⟩ := hc
  refine zq12_loop14 (Inv := fun q t8 t79 H' => ∃ i : Nat, i ≤ c.codes.length ∧ q = c.codes.length - i ∧ t79 = .int .i64 i ∧ t8 = .sl (strs (nms (c.codes.take i))) (.own (H.length + 4)) ∧ (∀ j (h : j < c.codes.length), j < i → RCode c j c.codes[j]) ∧ H' = vH H c (parsTo c i) (bodies c i) [] (nms (c.codes.take i)).length) c.codes.length ?_ ?_
  · intro _; exact ⟨0, by omega, by omega, rfl, by simp [nms, strs], by omega, by simp [nms, parsTo, bodies]⟩
  rintro q t8 t79 H' ⟨i, hi, rfl, rfl, rfl, hok, rfl⟩ hsc hlen hsF Kb hKb
  have lp := parsTo_le hc' i
  have lb := bodies_le hc' i
  have ln := nms_le (c.codes.take i)
  rw [List.length_take] at ln
  by_cases hlt : i < c.codes.length
  · have hbad : ¬ RCode c i c.codes[i] → ∀ S T M m J, Out H.length K (.bool false) (vH H c S T M m ++ J) := fun h => hF fun hh => h (hh.codes i hlt)
    have hps := parsTo_succ hlt
    have hbs := bodies_snoc hlt
    have hns := nms_snoc hlt
    have hcat : (c.codes[i]).cs = fCells c.codes[i] := fCells_eq _
    obtain ⟨_, kp, kc, kr⟩ := k6 _ (List.getElem_mem hlt)
    have hgood : RCode c i c.codes[i] → ∀ j (h : j < c.codes.length), j < i + 1 → RCode c j c.codes[j] := fun h j hj hji => by
      by_cases e : j = i
      · subst e; exact h
      · exact hok j hj (by omega)
    generalize hf : c.codes[i] = f at *
    generalize hS : parsTo c i = S at *
    generalize hT : bodies c i = T at *
    generalize hN : nms (c.codes.take i) = N at *
    have hw : IntKind.i64.wrap ((i : Int) + 1) = (i : Int) + 1 := wrap_in (by omega) (by omega)
    obtain ⟨X, hX⟩ : ∃ X, X = AB.cells [.str f.name, .sl (ints f.params) .none, .sl (ints f.capt) .none, .int .i64 f.res.kind, .int .i64 f.res.num, .sl (VT.css f.res.kids) .none, .int .i64 f.body] := ⟨_, rfl⟩
    have g5 : ∀ S T M m, (vH H c S T M m ++ [X])[H.length + 5]? = some X := fun S T M m => by have := vH5 H c S T M m 0 [X]; rw [Nat.add_zero] at this; exact this
    have hscX : ∀ S T M m, HSc (vH H c S T M m ++ [X]) := fun S T M m => (vH_sc hs c S T M m).snoc (by rw [hX]; simp [AB.sc, AV.scA, AV.scB])
    have hNl : N.length ≤ 24 := by omega
    -- the counts
    have j3 : (f.name = [] → ∀ h : i + 1 < c.codes.length, (c.codes[i + 1]).name = []) → (f.name ≠ [] → f.capt = []) → f.params.length ≤ 6 → tyValid c.data 0 f.res = true → ∀ N', nms (c.codes.take (i + 1)) = N' →
        zq12_j3 (.ptr H.length 0) (.ms (H.length + 1) 0 c.vars.length c.vars.length) (.ms (H.length + 2) 0 c.exprs.length c.exprs.length) (.ms (H.length + 3) 0 c.codes.length c.codes.length) (.sl (strs N') (.own (H.length + 4))) (.ptr (H.length + 5) 0) (.sl (c.codes.map Cod.cs) .none) (.int .i64 c.codes.length) (.int .i64 i) (vH H c S T [] N'.length ++ [X]) (Out H.length K) Kb := by
      intro q1 q2 q3 q4 N' hN'
      refine zq12_j3_ok fun hs3 => ?_
      unfold zq12_j3b
      simp [g5]
      rw [hX]
      simp
      rw [← hX]
      by_cases hrp : inV c f.params
      · refine aDet_call (.bool true) (vH H c (S ++ f.params) T [] N'.length ++ [X]) (count_det (vH1 _ _ _ _ _ _ _) (by omega) _ (fun hr => ⟨rfl, vHs1 _ _ _ _ _ _ _ _⟩) (fun hr => absurd hrp hr)) ?_
        simp [g5]
        rw [hX]
        simp
        rw [← hX]
        by_cases hrc : inV c f.capt
        · refine aDet_call (.bool true) (vH H c (S ++ f.params ++ f.capt) T [] N'.length ++ [X]) (count_det (vH1 _ _ _ _ _ _ _) (by rw [List.length_append]; omega) _ (fun hr => ⟨rfl, vHs1 _ _ _ _ _ _ _ _⟩) (fun hr => absurd hrc hr)) ?_
          simp [g5]
          rw [hX]
          simp [buildS_int1]
          rw [← hX]
          by_cases hbd : 0 ≤ f.body ∧ f.body < c.exprs.length
          · refine aDet_call (.bool true) (vH H c (S ++ (f.params ++ f.capt)) (T ++ [f.body]) [] N'.length ++ [X]) (count_det (vH2 _ _ _ _ _ _ _) (by simp; omega) _ (fun hr => ⟨rfl, vHs2 _ _ _ _ _ _ _ _⟩) (fun hr => absurd (by simpa using hbd) hr)) ?_
            obtain ⟨b, hbb⟩ : ∃ b : Nat, f.body = b := ⟨f.body.toNat, by omega⟩
            have hbl : b < c.exprs.length := by omega
            have hce : (c.exprs[b]).cs = eCells c.exprs[b] := by rw [CEx.cs, cs_eq]; rfl
            have hnb := (k7 _ (List.getElem_mem hbl)).2.2.2.1
            have g0 := vH0 H c (S ++ (f.params ++ f.capt)) (T ++ [f.body]) [] N'.length
            simp [g5, g0, cCells]
            rw [hX]
            simp [hbb, hbl, hce, eCells]
            rw [← cs_eq, ← cs_eq, ← hbb]
            refine aDet_call (.bool ((c.exprs[b]).ty.same f.res)) _ (rEqual_spec (by omega) _ _ ⟨rfl, rfl⟩) ?_
            cases hsm : (c.exprs[b]).ty.same f.res with
            | false =>
              simp
              refine hbad (fun h => ?_) _ _ _ _ _
              obtain ⟨b', h1, h2, h3⟩ := h.body
              obtain rfl : b' = b := by omega
              rw [hsm] at h3; cases h3
            | true =>
              simp
              rw [hw]
              refine hKb _ _ ⟨c.codes.length - (i + 1), by omega, Back.at (J := [_]) (H2 := vH H c (S ++ (f.params ++ f.capt)) (T ++ [f.body]) [] N'.length) rfl (by simp) (vH_sc hs _ _ _ _ _) ?_ ⟨_, _, rfl, i + 1, by omega, rfl, by simp, by rw [hN'], hgood ⟨q1, q2, q3, q4, hrp, hrc, b, hbb, hbl, hsm⟩, by rw [hN', hps, hbs]⟩⟩
              simp [zq12_fr14, AV.sc, AV.scV, AV.scA, AV.scB]
          · refine aDet_call (.bool false) _ (count_det (vH2 _ _ _ _ _ _ _) (by simp; omega) _ (fun hr => absurd (by simpa using hr) hbd) (fun hr => ⟨rfl, vHs2 _ _ _ _ _ _ _ _⟩)) ?_
            simp
            refine hbad (fun h => ?_) _ _ _ _ _
            obtain ⟨b', h1, h2, _⟩ := h.body
            exact hbd (by omega)
        · refine aDet_call (.bool false) _ (count_det (vH1 _ _ _ _ _ _ _) (by rw [List.length_append]; omega) _ (fun hr => absurd hr hrc) (fun hr => ⟨rfl, vHs1 _ _ _ _ _ _ _ _⟩)) ?_
          simp
          exact hbad (fun h => hrc h.rc) _ _ _ _ _
      · refine aDet_call (.bool false) _ (count_det (vH1 _ _ _ _ _ _ _) (by omega) _ (fun hr => absurd hr hrp) (fun hr => ⟨rfl, vHs1 _ _ _ _ _ _ _ _⟩)) ?_
        simp
        exact hbad (fun h => hrp h.rp) _ _ _ _ _
    have g0 := vH0 H c S T [] N.length
    cases hnm : f.name.isEmpty with
    | true =>
      have hn : f.name = [] := by simpa using hnm
      by_cases hI : i + 1 < c.codes.length
      · have hI' : (i : Int) + 1 < c.codes.length := by omega
        have hto : ((i : Int) + 1).toNat = i + 1 := by omega
        have hI0 : (0 : Int) ≤ (i : Int) + 1 := by omega
        have hcat2 : (c.codes[i + 1]).cs = fCells c.codes[i + 1] := fCells_eq _
        cases hnx : (c.codes[i + 1]).name.isEmpty with
        | false =>
          simp [zq12_b14, hlt, hf, hcat, fCells, g0, cCells, hw, hnm, hI, hI', hto, hI0, hcat2, hnx]
          refine hbad (fun h => ?_) _ _ _ _ _
          have := h.order hn hI
          simp [this] at hnx
        | true =>
          have hnx' : (c.codes[i + 1]).name = [] := by simpa using hnx
          by_cases hp6 : 6 < f.params.length
          · have hp6' : (6 : Int) < f.params.length := by omega
            simp [zq12_b14, hlt, hf, hcat, fCells, g0, cCells, hw, hnm, hI, hI', hto, hI0, hcat2, hnx, hp6']
            exact hbad (fun h => by have := h.pars; omega) _ _ _ _ _
          have hp6' : ¬ (6 : Int) < f.params.length := by omega
          simp [zq12_b14, hlt, hf, hcat, fCells, g0, cCells, hw, hnm, hI, hI', hto, hI0, hcat2, hnx, hp6']
          rw [← cs_eq f.res]
          refine zq47_spec c.data (by obtain ⟨k1, _⟩ := k1; omega) 0 f.res (by omega) _ _ ?_
          cases hty : tyValid c.data 0 f.res with
          | false => simp; exact hbad (fun h => by have := h.res; rw [hty] at this; cases this) _ _ _ _ _
          | true =>
            have fin := j3 (fun _ _ => hnx') (fun h => absurd hn h) (by omega) hty
            rw [← hX]
            have fin := fin N (by rw [hns, if_pos hnm, List.append_nil])
            simp [g5]
            rw [hX] at fin ⊢
            simp [hnm] at fin ⊢
            exact fin
      · have hI' : ¬ (i : Int) + 1 < c.codes.length := by omega
        by_cases hp6 : 6 < f.params.length
        · have hp6' : (6 : Int) < f.params.length := by omega
          simp [zq12_b14, hlt, hf, hcat, fCells, g0, cCells, hw, hnm, hI', hp6']
          exact hbad (fun h => by have := h.pars; omega) _ _ _ _ _
        have hp6' : ¬ (6 : Int) < f.params.length := by omega
        simp [zq12_b14, hlt, hf, hcat, fCells, g0, cCells, hw, hnm, hI', hp6']
        rw [← cs_eq f.res]
        refine zq47_spec c.data (by obtain ⟨k1, _⟩ := k1; omega) 0 f.res (by omega) _ _ ?_
        cases hty : tyValid c.data 0 f.res with
        | false => simp; exact hbad (fun h => by have := h.res; rw [hty] at this; cases this) _ _ _ _ _
        | true =>
          have fin := j3 (fun _ h => absurd h hI) (fun h => absurd hn h) (by omega) hty
          rw [← hX]
          have fin := fin N (by rw [hns, if_pos hnm, List.append_nil])
          simp [g5]
          rw [hX] at fin ⊢
          simp [hnm] at fin ⊢
          exact fin
    | false =>
      have hn : f.name ≠ [] := by intro h; simp [h] at hnm
      by_cases hcap : 0 < f.capt.length
      · have hcap' : (0 : Int) < f.capt.length := by omega
        simp [zq12_b14, hlt, hf, hcat, fCells, g0, cCells, hw, hnm, hcap, hcap']
        exact hbad (fun h => by have := h.capt hn; rw [this] at hcap; simp at hcap) _ _ _ _ _
      have hcap' : ¬ (0 : Int) < f.capt.length := by omega
      have hcap2 : f.capt = [] := List.eq_nil_of_length_eq_zero (by omega)
      by_cases hp6 : 6 < f.params.length
      · have hp6' : (6 : Int) < f.params.length := by omega
        simp [zq12_b14, hlt, hf, hcat, fCells, g0, cCells, hw, hnm, hcap, hcap', hp6']
        exact hbad (fun h => by have := h.pars; omega) _ _ _ _ _
      have hp6' : ¬ (6 : Int) < f.params.length := by omega
      simp [zq12_b14, hlt, hf, hcat, fCells, g0, cCells, hw, hnm, hcap, hcap', hp6']
      rw [← cs_eq f.res]
      refine zq47_spec c.data (by obtain ⟨k1, _⟩ := k1; omega) 0 f.res (by omega) _ _ ?_
      cases hty : tyValid c.data 0 f.res with
      | false => simp; exact hbad (fun h => by have := h.res; rw [hty] at this; cases this) _ _ _ _ _
      | true =>
        have fin := j3 (fun h => absurd h hn) (fun _ => hcap2) (by omega) hty
        rw [← hX]
        have fin := fin (N ++ [f.name]) (by rw [hns, if_neg (by simp [hnm])])
        simp [g5]
        rw [hX] at fin ⊢
        simp [hnm, buildS_str] at fin ⊢
        simp [aAppend, aSrc, aAppTo, vH]
        refine ⟨by clear fin j3 hbad hgood ln hok hF hKb; omega, ?_⟩
        rw [← strs_snoc]
        simpa [vH] using fin
  obtain rfl : i = c.codes.length := by omega
  rw [List.take_length] at *
  simp [zq12_b14]
  refine zq12_j4_ok fun hs4 => ?_
  unfold zq12_j4b
  refine repeats_tok _ (by omega) _ _ ?_
  have g0 : ∀ h, (vH H c (parsTo c c.codes.length) (bodies c c.codes.length) [] (nms c.codes).length)[H.length]'h = .cells (cCells c) := fun h => by simp [vH]
  cases hr : repeats (nms c.codes) with
  | true =>
    simp
    have := hF (fun h => by have := repeats_nodup h.names; rw [hr] at this; cases this) (parsTo c c.codes.length) (bodies c c.codes.length) [] (nms c.codes).length []
    simpa using this
  | false =>
    simp [g0, cCells]
    refine ref_26 hc' hvars (fun j hj => hok j hj hj) hs K fun b h J => hb b ?_ J
    rw [h]
    simp only [repeats, Bool.not_eq_false', decide_eq_true_eq] at hr
    exact ⟨fun h => ⟨fun j hj => hok j hj hj, hr, h⟩, fun h => h.ex⟩
theorem zq12_spec (c : Cor) (hc : KCore c) (H : Heap) (K : Kt) (hK : ∀ b, (b = true ↔ RefV c) → K (.bool b) H) : ACalls tP n_zq12 [.agg c.cs] H K := by
  refine ACalls.out (zq12_ok fun hs => ?_)
  have hF : ¬ RefV c → ∀ J, Out H.length K (.bool false) (H ++ J) := fun h J => Out.bool rfl (Nat.le_refl _) hs (hK _ (by simp [h]))
  have hT : ∀ b : Bool, (b = true ↔ RefV c) → ∀ J, Out H.length K (.bool b) (H ++ J) := fun b h J => Out.bool rfl (Nat.le_refl _) hs (hK _ h)
  have hc' := hc
  obtain ⟨k1, k2, k3, ⟨k4, k5⟩, k6, k7⟩ := hc
  have h1 : ¬ (64 : Int) < c.codes.length := by omega
  have h2 : ¬ (3000 : Int) < c.exprs.length := by omega
  have h3 : ¬ (3000 : Int) < c.vars.length := by omega
  simp [zq12, Cor.cs]
  refine zq46_spec c.data k1 _ _ fun b hb => ?_
  cases b with
  | false => simp; exact hF (fun h => by have := hb.2 h.data; cases this) _
  | true =>
  have hd := hb.1 rfl
  simp [h1, h2, h3]
  refine zq12_j1_ok fun hs1 => ?_
  unfold zq12_j1b
  simp
  refine zq12_loop4 (Inv := fun q t54 H' => ∃ i : Nat, i ≤ c.vars.length ∧ q = c.vars.length - i ∧ t54 = .int .i64 i ∧ (∀ v ∈ c.vars.take i, tyValid c.data 0 v = true) ∧ H' = H ++ [.cells (cCells c)]) c.vars.length ?_ ?_
  · intro _; exact ⟨0, by omega, by omega, rfl, by simp, rfl⟩
  rintro q t54 H' ⟨i, hi, rfl, rfl, hok, rfl⟩ hsc hlen hsF Kb hKb
  by_cases hlt : i < c.vars.length
  · have hn := k5 _ (List.getElem_mem hlt)
    have hcs := cs_eq c.vars[i]
    simp [zq12_b4, hlt, hcs, cCells]
    rw [← hcs]
    refine zq47_spec c.data (by obtain ⟨k1, _⟩ := k1; omega) 0 c.vars[i] (by omega) _ _ ?_
    cases hty : tyValid c.data 0 c.vars[i] with
    | false =>
      simp
      exact hF (fun h => by have := h.vars _ (List.getElem_mem hlt); rw [hty] at this; cases this) _
    | true =>
      simp
      rw [wrap_in (by omega) (by omega)]
      refine hKb _ _ ⟨c.vars.length - (i + 1), by omega, Back.at (J := [_]) (H2 := H ++ [.cells (cCells c)]) (by simp [cCells]; rfl) (by simp) hsc ?_ ⟨_, rfl, i + 1, by omega, rfl, by simp, mem_take_succ hlt hok hty, rfl⟩⟩
      simp [zq12_fr4, AV.sc, AV.scV, AV.scA, AV.scB]
  obtain rfl : i = c.vars.length := by omega
  rw [List.take_length] at hok
  simp [zq12_b4, cCells]
  simp only [aMake, Int.toNat_natCast, rep_us, cnt_nil]
  refine ⟨⟨by omega, by omega, by omega, by omega⟩, ?_⟩
  simp [cCells]
  refine ⟨⟨by omega, by omega⟩, ?_⟩
  refine zq12_j2_ok fun hs2 => ?_
  unfold zq12_j2b
  simp
  simp only [aMake, Int.toNat_natCast, rep_us, cnt_nil]
  refine ⟨⟨by omega, by omega, by omega, by omega⟩, ?_⟩
  simp
  unfold zq12_l14
  refine ALoop.own 8 e_string 1 rfl ?_
  have := ref_14 hc' hok hs K fun b h J => hT b (by
    rw [h]
    exact ⟨fun h => ⟨hd, hok, h.codes, h.names, h.ex.exprs, h.ex.bo.bound, h.ex.bo.pl.placed, h.ex.bo.pl.ma.made, h.ex.bo.pl.ma.ru.rules, h.ex.bo.pl.ma.ru.sc⟩, fun h => ⟨h.codes, h.names, h.exprs, h.bound, h.placed, h.made, h.rules, h.scopes⟩⟩) J
  simp [vH, usB, cCells] at this ⊢
  exact this
end Go.Proofs.Ytkdmpbhbmmhijaa

