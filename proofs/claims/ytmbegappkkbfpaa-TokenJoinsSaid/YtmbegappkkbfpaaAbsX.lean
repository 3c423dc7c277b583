/- The abstract layer, part X: what functions hand out, further forms. -/
import Derived.Test.YtmbegappkkbfpaaAbsU
namespace Go.Abs
open Go
theorem Out.tup {H J : Heap} {K : AV → Heap → Prop} {as bs : List AV} (hs : HSc H) (h : K (.tup bs) H) (hw : All2 (fun a b => WkV a b ∧ b.isV = true ∧ b.scV H.length = true) as bs) : Out H.length K (.tup as) (H ++ J) :=
  ⟨_, H, J, rfl, Nat.le_refl _, hs, .tup (hw.mono fun _ _ h => .wk h.1 h.2.1 h.2.2), h⟩
theorem Out.tup0 {H : Heap} {K : AV → Heap → Prop} {as bs : List AV} (hs : HSc H) (h : K (.tup bs) H) (hw : All2 (fun a b => WkV a b ∧ b.isV = true ∧ b.scV H.length = true) as bs) : Out H.length K (.tup as) H := by
  have := Out.tup (J := []) hs h hw
  simpa using this
theorem Out.one {H J : Heap} {K : AV → Heap → Prop} {a b : AV} (hs : HSc H) (hw : WkV a b) (hv : b.isV = true) (hc : b.scV H.length = true) (h : K b H) : Out H.length K a (H ++ J) :=
  ⟨_, H, J, rfl, Nat.le_refl _, hs, .one (.wk hw hv hc), h⟩
theorem Out.one0 {H : Heap} {K : AV → Heap → Prop} {a b : AV} (hs : HSc H) (hw : WkV a b) (hv : b.isV = true) (hc : b.scV H.length = true) (h : K b H) : Out H.length K a H := by
  have := Out.one (J := []) hs hw hv hc h
  simpa using this
theorem WkV.rfl' {a : AV} : WkV a a := .atom (.refl a)
/-- A value that stays as it is. -/
theorem keepV {n : Nat} {a : AV} (h1 : a.isV = true) (h2 : a.scV n = true) : WkV a a ∧ a.isV = true ∧ a.scV n = true := ⟨.rfl', h1, h2⟩
theorem slV {n : Nat} {es : List (List AV)} {t : Tok} : WkV (.sl es t) (.sl es .none) ∧ (AV.sl es .none).isV = true ∧ (AV.sl es .none).scV n = true := ⟨.atom (.sl es t), rfl, rfl⟩
theorem snilV {n : Nat} : WkV .snil (.sl [] .none) ∧ (AV.sl [] .none).isV = true ∧ (AV.sl [] .none).scV n = true := ⟨.atom .snil, rfl, rfl⟩
theorem bound_det {x : Option AV} {d : Nat} {p : Nat → Prop} {p' : AV → Nat → Prop} {q : AV → Prop} (hp : ∀ n, p n ↔ ∃ v, p' v n ∧ q v) : aBound x d p ↔ ∃ v, aBound x d (p' v) ∧ q v := by
  unfold aBound
  split
  · exact hp d
  · rename_i n
    constructor
    · rintro ⟨h1, h2⟩
      obtain ⟨v, h3, h4⟩ := (hp _).1 h2
      exact ⟨v, ⟨h1, h3⟩, h4⟩
    · rintro ⟨v, ⟨h1, h3⟩, h4⟩
      exact ⟨h1, (hp _).2 ⟨v, h3, h4⟩⟩
  · simp
theorem last_det {a : Prop} {q : AV → Prop} {x : AV} : (a ∧ q x) ↔ ∃ v, (a ∧ x = v) ∧ q v := by
  constructor
  · rintro ⟨h1, h2⟩; exact ⟨_, ⟨h1, rfl⟩, h2⟩
  · rintro ⟨v, ⟨h1, rfl⟩, h2⟩; exact ⟨h1, h2⟩
@[simp] theorem aPure_slice {H : Heap} {k : AV → Prop} (u e : Nat) (x : AV) (lo hi : Option AV) : aPure H (fun K' => aSlice u e x lo hi fun v => K' v H) k = aSlice u e x lo hi k := pure_of (p := fun q => aSlice u e x lo hi q) fun q => by
  unfold aSlice
  split
  · exact bound_det fun h => bound_det fun l => last_det
  · exact bound_det fun h => bound_det fun l => last_det
  · exact bound_det fun h => bound_det fun l => last_det
  · exact bound_det fun h => bound_det fun l => last_det
  · simp
end Go.Abs
