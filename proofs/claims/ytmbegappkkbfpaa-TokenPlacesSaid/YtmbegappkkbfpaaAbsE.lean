/- The abstract layer, part E: the other operations. -/
import Derived.Test.YtmbegappkkbfpaaAbsD
namespace Go.Abs
open Go Go.RowKit

variable {P : Program} {B : Nat} {w : World} {G : Gh} {H : Heap}

/-! ### Slice expressions -/
theorem run_bound {x : Option Value} {ax : Option AV} {d : Nat} {K : Nat → Prop} (hx : All2 (TRel w G) x.toList ax.toList) (h : aBound ax d K) :
    ∃ l, ((x = none ∧ l = d) ∨ ∃ k n, x = some (.int k n) ∧ 0 ≤ n ∧ l = n.toNat) ∧ K l := by
  cases ax with
  | none =>
    cases x with
    | none => exact ⟨d, .inl ⟨rfl, rfl⟩, h⟩
    | some v => simp [All2] at hx
  | some a =>
    cases x with
    | none => simp [All2] at hx
    | some v =>
      have hv : TRel w G v a := hx.1
      unfold aBound at h
      cases a <;> first | exact h.elim | skip
      rename_i k n
      cases hv
      exact ⟨n.toNat, .inr ⟨k, n, rfl, h.1, rfl⟩, h.2⟩

theorem DRel.sub {v : Value} {es : List (List AV)} {l h : Nat} (hd : DRel w G.L v (.sl es .none)) (hl : l ≤ h) (hh : h ≤ es.length) {a : Option Addr} {cap : Nat} (size : Nat)
    (hv : v = .slice a es.length cap) (hsz : ∀ c ∈ es, c.length = size) :
    DRel w G.L (.slice (if cap = l then a else a.map (·.add (l * size))) (h - l) (cap - l)) (.sl ((es.take h).drop l) .none) := by
  by_cases hlh : l = h
  · subst hlh
    have : (es.take l).drop l = [] := by apply List.drop_eq_nil_of_le; simp; omega
    rw [this, Nat.sub_self]
    exact .slE _ _
  · cases hd with
    | slE a' cap' => simp at hh; omega
    | sl b off cap' esz _ vs hne hcap hL hsz' hc hdd =>
      cases hv
      have hcl : cap ≠ l := by omega
      have h0 : 0 < es.length := by omega
      have hesz : esz = size := by rw [← hsz' 0 h0]; exact hsz _ (List.getElem_mem h0)
      subst hesz
      have hlen : ((es.take h).drop l).length = h - l := by simp; omega
      simp only [hcl, if_false, Option.map_some, add_lit]
      have hget : ∀ i (hi : i < ((es.take h).drop l).length), ((es.take h).drop l)[i] = es[l + i]'(by rw [hlen] at hi; omega) := by
        intro i hi; simp
      have key : DRel w G.L (.slice (some ⟨b, off + l * esz, none⟩) ((es.take h).drop l).length (cap - l)) (.sl ((es.take h).drop l) .none) := by
        refine .sl b (off + l * esz) (cap - l) esz _ (fun i j => vs (l + i) j) ?_ (by rw [hlen]; omega) ?_ ?_ ?_ ?_
        · intro hnil; rw [hnil] at hlen; simp at hlen; omega
        · rw [hlen]
          have h1 : l * esz + (h - l) * esz = h * esz := by rw [← Nat.add_mul]; congr 1; omega
          have h2 : h * esz ≤ es.length * esz := Nat.mul_le_mul_right _ hh
          omega
        · intro i hi; rw [hget i hi]; exact hsz' _ _
        · intro i j hi hj
          rw [hlen] at hi
          have := hc (l + i) j (by omega) (by rw [hget i (by rw [hlen]; exact hi)] at hj; exact hj)
          rw [show off + l * esz + i * esz + j = off + (l + i) * esz + j by rw [Nat.add_mul]; omega]
          exact this
        · intro i j hi hj
          have hi' := hi
          rw [hlen] at hi'
          have := hdd (l + i) j (by omega) (by rw [hget i hi] at hj; exact hj)
          simpa [hget i hi] using this
      rw [hlen] at key
      exact key

theorem run_sliceBounds {isS : Bool} {len cap : Nat} {lo hi : Option Value} {l h : Nat} (hhi : (hi = none ∧ h = len) ∨ ∃ k n, hi = some (.int k n) ∧ 0 ≤ n ∧ h = n.toNat)
    (hlo : (lo = none ∧ l = 0) ∨ ∃ k n, lo = some (.int k n) ∧ 0 ≤ n ∧ l = n.toNat) (hl : l ≤ h) (hh : h ≤ cap) :
    (Instr.sliceBounds isS len cap lo hi none).run P w = .ok (l, h, cap) w := by
  rcases hhi with ⟨rfl, rfl⟩ | ⟨k, n, rfl, hn, rfl⟩ <;> rcases hlo with ⟨rfl, rfl⟩ | ⟨k', m, rfl, hm, rfl⟩
  · simp [Instr.sliceBounds]
  · have : m ≤ (h : Int) := by omega
    simp [Instr.sliceBounds, Instr.sliceBound, asIntOf, hm, this]
  · have : n ≤ (cap : Int) := by omega
    simp [Instr.sliceBounds, Instr.sliceBound, asIntOf, hn, this]
  · have h1 : n ≤ (cap : Int) := by omega
    have h2 : m ≤ ((n.toNat : Nat) : Int) := by omega
    simp [Instr.sliceBounds, Instr.sliceBound, asIntOf, hn, h1, hm]
    try omega

theorem str_extract (s : List UInt8) (l h : Nat) : (ByteArray.mk s.toArray).extract l h = ⟨((s.take h).drop l).toArray⟩ := by
  apply ByteArray.ext
  simp [ByteArray.data_extract, List.drop_take]

theorem sound_slice {t : TypeId} {u size : Nat} {v : Value} {x : AV} {lo hi : Option Value} {alo ahi : Option AV} {K : AV → Prop} (hx : TRel w G v x) (hlo : All2 (TRel w G) lo.toList alo.toList)
    (hhi : All2 (TRel w G) hi.toList ahi.toList) (ht : tKind P t = some u) (hs : u = 1 → (tElem P t).bind (tSize P) = some size)
    (h : aSlice u size x alo ahi K) : ∃ r, (Instr.sliceAt t v lo hi none).run P w = .ok r w ∧ ∃ av, TRel w G r av ∧ K av := by
  unfold aSlice at h
  split at h
  · rename_i s
    have hu := und_kind0 ht
    cases hx
    obtain ⟨hh, hhv, h⟩ := run_bound hhi h
    obtain ⟨ll, hlv, ⟨h1, h2⟩, hk⟩ := run_bound hlo h
    refine ⟨.string ⟨((s.take hh).drop ll).toArray⟩, ?_, .str ((s.take hh).drop ll), rfl, hk⟩
    have hb := run_sliceBounds (P := P) (w := w) (isS := false) (len := s.length) (cap := s.length) hhv hlv h1 h2
    simp only [Instr.sliceAt, Instr.slice, Sem.run_bind, run_und hu, Result.andThen_ok, str_size, hb, Option.isSome_none, Bool.false_eq_true, if_false, Sem.run_pure, str_extract]
  · rename_i es tok
    obtain ⟨hh, hhv, h⟩ := run_bound hhi h
    obtain ⟨ll, hlv, ⟨h1, h2, h3⟩, hk⟩ := run_bound hlo h
    have hs := hs rfl
    cases he : tElem P t with
    | none => simp [he] at hs
    | some e =>
      simp only [he, Option.bind_some] at hs
      have hd := sl_drel hx
      obtain ⟨a, cap, rfl, hcap⟩ := hd.slice_form
      have hcap' : hh ≤ cap := by
        by_cases hne : es = []
        · subst hne; simp at h2; omega
        · have := hcap hne; omega
      have hb := run_sliceBounds (P := P) (w := w) (isS := true) (len := es.length) (cap := cap) hhv hlv h1 hcap'
      have hsub := hd.sub h1 h2 size rfl h3
      refine ⟨_, ?_, .sl ((es.take hh).drop ll) .none, hsub, hk⟩
      simp only [Instr.sliceAt, Instr.slice, Sem.run_bind, run_und (und_elem he), Result.andThen_ok, hb, Sem.run_pure, run_size hs]
  · obtain ⟨hh, hhv, h⟩ := run_bound hhi h
    obtain ⟨ll, hlv, ⟨h1, h2⟩, hk⟩ := run_bound hlo h
    have hs := hs rfl
    cases he : tElem P t with
    | none => simp [he] at hs
    | some e =>
      simp only [he, Option.bind_some] at hs
      cases hx
      have hb := run_sliceBounds (P := P) (w := w) (isS := true) (len := 0) (cap := 0) hhv hlv h1 h2
      refine ⟨.slice none 0 0, ?_, .snil, rfl, hk⟩
      have : ll = 0 := by omega
      subst this
      have : hh = 0 := by omega
      subst this
      simp [Instr.sliceAt, Instr.slice, Sem.run_bind, run_und (und_elem he), hb, run_size hs]
  · rename_i id off len cap
    obtain ⟨hh, hhv, h⟩ := run_bound hhi h
    obtain ⟨ll, hlv, ⟨h1, h2⟩, hk⟩ := run_bound hlo h
    have hs := hs rfl
    cases he : tElem P t with
    | none => simp [he] at hs
    | some e =>
      simp only [he, Option.bind_some] at hs
      obtain ⟨b, hμ, rfl⟩ := hx
      have hb := run_sliceBounds (P := P) (w := w) (isS := true) (len := len) (cap := cap) hhv hlv h1 h2
      refine ⟨.slice (some ⟨b, if cap = ll then off else off + ll * size, none⟩) (hh - ll) (cap - ll), ?_, .ms id (if cap = ll then off else off + ll * size) (hh - ll) (cap - ll), ⟨b, hμ, rfl⟩, hk⟩
      simp only [Instr.sliceAt, Instr.slice, Sem.run_bind, run_und (und_elem he), Result.andThen_ok, hb, Sem.run_pure, run_size hs]
      by_cases hc : cap = ll <;> simp [hc, add_lit]
  · exact h.elim

/-! ### Arithmetic and comparisons -/
theorem run_eqGuard_int {op : BinOp} {t : TypeId} {x y : Operand} {k : IntKind} {m : Int} {b : Value} : (eqGuard op t x y (.int k m) b).run P w = .ok () w := by
  cases op <;> rfl
theorem run_eqGuard_str {op : BinOp} {t : TypeId} {x y : Operand} {s : ByteArray} {b : Value} : (eqGuard op t x y (.string s) b).run P w = .ok () w := by
  cases op <;> rfl
theorem run_eqGuard_bool {op : BinOp} {t : TypeId} {x y : Operand} {m : Bool} {b : Value} : (eqGuard op t x y (.bool m) b).run P w = .ok () w := by
  cases op <;> rfl

/-- What an operator comes to, on related operands. -/
def BinR (P : Program) (w : World) (G : Gh) (op : BinOp) (t : TypeId) (u v : Value) (K : AV → Prop) : Prop := ∃ r, (binOp op t u v).run P w = .ok r w ∧ ∃ av, TRel w G r av ∧ K av
theorem BinR.mk {op : BinOp} {t : TypeId} {u v r : Value} {K : AV → Prop} (av : AV) (h : (binOp op t u v).run P w = .ok r w) (hr : TRel w G r av) (hk : K av) : BinR P w G op t u v K := ⟨r, h, av, hr, hk⟩
theorem bin_int {op : BinOp} {t : TypeId} {k : IntKind} {m n : Int} {b : Bool} {K : AV → Prop} (h : aBin op b (.int k m) (.int k n) K) : BinR P w G op t (.int k m) (.int k n) K := by
  have h := h.2
  cases op <;> simp only [] at h <;> first | exact h.elim | skip
  case add => exact BinR.mk (.int k (k.wrap (m + n))) (by simp [binOp, Op.intArith]) rfl h
  case sub => exact BinR.mk (.int k (k.wrap (m - n))) (by simp [binOp, Op.intArith]) rfl h
  case mul => exact BinR.mk (.int k (k.wrap (m * n))) (by simp [binOp, Op.intArith]) rfl h
  case quo => exact BinR.mk (.int k (k.wrap (m.tdiv n))) (by simp [binOp, Op.intDiv, h.1]) rfl h.2
  case rem => exact BinR.mk (.int k (m.tmod n)) (by simp [binOp, Op.intDiv, h.1]) rfl h.2
  case eql => exact BinR.mk (.bool (m == n)) (by simp [binOp, Op.intCmp]) rfl h
  case neq => exact BinR.mk (.bool (m != n)) (by simp [binOp, Op.intCmp]) rfl h
  case lss => exact BinR.mk (.bool (decide (m < n))) (by simp [binOp, Op.intCmp]) rfl h
  case leq => exact BinR.mk (.bool (decide (m ≤ n))) (by simp [binOp, Op.intCmp]) rfl h
  case gtr => exact BinR.mk (.bool (decide (m > n))) (by simp [binOp, Op.intCmp]) rfl h
  case geq => exact BinR.mk (.bool (decide (m ≥ n))) (by simp [binOp, Op.intCmp]) rfl h
theorem bin_str {op : BinOp} {t : TypeId} {s s' : List UInt8} {b : Bool} {K : AV → Prop} (h : aBin op b (.str s) (.str s') K) : BinR P w G op t (.string ⟨s.toArray⟩) (.string ⟨s'.toArray⟩) K := by
  cases op <;> simp only [aBin] at h <;> first | exact h.elim | skip
  case add =>
    obtain ⟨h1, h2⟩ := h
    refine BinR.mk (r := .string ⟨(s ++ s').toArray⟩) (.str (s ++ s')) ?_ rfl h2
    have hlt : ¬ ((((ByteArray.mk s.toArray).size + (ByteArray.mk s'.toArray).size : Nat) : Int) > IntKind.i64.max) := by
      have : IntKind.i64.max = 9223372036854775807 := by decide
      rw [str_size, str_size]
      omega
    have happ : (ByteArray.mk s.toArray) ++ (ByteArray.mk s'.toArray) = ⟨(s ++ s').toArray⟩ := by
      apply ByteArray.ext
      simp
    simp only [binOp, Op.stringOp]
    rw [if_neg hlt, happ]
    rfl
  case eql => exact BinR.mk (r := .bool (s == s')) (.bool (s == s')) (by simp only [binOp, Op.stringOp, str_toList]; rfl) rfl h
  case neq => exact BinR.mk (r := .bool (!(s == s'))) (.bool (!(s == s'))) (by simp only [binOp, Op.stringOp, str_toList]; rfl) rfl h
  case lss => exact BinR.mk (r := .bool (Op.bytesLess s s')) (.bool (Op.bytesLess s s')) (by simp only [binOp, Op.stringOp, str_toList]; rfl) rfl h
  case leq => exact BinR.mk (r := .bool (Op.bytesLess s s' || s == s')) (.bool (Op.bytesLess s s' || s == s')) (by simp only [binOp, Op.stringOp, str_toList]; rfl) rfl h
  case gtr => exact BinR.mk (r := .bool (!(Op.bytesLess s s' || s == s'))) (.bool (!(Op.bytesLess s s' || s == s'))) (by simp only [binOp, Op.stringOp, str_toList]; rfl) rfl h
  case geq => exact BinR.mk (r := .bool (!Op.bytesLess s s')) (.bool (!Op.bytesLess s s')) (by simp only [binOp, Op.stringOp, str_toList]; rfl) rfl h
theorem bin_bool {op : BinOp} {t : TypeId} {m n b : Bool} {K : AV → Prop} (hu : b = true → P.underlying t = some .bool) (h : aBin op b (.bool m) (.bool n) K) : BinR P w G op t (.bool m) (.bool n) K := by
  have hu := hu h.1
  have h := h.2
  have he : ∀ x y : Bool, (Op.equal t (.bool x) (.bool y)).run P w = .ok (x == y) w := fun x y => by
    have hm : Op.equal t (.bool x) (.bool y) = Op.equalIn (9999 + 1) t (.bool x) (.bool y) := rfl
    rw [hm]
    unfold Op.equalIn
    simp only [Sem.run_bind, run_und hu, Result.andThen_ok, Sem.run_pure]
  cases op <;> simp only [] at h <;> first | exact h.elim | skip
  case eql => exact BinR.mk (.bool (m == n)) (by simp only [binOp, Sem.run_bind, he, Result.andThen_ok, Sem.run_pure]) rfl h
  case neq => exact BinR.mk (.bool (!(m == n))) (by simp only [binOp, Sem.run_bind, he, Result.andThen_ok, Sem.run_pure]) rfl h

theorem sound_bin {op : BinOp} {t : TypeId} {xo yo : Operand} {u v : Value} {x y : AV} {K : AV → Prop} (hx : TRel w G u x) (hy : TRel w G v y) (h : aBin op (tBool P t) x y K) :
    ∃ r, ((do eqGuard op t xo yo u v; binOp op t u v) : Sem Value).run P w = .ok r w ∧ ∃ av, TRel w G r av ∧ K av := by
  have h0 := h
  unfold aBin at h
  split at h
  · cases hx
    cases hy
    have hk := h.1
    subst hk
    obtain ⟨r, h1, h2⟩ := bin_int (P := P) (w := w) (G := G) (t := t) h0
    exact ⟨r, by rw [Sem.run_bind, run_eqGuard_int]; exact h1, h2⟩
  · cases hx
    cases hy
    obtain ⟨r, h1, h2⟩ := bin_str (P := P) (w := w) (G := G) (t := t) h0
    exact ⟨r, by rw [Sem.run_bind, run_eqGuard_str]; exact h1, h2⟩
  · cases hx
    cases hy
    obtain ⟨r, h1, h2⟩ := bin_bool (P := P) (w := w) (G := G) (t := t) (fun hb => by
      unfold tBool at hb
      split at hb
      · assumption
      · cases hb) h0
    exact ⟨r, by rw [Sem.run_bind, run_eqGuard_bool]; exact h1, h2⟩
  · exact h.elim

theorem sound_un {op : UnOp} {v : Value} {x : AV} {K : AV → Prop} (hx : TRel w G v x) (h : aUn op x K) : ∃ r, (Op.unary op v).run P w = .ok r w ∧ ∃ av, TRel w G r av ∧ K av := by
  unfold aUn at h
  split at h
  · cases hx; exact ⟨_, by simp [Op.unary], .bool _, rfl, h⟩
  · cases hx; exact ⟨_, by simp [Op.unary, Op.intArith], .int _ _, rfl, h⟩
  · exact h.elim
theorem sound_conv {s t : TypeId} {j k : IntKind} {v : Value} {x : AV} {K : AV → Prop} (hx : TRel w G v x) (hs : P.underlying s = some (.int j)) (ht : P.underlying t = some (.int k)) (h : aConv k x K) :
    ∃ r, (convert s t v).run P w = .ok r w ∧ ∃ av, TRel w G r av ∧ K av := by
  unfold aConv at h
  split at h
  · cases hx; exact ⟨_, by simp [convert, run_und hs, run_und ht, Conv.intToInt], .int _ _, rfl, h⟩
  · exact h.elim
theorem sound_convS {s t : TypeId} {v : Value} {x : AV} {K : AV → Prop} (hx : TRel w G v x) (hs : P.underlying s = some .string) (ht : P.underlying t = some .string) (h : aConvS x K) :
    ∃ r, (convert s t v).run P w = .ok r w ∧ ∃ av, TRel w G r av ∧ K av := by
  unfold aConvS at h
  split at h
  · cases hx; exact ⟨_, by simp [convert, run_und hs, run_und ht], .str _, rfl, h⟩
  · exact h.elim
theorem sound_ext {v : Value} {x : AV} {i : Nat} {K : AV → Prop} (hx : TRel w G v x) (h : aExt x i K) : ∃ r, (Instr.extract v i).run P w = .ok r w ∧ ∃ av, TRel w G r av ∧ K av := by
  unfold aExt at h
  split at h
  · obtain ⟨vs, rfl, hr⟩ := hx
    split at h
    · rename_i a ha
      obtain ⟨u, h1, h2⟩ := hr.get ha
      have : vs[i]? = some u := by simpa using h1
      exact ⟨u, by simp [Instr.extract, this], a, TRel.of_v h2, h⟩
    · exact h.elim
  · exact h.elim

end Go.Abs
