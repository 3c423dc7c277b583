/- The abstract layer, part U: equations for use. -/
import Derived.Test.YtmbegappkkbfpaaAbsN
import Derived.IntWalk
namespace Go.Abs
open Go Go.RowKit

section
variable {H : Heap} {K : AV → Heap → Prop} {k : AV → Prop}
@[simp] theorem aIf_true (p q : Prop) : aIf true p q = p := propext Iff.rfl
@[simp] theorem aIf_false (p q : Prop) : aIf false p q = q := propext Iff.rfl
theorem aTest_bool (b : Bool) (p q : Prop) : aTest (.bool b) p q = (if b = true then p else q) := rfl
theorem aTest_split {b : Bool} {p q : Prop} (hp : b = true → p) (hq : b = false → q) : aTest (.bool b) p q := by
  cases b
  · exact hq rfl
  · exact hp rfl
@[simp] theorem aTest_t (p q : Prop) : aTest (.bool true) p q = p := propext Iff.rfl
@[simp] theorem aTest_f (p q : Prop) : aTest (.bool false) p q = q := propext Iff.rfl
@[simp] theorem aPick_t (x y : AV) : aPick (.bool true) x y k = k x := propext Iff.rfl
@[simp] theorem aPick_f (x y : AV) : aPick (.bool false) x y k = k y := propext Iff.rfl
@[simp] theorem aGuard_tt (p q : Prop) : aGuard (.bool true) true p q = p := propext Iff.rfl
@[simp] theorem aGuard_ff (p q : Prop) : aGuard (.bool false) false p q = p := propext Iff.rfl
@[simp] theorem aGuard_tf (p q : Prop) : aGuard (.bool true) false p q = q := propext Iff.rfl
@[simp] theorem aGuard_ft (p q : Prop) : aGuard (.bool false) true p q = q := propext Iff.rfl
@[simp] theorem aGuard_tup (want : Bool) (p q : Prop) : aGuard (.tup []) want p q = q := propext Iff.rfl
@[simp] theorem aGuardJ_tt (p : (AV → Heap → Prop) → Prop) (J : AV → Heap → Prop) : aGuardJ (.bool true) true H p J = p J := propext Iff.rfl
@[simp] theorem aGuardJ_ff (p : (AV → Heap → Prop) → Prop) (J : AV → Heap → Prop) : aGuardJ (.bool false) false H p J = p J := propext Iff.rfl
@[simp] theorem aGuardJ_tf (p : (AV → Heap → Prop) → Prop) (J : AV → Heap → Prop) : aGuardJ (.bool true) false H p J = J (.tup []) H := propext Iff.rfl
@[simp] theorem aGuardJ_ft (p : (AV → Heap → Prop) → Prop) (J : AV → Heap → Prop) : aGuardJ (.bool false) true H p J = J (.tup []) H := propext Iff.rfl
@[simp] theorem aGuardJ_tup (want : Bool) (p : (AV → Heap → Prop) → Prop) (J : AV → Heap → Prop) : aGuardJ (.tup []) want H p J = J (.tup []) H := propext Iff.rfl
theorem aPure_call {P : Program} {f : FuncId} {args : List AV} (r : AV) (h : ACalls P f args H fun v H' => v = r ∧ H' = H) (hk : k r) : aPure H (fun K' => ACalls P f args H K') k := ⟨r, h, hk⟩
@[simp] theorem cs_agg (cs : List AV) : (AV.agg cs).cs? = some cs := rfl
@[simp] theorem cs_int (j : IntKind) (n : Int) : (AV.int j n).cs? = some [.int j n] := rfl
@[simp] theorem cs_bool (b : Bool) : (AV.bool b).cs? = some [.bool b] := rfl
@[simp] theorem cs_str (s : List UInt8) : (AV.str s).cs? = some [.str s] := rfl
@[simp] theorem cs_sl (es : List (List AV)) (t : Tok) : (AV.sl es t).cs? = some [.sl es t] := rfl
@[simp] theorem cs_snil : (AV.snil).cs? = some [.snil] := rfl
@[simp] theorem cs_ptr (i o : Nat) : (AV.ptr i o).cs? = some [.ptr i o] := rfl
@[simp] theorem cs_ms (i o l c : Nat) : (AV.ms i o l c).cs? = some [.ms i o l c] := rfl
@[simp] theorem cs_fn (f : Nat) (c : List AV) : (AV.fn f c).cs? = some [.fn f c] := rfl
@[simp] theorem cs_nilp : (AV.nilp).cs? = some [.nilp] := rfl
@[simp] theorem cs_nilfn : (AV.nilfn).cs? = some [.nilfn] := rfl
@[simp] theorem aNew_eq (cs : List AV) : aNew cs H K = K (.ptr H.length 0) (H ++ [.cells cs]) := propext Iff.rfl
@[simp] theorem aBox_agg (cs : List AV) : aBox (.agg cs) H K = K (.ptr H.length 0) (H ++ [.cells cs]) := propext Iff.rfl
@[simp] theorem aBox_int (j : IntKind) (n : Int) : aBox (.int j n) H K = K (.ptr H.length 0) (H ++ [.cells [.int j n]]) := propext Iff.rfl
@[simp] theorem aBox_str (s : List UInt8) : aBox (.str s) H K = K (.ptr H.length 0) (H ++ [.cells [.str s]]) := propext Iff.rfl
@[simp] theorem aBox_bool (b : Bool) : aBox (.bool b) H K = K (.ptr H.length 0) (H ++ [.cells [.bool b]]) := propext Iff.rfl
@[simp] theorem aBox_sl (es : List (List AV)) (t : Tok) : aBox (.sl es t) H K = K (.ptr H.length 0) (H ++ [.cells [.sl es t]]) := propext Iff.rfl
@[simp] theorem aCells_agg (n off : Nat) (cs : List AV) : aCells true n off cs k = (off + n ≤ cs.length ∧ k (.agg ((cs.drop off).take n))) := propext Iff.rfl
theorem aCells_one {cs : List AV} {off : Nat} {c : AV} (n : Nat) (h : cs[off]? = some c) : aCells false n off cs k = k c := by simp [aCells, h]
@[simp] theorem aCells_cons0 (n : Nat) (c : AV) (cs : List AV) : aCells false n 0 (c :: cs) k = k c := propext Iff.rfl
@[simp] theorem aCells_cons (n i : Nat) (c : AV) (cs : List AV) : aCells false n (i + 1) (c :: cs) k = aCells false n i cs k := by simp [aCells]
@[simp] theorem aLoad_view (g : Bool) (n : Nat) (cs : List AV) : aLoad g n (.view cs) H k = aCells g n 0 cs k := propext Iff.rfl
def aLoadB (g : Bool) (n off : Nat) (b : Option AB) (k : AV → Prop) : Prop :=
  match b with
  | some (.cells cs) => aCells g n off cs k
  | _ => False
@[simp] theorem aLoadB_some (g : Bool) (n off : Nat) (cs : List AV) : aLoadB g n off (some (.cells cs)) k = aCells g n off cs k := propext Iff.rfl
@[simp] theorem aLoad_ptr (g : Bool) (n id off : Nat) : aLoad g n (.ptr id off) H k = aLoadB g n off H[id]? k := by
  unfold aLoad aLoadB; rfl
def aStoreB (n off id : Nat) (xs : Option (List AV)) (b : Option AB) (H : Heap) (K : Heap → Prop) : Prop :=
  match xs, b with
  | some xs, some (.cells cs) => (xs.length = n ∧ off + n ≤ cs.length ∧ xs.all AV.known = true) ∧ K (H.set id (.cells (cs.take off ++ xs ++ cs.drop (off + n))))
  | _, _ => False
@[simp] theorem aStoreB_some {K' : Heap → Prop} (n off id : Nat) (xs cs : List AV) : aStoreB n off id (some xs) (some (.cells cs)) H K' = ((xs.length = n ∧ off + n ≤ cs.length ∧ xs.all AV.known = true) ∧ K' (H.set id (.cells (cs.take off ++ xs ++ cs.drop (off + n))))) := propext Iff.rfl
@[simp] theorem aStore_ptr {K' : Heap → Prop} (n id off : Nat) (x : AV) : aStore n (.ptr id off) x H K' = aStoreB n off id x.cs? H[id]? H K' := by
  cases hx : x.cs? with
  | none => simp [aStore, aStoreB, hx]
  | some xs => cases hb : H[id]? with
    | none => simp [aStore, aStoreB, hx, hb]
    | some b => cases b <;> simp [aStore, aStoreB, hx, hb]
@[simp] theorem aNil_ptr (i o : Nat) : aNil (.ptr i o) k = k (.ptr i o) := propext Iff.rfl
@[simp] theorem aNil_view (cs : List AV) : aNil (.view cs) k = k (.view cs) := propext Iff.rfl
@[simp] theorem aNil_fn (f : Nat) (c : List AV) : aNil (.fn f c) k = k (.fn f c) := propext Iff.rfl
@[simp] theorem aFld_ptr (off i o : Nat) : aFld off (.ptr i o) k = k (.ptr i (o + off)) := propext Iff.rfl
@[simp] theorem aFld_view (off : Nat) (cs : List AV) : aFld off (.view cs) k = (off ≤ cs.length ∧ k (.view (cs.drop off))) := propext Iff.rfl
@[simp] theorem aFldV_agg (g : Bool) (n off : Nat) (cs : List AV) : aFldV g n off (.agg cs) k = aCells g n off cs k := propext Iff.rfl
@[simp] theorem aIdxA_sl (esz : Nat) (es : List (List AV)) (t : Tok) (j : IntKind) (n : Int) : aIdxA esz (.sl es t) (.int j n) k = ((0 ≤ n ∧ n < es.length) ∧ ((es.getD n.toNat []).length = esz ∧ k (.view (es.getD n.toNat [])))) := propext Iff.rfl
@[simp] theorem aIdxA_ms (esz id off len cap : Nat) (j : IntKind) (n : Int) : aIdxA esz (.ms id off len cap) (.int j n) k = ((0 ≤ n ∧ n < len) ∧ k (.ptr id (off + n.toNat * esz))) := propext Iff.rfl
@[simp] theorem aIdxS_str (s : List UInt8) (j : IntKind) (n : Int) : aIdxS (.str s) (.int j n) k = ((0 ≤ n ∧ n < s.length) ∧ k (.int .u8 (s.getD n.toNat 0).toNat)) := propext Iff.rfl
@[simp] theorem aLen_str (s : List UInt8) : aLen 0 (.str s) k = k (.int .i64 s.length) := propext Iff.rfl
@[simp] theorem aLen_sl (es : List (List AV)) (t : Tok) : aLen 1 (.sl es t) k = k (.int .i64 es.length) := propext Iff.rfl
@[simp] theorem aLen_snil : aLen 1 .snil k = k (.int .i64 0) := propext Iff.rfl
@[simp] theorem aLen_ms (i o l c : Nat) : aLen 1 (.ms i o l c) k = k (.int .i64 l) := propext Iff.rfl
@[simp] theorem aBound_none (d : Nat) (q : Nat → Prop) : aBound none d q = q d := propext Iff.rfl
@[simp] theorem aBound_int (j : IntKind) (n : Int) (d : Nat) (q : Nat → Prop) : aBound (some (.int j n)) d q = (0 ≤ n ∧ q n.toNat) := propext Iff.rfl
@[simp] theorem aSlice_str (s : List UInt8) (lo hi : Option AV) : aSlice 0 0 (.str s) lo hi k = aBound hi s.length fun h => aBound lo 0 fun l => (l ≤ h ∧ h ≤ s.length) ∧ k (.str ((s.take h).drop l)) := propext Iff.rfl
@[simp] theorem aSlice_sl (esz : Nat) (es : List (List AV)) (t : Tok) (lo hi : Option AV) : aSlice 1 esz (.sl es t) lo hi k = aBound hi es.length fun h => aBound lo 0 fun l => (l ≤ h ∧ h ≤ es.length ∧ ∀ c ∈ es, c.length = esz) ∧ k (.sl ((es.take h).drop l) .none) := propext Iff.rfl
@[simp] theorem aAdd_int (b : Bool) (j : IntKind) (m n : Int) : aBin .add b (.int j m) (.int j n) k = k (.int j (j.wrap (m + n))) := by simp [aBin]
@[simp] theorem aSub_int (b : Bool) (j : IntKind) (m n : Int) : aBin .sub b (.int j m) (.int j n) k = k (.int j (j.wrap (m - n))) := by simp [aBin]
@[simp] theorem aMul_int (b : Bool) (j : IntKind) (m n : Int) : aBin .mul b (.int j m) (.int j n) k = k (.int j (j.wrap (m * n))) := by simp [aBin]
@[simp] theorem aEql_int (b : Bool) (j : IntKind) (m n : Int) : aBin .eql b (.int j m) (.int j n) k = k (.bool (m == n)) := by simp [aBin]
@[simp] theorem aNeq_int (b : Bool) (j : IntKind) (m n : Int) : aBin .neq b (.int j m) (.int j n) k = k (.bool (m != n)) := by simp [aBin]
@[simp] theorem aLss_int (b : Bool) (j : IntKind) (m n : Int) : aBin .lss b (.int j m) (.int j n) k = k (.bool (decide (m < n))) := by simp [aBin]
@[simp] theorem aLeq_int (b : Bool) (j : IntKind) (m n : Int) : aBin .leq b (.int j m) (.int j n) k = k (.bool (decide (m ≤ n))) := by simp [aBin]
@[simp] theorem aGtr_int (b : Bool) (j : IntKind) (m n : Int) : aBin .gtr b (.int j m) (.int j n) k = k (.bool (decide (m > n))) := by simp [aBin]
@[simp] theorem aGeq_int (b : Bool) (j : IntKind) (m n : Int) : aBin .geq b (.int j m) (.int j n) k = k (.bool (decide (m ≥ n))) := by simp [aBin]
@[simp] theorem aEql_str (b : Bool) (s t : List UInt8) : aBin .eql b (.str s) (.str t) k = k (.bool (s == t)) := propext Iff.rfl
@[simp] theorem aNeq_str (b : Bool) (s t : List UInt8) : aBin .neq b (.str s) (.str t) k = k (.bool (!(s == t))) := rfl
@[simp] theorem aAdd_str (b : Bool) (s t : List UInt8) : aBin .add b (.str s) (.str t) k = (s.length + t.length ≤ 9223372036854775807 ∧ k (.str (s ++ t))) := propext Iff.rfl
@[simp] theorem aEql_bool (m n : Bool) : aBin .eql true (.bool m) (.bool n) k = k (.bool (m == n)) := by simp [aBin]
@[simp] theorem aNeq_bool (m n : Bool) : aBin .neq true (.bool m) (.bool n) k = k (.bool (!(m == n))) := by simp [aBin]
@[simp] theorem aNot_bool (b : Bool) : aUn .not (.bool b) k = k (.bool (!b)) := rfl
@[simp] theorem aNeg_int (j : IntKind) (n : Int) : aUn .neg (.int j n) k = k (.int j (j.wrap (0 - n))) := rfl
@[simp] theorem aConv_int (j i : IntKind) (n : Int) : aConv j (.int i n) k = k (.int j (j.wrap n)) := propext Iff.rfl
@[simp] theorem aConvS_str (s : List UInt8) : aConvS (.str s) k = k (.str s) := propext Iff.rfl
@[simp] theorem aExt_0 (v : AV) (vs : List AV) : aExt (.tup (v :: vs)) 0 k = k v := propext Iff.rfl
@[simp] theorem aExt_s (v : AV) (vs : List AV) (i : Nat) : aExt (.tup (v :: vs)) (i + 1) k = aExt (.tup vs) i k := by simp [aExt]
@[simp] theorem aClos_eq (f : Nat) (caps : List AV) : aClos f caps k = (caps.all AV.isB = true ∧ k (.fn f caps)) := propext Iff.rfl
theorem aBuild_eq (z : List AV) (ps : List (Nat × Nat)) (parts : List (Nat × AV)) : aBuild z ps parts k = (match fillA ps parts z with | some cs => k (.agg cs) | none => False) := rfl
@[simp] theorem aRet_one (v : AV) : aRet [v] k = k v := propext Iff.rfl
@[simp] theorem aRet_two (v u : AV) (vs : List AV) : aRet (v :: u :: vs) k = ((v :: u :: vs).all AV.isV = true ∧ k (.tup (v :: u :: vs))) := propext Iff.rfl
end


/-! ### Congruences: what stands behind is not looked into -/
section
variable {H H' : Heap} {K : AV → Heap → Prop} {k : AV → Prop} {kh : Heap → Prop}
@[congr] theorem aIf_cg {b b' : Bool} {p q : Prop} (h : b = b') : aIf b p q = aIf b' p q := by rw [h]
@[congr] theorem aTest_cg {c c' : AV} {p q : Prop} (h : c = c') : aTest c p q = aTest c' p q := by rw [h]
@[congr] theorem aGuard_cg {c c' : AV} {w : Bool} {p q : Prop} (h : c = c') : aGuard c w p q = aGuard c' w p q := by rw [h]
@[congr] theorem aGuardJ_cg {c c' : AV} {w : Bool} {p : (AV → Heap → Prop) → Prop} {J : AV → Heap → Prop} (h : c = c') (hH : H = H') : aGuardJ c w H p J = aGuardJ c' w H' p J := by rw [h, hH]
@[congr] theorem aPick_cg {c c' a a' b b' : AV} (h : c = c') (ha : a = a') (hb : b = b') : aPick c a b k = aPick c' a' b' k := by rw [h, ha, hb]
@[congr] theorem aBox_cg {x x' : AV} (h : x = x') (hH : H = H') : aBox x H K = aBox x' H' K := by rw [h, hH]
@[congr] theorem aNew_cg {x x' : List AV} (h : x = x') (hH : H = H') : aNew x H K = aNew x' H' K := by rw [h, hH]
@[congr] theorem aCells_cg {g : Bool} {n n' o o' : Nat} {c c' : List AV} (hn : n = n') (ho : o = o') (hc : c = c') : aCells g n o c k = aCells g n' o' c' k := by rw [hn, ho, hc]
@[congr] theorem aLoad_cg {g : Bool} {n : Nat} {x x' : AV} (h : x = x') (hH : H = H') : aLoad g n x H k = aLoad g n x' H' k := by rw [h, hH]
@[congr] theorem aLoadB_cg {g : Bool} {n o o' : Nat} {b b' : Option AB} (ho : o = o') (h : b = b') : aLoadB g n o b k = aLoadB g n o' b' k := by rw [h, ho]
@[congr] theorem aStore_cg {n : Nat} {a a' x x' : AV} (ha : a = a') (h : x = x') (hH : H = H') : aStore n a x H kh = aStore n a' x' H' kh := by rw [ha, h, hH]
@[congr] theorem aStoreB_cg {n o o' i i' : Nat} {x x' : Option (List AV)} {b b' : Option AB} (ho : o = o') (hi : i = i') (h : x = x') (hb : b = b') (hH : H = H') : aStoreB n o i x b H kh = aStoreB n o' i' x' b' H' kh := by rw [ho, hi, h, hb, hH]
@[congr] theorem aFld_cg {n : Nat} {x x' : AV} (h : x = x') : aFld n x k = aFld n x' k := by rw [h]
@[congr] theorem aFldV_cg {g : Bool} {n o : Nat} {x x' : AV} (h : x = x') : aFldV g n o x k = aFldV g n o x' k := by rw [h]
@[congr] theorem aIdxA_cg {n : Nat} {x x' i i' : AV} (h : x = x') (hi : i = i') : aIdxA n x i k = aIdxA n x' i' k := by rw [h, hi]
@[congr] theorem aIdxS_cg {x x' i i' : AV} (h : x = x') (hi : i = i') : aIdxS x i k = aIdxS x' i' k := by rw [h, hi]
@[congr] theorem aLen_cg {u : Nat} {x x' : AV} (h : x = x') : aLen u x k = aLen u x' k := by rw [h]
@[congr] theorem aBound_cg {x x' : Option AV} {d d' : Nat} {q : Nat → Prop} (h : x = x') (hd : d = d') : aBound x d q = aBound x' d' q := by rw [h, hd]
@[congr] theorem aSlice_cg {u e : Nat} {x x' : AV} {l l' h h' : Option AV} (hx : x = x') (hl : l = l') (hh : h = h') : aSlice u e x l h k = aSlice u e x' l' h' k := by rw [hx, hl, hh]
@[congr] theorem aBin_cg {o : BinOp} {b : Bool} {x x' y y' : AV} (h : x = x') (hy : y = y') : aBin o b x y k = aBin o b x' y' k := by rw [h, hy]
@[congr] theorem aUn_cg {o : UnOp} {x x' : AV} (h : x = x') : aUn o x k = aUn o x' k := by rw [h]
@[congr] theorem aConv_cg {o : IntKind} {x x' : AV} (h : x = x') : aConv o x k = aConv o x' k := by rw [h]
@[congr] theorem aConvS_cg {x x' : AV} (h : x = x') : aConvS x k = aConvS x' k := by rw [h]
@[congr] theorem aExt_cg {x x' : AV} {i : Nat} (h : x = x') : aExt x i k = aExt x' i k := by rw [h]
@[congr] theorem aClos_cg {f : Nat} {x x' : List AV} (h : x = x') : aClos f x k = aClos f x' k := by rw [h]
@[congr] theorem aNil_cg {x x' : AV} (h : x = x') : aNil x k = aNil x' k := by rw [h]
@[congr] theorem aBuild_cg {z : List AV} {p : List (Nat × Nat)} {x x' : List (Nat × AV)} (h : x = x') : aBuild z p x k = aBuild z p x' k := by rw [h]
@[congr] theorem aBuildS_cg {e : Nat} {z : List AV} {l : Nat} {x x' : List (Nat × AV)} (h : x = x') : aBuildS e z l x k = aBuildS e z l x' k := by rw [h]
@[congr] theorem aMake_cg {b : Nat} {z : List AV} {l l' c c' : AV} (h : l = l') (hc : c = c') (hH : H = H') : aMake b z l c H K = aMake b z l' c' H' K := by rw [h, hc, hH]
@[congr] theorem aAppend_cg {e s b : Nat} {x x' y y' : AV} (h : x = x') (hy : y = y') (hH : H = H') : aAppend e s b x y H K = aAppend e s b x' y' H' K := by rw [h, hy, hH]
@[congr] theorem aAppTo_cg {e s b : Nat} {x x' : AV} {y y' : List (List AV)} (h : x = x') (hy : y = y') (hH : H = H') : aAppTo e s b x y H K = aAppTo e s b x' y' H' K := by rw [h, hy, hH]
@[congr] theorem aSrc_cg {x x' : AV} {q : List (List AV) → Prop} (h : x = x') : aSrc x q = aSrc x' q := by rw [h]
@[congr] theorem ACalls_cg {P : Program} {f : FuncId} {x x' : List AV} (h : x = x') (hH : H = H') : ACalls P f x H K = ACalls P f x' H' K := by rw [h, hH]
@[congr] theorem aCallV_cg {P : Program} {g g' : AV} {x x' : List AV} (hg : g = g') (h : x = x') (hH : H = H') : aCallV P g x H K = aCallV P g' x' H' K := by rw [hg, h, hH]
@[congr] theorem aPure_cg {p : (AV → Heap → Prop) → Prop} : aPure H p k = aPure H p k := rfl
@[congr] theorem Out_cg {n : Nat} {r r' : AV} (hr : r = r') (hH : H = H') : Out n K r H = Out n K r' H' := by rw [hr, hH]
end
/-! ### Regions that draw their order: what only computes -/
section
variable {H : Heap} {k : AV → Prop}
theorem pure_of {p : (AV → Prop) → Prop} (h : ∀ q : AV → Prop, p q ↔ ∃ v, p (fun u => u = v) ∧ q v) : aPure H (fun K' => p fun v => K' v H) k = p k := by
  unfold aPure
  rw [eq_iff_iff, h k]
  simp only [and_true]
@[simp] theorem aPure_id (x : AV) : aPure H (fun K' => K' x H) k = k x := by simp [aPure]
theorem cells_det (g : Bool) (n o : Nat) (cs : List AV) (q : AV → Prop) : aCells g n o cs q ↔ ∃ v, aCells g n o cs (fun u => u = v) ∧ q v := by
  unfold aCells
  split
  · constructor
    · rintro ⟨h1, h2⟩; exact ⟨_, ⟨h1, rfl⟩, h2⟩
    · rintro ⟨v, ⟨h1, rfl⟩, h2⟩; exact ⟨h1, h2⟩
  · split <;> simp
@[simp] theorem aPure_load (g : Bool) (n : Nat) (a : AV) : aPure H (fun K' => aLoad g n a H fun v => K' v H) k = aLoad g n a H k := pure_of (p := fun q => aLoad g n a H q) fun q => by
  unfold aLoad
  split
  · split
    · exact cells_det _ _ _ _ q
    · simp
  · exact cells_det _ _ _ _ q
  · simp
@[simp] theorem aPure_pick (c a b : AV) : aPure H (fun K' => aPick c a b fun v => K' v H) k = aPick c a b k := pure_of (p := fun q => aPick c a b q) fun q => by
  unfold aPick; split <;> simp
@[simp] theorem aPure_fld (o : Nat) (a : AV) : aPure H (fun K' => aFld o a fun v => K' v H) k = aFld o a k := pure_of (p := fun q => aFld o a q) fun q => by
  unfold aFld
  split
  · simp
  · constructor
    · rintro ⟨h1, h2⟩; exact ⟨_, ⟨h1, rfl⟩, h2⟩
    · rintro ⟨v, ⟨h1, rfl⟩, h2⟩; exact ⟨h1, h2⟩
  · simp
@[simp] theorem aPure_fldV (g : Bool) (n o : Nat) (a : AV) : aPure H (fun K' => aFldV g n o a fun v => K' v H) k = aFldV g n o a k := pure_of (p := fun q => aFldV g n o a q) fun q => by
  unfold aFldV
  split
  · exact cells_det _ _ _ _ q
  · simp
@[simp] theorem aPure_idxA (n : Nat) (x i : AV) : aPure H (fun K' => aIdxA n x i fun v => K' v H) k = aIdxA n x i k := pure_of (p := fun q => aIdxA n x i q) fun q => by
  unfold aIdxA
  split
  · constructor
    · rintro ⟨h1, h2, h3⟩; exact ⟨_, ⟨h1, h2, rfl⟩, h3⟩
    · rintro ⟨v, ⟨h1, h2, rfl⟩, h3⟩; exact ⟨h1, h2, h3⟩
  · constructor
    · rintro ⟨h1, h2⟩; exact ⟨_, ⟨h1, rfl⟩, h2⟩
    · rintro ⟨v, ⟨h1, rfl⟩, h2⟩; exact ⟨h1, h2⟩
  · simp
@[simp] theorem aPure_idxS (x i : AV) : aPure H (fun K' => aIdxS x i fun v => K' v H) k = aIdxS x i k := pure_of (p := fun q => aIdxS x i q) fun q => by
  unfold aIdxS
  split
  · constructor
    · rintro ⟨h1, h2⟩; exact ⟨_, ⟨h1, rfl⟩, h2⟩
    · rintro ⟨v, ⟨h1, rfl⟩, h2⟩; exact ⟨h1, h2⟩
  · simp
@[simp] theorem aPure_len (u : Nat) (x : AV) : aPure H (fun K' => aLen u x fun v => K' v H) k = aLen u x k := pure_of (p := fun q => aLen u x q) fun q => by
  unfold aLen; split <;> simp
@[simp] theorem aPure_un (o : UnOp) (x : AV) : aPure H (fun K' => aUn o x fun v => K' v H) k = aUn o x k := pure_of (p := fun q => aUn o x q) fun q => by
  unfold aUn; split <;> simp
@[simp] theorem aPure_conv (o : IntKind) (x : AV) : aPure H (fun K' => aConv o x fun v => K' v H) k = aConv o x k := pure_of (p := fun q => aConv o x q) fun q => by
  unfold aConv; split <;> simp
@[simp] theorem aPure_convS (x : AV) : aPure H (fun K' => aConvS x fun v => K' v H) k = aConvS x k := pure_of (p := fun q => aConvS x q) fun q => by
  unfold aConvS; split <;> simp
@[simp] theorem aPure_nil (x : AV) : aPure H (fun K' => aNil x fun v => K' v H) k = aNil x k := pure_of (p := fun q => aNil x q) fun q => by
  unfold aNil; split <;> simp
@[simp] theorem aPure_ext (x : AV) (i : Nat) : aPure H (fun K' => aExt x i fun v => K' v H) k = aExt x i k := pure_of (p := fun q => aExt x i q) fun q => by
  unfold aExt
  split
  · split <;> simp
  · simp
@[simp] theorem aPure_build (z : List AV) (ps : List (Nat × Nat)) (x : List (Nat × AV)) : aPure H (fun K' => aBuild z ps x fun v => K' v H) k = aBuild z ps x k := pure_of (p := fun q => aBuild z ps x q) fun q => by
  unfold aBuild; split <;> simp
@[simp] theorem aPure_buildS (e : Nat) (z : List AV) (l : Nat) (x : List (Nat × AV)) : aPure H (fun K' => aBuildS e z l x fun v => K' v H) k = aBuildS e z l x k := pure_of (p := fun q => aBuildS e z l x q) fun q => by
  unfold aBuildS
  split
  · split <;> simp
  · simp
@[simp] theorem aPure_bin (o : BinOp) (b : Bool) (x y : AV) : aPure H (fun K' => aBin o b x y fun v => K' v H) k = aBin o b x y k := pure_of (p := fun q => aBin o b x y q) fun q => by
  unfold aBin
  split
  · cases o <;> simp [and_assoc]
  · cases o <;> simp [and_assoc]
  · cases o <;> simp [and_assoc]
  · simp
@[simp] theorem aPure_clos (f : Nat) (x : List AV) : aPure H (fun K' => aClos f x fun v => K' v H) k = aClos f x k := pure_of (p := fun q => aClos f x q) fun q => by
  unfold aClos
  constructor
  · rintro ⟨h1, h2⟩; exact ⟨_, ⟨h1, rfl⟩, h2⟩
  · rintro ⟨v, ⟨h1, rfl⟩, h2⟩; exact ⟨h1, h2⟩
end
@[simp] theorem get_len (A l : Heap) : (A ++ l)[A.length]? = l[0]? := by rw [List.getElem?_append_right (Nat.le_refl _)]; simp
@[simp] theorem get_len_add (A l : Heap) (k : Nat) : (A ++ l)[A.length + k]? = l[k]? := by rw [List.getElem?_append_right (by omega)]; congr 1; omega
@[simp] theorem set_len (A l : Heap) (x : AB) : (A ++ l).set A.length x = A ++ l.set 0 x := by rw [List.set_append_right _ _ (Nat.le_refl _)]; simp
@[simp] theorem set_len_add (A l : Heap) (k : Nat) (x : AB) : (A ++ l).set (A.length + k) x = A ++ l.set k x := by rw [List.set_append_right _ _ (by omega)]; congr 2; omega
@[simp] theorem get_set_len (A l : Heap) (i : Nat) (y : AB) : (A.set i y ++ l)[A.length]? = l[0]? := by have := get_len (A.set i y) l; rwa [List.length_set] at this
@[simp] theorem get_set_len_add (A l : Heap) (i : Nat) (y : AB) (k : Nat) : (A.set i y ++ l)[A.length + k]? = l[k]? := by have := get_len_add (A.set i y) l k; rwa [List.length_set] at this
@[simp] theorem set_set_len (A l : Heap) (i : Nat) (x y : AB) : (A.set i y ++ l).set A.length x = A.set i y ++ l.set 0 x := by have := set_len (A.set i y) l x; rwa [List.length_set] at this
@[simp] theorem set_set_len_add (A l : Heap) (i : Nat) (y : AB) (k : Nat) (x : AB) : (A.set i y ++ l).set (A.length + k) x = A.set i y ++ l.set k x := by have := set_len_add (A.set i y) l k x; rwa [List.length_set] at this
theorem app_get {H J : Heap} {id : Nat} {b : AB} (h : H[id]? = some b) : (H ++ J)[id]? = some b := by
  rw [List.getElem?_append_left (List.getElem?_eq_some_iff.1 h).1]; exact h
theorem lt_get {H : Heap} {id : Nat} {b : AB} (h : H[id]? = some b) : id < H.length := (List.getElem?_eq_some_iff.1 h).1
theorem app_set {H J : Heap} {id : Nat} {b : AB} (x : AB) (h : H[id]? = some b) : (H ++ J).set id x = H.set id x ++ J := List.set_append_left _ _ (lt_get h)
theorem set_get {H : Heap} {id : Nat} {b : AB} (x : AB) (h : H[id]? = some b) : (H.set id x)[id]? = some x := List.getElem?_set_self (lt_get h)

/-- Numbers in range do not wrap. -/
theorem wrap_in {n : Int} (h1 : -9223372036854775808 ≤ n) (h2 : n ≤ 9223372036854775807) : IntKind.i64.wrap n = n := IntWalk.i64_in n ⟨h1, h2⟩

theorem HSc.set {H : Heap} {id : Nat} {b : AB} (h : HSc H) (hb : b.sc H.length = true) : HSc (H.set id b) := by
  intro x hx
  rw [List.length_set]
  rcases List.mem_or_eq_of_mem_set hx with h1 | h1
  · exact h x h1
  · rw [h1]; exact hb
theorem sc_mono {n m : Nat} (h : n ≤ m) : ∀ {a : AV}, a.sc n = true → a.sc m = true := by
  have hB : ∀ {a : AV}, a.scB n = true → a.scB m = true := by
    intro a ha
    cases a with
    | sl es t => cases t <;> simp_all [AV.scB]; omega
    | _ => simp_all [AV.scB] <;> omega
  have hA : ∀ {a : AV}, a.scA n = true → a.scA m = true := by
    intro a ha
    cases a with
    | fn f caps => simp only [AV.scA, List.all_eq_true] at ha ⊢; exact fun x hx => hB (ha x hx)
    | _ => simp only [AV.scA] at ha ⊢; exact hB ha
  have hV : ∀ {a : AV}, a.scV n = true → a.scV m = true := by
    intro a ha
    cases a with
    | agg caps => simp only [AV.scV, List.all_eq_true] at ha ⊢; exact fun x hx => hA (ha x hx)
    | _ => simp only [AV.scV] at ha ⊢; exact hA ha
  intro a ha
  cases a with
  | tup caps => simp only [AV.sc, List.all_eq_true] at ha ⊢; exact fun x hx => hV (ha x hx)
  | _ => simp only [AV.sc] at ha ⊢; exact hV ha
theorem Back.here {n0 : Nat} {Inv : List AV → Heap → Prop} {F : List AV} {H : Heap} (hn : n0 ≤ H.length) (hsc : HSc H) (hs : F.all (AV.sc H.length) = true) (h : Inv F H) : Back n0 Inv F H := by
  have := Back.same (J := []) hn hsc hs h
  simpa using this
theorem scA_mono {n m : Nat} (h : n ≤ m) {a : AV} (ha : a.scA n = true) : a.scA m = true := by
  cases a with
  | agg cs => rfl
  | tup vs => rfl
  | fn f caps => exact sc_mono h (a := .fn f caps) ha
  | sl es t => exact sc_mono h (a := .sl es t) ha
  | ptr i o => exact sc_mono h (a := .ptr i o) ha
  | ms i o l c => exact sc_mono h (a := .ms i o l c) ha
  | map i => exact sc_mono h (a := .map i) ha
  | _ => rfl
theorem ABsc_mono {n m : Nat} (h : n ≤ m) {b : AB} (hb : b.sc n = true) : b.sc m = true := by
  cases b with
  | cells cs => simp only [AB.sc, List.all_eq_true] at hb ⊢; exact fun x hx => scA_mono h (hb x hx)
  | perm e s n => rfl
  | map kvs => cases hb
theorem HSc.append {A J : Heap} (hA : HSc A) (hJ : J.all (AB.sc (A.length + J.length)) = true) : HSc (A ++ J) := by
  intro x hx
  rw [List.length_append]
  rcases List.mem_append.1 hx with h1 | h1
  · exact ABsc_mono (by omega) (hA x h1)
  · exact List.all_eq_true.1 hJ x h1
end Go.Abs
