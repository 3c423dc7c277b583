import Derived.Test.YtddlhljflggenaaGreatDoorAbsQ1
import Derived.IntWalk
import Derived.Shelf.SlSortCmp.NoneTotal
import Derived.Shelf.Spec.SlicesGrow
import Derived.Test.YtddlhljflggenaaGreatDoorProg
import Derived.Test.YtddlhljflggenaaGreatDoorKNum
import Derived.KernelRfl
import Derived.Test.YtddlhljflggenaaGreatDoorAbsY
set_option linter.unusedSimpArgs false
set_option linter.unusedVariables false
namespace Go.Abs
open Go Go.RowKit

section
variable {H : zaa} {K : AV → zaa → Prop} {k : AV → Prop}
@[simp] theorem zM6 (p q : Prop) : aIf true p q = p := propext Iff.rfl
@[simp] theorem zM5 (p q : Prop) : aIf false p q = q := propext Iff.rfl
theorem zqY (b : Bool) (p q : Prop) : zaf (.bool b) p q = (if b = true then p else q) := rfl
theorem zfJ {b : Bool} {p q : Prop} (hp : b = true → p) (hq : b = false → q) : zaf (.bool b) p q := by
 cases b
 ·exact hq rfl
 ·exact hp rfl
@[simp] theorem zOs (p q : Prop) : zaf (.bool true) p q = p := propext Iff.rfl
@[simp] theorem zcq (p q : Prop) : zaf (.bool false) p q = q := propext Iff.rfl
@[simp] theorem zNU (x y : AV) : zai (.bool true) x y k = k x := propext Iff.rfl
@[simp] theorem zNT (x y : AV) : zai (.bool false) x y k = k y := propext Iff.rfl
@[simp] theorem zMX (p q : Prop) : zcB (.bool true) true p q = p := propext Iff.rfl
@[simp] theorem zMU (p q : Prop) : zcB (.bool false) false p q = p := propext Iff.rfl
@[simp] theorem zMW (p q : Prop) : zcB (.bool true) false p q = q := propext Iff.rfl
@[simp] theorem zMV (p q : Prop) : zcB (.bool false) true p q = q := propext Iff.rfl
@[simp] theorem zMY (want : Bool) (p q : Prop) : zcB (.tup []) want p q = q := propext Iff.rfl
@[simp] theorem zMR (p : (AV → zaa → Prop) → Prop) (J : AV → zaa → Prop) : zab (.bool true) true H p J = p J := propext Iff.rfl
@[simp] theorem zMO (p : (AV → zaa → Prop) → Prop) (J : AV → zaa → Prop) : zab (.bool false) false H p J = p J := propext Iff.rfl
@[simp] theorem zMQ (p : (AV → zaa → Prop) → Prop) (J : AV → zaa → Prop) : zab (.bool true) false H p J = J (.tup []) H := propext Iff.rfl
@[simp] theorem zMP (p : (AV → zaa → Prop) → Prop) (J : AV → zaa → Prop) : zab (.bool false) true H p J = J (.tup []) H := propext Iff.rfl
@[simp] theorem zMS (want : Bool) (p : (AV → zaa → Prop) → Prop) (J : AV → zaa → Prop) : zab (.tup []) want H p J = J (.tup []) H := propext Iff.rfl
@[simp] theorem zOz (cs : List AV) : (AV.agg cs).cs? = some cs := rfl
@[simp] theorem zOC (j : IntKind) (n : Int) : (AV.int j n).cs? = some [.int j n] := rfl
@[simp] theorem zOA (b : Bool) : (AV.bool b).cs? = some [.bool b] := rfl
@[simp] theorem zOM (s : List UInt8) : (AV.str s).cs? = some [.str s] := rfl
@[simp] theorem zOK (es : List (List AV)) (t : Tok) : (AV.sl es t).cs? = some [.sl es t] := rfl
@[simp] theorem zOL : (AV.snil).cs? = some [.snil] := rfl
@[simp] theorem zOJ (i o : Nat) : (AV.ptr i o).cs? = some [.ptr i o] := rfl
@[simp] theorem zOE (i o l c : Nat) : (AV.ms i o l c).cs? = some [.ms i o l c] := rfl
@[simp] theorem zOB (f : Nat) (c : List AV) : (AV.fn f c).cs? = some [.fn f c] := rfl
@[simp] theorem zOH : (AV.nilp).cs? = some [.nilp] := rfl
@[simp] theorem zOG : (AV.nili).cs? = some [.nili] := rfl
@[simp] theorem zOI (i n : Nat) : (AV.ov i n).cs? = some [.ov i n] := rfl
@[simp] theorem zON (i n o : Nat) : (AV.vp i n o).cs? = some [.vp i n o] := rfl
@[simp] theorem zOF : (AV.nilfn).cs? = some [.nilfn] := rfl
@[simp] theorem zNH (cs : List AV) : zaz cs H K = K (.ptr H.length 0) (H ++ [.cells cs]) := propext Iff.rfl
@[simp] theorem zMa (cs : List AV) : zax (.agg cs) H K = K (.ptr H.length 0) (H ++ [.cells cs]) := propext Iff.rfl
@[simp] theorem zMe (j : IntKind) (n : Int) : zax (.int j n) H K = K (.ptr H.length 0) (H ++ [.cells [.int j n]]) := propext Iff.rfl
@[simp] theorem zMl (s : List UInt8) : zax (.str s) H K = K (.ptr H.length 0) (H ++ [.cells [.str s]]) := propext Iff.rfl
@[simp] theorem zMb (b : Bool) : zax (.bool b) H K = K (.ptr H.length 0) (H ++ [.cells [.bool b]]) := propext Iff.rfl
@[simp] theorem zMj (es : List (List AV)) (t : Tok) : zax (.sl es t) H K = K (.ptr H.length 0) (H ++ [.cells [.sl es t]]) := propext Iff.rfl
@[simp] theorem zMp (n off : Nat) (cs : List AV) : za3 true n off cs k = (off + n ≤ cs.length ∧ k (.agg ((cs.drop off).take n))) := propext Iff.rfl
theorem zcW {cs : List AV} {off : Nat} {c : AV} (n : Nat) (h : cs[off]? = some c) : za3 false n off cs k = k c := by simp [za3, h]
@[simp] theorem zMs (n : Nat) (c : AV) (cs : List AV) : za3 false n 0 (c :: cs) k = k c := propext Iff.rfl
@[simp] theorem zMr (n i : Nat) (c : AV) (cs : List AV) : za3 false n (i + 1) (c :: cs) k = za3 false n i cs k := by simp [za3]
@[simp] theorem zNq (g : Bool) (n : Nat) (cs : List AV) : zad g n (.view cs) H k = za3 g n 0 cs k := propext Iff.rfl
def zht (g : Bool) (n off : Nat) (b : Option AB) (k : AV → Prop) : Prop :=
 match b with
 | some (.cells cs) => za3 g n off cs k
 | _ => False
@[simp] theorem zNk (g : Bool) (n off : Nat) (cs : List AV) : zht g n off (some (.cells cs)) k = za3 g n off cs k := propext Iff.rfl
@[simp] theorem zNp (g : Bool) (n id off : Nat) : zad g n (.ptr id off) H k = zht g n off H[id]? k := by
 rw [zfG]; rfl
def zef (n off id : Nat) (xs : Option (List AV)) (b : Option AB) (H : zaa) (K : zaa → Prop) : Prop :=
 match xs, b with
 | some xs, some (.cells cs) => (xs.length = n ∧ off + n ≤ cs.length ∧ xs.all AV.known = true) ∧ K (H.set id (.cells (cs.take off ++ xs ++ cs.drop (off + n))))
 | _, _ => False
@[simp] theorem zlh {K' : zaa → Prop} (n off id : Nat) (xs cs : List AV) : zef n off id (some xs) (some (.cells cs)) H K' = ((xs.length = n ∧ off + n ≤ cs.length ∧ xs.all AV.known = true) ∧ K' (H.set id (.cells (cs.take off ++ xs ++ cs.drop (off + n))))) := propext Iff.rfl
@[simp] theorem zOp {K' : zaa → Prop} (n id off : Nat) (x : AV) : zal n (.ptr id off) x H K' = zef n off id x.cs? H[id]? H K' := by
 cases hx : x.cs? with
 | none => simp [zdG, zef, hx]
 | some xs => cases hb : H[id]? with
  | none => simp [zdG, zef, hx, hb]
  | some b => cases b <;> simp [zdG, zef, hx, hb]
def zqW (g : Bool) (n m off : Nat) (b : Option AB) (k : AV → Prop) : Prop :=
 match b with
 | some (.vec _ _ m' cs) => m' = m ∧ za3 g n off cs k
 | _ => False
@[simp] theorem zNn (g : Bool) (n m off e s m' : Nat) (cs : List AV) : zqW g n m off (some (.vec e s m' cs)) k = (m' = m ∧ za3 g n off cs k) := propext Iff.rfl
@[simp] theorem zNr (g : Bool) (n id m off : Nat) : zad g n (.vp id m off) H k = zqW g n m off H[id]? k := by
 rw [zfG]; rfl
def zfI (n m off id : Nat) (xs : Option (List AV)) (b : Option AB) (H : zaa) (K' : zaa → Prop) : Prop :=
 match xs, b with
 | some xs, some (.vec e s m' cs) => (m' = m ∧ xs.length = n ∧ off + n ≤ cs.length ∧ xs.all AV.known = true) ∧ K' (H.set id (.vec e s m' (cs.take off ++ xs ++ cs.drop (off + n))))
 | _, _ => False
@[simp] theorem zli {K' : zaa → Prop} (n m off id e s m' : Nat) (xs cs : List AV) : zfI n m off id (some xs) (some (.vec e s m' cs)) H K' = ((m' = m ∧ xs.length = n ∧ off + n ≤ cs.length ∧ xs.all AV.known = true) ∧ K' (H.set id (.vec e s m' (cs.take off ++ xs ++ cs.drop (off + n))))) := propext Iff.rfl
@[simp] theorem zqX {K' : zaa → Prop} (n id m off : Nat) (x : AV) : zal n (.vp id m off) x H K' = zfI n m off id x.cs? H[id]? H K' := by
 cases hx : x.cs? with
 | none => simp [zdG, zfI, hx]
 | some xs => cases hb : H[id]? with
  | none => simp [zdG, zfI, hx, hb]
  | some b => cases b <;> simp [zdG, zfI, hx, hb]
def zld (e size bytes n id : Nat) (ys : List (List AV)) (b : Option AB) (H : zaa) (K : AV → zaa → Prop) : Prop :=
 match b with
 | some (.vec e' s' n' cs) => ((e' = e ∧ s' = size ∧ n' = n) ∧ (n + ys.length) * bytes ≤ 140737488355328 ∧ n + ys.length ≤ 9223372036854775807) ∧ K (.ov id (n + ys.length)) (H.set id (.vec e size (n + ys.length) (cs ++ ys.flatten)))
 | _ => False
@[simp] theorem zL6 (e size bytes n id e' s' n' : Nat) (ys : List (List AV)) (cs : List AV) : zld e size bytes n id ys (some (.vec e' s' n' cs)) H K = (((e' = e ∧ s' = size ∧ n' = n) ∧ (n + ys.length) * bytes ≤ 140737488355328 ∧ n + ys.length ≤ 9223372036854775807) ∧ K (.ov id (n + ys.length)) (H.set id (.vec e size (n + ys.length) (cs ++ ys.flatten)))) := propext Iff.rfl
@[simp] theorem zL5 (e size bytes id n : Nat) (ys : List (List AV)) : zaE e size bytes (.ov id n) ys H K = zld e size bytes n id ys H[id]? H K := by
 unfold zaE zld; rfl
@[simp] theorem zqV (esz id m : Nat) (j : IntKind) (n : Int) : zaj esz (.ov id m) (.int j n) k = ((0 ≤ n ∧ n < m) ∧ k (.vp id m (n.toNat * esz))) := zhs ..
@[simp] theorem zM9 (id n : Nat) : zah 1 (.ov id n) k = k (.int .i64 n) := propext Iff.rfl
@[simp] theorem zMK (off i m o : Nat) : zag off (.vp i m o) k = k (.vp i m (o + off)) := propext Iff.rfl
@[simp] theorem zNQ (i m o : Nat) : zbb (.vp i m o) k = k (.vp i m o) := propext Iff.rfl
@[simp] theorem zMh (i n : Nat) : zax (.ov i n) H K = K (.ptr H.length 0) (H ++ [.cells [.ov i n]]) := propext Iff.rfl
@[simp] theorem zOZ (i n : Nat) : (AV.ov i n).known = true := rfl
@[simp] theorem zPa (m i n : Nat) : (AV.ov i n).scA m = decide (i < m) := rfl
@[simp] theorem zNO (i o : Nat) : zbb (.ptr i o) k = k (.ptr i o) := propext Iff.rfl
@[simp] theorem zNP (cs : List AV) : zbb (.view cs) k = k (.view cs) := propext Iff.rfl
@[simp] theorem zNN (f : Nat) (c : List AV) : zbb (.fn f c) k = k (.fn f c) := propext Iff.rfl
@[simp] theorem zMI (off i o : Nat) : zag off (.ptr i o) k = k (.ptr i (o + off)) := propext Iff.rfl
@[simp] theorem zMJ (off : Nat) (cs : List AV) : zag off (.view cs) k = (off ≤ cs.length ∧ k (.view (cs.drop off))) := zqU ..
@[simp] theorem zMF (g : Bool) (n off : Nat) (cs : List AV) : zcY g n off (.agg cs) k = za3 g n off cs k := propext Iff.rfl
@[simp] theorem zM1 (esz : Nat) (es : List (List AV)) (t : Tok) (j : IntKind) (n : Int) : zaj esz (.sl es t) (.int j n) k = ((0 ≤ n ∧ n < es.length) ∧ ((es.getD n.toNat []).length = esz ∧ k (.view (es.getD n.toNat [])))) := zhs ..
@[simp] theorem zM0 (esz id off len cap : Nat) (j : IntKind) (n : Int) : zaj esz (.ms id off len cap) (.int j n) k = ((0 ≤ n ∧ n < len) ∧ k (.ptr id (off + n.toNat * esz))) := zhs ..
@[simp] theorem zM3 (s : List UInt8) (j : IntKind) (n : Int) : zbf (.str s) (.int j n) k = ((0 ≤ n ∧ n < s.length) ∧ k (.int .u8 (s.getD n.toNat 0).toNat)) := propext Iff.rfl
@[simp] theorem zNc (s : List UInt8) : zah 0 (.str s) k = k (.int .i64 s.length) := propext Iff.rfl
@[simp] theorem zNa (es : List (List AV)) (t : Tok) : zah 1 (.sl es t) k = k (.int .i64 es.length) := propext Iff.rfl
@[simp] theorem zNb : zah 1 .snil k = k (.int .i64 0) := propext Iff.rfl
@[simp] theorem zM8 (i o l c : Nat) : zah 1 (.ms i o l c) k = k (.int .i64 l) := propext Iff.rfl
@[simp] theorem zyv (d : Nat) (q : Nat → Prop) : zbw none d q = q d := propext Iff.rfl
@[simp] theorem zyu (j : IntKind) (n : Int) (d : Nat) (q : Nat → Prop) : zbw (some (.int j n)) d q = (0 ≤ n ∧ q n.toNat) := propext Iff.rfl
@[simp] theorem zyy (s : List UInt8) (lo hi : Option AV) : zaK 0 0 (.str s) lo hi k = zbw hi s.length fun h => zbw lo 0 fun l => (l ≤ h ∧ h ≤ s.length) ∧ k (.str ((s.take h).drop l)) := propext Iff.rfl
@[simp] theorem zOl (esz : Nat) (es : List (List AV)) (t : Tok) (lo hi : Option AV) : zaK 1 esz (.sl es t) lo hi k = zbw hi es.length fun h => zbw lo 0 fun l => (l ≤ h ∧ h ≤ es.length ∧ ∀ c ∈ es, c.length = esz) ∧ k (.sl ((es.take h).drop l) .none) := propext Iff.rfl
@[simp] theorem zL2 (b : Bool) (j : IntKind) (m n : Int) : zac .add b (.int j m) (.int j n) k = k (.int j (j.wrap (m + n))) := by simp [zbR]
@[simp] theorem zOq (b : Bool) (j : IntKind) (m n : Int) : zac .sub b (.int j m) (.int j n) k = k (.int j (j.wrap (m - n))) := by simp [zbR]
@[simp] theorem zNB (b : Bool) (j : IntKind) (m n : Int) : zac .mul b (.int j m) (.int j n) k = k (.int j (j.wrap (m * n))) := by simp [zbR]
@[simp] theorem zMA (b : Bool) (j : IntKind) (m n : Int) : zac .eql b (.int j m) (.int j n) k = k (.bool (m == n)) := by simp [zbR]
@[simp] theorem zNE (b : Bool) (j : IntKind) (m n : Int) : zac .neq b (.int j m) (.int j n) k = k (.bool (m != n)) := by simp [zbR]
@[simp] theorem zNs (b : Bool) (j : IntKind) (m n : Int) : zac .lss b (.int j m) (.int j n) k = k (.bool (decide (m < n))) := by simp [zbR]
@[simp] theorem zNd (b : Bool) (j : IntKind) (m n : Int) : zac .leq b (.int j m) (.int j n) k = k (.bool (decide (m ≤ n))) := by simp [zbR]
@[simp] theorem zMM (b : Bool) (j : IntKind) (m n : Int) : zac .gtr b (.int j m) (.int j n) k = k (.bool (decide (m > n))) := by simp [zbR]
@[simp] theorem zML (b : Bool) (j : IntKind) (m n : Int) : zac .geq b (.int j m) (.int j n) k = k (.bool (decide (m ≥ n))) := by simp [zbR]
@[simp] theorem zMB (b : Bool) (s t : List UInt8) : zac .eql b (.str s) (.str t) k = k (.bool (s == t)) := propext Iff.rfl
@[simp] theorem zNF (b : Bool) (s t : List UInt8) : zac .neq b (.str s) (.str t) k = k (.bool (!(s == t))) := rfl
@[simp] theorem zL3 (b : Bool) (s t : List UInt8) : zac .add b (.str s) (.str t) k = (s.length + t.length ≤ 9223372036854775807 ∧ k (.str (s ++ t))) := zbR ..
@[simp] theorem zMz (m n : Bool) : zac .eql true (.bool m) (.bool n) k = k (.bool (m == n)) := by simp [zbR]
@[simp] theorem zND (m n : Bool) : zac .neq true (.bool m) (.bool n) k = k (.bool (!(m == n))) := by simp [zbR]
@[simp] theorem zNR (b : Bool) : aUn .not (.bool b) k = k (.bool (!b)) := rfl
@[simp] theorem zNC (j : IntKind) (n : Int) : aUn .neg (.int j n) k = k (.int j (j.wrap (0 - n))) := rfl
@[simp] theorem zMy (j i : IntKind) (n : Int) : zcy j (.int i n) k = k (.int j (j.wrap n)) := propext Iff.rfl
@[simp] theorem zMw (s : List UInt8) : zcX (.str s) k = k (.str s) := propext Iff.rfl
@[simp] theorem zMC (v : AV) (vs : List AV) : zav (.tup (v :: vs)) 0 k = k v := propext Iff.rfl
@[simp] theorem zME (v : AV) (vs : List AV) (i : Nat) : zav (.tup (v :: vs)) (i + 1) k = zav (.tup vs) i k := by simp [zav]
@[simp] theorem zMu (f : Nat) (caps : List AV) : zbY f caps k = (caps.all AV.isB = true ∧ k (.fn f caps)) := propext Iff.rfl
@[simp] theorem zOi (v : AV) : zaw [v] k = k v := propext Iff.rfl
@[simp] theorem zOj (v u : AV) (vs : List AV) : zaw (v :: u :: vs) k = ((v :: u :: vs).all AV.isV = true ∧ k (.tup (v :: u :: vs))) := propext Iff.rfl
end


section
variable {H : zaa} {K : AV → zaa → Prop} {k : AV → Prop} {kh : zaa → Prop}
@[simp] theorem zOD (i : Nat) : (AV.map i).cs? = some [.map i] := rfl
@[simp] theorem zNA : zdF H K = K (.map H.length) (H ++ [.map []]) := propext Iff.rfl
def zeH (zero : AV) (ok : Bool) (s : List UInt8) (b : Option AB) (k : AV → Prop) : Prop :=
 match b with
 | some (.map kvs) => k (match ok with
   | true => .tup [(zbF kvs s).getD zero, .bool (zbF kvs s).isSome]
   | false => (zbF kvs s).getD zero)
 | _ => False
@[simp] theorem zNi (z : AV) (ok : Bool) (id : Nat) (s : List UInt8) : zcZ z ok (.map id) (.str s) H k = zeH z ok s H[id]? k := by unfold zcZ zeH; rfl
@[simp] theorem zNf (z : AV) (s : List UInt8) (kvs : List (List UInt8 × AV)) : zeH z false s (some (.map kvs)) k = k ((zbF kvs s).getD z) := propext Iff.rfl
@[simp] theorem zNg (z : AV) (s : List UInt8) (kvs : List (List UInt8 × AV)) : zeH z true s (some (.map kvs)) k = k (.tup [(zbF kvs s).getD z, .bool (zbF kvs s).isSome]) := propext Iff.rfl
def zeI (id : Nat) (s : List UInt8) (x : AV) (b : Option AB) (H : zaa) (kh : zaa → Prop) : Prop :=
 match b with
 | some (.map kvs) => (match x with
   | .tup _ => False
   | x => kh (H.set id (.map (zcF kvs s x))))
 | _ => False
@[simp] theorem zNx (id : Nat) (s : List UInt8) (x : AV) : zcp (.map id) (.str s) x H kh = zeI id s x H[id]? H kh := by unfold zcp zeI; rfl
@[simp] theorem zNt (id : Nat) (s : List UInt8) (b : Bool) (kvs : List (List UInt8 × AV)) : zeI id s (.bool b) (some (.map kvs)) H kh = kh (H.set id (.map (zcF kvs s (.bool b)))) := propext Iff.rfl
@[simp] theorem zNv (id : Nat) (s : List UInt8) (j : IntKind) (n : Int) (kvs : List (List UInt8 × AV)) : zeI id s (.int j n) (some (.map kvs)) H kh = kh (H.set id (.map (zcF kvs s (.int j n)))) := propext Iff.rfl
@[congr] theorem zNz {H' : zaa} (hH : H = H') : zdF H K = zdF H' K := by rw [hH]
@[congr] theorem zNh {H' : zaa} {z : AV} {ok : Bool} {m m' x x' : AV} (hm : m = m') (hx : x = x') (hH : H = H') : zcZ z ok m x H k = zcZ z ok m' x' H' k := by rw [hm, hx, hH]
@[congr] theorem zNe {z : AV} {ok : Bool} {s s' : List UInt8} {b b' : Option AB} (hs : s = s') (hb : b = b') : zeH z ok s b k = zeH z ok s' b' k := by rw [hs, hb]
@[congr] theorem zNw {H' : zaa} {m m' y y' x x' : AV} (hm : m = m') (hy : y = y') (hx : x = x') (hH : H = H') : zcp m y x H kh = zcp m' y' x' H' kh := by rw [hm, hy, hx, hH]
@[congr] theorem zNu {H' : zaa} {id id' : Nat} {s s' : List UInt8} {x x' : AV} {b b' : Option AB} (hi : id = id') (hs : s = s') (hx : x = x') (hb : b = b') (hH : H = H') : zeI id s x b H kh = zeI id' s' x' b' H' kh := by rw [hi, hs, hx, hb, hH]
end

section
variable {H H' : zaa} {K : AV → zaa → Prop} {k : AV → Prop} {kh : zaa → Prop}
@[congr] theorem zM4 {b b' : Bool} {p q : Prop} (h : b = b') : aIf b p q = aIf b' p q := by rw [h]
@[congr] theorem zOr {c c' : AV} {p q : Prop} (h : c = c') : zaf c p q = zaf c' p q := by rw [h]
@[congr] theorem zMT {c c' : AV} {w : Bool} {p q : Prop} (h : c = c') : zcB c w p q = zcB c' w p q := by rw [h]
@[congr] theorem zMN {c c' : AV} {w : Bool} {p : (AV → zaa → Prop) → Prop} {J : AV → zaa → Prop} (h : c = c') (hH : H = H') : zab c w H p J = zab c' w H' p J := by rw [h, hH]
@[congr] theorem zNS {c c' a a' b b' : AV} (h : c = c') (ha : a = a') (hb : b = b') : zai c a b k = zai c' a' b' k := by rw [h, ha, hb]
@[congr] theorem zMc {x x' : AV} (h : x = x') (hH : H = H') : zax x H K = zax x' H' K := by rw [h, hH]
@[congr] theorem zNG {x x' : List AV} (h : x = x') (hH : H = H') : zaz x H K = zaz x' H' K := by rw [h, hH]
@[congr] theorem zMq {g : Bool} {n n' o o' : Nat} {c c' : List AV} (hn : n = n') (ho : o = o') (hc : c = c') : za3 g n o c k = za3 g n' o' c' k := by rw [hn, ho, hc]
@[congr] theorem zNo {g : Bool} {n : Nat} {x x' : AV} (h : x = x') (hH : H = H') : zad g n x H k = zad g n x' H' k := by rw [h, hH]
@[congr] theorem zNj {g : Bool} {n o o' : Nat} {b b' : Option AB} (ho : o = o') (h : b = b') : zht g n o b k = zht g n o' b' k := by rw [h, ho]
@[congr] theorem zOo {n : Nat} {a a' x x' : AV} (ha : a = a') (h : x = x') (hH : H = H') : zal n a x H kh = zal n a' x' H' kh := by rw [ha, h, hH]
@[congr] theorem zOn {n o o' i i' : Nat} {x x' : Option (List AV)} {b b' : Option AB} (ho : o = o') (hi : i = i') (h : x = x') (hb : b = b') (hH : H = H') : zef n o i x b H kh = zef n o' i' x' b' H' kh := by rw [ho, hi, h, hb, hH]
@[congr] theorem zMH {n : Nat} {x x' : AV} (h : x = x') : zag n x k = zag n x' k := by rw [h]
@[congr] theorem zMG {g : Bool} {n o : Nat} {x x' : AV} (h : x = x') : zcY g n o x k = zcY g n o x' k := by rw [h]
@[congr] theorem zMZ {n : Nat} {x x' i i' : AV} (h : x = x') (hi : i = i') : zaj n x i k = zaj n x' i' k := by rw [h, hi]
@[congr] theorem zM2 {x x' i i' : AV} (h : x = x') (hi : i = i') : zbf x i k = zbf x' i' k := by rw [h, hi]
@[congr] theorem zM7 {u : Nat} {x x' : AV} (h : x = x') : zah u x k = zah u x' k := by rw [h]
@[congr] theorem zL9 {x x' : Option AV} {d d' : Nat} {q : Nat → Prop} (h : x = x') (hd : d = d') : zbw x d q = zbw x' d' q := by rw [h, hd]
@[congr] theorem zOk {u e : Nat} {x x' : AV} {l l' h h' : Option AV} (hx : x = x') (hl : l = l') (hh : h = h') : zaK u e x l h k = zaK u e x' l' h' k := by rw [hx, hl, hh]
@[congr] theorem zL8 {o : BinOp} {b : Bool} {x x' y y' : AV} (h : x = x') (hy : y = y') : zac o b x y k = zac o b x' y' k := by rw [h, hy]
@[congr] theorem zOt {o : UnOp} {x x' : AV} (h : x = x') : aUn o x k = aUn o x' k := by rw [h]
@[congr] theorem zMx {o : IntKind} {x x' : AV} (h : x = x') : zcy o x k = zcy o x' k := by rw [h]
@[congr] theorem zMv {x x' : AV} (h : x = x') : zcX x k = zcX x' k := by rw [h]
@[congr] theorem zMD {x x' : AV} {i : Nat} (h : x = x') : zav x i k = zav x' i k := by rw [h]
@[congr] theorem zMt {f : Nat} {x x' : List AV} (h : x = x') : zbY f x k = zbY f x' k := by rw [h]
@[congr] theorem zNM {x x' : AV} (h : x = x') : zbb x k = zbb x' k := by rw [h]
@[congr] theorem zMn {z : List AV} {p : List (Nat × Nat)} {x x' : List (Nat × AV)} (h : x = x') : zau z p x k = zau z p x' k := by rw [h]
@[congr] theorem zMm {e : Nat} {z : List AV} {l : Nat} {x x' : List (Nat × AV)} (h : x = x') : zay e z l x k = zay e z l x' k := by rw [h]
@[congr] theorem zNy {b : Nat} {z : List AV} {l l' c c' : AV} (h : l = l') (hc : c = c') (hH : H = H') : za4 b z l c H K = za4 b z l' c' H' K := by rw [h, hc, hH]
@[congr] theorem zL7 {e s b : Nat} {x x' y y' : AV} (h : x = x') (hy : y = y') (hH : H = H') : zat e s b x y H K = zat e s b x' y' H' K := by rw [h, hy, hH]
@[congr] theorem zL4 {e s b : Nat} {x x' : AV} {y y' : List (List AV)} (h : x = x') (hy : y = y') (hH : H = H') : zaE e s b x y H K = zaE e s b x' y' H' K := by rw [h, hy, hH]
@[congr] theorem zOm {x x' : AV} {q : List (List AV) → Prop} (h : x = x') : zaI x q = zaI x' q := by rw [h]
@[congr] theorem zL0 {P : Program} {f : FuncId} {x x' : List AV} (h : x = x') (hH : H = H') : ACalls P f x H K = ACalls P f x' H' K := by rw [h, hH]
@[congr] theorem zMo {P : Program} {g g' : AV} {x x' : List AV} (hg : g = g') (h : x = x') (hH : H = H') : aCallV P g x H K = aCallV P g' x' H' K := by rw [hg, h, hH]
@[congr] theorem zNY {p : (AV → zaa → Prop) → Prop} : zae H p k = zae H p k := rfl
@[congr] theorem zL1 {n : Nat} {r r' : AV} (hr : r = r') (hH : H = H') : Out n K r H = Out n K r' H' := by rw [hr, hH]
end
section
variable {H : zaa} {k : AV → Prop}
theorem zbC {p : (AV → Prop) → Prop} (h : ∀ q : AV → Prop, p q ↔ ∃ v, p (fun u => u = v) ∧ q v) : zae H (fun K' => p fun v => K' v H) k = p k := by
 unfold zae
 rw [eq_iff_iff, h k]
 simp only [and_true]
@[simp] theorem zN6 (x : AV) : zae H (fun K' => K' x H) k = k x := by simp [zae]
theorem zlt (g : Bool) (n o : Nat) (cs : List AV) (q : AV → Prop) : za3 g n o cs q ↔ ∃ v, za3 g n o cs (fun u => u = v) ∧ q v := by
 unfold za3
 split
 ·constructor
  ·rintro ⟨h1, h2⟩; exact ⟨_, ⟨h1, rfl⟩, h2⟩
  ·rintro ⟨v, ⟨h1, rfl⟩, h2⟩; exact ⟨h1, h2⟩
 ·split <;> simp
theorem zyF {a : Prop} {p : Prop} {p' : AV → Prop} {q : AV → Prop} (h : p ↔ ∃ v, p' v ∧ q v) : (a ∧ p) ↔ ∃ v, (a ∧ p' v) ∧ q v := by
 constructor
 ·rintro ⟨h1, h2⟩; obtain ⟨v, h3, h4⟩ := h.1 h2; exact ⟨v, ⟨h1, h3⟩, h4⟩
 ·rintro ⟨v, ⟨h1, h3⟩, h4⟩; exact ⟨h1, h.2 ⟨v, h3, h4⟩⟩
@[simp] theorem zOa (g : Bool) (n : Nat) (a : AV) : zae H (fun K' => zad g n a H fun v => K' v H) k = zad g n a H k := zbC (p := fun q => zad g n a H q) fun q => by
 unfold zad
 split
 ·exact zlt _ _ _ _ q
 ·simp
@[simp] theorem zNl (g : Bool) (n id off : Nat) : zas g n (.ptr id off) H k = zad g n (.ptr id off) H k := propext Iff.rfl
@[simp] theorem zNm (g : Bool) (n : Nat) (cs : List AV) : zas g n (.view cs) H k = zad g n (.view cs) H k := propext Iff.rfl
@[simp] theorem zOb (g : Bool) (n : Nat) (a : AV) : zae H (fun K' => zas g n a H fun v => K' v H) k = zas g n a H k := zbC (p := fun q => zas g n a H q) fun q => by
 unfold zas
 split
 ·simp
 unfold zad
 split
 ·exact zlt _ _ _ _ q
 ·simp
@[simp] theorem zOd (b : Bool) (o : BinOp) (x : AV) : zae H (fun K' => zcc b o x fun v => K' v H) k = zcc b o x k := zbC (p := fun q => zcc b o x q) fun q => by
 unfold zcc
 refine zyF ?_
 split
 ·split <;> simp
 ·split <;> simp
 ·simp
@[simp] theorem zNL : zcc true .neq .nili k = k (.bool false) := by simp [zcc]
@[simp] theorem zNJ : zcc true .neq .ifc k = k (.bool true) := by simp [zcc]
@[simp] theorem zNK : zcc true .eql .nili k = k (.bool true) := by simp [zcc]
@[simp] theorem zNI : zcc true .eql .ifc k = k (.bool false) := by simp [zcc]
@[simp] theorem zOe (c a b : AV) : zae H (fun K' => zai c a b fun v => K' v H) k = zai c a b k := zbC (p := fun q => zai c a b q) fun q => by
 unfold zai; split <;> simp
@[simp] theorem zN4 (o : Nat) (a : AV) : zae H (fun K' => zag o a fun v => K' v H) k = zag o a k := zbC (p := fun q => zag o a q) fun q => by
 unfold zag; split <;> simp
@[simp] theorem zN5 (g : Bool) (n o : Nat) (a : AV) : zae H (fun K' => zcY g n o a fun v => K' v H) k = zcY g n o a k := zbC (p := fun q => zcY g n o a q) fun q => by
 unfold zcY
 split
 ·exact zlt _ _ _ _ q
 ·simp
@[simp] theorem zN7 (n : Nat) (x i : AV) : zae H (fun K' => zaj n x i fun v => K' v H) k = zaj n x i k := zbC (p := fun q => zaj n x i q) fun q => by
 unfold zaj; split <;> simp
@[simp] theorem zN8 (x i : AV) : zae H (fun K' => zbf x i fun v => K' v H) k = zbf x i k := zbC (p := fun q => zbf x i q) fun q => by
 unfold zbf
 split
 ·constructor
  ·rintro ⟨h1, h2⟩; exact ⟨_, ⟨h1, rfl⟩, h2⟩
  ·rintro ⟨v, ⟨h1, rfl⟩, h2⟩; exact ⟨h1, h2⟩
 ·simp
@[simp] theorem zN9 (u : Nat) (x : AV) : zae H (fun K' => zah u x fun v => K' v H) k = zah u x k := zbC (p := fun q => zah u x q) fun q => by
 unfold zah; split <;> simp
@[simp] theorem zOh (o : UnOp) (x : AV) : zae H (fun K' => aUn o x fun v => K' v H) k = aUn o x k := zbC (p := fun q => aUn o x q) fun q => by
 unfold aUn; split <;> simp
@[simp] theorem zN0 (o : IntKind) (x : AV) : zae H (fun K' => zcy o x fun v => K' v H) k = zcy o x k := zbC (p := fun q => zcy o x q) fun q => by
 unfold zcy; split <;> simp
@[simp] theorem zN2 (x : AV) : zae H (fun K' => zcX x fun v => K' v H) k = zcX x k := zbC (p := fun q => zcX x q) fun q => by
 unfold zcX; split <;> simp
@[simp] theorem zN1 (x : AV) : zae H (fun K' => zed x fun v => K' v H) k = zed x k := zbC (p := fun q => zed x q) fun q => by
 unfold zed
 split
 ·split <;> simp
 ·simp
 ·simp
@[simp] theorem zOc (x : AV) : zae H (fun K' => zbb x fun v => K' v H) k = zbb x k := zbC (p := fun q => zbb x q) fun q => by
 unfold zbb; split <;> simp
@[simp] theorem zN3 (x : AV) (i : Nat) : zae H (fun K' => zav x i fun v => K' v H) k = zav x i k := zbC (p := fun q => zav x i q) fun q => by
 unfold zav
 split
 ·split <;> simp
 ·simp
@[simp] theorem zNW (z : List AV) (ps : List (Nat × Nat)) (x : List (Nat × AV)) : zae H (fun K' => zau z ps x fun v => K' v H) k = zau z ps x k := zbC (p := fun q => zau z ps x q) fun q => by
 unfold zau; split <;> simp
@[simp] theorem zNX (e : Nat) (z : List AV) (l : Nat) (x : List (Nat × AV)) : zae H (fun K' => zay e z l x fun v => K' v H) k = zay e z l x k := zbC (p := fun q => zay e z l x q) fun q => by
 unfold zay
 split
 ·split <;> simp
 ·simp
@[simp] theorem zNV (o : BinOp) (b : Bool) (x y : AV) : zae H (fun K' => zac o b x y fun v => K' v H) k = zac o b x y k := zbC (p := fun q => zac o b x y q) fun q => by
 unfold zac; split <;> simp
@[simp] theorem zNZ (f : Nat) (x : List AV) : zae H (fun K' => zbY f x fun v => K' v H) k = zbY f x k := zbC (p := fun q => zbY f x q) fun q => by
 unfold zbY
 constructor
 ·rintro ⟨h1, h2⟩; exact ⟨_, ⟨h1, rfl⟩, h2⟩
 ·rintro ⟨v, ⟨h1, rfl⟩, h2⟩; exact ⟨h1, h2⟩
end
@[simp] theorem zzK (A l : zaa) : (A ++ l)[A.length]? = l[0]? := by rw [List.getElem?_append_right (Nat.le_refl _)]; simp
@[simp] theorem zzL (A l : zaa) (k : Nat) : (A ++ l)[A.length + k]? = l[k]? := by rw [List.getElem?_append_right (by omega)]; congr 1; omega
@[simp] theorem zBv (A l : zaa) (x : AB) : (A ++ l).set A.length x = A ++ l.set 0 x := by rw [List.set_append_right _ _ (Nat.le_refl _)]; simp
@[simp] theorem ztJ (A l : zaa) (k : Nat) (x : AB) : (A ++ l).set (A.length + k) x = A ++ l.set k x := by rw [List.set_append_right _ _ (by omega)]; congr 2; omega
@[simp] theorem zOO (A l : zaa) (i : Nat) (y : AB) : (A.set i y ++ l)[A.length]? = l[0]? := by have := zzK (A.set i y) l; rwa [List.length_set] at this
@[simp] theorem zOP (A l : zaa) (i : Nat) (y : AB) (k : Nat) : (A.set i y ++ l)[A.length + k]? = l[k]? := by have := zzL (A.set i y) l k; rwa [List.length_set] at this
@[simp] theorem zPg (A l : zaa) (i : Nat) (x y : AB) : (A.set i y ++ l).set A.length x = A.set i y ++ l.set 0 x := by have := zBv (A.set i y) l x; rwa [List.length_set] at this
@[simp] theorem zPh (A l : zaa) (i : Nat) (y : AB) (k : Nat) (x : AB) : (A.set i y ++ l).set (A.length + k) x = A.set i y ++ l.set k x := by have := ztJ (A.set i y) l k x; rwa [List.length_set] at this
theorem zcP {H J : zaa} {id : Nat} {b : AB} (h : H[id]? = some b) : (H ++ J)[id]? = some b := by
 rw [List.getElem?_append_left (List.getElem?_eq_some_iff.1 h).1]; exact h
theorem zeU {H : zaa} {id : Nat} {b : AB} (h : H[id]? = some b) : id < H.length := (List.getElem?_eq_some_iff.1 h).1
theorem zdl {H J : zaa} {id : Nat} {b : AB} (x : AB) (h : H[id]? = some b) : (H ++ J).set id x = H.set id x ++ J := List.set_append_left _ _ (zeU h)
theorem zcH {H : zaa} {id : Nat} {b : AB} (x : AB) (h : H[id]? = some b) : (H.set id x)[id]? = some x := List.getElem?_set_self (zeU h)

theorem zam {n : Int} (h1 : -9223372036854775808 ≤ n) (h2 : n ≤ 9223372036854775807) : IntKind.i64.wrap n = n := IntWalk.i64_in n ⟨h1, h2⟩

theorem HSc.set {H : zaa} {id : Nat} {b : AB} (h : HSc H) (hb : b.sc H.length = true) : HSc (H.set id b) := by
 intro x hx
 rw [List.length_set]
 rcases List.mem_or_eq_of_mem_set hx with h1 | h1
 ·exact h x h1
 ·rw [h1]; exact hb
theorem zbT {n m : Nat} (h : n ≤ m) : ∀ {a : AV}, a.sc n = true → a.sc m = true := by
 have hB : ∀ {a : AV}, a.scB n = true → a.scB m = true := by
  intro a ha
  cases a with
  | sl es t => cases t <;> simp_all [AV.scB]; omega
  | _ => simp_all [AV.scB] <;> omega
 have hA : ∀ {a : AV}, a.scA n = true → a.scA m = true := by
  intro a ha
  cases a with
  | fn f caps => simp only [AV.scA, List.all_eq_true] at ha ⊢; exact fun x hx => hB (ha x hx)
  | _ => simp only [AV.scA] at ha ⊢; exact hB ha
 have hV : ∀ {a : AV}, a.scV n = true → a.scV m = true := by
  intro a ha
  cases a with
  | agg caps => simp only [AV.scV, List.all_eq_true] at ha ⊢; exact fun x hx => hA (ha x hx)
  | _ => simp only [AV.scV] at ha ⊢; exact hA ha
 intro a ha
 cases a with
 | tup caps => simp only [AV.sc, List.all_eq_true] at ha ⊢; exact fun x hx => hV (ha x hx)
 | _ => simp only [AV.sc] at ha ⊢; exact hV ha
theorem Back.here {n0 : Nat} {Inv : List AV → zaa → Prop} {F : List AV} {H : zaa} (hn : n0 ≤ H.length) (hsc : HSc H) (hs : F.all (AV.sc H.length) = true) (h : Inv F H) : Back n0 Inv F H := by
 have := Back.same (J := []) hn hsc hs h
 simpa using this
theorem zmW {n m : Nat} (h : n ≤ m) {a : AV} (ha : a.scA n = true) : a.scA m = true := by
 cases a with
 | agg cs => rfl
 | tup vs => rfl
 | fn f caps => exact zbT h (a := .fn f caps) ha
 | sl es t => exact zbT h (a := .sl es t) ha
 | ptr i o => exact zbT h (a := .ptr i o) ha
 | ms i o l c => exact zbT h (a := .ms i o l c) ha
 | ov i n => exact zbT h (a := .ov i n) ha
 | vp i n o => exact zbT h (a := .vp i n o) ha
 | map i => exact zbT h (a := .map i) ha
 | _ => rfl
theorem zBj {n m : Nat} (h : n ≤ m) {a : AV} (ha : a.scV n = true) : a.scV m = true := by
 cases a with
 | tup vs => rfl
 | agg cs => exact zbT h (a := .agg cs) ha
 | fn f caps => exact zbT h (a := .fn f caps) ha
 | sl es t => exact zbT h (a := .sl es t) ha
 | ptr i o => exact zbT h (a := .ptr i o) ha
 | ms i o l c => exact zbT h (a := .ms i o l c) ha
 | ov i n => exact zbT h (a := .ov i n) ha
 | vp i n o => exact zbT h (a := .vp i n o) ha
 | map i => exact zbT h (a := .map i) ha
 | _ => rfl
theorem zyb {n m : Nat} (h : n ≤ m) {b : AB} (hb : b.sc n = true) : b.sc m = true := by
 cases b with
 | cells cs => simp only [AB.sc, List.all_eq_true] at hb ⊢; exact fun x hx => zmW h (hb x hx)
 | perm e s n => rfl
 | gap => rfl
 | dead => rfl
 | fact φ => rfl
 | map kvs => simp only [AB.sc, List.all_eq_true] at hb ⊢; exact fun x hx => zBj h (hb x hx)
 | bld t cs => simp only [AB.sc, List.all_eq_true] at hb ⊢; exact fun x hx => zmW h (hb x hx)
 | vec e s n cs => simp only [AB.sc, List.all_eq_true] at hb ⊢; exact fun x hx => zmW h (hb x hx)
theorem HSc.append {A J : zaa} (hA : HSc A) (hJ : J.all (AB.sc (A.length + J.length)) = true) : HSc (A ++ J) := by
 intro x hx
 rw [List.length_append]
 rcases List.mem_append.1 hx with h1 | h1
 ·exact zyb (by omega) (hA x h1)
 ·exact List.all_eq_true.1 hJ x h1
end Go.Abs
namespace Go.Abs
open Go
theorem Out.tup {H J : zaa} {K : AV → zaa → Prop} {asx bs : List AV} (hs : HSc H) (h : K (.tup bs) H) (hw : All2 (fun a b => WkV a b ∧ b.isV = true ∧ b.scV H.length = true) asx bs) : Out H.length K (.tup asx) (H ++ J) :=
 ⟨_, H, J, rfl, Nat.le_refl _, hs, .tup (hw.mono fun _ _ h => .wk h.1 h.2.1 h.2.2), h⟩
theorem Out.tup0 {H : zaa} {K : AV → zaa → Prop} {asx bs : List AV} (hs : HSc H) (h : K (.tup bs) H) (hw : All2 (fun a b => WkV a b ∧ b.isV = true ∧ b.scV H.length = true) asx bs) : Out H.length K (.tup asx) H := by
 have := Out.tup (J := []) hs h hw
 simpa using this
theorem Out.one {H J : zaa} {K : AV → zaa → Prop} {a b : AV} (hs : HSc H) (hw : WkV a b) (hv : b.isV = true) (hc : b.scV H.length = true) (h : K b H) : Out H.length K a (H ++ J) :=
 ⟨_, H, J, rfl, Nat.le_refl _, hs, .one (.wk hw hv hc), h⟩
@[simp] theorem zOV (k : IntKind) (n : Int) : (AV.int k n).known = true := rfl
@[simp] theorem zO3 (s : List UInt8) : (AV.str s).known = true := rfl
@[simp] theorem zOT (b : Bool) : (AV.bool b).known = true := rfl
@[simp] theorem zO1 (es : List (List AV)) (t : Tok) : (AV.sl es t).known = true := rfl
@[simp] theorem zO2 : AV.snil.known = true := rfl
@[simp] theorem zOY : AV.nilp.known = true := rfl
@[simp] theorem zO0 (i o : Nat) : (AV.ptr i o).known = true := rfl
@[simp] theorem zOX (i o l c : Nat) : (AV.ms i o l c).known = true := rfl
@[simp] theorem zOU (f : Nat) (c : List AV) : (AV.fn f c).known = true := rfl
@[simp] theorem zOW (i : Nat) : (AV.map i).known = true := rfl
@[simp] theorem zO4 (cs : List AV) : (AV.view cs).known = true := rfl
section
variable {H : zaa} {K : AV → zaa → Prop}
@[simp] theorem zMi (i o : Nat) : zax (.ptr i o) H K = K (.ptr H.length 0) (H ++ [.cells [.ptr i o]]) := propext Iff.rfl
@[simp] theorem zMg (i o l c : Nat) : zax (.ms i o l c) H K = K (.ptr H.length 0) (H ++ [.cells [.ms i o l c]]) := propext Iff.rfl
@[simp] theorem zMf (i : Nat) : zax (.map i) H K = K (.ptr H.length 0) (H ++ [.cells [.map i]]) := propext Iff.rfl
@[simp] theorem zMd (f : Nat) (c : List AV) : zax (.fn f c) H K = K (.ptr H.length 0) (H ++ [.cells [.fn f c]]) := propext Iff.rfl
@[simp] theorem zMk : zax .snil H K = K (.ptr H.length 0) (H ++ [.cells [.snil]]) := propext Iff.rfl
end
theorem zbH {H : zaa} {p : zaa → (AV → zaa → Prop) → Prop} {k : AV → Prop} (r : AV) (h : ∀ J : zaa, p (H ++ J) fun v H' => v = r ∧ H' = H ++ J) (hk : k r) : zbj H p k := ⟨r, h, hk⟩
@[simp] theorem zO7 (m : Nat) (k : IntKind) (n : Int) : (AV.int k n).scA m = true := rfl
@[simp] theorem zPf (m : Nat) (s : List UInt8) : (AV.str s).scA m = true := rfl
@[simp] theorem zO6 (m : Nat) (b : Bool) : (AV.bool b).scA m = true := rfl
@[simp] theorem zPd (m : Nat) (es : List (List AV)) : (AV.sl es .none).scA m = true := rfl
@[simp] theorem zPe (m : Nat) : AV.snil.scA m = true := rfl
@[simp] theorem zPc (m i o : Nat) : (AV.ptr i o).scA m = decide (i < m) := rfl
@[simp] theorem zO9 (m i o l c : Nat) : (AV.ms i o l c).scA m = decide (i < m) := rfl
@[simp] theorem zO8 (m i : Nat) : (AV.map i).scA m = decide (i < m) := rfl
@[simp] theorem zPb (m : Nat) (es : List (List AV)) (i : Nat) : (AV.sl es (.own i)).scA m = decide (i < m) := rfl
theorem WkV.rfl' {a : AV} : WkV a a := .atom (.refl a)
theorem zaC {n : Nat} {a : AV} (h1 : a.isV = true) (h2 : a.scV n = true) : WkV a a ∧ a.isV = true ∧ a.scV n = true := ⟨.rfl', h1, h2⟩
theorem slV {n : Nat} {es : List (List AV)} {t : Tok} : WkV (.sl es t) (.sl es .none) ∧ (AV.sl es .none).isV = true ∧ (AV.sl es .none).scV n = true := ⟨.atom (.sl es t), rfl, rfl⟩
theorem zdY {n : Nat} : WkV .snil (.sl [] .none) ∧ (AV.sl [] .none).isV = true ∧ (AV.sl [] .none).scV n = true := ⟨.atom .snil, rfl, rfl⟩
theorem zdJ {x : Option AV} {d : Nat} {p : Nat → Prop} {p' : AV → Nat → Prop} {q : AV → Prop} (hp : ∀ n, p n ↔ ∃ v, p' v n ∧ q v) : zbw x d p ↔ ∃ v, zbw x d (p' v) ∧ q v := by
 unfold zbw
 split
 ·exact hp d
 ·rename_i n
  constructor
  ·rintro ⟨h1, h2⟩
   obtain ⟨v, h3, h4⟩ := (hp _).1 h2
   exact ⟨v, ⟨h1, h3⟩, h4⟩
  ·rintro ⟨v, ⟨h1, h3⟩, h4⟩
   exact ⟨h1, (hp _).2 ⟨v, h3, h4⟩⟩
 ·simp
theorem zhL {a : Prop} {q : AV → Prop} {x : AV} : (a ∧ q x) ↔ ∃ v, (a ∧ x = v) ∧ q v := by
 constructor
 ·rintro ⟨h1, h2⟩; exact ⟨_, ⟨h1, rfl⟩, h2⟩
 ·rintro ⟨v, ⟨h1, rfl⟩, h2⟩; exact ⟨h1, h2⟩
@[simp] theorem zOg {H : zaa} {k : AV → Prop} (u e : Nat) (x : AV) (lo hi : Option AV) : zae H (fun K' => zaK u e x lo hi fun v => K' v H) k = zaK u e x lo hi k := zbC (p := fun q => zaK u e x lo hi q) fun q => by
 unfold zaK
 split
 ·exact zdJ fun h => zdJ fun l => zhL
 ·exact zdJ fun h => zdJ fun l => zhL
 ·exact zdJ fun h => zdJ fun l => zhL
 ·exact zdJ fun h => zdJ fun l => zhL
 ·simp
end Go.Abs
namespace Go.Abs
open Go
theorem Out.at {n : Nat} {H2 J H' : zaa} {K : AV → zaa → Prop} {a b : AV} (he : H' = H2 ++ J) (hn : n ≤ H2.length) (hs : HSc H2) (hw : WkV a b) (hv : b.isV = true) (hc : b.scV H2.length = true) (h : K b H2) : Out n K a H' := by
 subst he
 exact ⟨_, H2, J, rfl, hn, hs, .one (.wk hw hv hc), h⟩
theorem Out.bool {n : Nat} {H2 J H' : zaa} {K : AV → zaa → Prop} {b : Bool} (he : H' = H2 ++ J) (hn : n ≤ H2.length) (hs : HSc H2) (h : K (.bool b) H2) : Out n K (.bool b) H' := Out.at he hn hs .rfl' rfl rfl h
theorem Out.int {n : Nat} {H2 J H' : zaa} {K : AV → zaa → Prop} {k : IntKind} {b : Int} (he : H' = H2 ++ J) (hn : n ≤ H2.length) (hs : HSc H2) (h : K (.int k b) H2) : Out n K (.int k b) H' := Out.at he hn hs .rfl' rfl rfl h
theorem Back.at {n0 : Nat} {Inv : List AV → zaa → Prop} {F : List AV} {H2 J H' : zaa} (he : H' = H2 ++ J) (hn : n0 ≤ H2.length) (hsc : HSc H2) (hs : F.all (AV.sc H2.length) = true) (h : Inv F H2) : Back n0 Inv F H' := by
 subst he
 exact Back.same hn hsc hs h
theorem HSc.snoc {H : zaa} {b : AB} (h : HSc H) (hb : b.sc (H.length + 1) = true) : HSc (H ++ [b]) := h.append (by simpa using hb)
end Go.Abs
namespace Go.Abs
open Go
theorem zzD {B : Nat} {w w' : World} {G G' : Gh} (h : Ext B w G w' G') : G.μ.length ≤ G'.μ.length := by
 by_cases h0 : G.μ.length = 0
 ·omega
 ·obtain ⟨g, h1, _⟩ := h.ids (G.μ.length - 1) _ (List.getElem?_eq_getElem (by omega))
  have := (List.getElem?_eq_some_iff.1 h1).1
  omega
theorem ACalls.mono' {P : Program} {f : FuncId} {args : List AV} {H : zaa} {K K' : AV → zaa → Prop} (h : ACalls P f args H K) (hk : ∀ r H', HSc H' → H.length ≤ H'.length → K r H' → K' r H') : ACalls P f args H K' :=
 fun B w G vs hH hv => (h B w G vs hH hv).mono fun _ _ ⟨v, r, H', G', h1, h2, h3, h4, h5⟩ => ⟨v, r, H', G', h1, h2, h3, h4, hk _ _ h3.sc (by have := zzD h2; rw [hH.len, h3.len] at this; exact this) h5⟩
theorem aCallV.mono' {P : Program} {g : AV} {args : List AV} {H : zaa} {K K' : AV → zaa → Prop} (h : aCallV P g args H K) (hk : ∀ r H', HSc H' → H.length ≤ H'.length → K r H' → K' r H') : aCallV P g args H K' := by
 unfold aCallV at *
 split at h
 ·split at h
  ·exact ACalls.mono' h hk
  ·exact h.elim
 ·exact h.elim
end Go.Abs
namespace Go.Abs
open Go Go.RowKit
theorem HRel.reCell {B : Nat} {w : World} {G : Gh} {H : zaa} (h : HRel B w G H) {id : Nat} {cs cs' : List AV} (hid : H[id]? = some (.cells cs)) (hc : ∀ vs : List Value, All2 (ARel w G) vs cs → All2 (ARel w G) vs cs') : HRel B w G (H.set id (.cells cs')) := by
 refine ⟨by simp [h.len], ?_, h.dist, h.fresh, h.lt, h.base⟩
 intro i ab gi h1 h2
 by_cases hi : i = id
 ·subst hi
  rw [List.getElem?_set_self (List.getElem?_eq_some_iff.1 hid).1] at h1
  cases h1
  have hok := h.ok i _ _ hid h2
  cases gi with
  | blk b =>
   obtain ⟨k1, k2, vs, e, k3, k4⟩ := hok
   exact ⟨k1, k2, vs, e, k3, hc _ k4⟩
  | own v s n => exact hok.elim
  | gap => exact hok.elim
 ·rw [List.getElem?_set_ne (fun h => hi h.symm)] at h1
  exact h.ok i ab gi h1 h2
theorem HRel.ownCell {B : Nat} {w : World} {G : Gh} {H : zaa} (h : HRel B w G H) {id j : Nat} {cs : List AV} (e size : Nat) (hid : H[id]? = some (.cells cs)) (hj : cs[j]? = some .snil) :
  ∃ G', Ext B w G w G' ∧ HRel B w G' (H.set id (.cells (cs.set j (.sl [] (.own H.length)))) ++ [.perm e size 0]) := by
 obtain ⟨hE, hH'⟩ := h.newOwn e size
 refine ⟨_, hE, ?_⟩
 have hlt := (List.getElem?_eq_some_iff.1 hid).1
 have := hH'.reCell (id := id) (cs := cs) (cs' := cs.set j (.sl [] (.own H.length))) (by rw [List.getElem?_append_left hlt]; exact hid) (fun vs hvs => by
  obtain ⟨v, h1, h2⟩ := All2.get hvs hj
  have h2 : v = .slice none 0 0 := h2
  subst h2
  have hset : vs = vs.set j (.slice none 0 0) := by
   apply List.ext_getElem?
   intro k
   by_cases hk : k = j
   ·subst hk; rw [List.getElem?_set_self (List.getElem?_eq_some_iff.1 h1).1]; exact h1
   ·rw [List.getElem?_set_ne (fun h => hk h.symm)]
  rw [hset]
  refine All2.set j hvs ?_
  refine ⟨.slE _ _, .slice none 0 0, size, 0, ?_, Nat.le_refl _, fun _ => ⟨rfl, by simp⟩⟩
  rw [← h.len]
  simp)
 rwa [List.set_append_left _ _ hlt] at this
theorem ALoop.ownC {P : Program} {c : Code} {Q : AExit → List AV → zaa → Prop} {F : List AV} {H : zaa} {cs : List AV} (id j e size : Nat) (hid : H[id]? = some (.cells cs)) (hj : cs[j]? = some .snil)
  (h : ALoop P c Q F (H.set id (.cells (cs.set j (.sl [] (.own H.length)))) ++ [.perm e size 0])) : ALoop P c Q F H := by
 intro B w G a hH hF hd
 obtain ⟨G', hE, hH'⟩ := hH.ownCell e size hid hj
 refine wp_mono (h B w G' a hH' (hF.ext hE) hd) fun e a' w' hp => ?_
 obtain ⟨F'', H'', G'', e'', rfl, k1, k2, k3, k4, k5⟩ := hp
 exact ⟨F'', H'', G'', e'', rfl, hE.trans k1, k2, k3, k4, k5⟩
end Go.Abs
namespace Go.Abs
open Go Go.RowKit
variable {P : Program} {B : Nat} {w : World} {G : Gh} {H : zaa}
theorem HRel.frz (h : HRel B w G H) {id : Nat} {cs : List AV} (hH : H[id]? = some (.cells cs)) :
  ∃ G', Ext B w G w G' ∧ HRel B w G' (H.set id .dead) ∧ ∃ b, G.μ[id]? = some (.blk b) ∧ G'.L b = cs.length ∧ ∃ (vs : Array Value) (e : TypeId), w.heap[b]? = some (.cells vs e (0, 0)) ∧ All2 (ARel w G) vs.toList cs := by
 have hlt : id < G.μ.length := by rw [h.len]; exact (List.getElem?_eq_some_iff.1 hH).1
 obtain ⟨gi, hgi⟩ : ∃ gi, G.μ[id]? = some gi := ⟨_, List.getElem?_eq_getElem hlt⟩
 have hok := h.ok id _ _ hH hgi
 cases gi with
 | gap => exact hok.elim
 | own v s n => exact hok.elim
 | blk b =>
  obtain ⟨hB, hL, vs, e, hw, hcs⟩ := hok
  have hl : vs.size = cs.length := by simpa using hcs.length
  have he : Ext B w G w ⟨fun x => if x = b then cs.length else G.L x, G.μ⟩ :=
   ⟨Nat.le_refl _, Below.refl _ _, fun x => by by_cases hx : x = b <;> simp [hx, hL], fun _ _ _ => rfl, fun _ gi h => ⟨gi, h, gi.le_refl⟩⟩
  refine ⟨_, he, ⟨by simp [h.len], ?_, h.dist, fun x hx => ?_, h.lt, h.base⟩, b, hgi, by simp, vs, e, hw, hcs⟩
  ·intro id' ab gi h1 h2
   by_cases hid : id' = id
   ·subst hid
    rw [List.getElem?_set_self (List.getElem?_eq_some_iff.1 hH).1] at h1
    cases h1
    have h2 : G.μ[id']? = some gi := h2
    rw [hgi] at h2
    cases h2
    exact ⟨vs, e, (0, 0), hw, by simp [hl]⟩
   ·rw [List.getElem?_set_ne (fun h => hid h.symm)] at h1
    refine (h.ok id' ab gi h1 h2).keep he (fun x hx => ⟨rfl, ?_⟩)
    have : ¬ x = b := fun hxb => hid (h.dist id' id gi _ b h2 hgi (by rw [hx, hxb]) rfl)
    simp [this]
  ·have := h.lt id _ b hgi rfl
   have h3 : ¬ x = b := by omega
   simp [h3, h.fresh x hx]
inductive FzA (id off len cap : Nat) (es : List (List AV)) : AV → AV → Prop
 | refl (a : AV) : FzA id off len cap es a a
 | ms : FzA id off len cap es (.ms id off len cap) (.sl es .none)
inductive FzT (id off len cap : Nat) (es : List (List AV)) : AV → AV → Prop
 | one {a b : AV} (h : FzA id off len cap es a b) : FzT id off len cap es a b
 | agg {asx bs : List AV} (h : All2 (FzA id off len cap es) asx bs) : FzT id off len cap es (.agg asx) (.agg bs)
theorem FzA.rel {id off len cap size : Nat} {cs : List AV} {es : List (List AV)} (hfit : off + len * size ≤ cs.length)
  (hp : plain ((cs.drop off).take (len * size)) = some es.flatten) (hlen : es.length = len) (hsz : ∀ c ∈ es, c.length = size) (hcap : len ≤ cap) {G' : Gh} (hE : Ext B w G w G') {b : Nat} (hμ : G.μ[id]? = some (.blk b)) (hLb : G'.L b = cs.length)
  {vs0 : Array Value} {e : TypeId} (hw : w.heap[b]? = some (.cells vs0 e (0, 0))) (hcs : All2 (ARel w G) vs0.toList cs) {v : Value} {a b' : AV} (hab : FzA id off len cap es a b') (hr : ARel w G v a) : ARel w G' v b' := by
 cases hab with
 | refl a => exact hE.arel hr
 | ms =>
  obtain ⟨b2, hb2, rfl⟩ := hr
  rw [hμ] at hb2
  cases hb2
  show DRel w G'.L _ _
  subst hlen
  by_cases hne : es = []
  ·subst hne; exact .slE _ _
  ·have hl := hcs.length
   have hd := zc8 ((hcs.drop off).take (es.length * size)) hp
   refine DRel.of_flat_at (zs := (vs0.toList.drop off).take (es.length * size)) hsz hne hcap (by rw [hLb]; exact hfit) (hd.mono fun _ _ => hE.drel) ?_
   intro j u hj
   rw [List.getElem?_take] at hj
   split at hj
   ·simp only [World.cell?, hw]
    simpa using hj
   ·cases hj
theorem zll {R R' : Value → AV → Prop} {S : AV → AV → Prop} (h : ∀ v a b, S a b → R v a → R' v b) {vs : List Value} {asx bs : List AV} (hr : All2 R vs asx) (hs : All2 S asx bs) : All2 R' vs bs :=
 All2.of_get (hr.length.trans hs.length) fun i x y hx hy => by
  obtain ⟨a, ha, hxa⟩ := All2.get' hr hx
  obtain ⟨y', hy', hay⟩ := All2.get' hs ha
  rw [hy] at hy'
  cases hy'
  exact h _ _ _ hay hxa
theorem ACalls.frz {f : FuncId} {args args' : List AV} {K : Kt} (id off len cap size : Nat) (cs : List AV) (es : List (List AV)) (hH : H[id]? = some (.cells cs)) (hfit : off + len * size ≤ cs.length)
  (hp : plain ((cs.drop off).take (len * size)) = some es.flatten) (hlen : es.length = len) (hsz : ∀ c ∈ es, c.length = size) (hcap : len ≤ cap) (ha : All2 (FzT id off len cap es) args args')
  (h : ACalls P f args' (H.set id .dead) K) : ACalls P f args H K := by
 intro B w G vs hR hv
 obtain ⟨G', hE, hR', b, hμ, hLb, vs0, e, hw, hcs⟩ := hR.frz hH
 have h1 : ∀ v a b, FzA id off len cap es a b → ARel w G v a → ARel w G' v b := fun v a b' hab hr => FzA.rel hfit hp hlen hsz hcap hE hμ hLb hw hcs hab hr
 have h2 : ∀ v a b, FzT id off len cap es a b → TRel w G v a → TRel w G' v b := by
  intro v a b' hab hr
  cases hab with
  | one hab =>
   cases hab with
   | refl a => exact hE.trel hr
   | ms => exact TRel.of_v (VRel.of_a (h1 _ _ _ .ms hr))
  | agg hab =>
   obtain ⟨us, hu, hr⟩ := hr
   exact ⟨us, hu, zll h1 hr hab⟩
 refine (h B w G' vs hR' (zll h2 hv ha)).mono fun e w' ⟨v, r, H', G'', k1, k2, k3, k4, k5⟩ => ⟨v, r, H', G'', k1, hE.trans k2, k3, k4, k5⟩
theorem AWp.frz {c : Code} {Q : AExit → List AV → zaa → Prop} {F : List AV} (id off len cap size : Nat) (cs : List AV) (es : List (List AV)) (id2 : Nat) (cs2 cs2' : List AV) (hH : H[id]? = some (.cells cs)) (hfit : off + len * size ≤ cs.length)
  (hp : plain ((cs.drop off).take (len * size)) = some es.flatten) (hlen : es.length = len) (hsz : ∀ c ∈ es, c.length = size) (hcap : len ≤ cap) (hne : id ≠ id2) (hH2 : H[id2]? = some (.cells cs2)) (ha : All2 (FzA id off len cap es) cs2 cs2')
  (h : AWp P c Q F ((H.set id .dead).set id2 (.cells cs2'))) : AWp P c Q F H := by
 intro B w G a hR hF hd
 obtain ⟨G', hE, hR', b, hμ, hLb, vs0, e, hw, hcs⟩ := hR.frz hH
 have h1 : ∀ v a b, FzA id off len cap es a b → ARel w G v a → ARel w G' v b := fun v a b' hab hr => FzA.rel hfit hp hlen hsz hcap hE hμ hLb hw hcs hab hr
 have hlt2 : id2 < G.μ.length := by rw [hR.len]; exact (List.getElem?_eq_some_iff.1 hH2).1
 have hH2' : (H.set id .dead)[id2]? = some (.cells cs2) := by rw [List.getElem?_set_ne hne]; exact hH2
 have hR2 : HRel B w G' ((H.set id .dead).set id2 (.cells cs2')) := by
  refine ⟨by simp [hR'.len], ?_, hR'.dist, hR'.fresh, hR'.lt, hR'.base⟩
  intro i ab gi k1 k2
  by_cases hi : i = id2
  ·subst hi
   rw [List.getElem?_set_self (List.getElem?_eq_some_iff.1 hH2').1] at k1
   cases k1
   have hok := hR'.ok i _ _ hH2' k2
   have hgi : G.μ[i]? = some gi := by
    obtain ⟨gi0, hgi0⟩ : ∃ gi0, G.μ[i]? = some gi0 := ⟨_, List.getElem?_eq_getElem hlt2⟩
    have hok0 := hR.ok i _ _ hH2 hgi0
    obtain ⟨gi1, hg1, hle⟩ := hE.ids i gi0 hgi0
    rw [k2] at hg1
    cases hg1
    cases gi0 with
    | blk x => cases gi with
     | blk y => obtain rfl : x = y := hle; exact hgi0
     | own v s n => exact hle.elim
     | gap => exact hle.elim
    | own v s n => exact hok0.elim
    | gap => exact hok0.elim
   have hok0 := hR.ok i _ _ hH2 hgi
   cases gi with
   | blk x =>
    obtain ⟨k3, k4, vs, e', k5, k6⟩ := hok
    obtain ⟨_, _, vs1, e1, k7, k8⟩ := hok0
    rw [k5] at k7
    cases k7
    exact ⟨k3, k4, vs, e', k5, zll h1 k8 ha⟩
   | own v s n => exact hok.elim
   | gap => exact hok.elim
  ·rw [List.getElem?_set_ne (fun h => hi h.symm)] at k1
   exact hR'.ok i ab gi k1 k2
 refine wp_mono (h B w G' a hR2 (hF.ext hE) hd) fun e a' w' hp => ?_
 obtain ⟨F', H', G'', e', rfl, k1, k2, k3, k4, k5⟩ := hp
 exact ⟨F', H', G'', e', rfl, hE.trans k1, k2, k3, k4, k5⟩
end Go.Abs
namespace Go.Abs
open Go Go.RowKit
open Go.Sort (grow putRow putCells mapBlock onCells ahead SWO PermIn SortedIn Holds)
open Go.Proofs (sortWorld ltOf CmpLays1)
variable {P : Program} {B : Nat} {w : World} {G : Gh} {H : zaa}
theorem zzM {W w' : World} (hd : W.drawn ≤ w'.drawn) (hb : Below W.heap.size W w') : ∃ q os, w' = grow (W.drewN q) os := by
 refine ⟨w'.drawn - W.drawn, w'.heap.extract W.heap.size w'.heap.size, ?_⟩
 obtain ⟨h1, h2, h3, h4, h5⟩ := hb
 obtain ⟨heap, tape, drawn, os, output⟩ := W
 obtain ⟨heap', tape', drawn', os', output'⟩ := w'
 simp only at *
 subst h1 h2 h3
 have e1 : heap' = heap ++ heap'.extract heap.size heap'.size := by
  refine Array.ext_getElem? fun i => ?_
  by_cases hi : i < heap.size
  ·rw [Array.getElem?_append_left hi, h5 i hi]
  ·rw [Array.getElem?_append_right (by omega), Array.getElem?_extract]
   by_cases h : i < heap'.size
   ·rw [if_pos (by omega), show heap.size + (i - heap.size) = i by omega]
   ·rw [if_neg (by omega), Array.getElem?_eq_none (by omega)]
 have e2 : drawn' = drawn + (drawn' - drawn) := by omega
 simp only [grow, World.drewN]
 rw [← e1, ← e2]
theorem HRel.alone (h : HRel B w G H) (o : Obj) : Ext B w G (w.alloc o) G ∧ HRel B (w.alloc o) G H := by
 have he := Ext.alloc h o G.L (fun _ _ => rfl) []
 simp only [List.append_nil] at he
 refine ⟨he, h.keep he rfl (fun id gi b h1 h2 => ⟨alloc_old (h.lt id gi b h1 h2), rfl⟩) (fun b hb => ?_)⟩
 rw [zbZ] at hb
 exact h.fresh b (by omega)
theorem HRel.grown : ∀ (os : List Obj) {w : World}, HRel B w G H → Ext B w G (grow w os.toArray) G ∧ HRel B (grow w os.toArray) G H
 | [], w, h => by
  have : grow w #[] = w := by simp [grow]
  rw [show ([] : List Obj).toArray = #[] from rfl, this]
  exact ⟨Ext.refl _ _ _, h⟩
 | o :: l, w, h => by
  obtain ⟨h1, h2⟩ := h.alone o
  obtain ⟨h3, h4⟩ := HRel.grown l h2
  have : grow w (o :: l).toArray = grow (w.alloc o) l.toArray := by
   rw [Go.Sort.alloc_eq_grow, Go.Sort.grow_grow]
   simp
  rw [this]
  exact ⟨h1.trans h3, h4⟩
theorem zAY {α : Type} [Inhabited α] (vals : α → Value) (d : Array α) (cur : Array Value) (h : d.size ≤ cur.size) : (putCells vals 0 d cur).toList.take d.size = d.toList.map vals := by
 refine List.ext_getElem (by simp [putCells]; omega) fun i h1 h2 => ?_
 simp at h2
 simp [putCells, h2]
def Lx (w : World) (G : Gh) (blk b : Nat) : Nat := if b = blk then 0 else max (G.L b) (zcg w b)
def Rd (H : zaa) (id0 : Nat) (a : AV) (row : List (List AV)) : Prop :=
 a = .sl row .none ∨
 (∃ id off len cap size cs, a = .ms id off len cap ∧ H[id]? = some (.cells cs) ∧ off + len * size ≤ cs.length ∧ plain ((cs.drop off).take (len * size)) = some row.flatten ∧ row.length = len ∧ (∀ c ∈ row, c.length = size) ∧ len ≤ cap) ∨
 (∃ id e size m cs, a = .ov id m ∧ id ≠ id0 ∧ H[id]? = some (.vec e size m cs) ∧ plain cs = some row.flatten ∧ row.length = m ∧ ∀ c ∈ row, c.length = size)
theorem Rd.rel (h : HRel B w G H) {id e n g cap : Nat} {cs : List AV} (hH : H[id]? = some (.vec e 1 n cs)) (hμ : G.μ[id]? = some (.own (.slice (some ⟨g, 0, none⟩) n cap) 1 n)) {a : AV} {row : List (List AV)} (hr : Rd H id a row) {v : Value} (hv : ARel w G v a) :
  DRel w (Lx w G g) v (.sl row .none) := by
 obtain ⟨_, _, _, hL0⟩ := h.ok id _ _ hH hμ
 have hLg : G.L g = 0 := hL0 g rfl
 have hlev : ∀ b, G.L b ≤ Lx w G g b := fun b => by
  unfold Lx
  split
  ·rename_i hb; rw [hb, hLg]; exact Nat.le_refl _
  ·exact Nat.le_max_left _ _
 have hmono : ∀ {v : Value} {a : AV}, DRel w G.L v a → DRel w (Lx w G g) v a := fun h => h.mono hlev fun _ _ _ => rfl
 rcases hr with rfl | ⟨i2, off, len, cap2, size, cs2, rfl, hH2, hfit, hp, hlen, hsz, hcap⟩ | ⟨i2, e2, size, m, cs2, rfl, hne, hH2, hp, hlen, hsz⟩
 ·exact hmono hv
 ·obtain ⟨b, hb, rfl⟩ := hv
  obtain ⟨_, _, vs, _, hw, hcs⟩ := h.ok i2 _ _ hH2 hb
  have hbg : b ≠ g := fun hbg => by
   have := h.dist i2 id _ _ b hb hμ rfl (by rw [hbg]; rfl)
   subst this
   rw [hH] at hH2
   cases hH2
  subst hlen
  by_cases hes : row = []
  ·subst hes; exact .slE _ _
  ·have hl := hcs.length
   refine DRel.of_flat_at (zs := (vs.toList.drop off).take (row.length * size)) hsz hes hcap ?_ ((zc8 ((hcs.drop off).take _) hp).mono fun _ _ => hmono) ?_
   ·unfold Lx
    rw [if_neg hbg]
    refine Nat.le_trans ?_ (Nat.le_max_right _ _)
    simp [zcg, hw]
    simp at hl
    omega
   ·intro j u hj
    rw [List.getElem?_take] at hj
    split at hj
    ·simp only [World.cell?, hw]
     simpa using hj
    ·cases hj
 ·obtain ⟨⟨a, cap0, rfl, _⟩, v', s0, n', hμ2, _, heq⟩ := hv
  obtain ⟨rfl, rfl, ⟨xs, hown, hcs⟩, _⟩ := h.ok i2 _ _ hH2 hμ2
  obtain rfl := heq rfl
  subst hlen
  by_cases hes : row = []
  ·subst hes; exact .slE _ _
  ·have hown2 := hown
   obtain ⟨hl, hrow⟩ := hown2
   rcases hrow with ⟨h1, h2⟩ | ⟨g2, cap2, cur, h1, h2, h3, h4, h5, h6, h7⟩
   ·cases row <;> simp_all
   ·simp at h1
    obtain ⟨rfl, rfl⟩ := h1
    obtain ⟨_, _, _, hcell⟩ := zc6 hown
    have hbg : g2 ≠ g := fun hbg => hne (h.dist i2 id _ _ g2 hμ2 hμ rfl (by rw [hbg]; rfl))
    refine DRel.of_flat_at (zs := xs) hsz hes h4 ?_ ((zc8 hcs hp).mono fun _ _ => hmono) ?_
    ·unfold Lx
     rw [if_neg hbg]
     refine Nat.le_trans ?_ (Nat.le_max_right _ _)
     simp only [zcg, h3, h6, Nat.zero_add]
     exact Nat.mul_le_mul_right _ h4
    ·intro j u hj
     rw [Nat.zero_add, hcell j (by rw [← hl]; exact (List.getElem?_eq_some_iff.1 hj).1)]
     exact hj
theorem zrV {α : Type} (d : Array α) {k : Nat} (h : d.size = k) : d.extract 0 k = d := by subst h; exact Array.extract_size
theorem zAt (n : Nat) : ((Array.ofFn fun i : Fin n => i).toList.map Fin.val) = List.range n :=
 List.ext_getElem (by simp) fun i h1 h2 => by simp only [List.getElem_map, Array.getElem_toList, Array.getElem_ofFn, List.getElem_range]
theorem zBH {α : Type} [Inhabited α] (vals : α → Value) (w : World) (g m : Nat) (d : Array α) (os : Array Obj) : w.heap.size ≤ (sortWorld vals w g 0 m d os).heap.size := by
 unfold sortWorld
 simp [grow]
theorem zBG {α : Type} [Inhabited α] (vals : α → Value) (w : World) (g m : Nat) (d : Array α) (os : Array Obj) (a : Addr) (h1 : a.block ≠ g) (h2 : a.block < w.heap.size) : (sortWorld vals w g 0 m d os).cell? a = w.cell? a := by
 unfold sortWorld
 rw [Go.Sort.cell?_grow _ _ _ (by rw [Go.Sort.size_putRow]; exact h2), Go.Sort.cell?_putRow_other vals _ g 0 d a (Or.inl h1)]
 rfl
end Go.Abs
namespace Go.Abs
open Go Go.RowKit
variable {P : Program} {B : Nat} {w : World} {G : Gh} {H : zaa}
theorem zrS {v : Value} {a : AV} (h : DRel w G.L v a) : ARel w G v a := by
 cases h with
 | bool b => rfl
 | int k n => rfl
 | str s => rfl
 | slE a cap => exact .slE a cap
 | sl b off cap esz es vs hne hcap hL hsz hc hd => exact .sl b off cap esz es vs hne hcap hL hsz hc hd
end Go.Abs
namespace Go.Abs
open Go Go.RowKit
open Go.Sort (grow putRow putCells mapBlock onCells ahead SWO PermIn SortedIn Holds HoldsK flatK size_flatK get_flatK)
open Go.Proofs (sortWorld sortWorldK ltOf CmpLays)
variable {P : Program} {B : Nat} {w : World} {G : Gh} {H : zaa}
theorem zlK {α : Type} {k : Nat} : ∀ {l : List (List α)} (hk : ∀ r ∈ l, r.length = k) {i j : Nat} (hj : j < k), l.flatten[i * k + j]? = (l[i]?).bind fun r => r[j]?
 | [], _, i, j, _ => by simp
 | r :: l, hk, 0, j, hj => by
  have := hk r (by simp)
  simp [List.getElem?_append_left (show j < r.length by omega)]
 | r :: l, hk, i + 1, j, hj => by
  have h1 := hk r (by simp)
  have h2 : r.length ≤ (i + 1) * k + j := by rw [Nat.add_mul]; omega
  rw [List.flatten_cons, List.getElem?_append_right h2, show (i + 1) * k + j - r.length = i * k + j by rw [Nat.add_mul]; omega, zlK (fun x hx => hk x (by simp [hx])) hj]
  rfl
theorem zr3 {α : Type} {k : Nat} : ∀ {l : List (List α)} (hk : ∀ r ∈ l, r.length = k), l.flatten.length = l.length * k
 | [], _ => by simp
 | r :: l, hk => by
  rw [List.flatten_cons, List.length_append, zr3 (fun x hx => hk x (by simp [hx])), hk r (by simp), List.length_cons, Nat.add_mul]; omega
theorem zzF {α : Type} [Inhabited α] (enc : α → List Value) (k : Nat) (hk0 : 0 < k) (hk : ∀ x, (enc x).length = k) (d : Array α) : (flatK enc k d).toList = (d.toList.map enc).flatten := by
 have hl : ∀ r ∈ d.toList.map enc, r.length = k := fun r hr => by obtain ⟨x, _, rfl⟩ := List.mem_map.1 hr; exact hk x
 refine List.ext_getElem? fun t => ?_
 have ht : t = t / k * k + t % k := by rw [Nat.mul_comm]; exact (Nat.div_add_mod t k).symm
 have hm : t % k < k := Nat.mod_lt _ hk0
 by_cases h : t < d.size * k
 ·have h1 : t / k < d.size := (Nat.div_lt_iff_lt_mul hk0).2 h
  rw [Array.getElem?_toList, Array.getElem?_eq_getElem (by simpa using h), ← getElem!_pos (flatK enc k d) t (by simpa using h), get_flatK _ _ _ _ h]
  conv => rhs; rw [ht, zlK hl hm]
  rw [List.getElem?_map, Array.getElem?_toList, Array.getElem?_eq_getElem h1]
  simp only [Option.map_some, Option.bind_some]
  rw [getElem!_pos d _ h1, List.getElem?_eq_getElem (by rw [hk]; exact hm), getElem!_pos (enc d[t / k]) _ (by rw [hk]; exact hm)]
 ·rw [List.getElem?_eq_none (by simpa using h), List.getElem?_eq_none (by rw [zr3 hl]; simpa using h)]
theorem zrb {α β : Type} {R : α → β → Prop} : ∀ {l : List (List α)} {m : List (List β)}, All2 (fun a b => All2 R a b) l m → All2 R l.flatten m.flatten
 | [], [], _ => trivial
 | a :: l, b :: m, ⟨h1, h2⟩ => by
  rw [List.flatten_cons, List.flatten_cons]
  exact All2.append h1 (zrb h2)
theorem HRel.sortedK (h : HRel B w G H) {id e k n g cap : Nat} {cs cs' : List AV} (hH : H[id]? = some (.vec e k n cs)) (hμ : G.μ[id]? = some (.own (.slice (some ⟨g, 0, none⟩) n cap) k n))
  (d : Array Value) (hd : d.size = n * k) (hc : All2 (ARel w G) d.toList cs') (m : Nat) (os : Array Obj) :
  Ext B w G (sortWorld _root_.id w g 0 m d os) G ∧ HRel B (sortWorld _root_.id w g 0 m d os) G (H.set id (.vec e k n cs')) := by
 obtain ⟨_, _, ⟨xs, ⟨hxl, ho⟩, hxc⟩, hL0⟩ := h.ok id _ _ hH hμ
 rcases ho with ⟨h1, _⟩ | ⟨g', cap', cur, h1, hB, hw, hcap, hcm, hsz, htk⟩
 ·cases h1
 cases h1
 have hle : d.size ≤ cur.size := by rw [hd, hsz]; exact Nat.mul_le_mul_right _ hcap
 have htake := zAY _root_.id d cur hle
 rw [hd] at htake
 simp only [List.map_id] at htake
 have h1 := h.storeV (cur' := putCells _root_.id 0 d cur) (xs' := d.toList) hH hμ hw hB hcap hcm (by simp [putCells, hsz]) htake (by simp [hd]) hc
 obtain ⟨hE1, hR1⟩ := h1
 have hE2 := Ext.drew B (w.setRow g (putCells _root_.id 0 d cur)) G ((w.setRow g (putCells _root_.id 0 d cur)).drawn + m) (Nat.le_add_right _ _)
 have hR2 := hR1.drew ((w.setRow g (putCells _root_.id 0 d cur)).drawn + m) (Nat.le_add_right _ _)
 obtain ⟨hE3, hR3⟩ := HRel.grown os.toList hR2
 have heq : sortWorld _root_.id w g 0 m d os = grow { w.setRow g (putCells _root_.id 0 d cur) with drawn := (w.setRow g (putCells _root_.id 0 d cur)).drawn + m } os.toList.toArray := by
  have hh : w.heap.modify g (onCells (putCells _root_.id 0 d)) = (w.setRow g (putCells _root_.id 0 d cur)).heap := by
   unfold World.setRow
   refine Array.ext_getElem? fun i => ?_
   simp only [Array.getElem?_modify]
   by_cases hi : g = i
   ·subst hi
    simp [hw, onCells]
   ·simp [hi]
  have e : sortWorld _root_.id w g 0 m d os = grow { w with heap := w.heap.modify g (onCells (putCells _root_.id 0 d)), drawn := w.drawn + m } os := rfl
  rw [e, hh, Array.toArray_toList]
  rfl
 rw [heq]
 exact ⟨(hE1.trans hE2).trans hE3, hR3⟩
theorem zBJ (h : HRel B w G H) {n k g f : Nat} (hLg : G.L g = 0) {enc : Fin n → List Value} [Inhabited (Fin n)] {rows : Nat → List AV} {cf : Nat → Nat → Int} (hd : ∀ i : Fin n, All2 (DRel w G.L) (enc i) (rows i))
  (hcmp : ∀ i j, i < n → j < n → ACalls P f [.agg (rows i), .agg (rows j)] [] fun r _ => r = .int .i64 (cf i j)) : CmpLays P f #[] enc k (fun i j => cf i j) g 0 n w := by
 intro m os dk hdk x y
 show Calls P f _ (sortWorld _root_.id w g 0 m (flatK enc k dk) os) fun e w' => e = .returned (.int .i64 (cf x y)) ∧ ∃ q os', w' = grow ((sortWorld _root_.id w g 0 m (flatK enc k dk) os).drewN q) os'
 generalize hW : sortWorld _root_.id w g 0 m (flatK enc k dk) os = W
 have hsz : w.heap.size ≤ W.heap.size := by rw [← hW]; exact zBH _ _ _ _ _ _
 have hcell : ∀ a : Addr, a.block ≠ g → a.block < w.heap.size → W.cell? a = w.cell? a := fun a h1 h2 => by rw [← hW]; exact zBG _ _ _ _ _ _ a h1 h2
 have hL : ∀ b, W.heap.size ≤ b → G.L b = 0 := fun b hb => h.fresh b (by omega)
 have hmono : ∀ {v : Value} {a : AV}, DRel w G.L v a → DRel W G.L v a := fun hx => hx.mono (fun _ => Nat.le_refl _) fun b off ho => by
  refine hcell ⟨b, off, none⟩ ?_ ?_
  ·intro hb
   have hb : b = g := hb
   rw [hb, hLg] at ho
   omega
  ·show b < w.heap.size
   refine Nat.lt_of_not_le fun hb => ?_
   rw [h.fresh b hb] at ho
   omega
 have harg : ∀ i : Fin n, VRel W ⟨G.L, []⟩ (.agg (enc i).toArray) (.agg (rows i)) := fun i => ⟨_, rfl, by
  rw [List.toList_toArray]
  exact (hd i).mono fun _ _ hx => zrS (G := ⟨G.L, []⟩) (hmono hx)⟩
 refine (hcmp x y x.2 y.2 W.heap.size W ⟨G.L, []⟩ #[.agg (enc x).toArray, .agg (enc y).toArray]
  ⟨rfl, fun _ _ _ h => by simp at h, fun _ _ _ _ _ h => by simp at h, hL, fun _ _ _ h => by simp at h, Nat.le_refl _⟩ ⟨harg x, harg y, trivial⟩).mono ?_
 rintro e w' ⟨v, r, H', G', rfl, h2, _, h4, rfl⟩
 have h4 : v = .int .i64 (cf x y) := h4
 subst h4
 exact ⟨rfl, zzM h2.dr h2.below⟩
theorem ACalls.sortFuncK {ρ : Go.Shelf.Ren} (L : Go.Proofs.SlLaysF0.n6 P ρ) {id e k n f : Nat} (hk0 : 0 < k) (aE : ∀ w, (isAgg (ρ.t 24)).run P w = .ok true w) (zE : ∀ w, (Go.sizeOf (ρ.t 24)).run P w = .ok k w)
  {cs : List AV} (hH : H[id]? = some (.vec e k n cs)) (hn : n < 4611686018427387904) (rows : List (List AV)) (cf : Nat → Nat → Int)
  (hp : plain cs = some rows.flatten) (hrl : rows.length = n) (hrk : ∀ r ∈ rows, r.length = k) (eg : ∀ args w, (callFunc f args).run P w = .ok (.enter f args) w)
  (hcmp : ∀ i j, i < n → j < n → ACalls P f [.agg (rows.getD i []), .agg (rows.getD j [])] [] fun r _ => r = .int .i64 (cf i j))
  (hO1 : ∀ i, i < n → ¬ cf i i < 0) (hO2 : ∀ i j k, i < n → j < n → k < n → cf i j < 0 → cf j k < 0 → cf i k < 0) (hO3 : ∀ i j k, i < n → j < n → k < n → ¬ cf i j < 0 → ¬ cf j k < 0 → ¬ cf i k < 0)
  {K : Kt} (hK : ∀ p : List Nat, p.Perm (List.range n) → (∀ a b (ha : a < p.length) (hb : b < p.length), a < b → ¬ cf p[b] p[a] < 0) → K (.tup []) (H.set id (.vec e k n (p.map fun i => rows.getD i []).flatten))) :
  ACalls P (ρ.f 6) [.ov id n, .fn f []] H K := by
 rintro B w G ⟨vs⟩ hR hv
 match vs, hv with
 | [v1, v2], ⟨h1, h2, _⟩ =>
 obtain ⟨⟨a0, cap0, rfl, _⟩, v', s0, n', hμ, hle, heq⟩ := h1
 obtain ⟨ws, rfl, hws⟩ := h2
 have hws : ws = #[] := by
  cases hwl : ws.toList with
  | nil => exact Array.toList_inj.1 hwl
  | cons x l => rw [hwl] at hws; exact hws.elim
 subst hws
 obtain ⟨rfl, rfl, ⟨xs, hown, hcs⟩, hL0⟩ := hR.ok id _ _ hH hμ
 obtain rfl := heq rfl
 have hxl := hown.1
 have hdr := zc8 hcs hp
 match n, hxl, hH, hn, hcmp, hO1, hO2, hO3, hK, hμ, hown, hrl with
 | 0, hxl, hH, hn, hcmp, hO1, hO2, hO3, hK, hμ, hown, hrl =>
  refine (Go.Proofs.AnyF.slices_SortFunc_none (P := P) (ρ := ρ) L a0 cap0 _ w).mono ?_
  rintro e' w' ⟨rfl, rfl⟩
  have hc : cs = [] := by
   have hcl := hcs.length
   cases cs with
   | nil => rfl
   | cons x l => simp at hcl; omega
  subst hc
  have := hK [] (by simp) (by simp)
  refine ⟨_, .tup [], _, G, rfl, Ext.refl _ _ _, ?_, ⟨#[], rfl, trivial⟩, this⟩
  have hs : H.set id (.vec e k 0 []) = H := by
   refine List.ext_getElem? fun i => ?_
   rw [List.getElem?_set]
   split
   ·rename_i hi; subst hi; rw [if_pos (List.getElem?_eq_some_iff.1 hH).1, hH]
   ·rfl
  simpa [hs] using hR
 | n + 1, hxl, hH, hn, hcmp, hO1, hO2, hO3, hK, hμ, hown, hrl =>
  obtain ⟨_, ho⟩ := hown
  rcases ho with ⟨h1, h0⟩ | ⟨g, cap, cur, h1, hB, hw, hcap, hcm, hsz, htk⟩
  ·omega
  cases h1
  have hLg : G.L g = 0 := hL0 g rfl
  have hwl : g < w.heap.size := (Array.getElem?_eq_some_iff.1 hw).1
  have hik : ∀ i, i < n + 1 → i * k + k ≤ (n + 1) * k := fun i hi => by
   have := Nat.mul_le_mul_right k (show i + 1 ≤ n + 1 from hi)
   rwa [Nat.add_mul, Nat.one_mul] at this
  let enc : Fin (n + 1) → List Value := fun i => (xs.drop (i.1 * k)).take k
  have henc : ∀ i, (enc i).length = k := fun i => by
   have := hik i.1 i.2
   simp only [enc, List.length_take, List.length_drop]
   omega
  have hget : ∀ (i : Fin (n + 1)) (j : Nat), j < k → (enc i)[j]? = xs[i.1 * k + j]? := fun i j hj => by
   simp only [enc, List.getElem?_take, List.getElem?_drop, if_pos hj]
  have hencd : ∀ i : Fin (n + 1), All2 (DRel w G.L) (enc i) (rows.getD i.1 []) := fun i => by
   have hi : i.1 < rows.length := by rw [hrl]; exact i.2
   have hri : rows.getD i.1 [] = rows[i.1] := by rw [List.getD_eq_getElem?_getD, List.getElem?_eq_getElem hi]; rfl
   rw [hri]
   refine All2.of_get (by rw [henc, hrk _ (List.getElem_mem hi)]) fun j x y hx hy => ?_
   have hj : j < k := by rw [← hrk _ (List.getElem_mem hi)]; exact (List.getElem?_eq_some_iff.1 hy).1
   rw [hget i j hj] at hx
   have hfl : rows.flatten[i.1 * k + j]? = some y := by rw [zlK hrk hj, List.getElem?_eq_getElem hi]; exact hy
   obtain ⟨x', hx', hr⟩ := All2.get hdr hfl
   rw [hx] at hx'
   cases hx'
   exact hr
  have hone : ∀ i, ∀ v ∈ enc i, v.oneCell' = true := fun i v hv => by
   obtain ⟨j, hj, rfl⟩ := List.mem_iff_getElem.1 hv
   have hjr : j < (rows.getD i.1 []).length := by rw [← (hencd i).length]; exact hj
   obtain ⟨x, hx, hr⟩ := All2.get (hencd i) (List.getElem?_eq_getElem hjr)
   rw [List.getElem?_eq_getElem hj] at hx
   cases hx
   generalize (rows.getD i.1 [])[j] = a at hr
   generalize (enc i)[j] = v at hr
   cases hr <;> rfl
  have hlays := zBJ (P := P) (f := f) (n := n + 1) (k := k) (rows := fun i => rows.getD i []) hR hLg hencd hcmp
  let d : Array (Fin (n + 1)) := Array.ofFn fun i => i
  have hds : d.size = n + 1 := by simp [d]
  have hdj : ∀ j (hj : j < n + 1), d[j]! = ⟨j, hj⟩ := fun j hj => by
   rw [getElem!_pos d j (by rw [hds]; exact hj)]
   simp [d]
  have hholds : HoldsK enc k w g 0 d := by
   intro t ht
   rw [size_flatK, hds] at ht
   have hd1 : t / k < n + 1 := (Nat.div_lt_iff_lt_mul hk0).2 ht
   have hm : t % k < k := Nat.mod_lt _ hk0
   have htk2 : t = t / k * k + t % k := by rw [Nat.mul_comm]; exact (Nat.div_add_mod t k).symm
   have htx : t < xs.length := by rw [hxl]; exact ht
   have hc : cur[t]? = some xs[t] := by
    have : xs[t]? = some xs[t] := List.getElem?_eq_getElem _
    rw [← this, ← htk, List.getElem?_take, if_pos ht, Array.getElem?_toList]
   have hv : (flatK enc k d)[t]! = xs[t] := by
    rw [get_flatK _ _ _ _ (by rw [hds]; exact ht), hdj _ hd1]
    have h3 := hget ⟨t / k, hd1⟩ (t % k) hm
    simp only at h3
    rw [← htk2, List.getElem?_eq_getElem htx, List.getElem?_eq_getElem (by rw [henc]; exact hm)] at h3
    rw [getElem!_pos (enc _) _ (by rw [henc]; exact hm)]
    exact Option.some.inj h3
   refine ⟨?_, ?_⟩
   ·rw [Nat.zero_add, hv]
    simp [World.cell?, hw, hc]
   ·simp [World.frozen?, hw]
  have hO : SWO (ltOf fun i j : Fin (n + 1) => cf i j) := ⟨fun x => by simp only [ltOf, decide_eq_false_iff_not]; exact hO1 x x.2,
   fun x y z h1 h2 => by simp only [ltOf, decide_eq_true_eq] at *; exact hO2 x y z x.2 y.2 z.2 h1 h2,
   fun x y z h1 h2 => by simp only [ltOf, decide_eq_false_iff_not] at *; exact hO3 x y z x.2 y.2 z.2 h1 h2⟩
  have hmain := Go.Proofs.AnyQ.slices_SortFunc (P := P) (ρ := ρ) L k aE zE enc henc hone (fun i j => cf i j) hO f #[] g 0 cap0 d w eg (by rw [hds]; exact hlays) hholds hwl (by rw [hds]; exact hn)
  rw [hds] at hmain
  refine hmain.mono ?_
  rintro e' w' ⟨rfl, d', m, os, hp', hsrt, rfl⟩
  obtain ⟨hp1, _, hp3⟩ := hp'
  have hds' : d'.size = n + 1 := hp1.trans hds
  have hpm : (d'.toList.map Fin.val).Perm (List.range (n + 1)) := by
   have h1 : d'.toList.Perm d.toList := by
    have e1 : (d'.extract 0 (n + 1)) = d' := zrV d' hds'
    have e2 : (d.extract 0 (n + 1)) = d := zrV d hds
    rwa [e1, e2] at hp3
   exact (h1.map Fin.val).trans (List.Perm.of_eq (zAt _))
  have hS := hR.sortedK hH hμ (flatK enc k d') (by rw [size_flatK, hds']) (cs' := ((d'.toList.map Fin.val).map fun i => rows.getD i []).flatten) (by
   rw [zzF enc k hk0 henc, List.map_map]
   refine zrb (All2.of_get (by simp) fun i x y hx hy => ?_)
   simp only [List.getElem?_map, Option.map_eq_some_iff] at hx hy
   obtain ⟨a, ha, rfl⟩ := hx
   obtain ⟨b, hb, rfl⟩ := hy
   rw [ha] at hb
   cases hb
   exact (hencd a).mono fun _ _ h => zrS h) m os
  refine ⟨_, .tup [], _, G, rfl, hS.1, hS.2, ⟨#[], rfl, trivial⟩, hK _ hpm fun a b ha hb hab => ?_⟩
  simp only [List.length_map, Array.length_toList] at ha hb
  have := hsrt a b (Nat.zero_le _) hab (by omega)
  rw [getElem!_pos d' a ha, getElem!_pos d' b hb] at this
  simp only [ltOf, decide_eq_false_iff_not] at this
  simpa using this
end Go.Abs
namespace Go.Proofs.YtddlhljflggenaaGreatDoor
open Go Go.Shelf Go.Abs
def zux : Go.Shelf.Ren := ⟨fun | 6 => 22 | 15 => 43 | 14 => 42 | 28 => 74 | 29 => 75 | 20 => 66 | 21 => 67 | 22 => 68 | 23 => 69 | 24 => 70 | 25 => 71 | 26 => 72 | 27 => 73 | 46 => 102 | 47 => 103 | 48 => 104 | 49 => 105 | 50 => 106 | 57 => 126 | n => n, fun | 22 => 27 | 24 => 35 | 25 => 38 | 3 => 3 | 39 => 81 | 0 => 0 | 53 => 108 | 55 => 110 | 4 => 4 | 46 => 102 | 45 => 101 | 50 => 57 | 5 => 5 | 9 => 9 | 66 => 144 | 70 => 56 | 76 => 168 | 77 => 169 | n => n, fun | n => n⟩
theorem zuw : Go.Proofs.SlLaysF0.n6 tP zux := {
 mixed := by kernel_rfl
 f6 := ⟨Tryz.f22.name, by decide, Tryz.func22.trans (congrArg some (by kernel_rfl))⟩
 f14 := ⟨Tryz.f42.name, by decide, Tryz.func42.trans (congrArg some (by kernel_rfl))⟩
 f15 := Tryz.func43.trans (congrArg some (by kernel_rfl))
 f20 := ⟨Tryz.f66.name, by decide, Tryz.func66.trans (congrArg some (by kernel_rfl))⟩
 f21 := ⟨Tryz.f67.name, by decide, Tryz.func67.trans (congrArg some (by kernel_rfl))⟩
 f22 := ⟨Tryz.f68.name, by decide, Tryz.func68.trans (congrArg some (by kernel_rfl))⟩
 f23 := ⟨Tryz.f69.name, by decide, Tryz.func69.trans (congrArg some (by kernel_rfl))⟩
 f24 := ⟨Tryz.f70.name, by decide, Tryz.func70.trans (congrArg some (by kernel_rfl))⟩
 f25 := ⟨Tryz.f71.name, by decide, Tryz.func71.trans (congrArg some (by kernel_rfl))⟩
 f26 := ⟨Tryz.f72.name, by decide, Tryz.func72.trans (congrArg some (by kernel_rfl))⟩
 f27 := ⟨Tryz.f73.name, by decide, Tryz.func73.trans (congrArg some (by kernel_rfl))⟩
 f28 := Tryz.func74.trans (congrArg some (by kernel_rfl))
 f29 := Tryz.func75.trans (congrArg some (by kernel_rfl))
 f46 := ⟨Tryz.f102.name, by decide, Tryz.func102.trans (congrArg some (by kernel_rfl))⟩
 f47 := Tryz.func103.trans (congrArg some (by kernel_rfl))
 f48 := Tryz.func104.trans (congrArg some (by kernel_rfl))
 f49 := ⟨Tryz.f105.name, by decide, Tryz.func105.trans (congrArg some (by kernel_rfl))⟩
 f50 := ⟨Tryz.f106.name, by decide, Tryz.func106.trans (congrArg some (by kernel_rfl))⟩
 f57 := ⟨Tryz.f126.name, by decide, Tryz.func126.trans (congrArg some (by kernel_rfl))⟩
 t0 := Tryz.underlying0
 a0 := Tryz.isAgg0
 z0 := Tryz.sizeOf0
 v0 := Tryz.zeroValue0
 t3 := Tryz.underlying3
 a3 := Tryz.isAgg3
 z3 := Tryz.sizeOf3
 v3 := Tryz.zeroValue3
 t4 := Tryz.underlying4
 a4 := Tryz.isAgg4
 z4 := Tryz.sizeOf4
 v4 := Tryz.zeroValue4
 t5 := Tryz.underlying5
 a5 := Tryz.isAgg5
 z5 := Tryz.sizeOf5
 v5 := Tryz.zeroValue5
 t9 := Tryz.underlying9
 a9 := Tryz.isAgg9
 z9 := Tryz.sizeOf9
 v9 := Tryz.zeroValue9
 t22 := Tryz.underlying27
 a22 := Tryz.isAgg27
 z22 := Tryz.sizeOf27
 v22 := Tryz.zeroValue27
 t25 := Tryz.underlying38
 a25 := Tryz.isAgg38
 z25 := Tryz.sizeOf38
 v25 := Tryz.zeroValue38
 t39 := Tryz.underlying81
 a39 := Tryz.isAgg81
 z39 := Tryz.sizeOf81
 v39 := Tryz.zeroValue81
 t45 := Tryz.underlying101
 a45 := Tryz.isAgg101
 z45 := Tryz.sizeOf101
 v45 := Tryz.zeroValue101
 t46 := Tryz.underlying102
 a46 := Tryz.isAgg102
 z46 := Tryz.sizeOf102
 v46 := Tryz.zeroValue102
 t50 := Tryz.underlying57
 a50 := Tryz.isAgg57
 z50 := Tryz.sizeOf57
 v50 := Tryz.zeroValue57
 t53 := Tryz.underlying108
 a53 := Tryz.isAgg108
 z53 := Tryz.sizeOf108
 v53 := Tryz.zeroValue108
 t55 := Tryz.underlying110
 a55 := Tryz.isAgg110
 z55 := Tryz.sizeOf110
 v55 := Tryz.zeroValue110
 t66 := Tryz.underlying144
 a66 := Tryz.isAgg144
 z66 := Tryz.sizeOf144
 v66 := Tryz.zeroValue144
 t70 := Tryz.underlying56
 a70 := Tryz.isAgg56
 z70 := Tryz.sizeOf56
 v70 := Tryz.zeroValue56
 t76 := Tryz.underlying168
 a76 := Tryz.isAgg168
 z76 := Tryz.sizeOf168
 v76 := Tryz.zeroValue168
 t77 := Tryz.underlying169
 a77 := Tryz.isAgg169
 z77 := Tryz.sizeOf169
 v77 := Tryz.zeroValue169 }
def zCO : Go.Shelf.Ren := ⟨fun | 4 => 101 | n => n, fun | 22 => 27 | 25 => 35 | n => n, fun | n => n⟩
theorem zCN : Go.Proofs.Lays8.n4 tP zCO := {
 mixed := by kernel_rfl
 f4 := ⟨Tryz.f101.name, by decide, Tryz.func101.trans (congrArg some (by kernel_rfl))⟩
 t0 := Tryz.underlying0
 a0 := Tryz.isAgg0
 z0 := Tryz.sizeOf0
 v0 := Tryz.zeroValue0
 t3 := Tryz.underlying3
 a3 := Tryz.isAgg3
 z3 := Tryz.sizeOf3
 v3 := Tryz.zeroValue3
 t4 := Tryz.underlying4
 a4 := Tryz.isAgg4
 z4 := Tryz.sizeOf4
 v4 := Tryz.zeroValue4
 t9 := Tryz.underlying9
 a9 := Tryz.isAgg9
 z9 := Tryz.sizeOf9
 v9 := Tryz.zeroValue9
 t20 := Tryz.underlying20
 a20 := Tryz.isAgg20
 z20 := Tryz.sizeOf20
 v20 := Tryz.zeroValue20
 t22 := Tryz.underlying27
 a22 := Tryz.isAgg27
 z22 := Tryz.sizeOf27
 v22 := Tryz.zeroValue27 }
end Go.Proofs.YtddlhljflggenaaGreatDoor
namespace Go.Abs
open Go Go.RowKit
variable {P : Program}
theorem ACalls.monoZ {H : zaa} {f : FuncId} {args : List AV} {K K' : AV → zaa → Prop} (h : ACalls P f args H K) (hk : ∀ r H', K r H' → K' r H') : ACalls P f args H K' :=
 fun B w G vs hH hv => (h B w G vs hH hv).mono fun _ _ ⟨v, r, H', G', h1, h2, h3, h4, h5⟩ => ⟨v, r, H', G', h1, h2, h3, h4, hk _ _ h5⟩
end Go.Abs
