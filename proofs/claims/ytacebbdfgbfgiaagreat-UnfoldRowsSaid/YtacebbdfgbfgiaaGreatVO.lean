import Derived.Test.YtacebbdfgbfgiaaGreatAbsQ1
import Derived.IntWalk
set_option linter.unusedSimpArgs false
set_option linter.unusedVariables false
namespace Go.Abs
open Go Go.RowKit

section
variable {H : zaa} {K : AV → zaa → Prop} {k : AV → Prop}
@[simp] theorem zHr (p q : Prop) : aIf true p q = p := propext Iff.rfl
@[simp] theorem zHq (p q : Prop) : aIf false p q = q := propext Iff.rfl
theorem zoq (b : Bool) (p q : Prop) : zag (.bool b) p q = (if b = true then p else q) := rfl
@[simp] theorem zIQ (p q : Prop) : zag (.bool true) p q = p := propext Iff.rfl
@[simp] theorem zIP (p q : Prop) : zag (.bool false) p q = q := propext Iff.rfl
@[simp] theorem zIf (x y : AV) : zaj (.bool true) x y k = k x := propext Iff.rfl
@[simp] theorem zIe (x y : AV) : zaj (.bool false) x y k = k y := propext Iff.rfl
@[simp] theorem zHh (p q : Prop) : zcs (.bool true) true p q = p := propext Iff.rfl
@[simp] theorem zHe (p q : Prop) : zcs (.bool false) false p q = p := propext Iff.rfl
@[simp] theorem zHg (p q : Prop) : zcs (.bool true) false p q = q := propext Iff.rfl
@[simp] theorem zHf (p q : Prop) : zcs (.bool false) true p q = q := propext Iff.rfl
@[simp] theorem zHi (want : Bool) (p q : Prop) : zcs (.tup []) want p q = q := propext Iff.rfl
@[simp] theorem zHb (p : (AV → zaa → Prop) → Prop) (J : AV → zaa → Prop) : zab (.bool true) true H p J = p J := propext Iff.rfl
@[simp] theorem zG8 (p : (AV → zaa → Prop) → Prop) (J : AV → zaa → Prop) : zab (.bool false) false H p J = p J := propext Iff.rfl
@[simp] theorem zHa (p : (AV → zaa → Prop) → Prop) (J : AV → zaa → Prop) : zab (.bool true) false H p J = J (.tup []) H := propext Iff.rfl
@[simp] theorem zG9 (p : (AV → zaa → Prop) → Prop) (J : AV → zaa → Prop) : zab (.bool false) true H p J = J (.tup []) H := propext Iff.rfl
@[simp] theorem zHc (want : Bool) (p : (AV → zaa → Prop) → Prop) (J : AV → zaa → Prop) : zab (.tup []) want H p J = J (.tup []) H := propext Iff.rfl
@[simp] theorem zIX (cs : List AV) : (AV.agg cs).cs? = some cs := rfl
@[simp] theorem zI0 (j : IntKind) (n : Int) : (AV.int j n).cs? = some [.int j n] := rfl
@[simp] theorem zIY (b : Bool) : (AV.bool b).cs? = some [.bool b] := rfl
@[simp] theorem zJa (s : List UInt8) : (AV.str s).cs? = some [.str s] := rfl
@[simp] theorem zI8 (es : List (List AV)) (t : Tok) : (AV.sl es t).cs? = some [.sl es t] := rfl
@[simp] theorem zI9 : (AV.snil).cs? = some [.snil] := rfl
@[simp] theorem zI7 (i o : Nat) : (AV.ptr i o).cs? = some [.ptr i o] := rfl
@[simp] theorem zI2 (i o l c : Nat) : (AV.ms i o l c).cs? = some [.ms i o l c] := rfl
@[simp] theorem zIZ (f : Nat) (c : List AV) : (AV.fn f c).cs? = some [.fn f c] := rfl
@[simp] theorem zI5 : (AV.nilp).cs? = some [.nilp] := rfl
@[simp] theorem zI4 : (AV.nili).cs? = some [.nili] := rfl
@[simp] theorem zI6 (i n : Nat) : (AV.ov i n).cs? = some [.ov i n] := rfl
@[simp] theorem zJb (i n o : Nat) : (AV.vp i n o).cs? = some [.vp i n o] := rfl
@[simp] theorem zI3 : (AV.nilfn).cs? = some [.nilfn] := rfl
@[simp] theorem zH2 (cs : List AV) : zau cs H K = K (.ptr H.length 0) (H ++ [.cells cs]) := propext Iff.rfl
@[simp] theorem zGu (cs : List AV) : zaq (.agg cs) H K = K (.ptr H.length 0) (H ++ [.cells cs]) := propext Iff.rfl
@[simp] theorem zGy (j : IntKind) (n : Int) : zaq (.int j n) H K = K (.ptr H.length 0) (H ++ [.cells [.int j n]]) := propext Iff.rfl
@[simp] theorem zGF (s : List UInt8) : zaq (.str s) H K = K (.ptr H.length 0) (H ++ [.cells [.str s]]) := propext Iff.rfl
@[simp] theorem zGv (b : Bool) : zaq (.bool b) H K = K (.ptr H.length 0) (H ++ [.cells [.bool b]]) := propext Iff.rfl
@[simp] theorem zGD (es : List (List AV)) (t : Tok) : zaq (.sl es t) H K = K (.ptr H.length 0) (H ++ [.cells [.sl es t]]) := propext Iff.rfl
@[simp] theorem zGJ (n off : Nat) (cs : List AV) : zaX true n off cs k = (off + n ≤ cs.length ∧ k (.agg ((cs.drop off).take n))) := propext Iff.rfl
theorem zjQ {cs : List AV} {off : Nat} {c : AV} (n : Nat) (h : cs[off]? = some c) : zaX false n off cs k = k c := by simp [zaX, h]
@[simp] theorem zGM (n : Nat) (c : AV) (cs : List AV) : zaX false n 0 (c :: cs) k = k c := propext Iff.rfl
@[simp] theorem zGL (n i : Nat) (c : AV) (cs : List AV) : zaX false n (i + 1) (c :: cs) k = zaX false n i cs k := by simp [zaX]
@[simp] theorem zHL (g : Bool) (n : Nat) (cs : List AV) : zad g n (.view cs) H k = zaX g n 0 cs k := propext Iff.rfl
def zf9 (g : Bool) (n off : Nat) (b : Option AB) (k : AV → Prop) : Prop :=
 match b with
 | some (.cells cs) => zaX g n off cs k
 | _ => False
@[simp] theorem zHF (g : Bool) (n off : Nat) (cs : List AV) : zf9 g n off (some (.cells cs)) k = zaX g n off cs k := propext Iff.rfl
@[simp] theorem zHK (g : Bool) (n id off : Nat) : zad g n (.ptr id off) H k = zf9 g n off H[id]? k := by
 rw [zeV]; rfl
def zdO (n off id : Nat) (xs : Option (List AV)) (b : Option AB) (H : zaa) (K : zaa → Prop) : Prop :=
 match xs, b with
 | some xs, some (.cells cs) => (xs.length = n ∧ off + n ≤ cs.length ∧ xs.all AV.known = true) ∧ K (H.set id (.cells (cs.take off ++ xs ++ cs.drop (off + n))))
 | _, _ => False
@[simp] theorem zII {K' : zaa → Prop} (n off id : Nat) (xs cs : List AV) : zdO n off id (some xs) (some (.cells cs)) H K' = ((xs.length = n ∧ off + n ≤ cs.length ∧ xs.all AV.known = true) ∧ K' (H.set id (.cells (cs.take off ++ xs ++ cs.drop (off + n))))) := propext Iff.rfl
@[simp] theorem zIL {K' : zaa → Prop} (n id off : Nat) (x : AV) : zak n (.ptr id off) x H K' = zdO n off id x.cs? H[id]? H K' := by
 cases hx : x.cs? with
 | none => simp [zdm, zdO, hx]
 | some xs => cases hb : H[id]? with
  | none => simp [zdm, zdO, hx, hb]
  | some b => cases b <;> simp [zdm, zdO, hx, hb]
def zoo (g : Bool) (n m off : Nat) (b : Option AB) (k : AV → Prop) : Prop :=
 match b with
 | some (.vec _ _ m' cs) => m' = m ∧ zaX g n off cs k
 | _ => False
@[simp] theorem zHI (g : Bool) (n m off e s m' : Nat) (cs : List AV) : zoo g n m off (some (.vec e s m' cs)) k = (m' = m ∧ zaX g n off cs k) := propext Iff.rfl
@[simp] theorem zHM (g : Bool) (n id m off : Nat) : zad g n (.vp id m off) H k = zoo g n m off H[id]? k := by
 rw [zeV]; rfl
def zeW (n m off id : Nat) (xs : Option (List AV)) (b : Option AB) (H : zaa) (K' : zaa → Prop) : Prop :=
 match xs, b with
 | some xs, some (.vec e s m' cs) => (m' = m ∧ xs.length = n ∧ off + n ≤ cs.length ∧ xs.all AV.known = true) ∧ K' (H.set id (.vec e s m' (cs.take off ++ xs ++ cs.drop (off + n))))
 | _, _ => False
@[simp] theorem zIJ {K' : zaa → Prop} (n m off id e s m' : Nat) (xs cs : List AV) : zeW n m off id (some xs) (some (.vec e s m' cs)) H K' = ((m' = m ∧ xs.length = n ∧ off + n ≤ cs.length ∧ xs.all AV.known = true) ∧ K' (H.set id (.vec e s m' (cs.take off ++ xs ++ cs.drop (off + n))))) := propext Iff.rfl
@[simp] theorem zIM {K' : zaa → Prop} (n id m off : Nat) (x : AV) : zak n (.vp id m off) x H K' = zeW n m off id x.cs? H[id]? H K' := by
 cases hx : x.cs? with
 | none => simp [zdm, zeW, hx]
 | some xs => cases hb : H[id]? with
  | none => simp [zdm, zeW, hx, hb]
  | some b => cases b <;> simp [zdm, zeW, hx, hb]
def zjP (e size bytes n id : Nat) (ys : List (List AV)) (b : Option AB) (H : zaa) (K : AV → zaa → Prop) : Prop :=
 match b with
 | some (.vec e' s' n' cs) => ((e' = e ∧ s' = size ∧ n' = n) ∧ (n + ys.length) * bytes ≤ 140737488355328 ∧ n + ys.length ≤ 9223372036854775807) ∧ K (.ov id (n + ys.length)) (H.set id (.vec e size (n + ys.length) (cs ++ ys.flatten)))
 | _ => False
@[simp] theorem zGq (e size bytes n id e' s' n' : Nat) (ys : List (List AV)) (cs : List AV) : zjP e size bytes n id ys (some (.vec e' s' n' cs)) H K = (((e' = e ∧ s' = size ∧ n' = n) ∧ (n + ys.length) * bytes ≤ 140737488355328 ∧ n + ys.length ≤ 9223372036854775807) ∧ K (.ov id (n + ys.length)) (H.set id (.vec e size (n + ys.length) (cs ++ ys.flatten)))) := propext Iff.rfl
@[simp] theorem zGp (e size bytes id n : Nat) (ys : List (List AV)) : zaI e size bytes (.ov id n) ys H K = zjP e size bytes n id ys H[id]? H K := by
 unfold zaI zjP; rfl
@[simp] theorem zHl (esz id m : Nat) (j : IntKind) (n : Int) : zai esz (.ov id m) (.int j n) k = ((0 ≤ n ∧ n < m) ∧ k (.vp id m (n.toNat * esz))) := zf8 ..
@[simp] theorem zHu (id n : Nat) : zah 1 (.ov id n) k = k (.int .i64 n) := propext Iff.rfl
@[simp] theorem zG4 (off i m o : Nat) : zaf off (.vp i m o) k = k (.vp i m (o + off)) := propext Iff.rfl
@[simp] theorem zIb (i m o : Nat) : za9 (.vp i m o) k = k (.vp i m o) := propext Iff.rfl
@[simp] theorem zGB (i n : Nat) : zaq (.ov i n) H K = K (.ptr H.length 0) (H ++ [.cells [.ov i n]]) := propext Iff.rfl
@[simp] theorem zJo (i n : Nat) : (AV.ov i n).known = true := rfl
@[simp] theorem zJz (m i n : Nat) : (AV.ov i n).scA m = decide (i < m) := rfl
@[simp] theorem zH9 (i o : Nat) : za9 (.ptr i o) k = k (.ptr i o) := propext Iff.rfl
@[simp] theorem zIa (cs : List AV) : za9 (.view cs) k = k (.view cs) := propext Iff.rfl
@[simp] theorem zH8 (f : Nat) (c : List AV) : za9 (.fn f c) k = k (.fn f c) := propext Iff.rfl
@[simp] theorem zG2 (off i o : Nat) : zaf off (.ptr i o) k = k (.ptr i (o + off)) := propext Iff.rfl
@[simp] theorem zG3 (off : Nat) (cs : List AV) : zaf off (.view cs) k = (off ≤ cs.length ∧ k (.view (cs.drop off))) := zon ..
@[simp] theorem zGZ (g : Bool) (n off : Nat) (cs : List AV) : zcM g n off (.agg cs) k = zaX g n off cs k := propext Iff.rfl
@[simp] theorem zHm (esz : Nat) (es : List (List AV)) (t : Tok) (j : IntKind) (n : Int) : zai esz (.sl es t) (.int j n) k = ((0 ≤ n ∧ n < es.length) ∧ ((es.getD n.toNat []).length = esz ∧ k (.view (es.getD n.toNat [])))) := zf8 ..
@[simp] theorem zHk (esz id off len cap : Nat) (j : IntKind) (n : Int) : zai esz (.ms id off len cap) (.int j n) k = ((0 ≤ n ∧ n < len) ∧ k (.ptr id (off + n.toNat * esz))) := zf8 ..
@[simp] theorem zHo (s : List UInt8) (j : IntKind) (n : Int) : zbf (.str s) (.int j n) k = ((0 ≤ n ∧ n < s.length) ∧ k (.int .u8 (s.getD n.toNat 0).toNat)) := propext Iff.rfl
@[simp] theorem zHx (s : List UInt8) : zah 0 (.str s) k = k (.int .i64 s.length) := propext Iff.rfl
@[simp] theorem zHv (es : List (List AV)) (t : Tok) : zah 1 (.sl es t) k = k (.int .i64 es.length) := propext Iff.rfl
@[simp] theorem zHw : zah 1 .snil k = k (.int .i64 0) := propext Iff.rfl
@[simp] theorem zHt (i o l c : Nat) : zah 1 (.ms i o l c) k = k (.int .i64 l) := propext Iff.rfl
@[simp] theorem zus (d : Nat) (q : Nat → Prop) : zbk none d q = q d := propext Iff.rfl
@[simp] theorem zur (j : IntKind) (n : Int) (d : Nat) (q : Nat → Prop) : zbk (some (.int j n)) d q = (0 ≤ n ∧ q n.toNat) := propext Iff.rfl
@[simp] theorem zuw (s : List UInt8) (lo hi : Option AV) : zaD 0 0 (.str s) lo hi k = zbk hi s.length fun h => zbk lo 0 fun l => (l ≤ h ∧ h ≤ s.length) ∧ k (.str ((s.take h).drop l)) := propext Iff.rfl
@[simp] theorem zIF (esz : Nat) (es : List (List AV)) (t : Tok) (lo hi : Option AV) : zaD 1 esz (.sl es t) lo hi k = zbk hi es.length fun h => zbk lo 0 fun l => (l ≤ h ∧ h ≤ es.length ∧ ∀ c ∈ es, c.length = esz) ∧ k (.sl ((es.take h).drop l) .none) := propext Iff.rfl
@[simp] theorem zGm (b : Bool) (j : IntKind) (m n : Int) : zac .add b (.int j m) (.int j n) k = k (.int j (j.wrap (m + n))) := by simp [zbW]
@[simp] theorem zIN (b : Bool) (j : IntKind) (m n : Int) : zac .sub b (.int j m) (.int j n) k = k (.int j (j.wrap (m - n))) := by simp [zbW]
@[simp] theorem zHW (b : Bool) (j : IntKind) (m n : Int) : zac .mul b (.int j m) (.int j n) k = k (.int j (j.wrap (m * n))) := by simp [zbW]
@[simp] theorem zGU (b : Bool) (j : IntKind) (m n : Int) : zac .eql b (.int j m) (.int j n) k = k (.bool (m == n)) := by simp [zbW]
@[simp] theorem zHZ (b : Bool) (j : IntKind) (m n : Int) : zac .neq b (.int j m) (.int j n) k = k (.bool (m != n)) := by simp [zbW]
@[simp] theorem zHN (b : Bool) (j : IntKind) (m n : Int) : zac .lss b (.int j m) (.int j n) k = k (.bool (decide (m < n))) := by simp [zbW]
@[simp] theorem zHy (b : Bool) (j : IntKind) (m n : Int) : zac .leq b (.int j m) (.int j n) k = k (.bool (decide (m ≤ n))) := by simp [zbW]
@[simp] theorem zG6 (b : Bool) (j : IntKind) (m n : Int) : zac .gtr b (.int j m) (.int j n) k = k (.bool (decide (m > n))) := by simp [zbW]
@[simp] theorem zG5 (b : Bool) (j : IntKind) (m n : Int) : zac .geq b (.int j m) (.int j n) k = k (.bool (decide (m ≥ n))) := by simp [zbW]
@[simp] theorem zGV (b : Bool) (s t : List UInt8) : zac .eql b (.str s) (.str t) k = k (.bool (s == t)) := propext Iff.rfl
@[simp] theorem zH0 (b : Bool) (s t : List UInt8) : zac .neq b (.str s) (.str t) k = k (.bool (!(s == t))) := rfl
@[simp] theorem zGn (b : Bool) (s t : List UInt8) : zac .add b (.str s) (.str t) k = (s.length + t.length ≤ 9223372036854775807 ∧ k (.str (s ++ t))) := zbW ..
@[simp] theorem zGT (m n : Bool) : zac .eql true (.bool m) (.bool n) k = k (.bool (m == n)) := by simp [zbW]
@[simp] theorem zHY (m n : Bool) : zac .neq true (.bool m) (.bool n) k = k (.bool (!(m == n))) := by simp [zbW]
@[simp] theorem zIc (b : Bool) : aUn .not (.bool b) k = k (.bool (!b)) := rfl
@[simp] theorem zHX (j : IntKind) (n : Int) : aUn .neg (.int j n) k = k (.int j (j.wrap (0 - n))) := rfl
@[simp] theorem zGS (j i : IntKind) (n : Int) : zcp j (.int i n) k = k (.int j (j.wrap n)) := propext Iff.rfl
@[simp] theorem zGQ (s : List UInt8) : zcL (.str s) k = k (.str s) := propext Iff.rfl
@[simp] theorem zGW (v : AV) (vs : List AV) : zas (.tup (v :: vs)) 0 k = k v := propext Iff.rfl
@[simp] theorem zGY (v : AV) (vs : List AV) (i : Nat) : zas (.tup (v :: vs)) (i + 1) k = zas (.tup vs) i k := by simp [zas]
@[simp] theorem zGO (f : Nat) (caps : List AV) : zb0 f caps k = (caps.all AV.isB = true ∧ k (.fn f caps)) := propext Iff.rfl
@[simp] theorem zIC (v : AV) : zax [v] k = k v := propext Iff.rfl
@[simp] theorem zID (v u : AV) (vs : List AV) : zax (v :: u :: vs) k = ((v :: u :: vs).all AV.isV = true ∧ k (.tup (v :: u :: vs))) := propext Iff.rfl
end


section
variable {H : zaa} {K : AV → zaa → Prop} {k : AV → Prop} {kh : zaa → Prop}
@[simp] theorem zI1 (i : Nat) : (AV.map i).cs? = some [.map i] := rfl
@[simp] theorem zHV : zdl H K = K (.map H.length) (H ++ [.map []]) := propext Iff.rfl
def zek (zero : AV) (ok : Bool) (s : List UInt8) (b : Option AB) (k : AV → Prop) : Prop :=
 match b with
 | some (.map kvs) => k (match ok with
   | true => .tup [(zbF kvs s).getD zero, .bool (zbF kvs s).isSome]
   | false => (zbF kvs s).getD zero)
 | _ => False
@[simp] theorem zHD (z : AV) (ok : Bool) (id : Nat) (s : List UInt8) : zcN z ok (.map id) (.str s) H k = zek z ok s H[id]? k := by unfold zcN zek; rfl
@[simp] theorem zHA (z : AV) (s : List UInt8) (kvs : List (List UInt8 × AV)) : zek z false s (some (.map kvs)) k = k ((zbF kvs s).getD z) := propext Iff.rfl
@[simp] theorem zHB (z : AV) (s : List UInt8) (kvs : List (List UInt8 × AV)) : zek z true s (some (.map kvs)) k = k (.tup [(zbF kvs s).getD z, .bool (zbF kvs s).isSome]) := propext Iff.rfl
def zel (id : Nat) (s : List UInt8) (x : AV) (b : Option AB) (H : zaa) (kh : zaa → Prop) : Prop :=
 match b with
 | some (.map kvs) => (match x with
   | .tup _ => False
   | x => kh (H.set id (.map (zcw kvs s x))))
 | _ => False
@[simp] theorem zHS (id : Nat) (s : List UInt8) (x : AV) : zci (.map id) (.str s) x H kh = zel id s x H[id]? H kh := by unfold zci zel; rfl
@[simp] theorem zHO (id : Nat) (s : List UInt8) (b : Bool) (kvs : List (List UInt8 × AV)) : zel id s (.bool b) (some (.map kvs)) H kh = kh (H.set id (.map (zcw kvs s (.bool b)))) := propext Iff.rfl
@[simp] theorem zHQ (id : Nat) (s : List UInt8) (j : IntKind) (n : Int) (kvs : List (List UInt8 × AV)) : zel id s (.int j n) (some (.map kvs)) H kh = kh (H.set id (.map (zcw kvs s (.int j n)))) := propext Iff.rfl
@[congr] theorem zHU {H' : zaa} (hH : H = H') : zdl H K = zdl H' K := by rw [hH]
@[congr] theorem zHC {H' : zaa} {z : AV} {ok : Bool} {m m' x x' : AV} (hm : m = m') (hx : x = x') (hH : H = H') : zcN z ok m x H k = zcN z ok m' x' H' k := by rw [hm, hx, hH]
@[congr] theorem zHz {z : AV} {ok : Bool} {s s' : List UInt8} {b b' : Option AB} (hs : s = s') (hb : b = b') : zek z ok s b k = zek z ok s' b' k := by rw [hs, hb]
@[congr] theorem zHR {H' : zaa} {m m' y y' x x' : AV} (hm : m = m') (hy : y = y') (hx : x = x') (hH : H = H') : zci m y x H kh = zci m' y' x' H' kh := by rw [hm, hy, hx, hH]
@[congr] theorem zHP {H' : zaa} {id id' : Nat} {s s' : List UInt8} {x x' : AV} {b b' : Option AB} (hi : id = id') (hs : s = s') (hx : x = x') (hb : b = b') (hH : H = H') : zel id s x b H kh = zel id' s' x' b' H' kh := by rw [hi, hs, hx, hb, hH]
end

section
variable {H H' : zaa} {K : AV → zaa → Prop} {k : AV → Prop} {kh : zaa → Prop}
@[congr] theorem zHp {b b' : Bool} {p q : Prop} (h : b = b') : aIf b p q = aIf b' p q := by rw [h]
@[congr] theorem zIO {c c' : AV} {p q : Prop} (h : c = c') : zag c p q = zag c' p q := by rw [h]
@[congr] theorem zHd {c c' : AV} {w : Bool} {p q : Prop} (h : c = c') : zcs c w p q = zcs c' w p q := by rw [h]
@[congr] theorem zG7 {c c' : AV} {w : Bool} {p : (AV → zaa → Prop) → Prop} {J : AV → zaa → Prop} (h : c = c') (hH : H = H') : zab c w H p J = zab c' w H' p J := by rw [h, hH]
@[congr] theorem zId {c c' a a' b b' : AV} (h : c = c') (ha : a = a') (hb : b = b') : zaj c a b k = zaj c' a' b' k := by rw [h, ha, hb]
@[congr] theorem zGw {x x' : AV} (h : x = x') (hH : H = H') : zaq x H K = zaq x' H' K := by rw [h, hH]
@[congr] theorem zH1 {x x' : List AV} (h : x = x') (hH : H = H') : zau x H K = zau x' H' K := by rw [h, hH]
@[congr] theorem zGK {g : Bool} {n n' o o' : Nat} {c c' : List AV} (hn : n = n') (ho : o = o') (hc : c = c') : zaX g n o c k = zaX g n' o' c' k := by rw [hn, ho, hc]
@[congr] theorem zHJ {g : Bool} {n : Nat} {x x' : AV} (h : x = x') (hH : H = H') : zad g n x H k = zad g n x' H' k := by rw [h, hH]
@[congr] theorem zHE {g : Bool} {n o o' : Nat} {b b' : Option AB} (ho : o = o') (h : b = b') : zf9 g n o b k = zf9 g n o' b' k := by rw [h, ho]
@[congr] theorem zIK {n : Nat} {a a' x x' : AV} (ha : a = a') (h : x = x') (hH : H = H') : zak n a x H kh = zak n a' x' H' kh := by rw [ha, h, hH]
@[congr] theorem zIH {n o o' i i' : Nat} {x x' : Option (List AV)} {b b' : Option AB} (ho : o = o') (hi : i = i') (h : x = x') (hb : b = b') (hH : H = H') : zdO n o i x b H kh = zdO n o' i' x' b' H' kh := by rw [ho, hi, h, hb, hH]
@[congr] theorem zG1 {n : Nat} {x x' : AV} (h : x = x') : zaf n x k = zaf n x' k := by rw [h]
@[congr] theorem zG0 {g : Bool} {n o : Nat} {x x' : AV} (h : x = x') : zcM g n o x k = zcM g n o x' k := by rw [h]
@[congr] theorem zHj {n : Nat} {x x' i i' : AV} (h : x = x') (hi : i = i') : zai n x i k = zai n x' i' k := by rw [h, hi]
@[congr] theorem zHn {x x' i i' : AV} (h : x = x') (hi : i = i') : zbf x i k = zbf x' i' k := by rw [h, hi]
@[congr] theorem zHs {u : Nat} {x x' : AV} (h : x = x') : zah u x k = zah u x' k := by rw [h]
@[congr] theorem zGt {x x' : Option AV} {d d' : Nat} {q : Nat → Prop} (h : x = x') (hd : d = d') : zbk x d q = zbk x' d' q := by rw [h, hd]
@[congr] theorem zIE {u e : Nat} {x x' : AV} {l l' h h' : Option AV} (hx : x = x') (hl : l = l') (hh : h = h') : zaD u e x l h k = zaD u e x' l' h' k := by rw [hx, hl, hh]
@[congr] theorem zGs {o : BinOp} {b : Bool} {x x' y y' : AV} (h : x = x') (hy : y = y') : zac o b x y k = zac o b x' y' k := by rw [h, hy]
@[congr] theorem zIR {o : UnOp} {x x' : AV} (h : x = x') : aUn o x k = aUn o x' k := by rw [h]
@[congr] theorem zGR {o : IntKind} {x x' : AV} (h : x = x') : zcp o x k = zcp o x' k := by rw [h]
@[congr] theorem zGP {x x' : AV} (h : x = x') : zcL x k = zcL x' k := by rw [h]
@[congr] theorem zGX {x x' : AV} {i : Nat} (h : x = x') : zas x i k = zas x' i k := by rw [h]
@[congr] theorem zGN {f : Nat} {x x' : List AV} (h : x = x') : zb0 f x k = zb0 f x' k := by rw [h]
@[congr] theorem zH7 {x x' : AV} (h : x = x') : za9 x k = za9 x' k := by rw [h]
@[congr] theorem zGH {z : List AV} {p : List (Nat × Nat)} {x x' : List (Nat × AV)} (h : x = x') : zav z p x k = zav z p x' k := by rw [h]
@[congr] theorem zGG {e : Nat} {z : List AV} {l : Nat} {x x' : List (Nat × AV)} (h : x = x') : zaA e z l x k = zaA e z l x' k := by rw [h]
@[congr] theorem zHT {b : Nat} {z : List AV} {l l' c c' : AV} (h : l = l') (hc : c = c') (hH : H = H') : zbo b z l c H K = zbo b z l' c' H' K := by rw [h, hc, hH]
@[congr] theorem zGr {e s b : Nat} {x x' y y' : AV} (h : x = x') (hy : y = y') (hH : H = H') : zar e s b x y H K = zar e s b x' y' H' K := by rw [h, hy, hH]
@[congr] theorem zGo {e s b : Nat} {x x' : AV} {y y' : List (List AV)} (h : x = x') (hy : y = y') (hH : H = H') : zaI e s b x y H K = zaI e s b x' y' H' K := by rw [h, hy, hH]
@[congr] theorem zIG {x x' : AV} {q : List (List AV) → Prop} (h : x = x') : zaW x q = zaW x' q := by rw [h]
@[congr] theorem zGk {P : Program} {f : FuncId} {x x' : List AV} (h : x = x') (hH : H = H') : ACalls P f x H K = ACalls P f x' H' K := by rw [h, hH]
@[congr] theorem zGI {P : Program} {g g' : AV} {x x' : List AV} (hg : g = g') (h : x = x') (hH : H = H') : aCallV P g x H K = aCallV P g' x' H' K := by rw [hg, h, hH]
@[congr] theorem zIj {p : (AV → zaa → Prop) → Prop} : zae H p k = zae H p k := rfl
@[congr] theorem zGl {n : Nat} {r r' : AV} (hr : r = r') (hH : H = H') : Out n K r H = Out n K r' H' := by rw [hr, hH]
end
section
variable {H : zaa} {k : AV → Prop}
theorem zbC {p : (AV → Prop) → Prop} (h : ∀ q : AV → Prop, p q ↔ ∃ v, p (fun u => u = v) ∧ q v) : zae H (fun K' => p fun v => K' v H) k = p k := by
 unfold zae
 rw [eq_iff_iff, h k]
 simp only [and_true]
@[simp] theorem zIr (x : AV) : zae H (fun K' => K' x H) k = k x := by simp [zae]
theorem zjZ (g : Bool) (n o : Nat) (cs : List AV) (q : AV → Prop) : zaX g n o cs q ↔ ∃ v, zaX g n o cs (fun u => u = v) ∧ q v := by
 unfold zaX
 split
 ·constructor
  ·rintro ⟨h1, h2⟩; exact ⟨_, ⟨h1, rfl⟩, h2⟩
  ·rintro ⟨v, ⟨h1, rfl⟩, h2⟩; exact ⟨h1, h2⟩
 ·split <;> simp
theorem zuB {a : Prop} {p : Prop} {p' : AV → Prop} {q : AV → Prop} (h : p ↔ ∃ v, p' v ∧ q v) : (a ∧ p) ↔ ∃ v, (a ∧ p' v) ∧ q v := by
 constructor
 ·rintro ⟨h1, h2⟩; obtain ⟨v, h3, h4⟩ := h.1 h2; exact ⟨v, ⟨h1, h3⟩, h4⟩
 ·rintro ⟨v, ⟨h1, h3⟩, h4⟩; exact ⟨h1, h.2 ⟨v, h3, h4⟩⟩
@[simp] theorem zIv (g : Bool) (n : Nat) (a : AV) : zae H (fun K' => zad g n a H fun v => K' v H) k = zad g n a H k := zbC (p := fun q => zad g n a H q) fun q => by
 unfold zad
 split
 ·exact zjZ _ _ _ _ q
 ·simp
@[simp] theorem zHG (g : Bool) (n id off : Nat) : zan g n (.ptr id off) H k = zad g n (.ptr id off) H k := propext Iff.rfl
@[simp] theorem zHH (g : Bool) (n : Nat) (cs : List AV) : zan g n (.view cs) H k = zad g n (.view cs) H k := propext Iff.rfl
@[simp] theorem zIw (g : Bool) (n : Nat) (a : AV) : zae H (fun K' => zan g n a H fun v => K' v H) k = zan g n a H k := zbC (p := fun q => zan g n a H q) fun q => by
 unfold zan
 split
 ·simp
 unfold zad
 split
 ·exact zjZ _ _ _ _ q
 ·simp
@[simp] theorem zIy (b : Bool) (o : BinOp) (x : AV) : zae H (fun K' => zb7 b o x fun v => K' v H) k = zb7 b o x k := zbC (p := fun q => zb7 b o x q) fun q => by
 unfold zb7
 refine zuB ?_
 split
 ·split <;> simp
 ·split <;> simp
 ·simp
@[simp] theorem zH6 : zb7 true .neq .nili k = k (.bool false) := by simp [zb7]
@[simp] theorem zH4 : zb7 true .neq .ifc k = k (.bool true) := by simp [zb7]
@[simp] theorem zH5 : zb7 true .eql .nili k = k (.bool true) := by simp [zb7]
@[simp] theorem zH3 : zb7 true .eql .ifc k = k (.bool false) := by simp [zb7]
@[simp] theorem zIz (c a b : AV) : zae H (fun K' => zaj c a b fun v => K' v H) k = zaj c a b k := zbC (p := fun q => zaj c a b q) fun q => by
 unfold zaj; split <;> simp
@[simp] theorem zIp (o : Nat) (a : AV) : zae H (fun K' => zaf o a fun v => K' v H) k = zaf o a k := zbC (p := fun q => zaf o a q) fun q => by
 unfold zaf; split <;> simp
@[simp] theorem zIq (g : Bool) (n o : Nat) (a : AV) : zae H (fun K' => zcM g n o a fun v => K' v H) k = zcM g n o a k := zbC (p := fun q => zcM g n o a q) fun q => by
 unfold zcM
 split
 ·exact zjZ _ _ _ _ q
 ·simp
@[simp] theorem zIs (n : Nat) (x i : AV) : zae H (fun K' => zai n x i fun v => K' v H) k = zai n x i k := zbC (p := fun q => zai n x i q) fun q => by
 unfold zai; split <;> simp
@[simp] theorem zIt (x i : AV) : zae H (fun K' => zbf x i fun v => K' v H) k = zbf x i k := zbC (p := fun q => zbf x i q) fun q => by
 unfold zbf
 split
 ·constructor
  ·rintro ⟨h1, h2⟩; exact ⟨_, ⟨h1, rfl⟩, h2⟩
  ·rintro ⟨v, ⟨h1, rfl⟩, h2⟩; exact ⟨h1, h2⟩
 ·simp
@[simp] theorem zIu (u : Nat) (x : AV) : zae H (fun K' => zah u x fun v => K' v H) k = zah u x k := zbC (p := fun q => zah u x q) fun q => by
 unfold zah; split <;> simp
@[simp] theorem zIB (o : UnOp) (x : AV) : zae H (fun K' => aUn o x fun v => K' v H) k = aUn o x k := zbC (p := fun q => aUn o x q) fun q => by
 unfold aUn; split <;> simp
@[simp] theorem zIl (o : IntKind) (x : AV) : zae H (fun K' => zcp o x fun v => K' v H) k = zcp o x k := zbC (p := fun q => zcp o x q) fun q => by
 unfold zcp; split <;> simp
@[simp] theorem zIn (x : AV) : zae H (fun K' => zcL x fun v => K' v H) k = zcL x k := zbC (p := fun q => zcL x q) fun q => by
 unfold zcL; split <;> simp
@[simp] theorem zIm (x : AV) : zae H (fun K' => zdM x fun v => K' v H) k = zdM x k := zbC (p := fun q => zdM x q) fun q => by
 unfold zdM
 split
 ·split <;> simp
 ·simp
 ·simp
@[simp] theorem zIx (x : AV) : zae H (fun K' => za9 x fun v => K' v H) k = za9 x k := zbC (p := fun q => za9 x q) fun q => by
 unfold za9; split <;> simp
@[simp] theorem zIo (x : AV) (i : Nat) : zae H (fun K' => zas x i fun v => K' v H) k = zas x i k := zbC (p := fun q => zas x i q) fun q => by
 unfold zas
 split
 ·split <;> simp
 ·simp
@[simp] theorem zIh (z : List AV) (ps : List (Nat × Nat)) (x : List (Nat × AV)) : zae H (fun K' => zav z ps x fun v => K' v H) k = zav z ps x k := zbC (p := fun q => zav z ps x q) fun q => by
 unfold zav; split <;> simp
@[simp] theorem zIi (e : Nat) (z : List AV) (l : Nat) (x : List (Nat × AV)) : zae H (fun K' => zaA e z l x fun v => K' v H) k = zaA e z l x k := zbC (p := fun q => zaA e z l x q) fun q => by
 unfold zaA
 split
 ·split <;> simp
 ·simp
@[simp] theorem zIg (o : BinOp) (b : Bool) (x y : AV) : zae H (fun K' => zac o b x y fun v => K' v H) k = zac o b x y k := zbC (p := fun q => zac o b x y q) fun q => by
 unfold zac; split <;> simp
@[simp] theorem zIk (f : Nat) (x : List AV) : zae H (fun K' => zb0 f x fun v => K' v H) k = zb0 f x k := zbC (p := fun q => zb0 f x q) fun q => by
 unfold zb0
 constructor
 ·rintro ⟨h1, h2⟩; exact ⟨_, ⟨h1, rfl⟩, h2⟩
 ·rintro ⟨v, ⟨h1, rfl⟩, h2⟩; exact ⟨h1, h2⟩
end
@[simp] theorem zve (A l : zaa) : (A ++ l)[A.length]? = l[0]? := by rw [List.getElem?_append_right (Nat.le_refl _)]; simp
@[simp] theorem zvf (A l : zaa) (k : Nat) : (A ++ l)[A.length + k]? = l[k]? := by rw [List.getElem?_append_right (by omega)]; congr 1; omega
@[simp] theorem zwv (A l : zaa) (x : AB) : (A ++ l).set A.length x = A ++ l.set 0 x := by rw [List.set_append_right _ _ (Nat.le_refl _)]; simp
@[simp] theorem zqp (A l : zaa) (k : Nat) (x : AB) : (A ++ l).set (A.length + k) x = A ++ l.set k x := by rw [List.set_append_right _ _ (by omega)]; congr 2; omega
@[simp] theorem zJd (A l : zaa) (i : Nat) (y : AB) : (A.set i y ++ l)[A.length]? = l[0]? := by have := zve (A.set i y) l; rwa [List.length_set] at this
@[simp] theorem zJe (A l : zaa) (i : Nat) (y : AB) (k : Nat) : (A.set i y ++ l)[A.length + k]? = l[k]? := by have := zvf (A.set i y) l k; rwa [List.length_set] at this
@[simp] theorem zJF (A l : zaa) (i : Nat) (x y : AB) : (A.set i y ++ l).set A.length x = A.set i y ++ l.set 0 x := by have := zwv (A.set i y) l x; rwa [List.length_set] at this
@[simp] theorem zJG (A l : zaa) (i : Nat) (y : AB) (k : Nat) (x : AB) : (A.set i y ++ l).set (A.length + k) x = A.set i y ++ l.set k x := by have := zqp (A.set i y) l k x; rwa [List.length_set] at this
theorem zcD {H J : zaa} {id : Nat} {b : AB} (h : H[id]? = some b) : (H ++ J)[id]? = some b := by
 rw [List.getElem?_append_left (List.getElem?_eq_some_iff.1 h).1]; exact h
theorem zeu {H : zaa} {id : Nat} {b : AB} (h : H[id]? = some b) : id < H.length := (List.getElem?_eq_some_iff.1 h).1
theorem zc2 {H J : zaa} {id : Nat} {b : AB} (x : AB) (h : H[id]? = some b) : (H ++ J).set id x = H.set id x ++ J := List.set_append_left _ _ (zeu h)
theorem zcy {H : zaa} {id : Nat} {b : AB} (x : AB) (h : H[id]? = some b) : (H.set id x)[id]? = some x := List.getElem?_set_self (zeu h)

theorem zal {n : Int} (h1 : -9223372036854775808 ≤ n) (h2 : n ≤ 9223372036854775807) : IntKind.i64.wrap n = n := IntWalk.i64_in n ⟨h1, h2⟩

theorem HSc.set {H : zaa} {id : Nat} {b : AB} (h : HSc H) (hb : b.sc H.length = true) : HSc (H.set id b) := by
 intro x hx
 rw [List.length_set]
 rcases List.mem_or_eq_of_mem_set hx with h1 | h1
 ·exact h x h1
 ·rw [h1]; exact hb
theorem zbX {n m : Nat} (h : n ≤ m) : ∀ {a : AV}, a.sc n = true → a.sc m = true := by
 have hB : ∀ {a : AV}, a.scB n = true → a.scB m = true := by
  intro a ha
  cases a with
  | sl es t => cases t <;> simp_all [AV.scB]; omega
  | _ => simp_all [AV.scB] <;> omega
 have hA : ∀ {a : AV}, a.scA n = true → a.scA m = true := by
  intro a ha
  cases a with
  | fn f caps => simp only [AV.scA, List.all_eq_true] at ha ⊢; exact fun x hx => hB (ha x hx)
  | _ => simp only [AV.scA] at ha ⊢; exact hB ha
 have hV : ∀ {a : AV}, a.scV n = true → a.scV m = true := by
  intro a ha
  cases a with
  | agg caps => simp only [AV.scV, List.all_eq_true] at ha ⊢; exact fun x hx => hA (ha x hx)
  | _ => simp only [AV.scV] at ha ⊢; exact hA ha
 intro a ha
 cases a with
 | tup caps => simp only [AV.sc, List.all_eq_true] at ha ⊢; exact fun x hx => hV (ha x hx)
 | _ => simp only [AV.sc] at ha ⊢; exact hV ha
theorem Back.here {n0 : Nat} {Inv : List AV → zaa → Prop} {F : List AV} {H : zaa} (hn : n0 ≤ H.length) (hsc : HSc H) (hs : F.all (AV.sc H.length) = true) (h : Inv F H) : Back n0 Inv F H := by
 have := Back.same (J := []) hn hsc hs h
 simpa using this
theorem zfG {n m : Nat} (h : n ≤ m) {a : AV} (ha : a.scA n = true) : a.scA m = true := by
 cases a with
 | agg cs => rfl
 | tup vs => rfl
 | fn f caps => exact zbX h (a := .fn f caps) ha
 | sl es t => exact zbX h (a := .sl es t) ha
 | ptr i o => exact zbX h (a := .ptr i o) ha
 | ms i o l c => exact zbX h (a := .ms i o l c) ha
 | ov i n => exact zbX h (a := .ov i n) ha
 | vp i n o => exact zbX h (a := .vp i n o) ha
 | map i => exact zbX h (a := .map i) ha
 | _ => rfl
theorem zwn {n m : Nat} (h : n ≤ m) {a : AV} (ha : a.scV n = true) : a.scV m = true := by
 cases a with
 | tup vs => rfl
 | agg cs => exact zbX h (a := .agg cs) ha
 | fn f caps => exact zbX h (a := .fn f caps) ha
 | sl es t => exact zbX h (a := .sl es t) ha
 | ptr i o => exact zbX h (a := .ptr i o) ha
 | ms i o l c => exact zbX h (a := .ms i o l c) ha
 | ov i n => exact zbX h (a := .ov i n) ha
 | vp i n o => exact zbX h (a := .vp i n o) ha
 | map i => exact zbX h (a := .map i) ha
 | _ => rfl
theorem zuh {n m : Nat} (h : n ≤ m) {b : AB} (hb : b.sc n = true) : b.sc m = true := by
 cases b with
 | cells cs => simp only [AB.sc, List.all_eq_true] at hb ⊢; exact fun x hx => zfG h (hb x hx)
 | perm e s n => rfl
 | gap => rfl
 | dead => rfl
 | fact φ => rfl
 | map kvs => simp only [AB.sc, List.all_eq_true] at hb ⊢; exact fun x hx => zwn h (hb x hx)
 | bld t cs => simp only [AB.sc, List.all_eq_true] at hb ⊢; exact fun x hx => zfG h (hb x hx)
 | vec e s n cs => simp only [AB.sc, List.all_eq_true] at hb ⊢; exact fun x hx => zfG h (hb x hx)
theorem HSc.append {A J : zaa} (hA : HSc A) (hJ : J.all (AB.sc (A.length + J.length)) = true) : HSc (A ++ J) := by
 intro x hx
 rw [List.length_append]
 rcases List.mem_append.1 hx with h1 | h1
 ·exact zuh (by omega) (hA x h1)
 ·exact List.all_eq_true.1 hJ x h1
end Go.Abs
namespace Go.Abs
open Go

inductive VT where
 | mk (kind num : Int) (kids : List VT)

mutual
def VT.cs : VT → List AV
 | .mk k n ks => [.int .i64 k, .int .i64 n, .sl (VT.css ks) .none]
def VT.css : List VT → List (List AV)
 | [] => []
 | v :: vs => VT.cs v :: VT.css vs
end
mutual
def VT.nodes : VT → Nat
 | .mk _ _ ks => VT.nodesL ks + 1
def VT.nodesL : List VT → Nat
 | [] => 0
 | v :: vs => VT.nodes v + VT.nodesL vs
end
theorem VT.css_map : ∀ ks : List VT, VT.css ks = ks.map VT.cs
 | [] => rfl
 | v :: vs => by simp [VT.css, VT.css_map vs]
theorem VT.nodes_pos : ∀ v : VT, 0 < v.nodes
 | .mk _ _ _ => by simp [VT.nodes]
theorem VT.nodesL_app : ∀ (a b : List VT), VT.nodesL (a ++ b) = VT.nodesL a + VT.nodesL b
 | [], b => by simp [VT.nodesL]
 | v :: a, b => by simp [VT.nodesL, VT.nodesL_app a b]; omega
@[simp] theorem VT.cs_len (v : VT) : v.cs.length = 3 := by cases v; simp [VT.cs]
@[simp] theorem VT.css_len (ks : List VT) : (VT.css ks).length = ks.length := by simp [VT.css_map]
@[simp] theorem VT.cs_take (v : VT) : v.cs.take 3 = v.cs := by cases v; simp [VT.cs]
@[simp] theorem VT.cs_known (v : VT) : v.cs.all AV.known = true := by cases v; simp [VT.cs, AV.known]
@[simp] theorem VT.cs_scA (v : VT) (n : Nat) : v.cs.all (AV.scA n) = true := by cases v; simp [VT.cs, AV.scA, AV.scB]
@[simp] theorem VT.css_at {ks : List VT} {i : Nat} (h : i < ks.length) : (VT.css ks)[i]?.getD [] = (ks[i]).cs := by simp [VT.css_map, h]
@[simp] theorem VT.css_get {ks : List VT} {i : Nat} (h : i < (VT.css ks).length) : (VT.css ks)[i] = (ks[i]'(by simpa using h)).cs := by simp [VT.css_map]
theorem VT.css_getD {ks : List VT} {i : Nat} (h : i < ks.length) : (VT.css ks).getD i [] = (ks[i]).cs := by simp [VT.css_map, List.getD_eq_getElem?_getD, h]
theorem VT.kid_lt {k n : Int} {ks : List VT} {i : Nat} (h : i < ks.length) : (ks[i]).nodes < (VT.mk k n ks).nodes := by
 have h1 : VT.nodesL ks = VT.nodesL (ks.take i) + ((ks[i]).nodes + VT.nodesL (ks.drop (i + 1))) := by
  conv => lhs; rw [← List.take_append_drop i ks, VT.nodesL_app, List.drop_eq_getElem_cons h]
  rw [VT.nodesL]
 simp only [VT.nodes]
 omega
theorem VT.len_le : ∀ ks : List VT, ks.length ≤ VT.nodesL ks
 | [] => by simp
 | v :: vs => by have := VT.len_le vs; have := v.nodes_pos; simp [VT.nodesL]; omega
theorem VT.nodesL_take {ks : List VT} {i : Nat} (h : i < ks.length) : VT.nodesL (ks.take (i + 1)) = VT.nodesL (ks.take i) + (ks[i]).nodes := by
 rw [List.take_succ_eq_append_getElem h, VT.nodesL_app]; simp [VT.nodesL]
theorem VT.nodesL_take_le (ks : List VT) (i : Nat) : VT.nodesL (ks.take i) ≤ VT.nodesL ks := by
 conv => rhs; rw [← List.take_append_drop i ks, VT.nodesL_app]
 omega
def VT.leaf (k : Int) : Bool := k == 6 || k == 7 || k == 8
mutual
def VT.size : VT → Nat
 | .mk k _ ks => if VT.leaf k = true then 1 else VT.sizeL ks + 1
def VT.sizeL : List VT → Nat
 | [] => 0
 | v :: vs => VT.size v + VT.sizeL vs
end
mutual
theorem VT.size_le : ∀ v : VT, v.size ≤ v.nodes
 | .mk k n ks => by
  have := VT.sizeL_le ks
  simp only [VT.size, VT.nodes]
  split <;> omega
theorem VT.sizeL_le : ∀ ks : List VT, VT.sizeL ks ≤ VT.nodesL ks
 | [] => by simp [VT.sizeL, VT.nodesL]
 | v :: vs => by have := VT.size_le v; have := VT.sizeL_le vs; simp only [VT.sizeL, VT.nodesL]; omega
end
/- The guard on a value's nodes: what is left of a number behind it, and whether it was enough. -/
mutual
def VT.val : VT → Int → Bool × Int
 | .mk _ _ ks, n => if n - 1 < 0 then (false, n - 1) else VT.valL ks (n - 1)
def VT.valL : List VT → Int → Bool × Int
 | [], n => (true, n)
 | v :: vs, n => match VT.val v n with
  | (true, m) => VT.valL vs m
  | (false, m) => (false, m)
end
mutual
theorem VT.val_spec : ∀ (v : VT) (n : Int), 0 ≤ n → ((VT.val v n).1 = true → (VT.val v n).2 = n - v.nodes ∧ 0 ≤ (VT.val v n).2) ∧ -1 ≤ (VT.val v n).2 ∧ (VT.val v n).2 ≤ n
 | .mk k m ks, n, h => by
  simp only [VT.val, VT.nodes]
  split
  ·simp; omega
  ·have := VT.valL_spec ks (n - 1) (by omega)
   refine ⟨fun ht => ?_, by omega, by omega⟩
   have := this.1 ht
   omega
theorem VT.valL_spec : ∀ (ks : List VT) (n : Int), 0 ≤ n → ((VT.valL ks n).1 = true → (VT.valL ks n).2 = n - VT.nodesL ks ∧ 0 ≤ (VT.valL ks n).2) ∧ -1 ≤ (VT.valL ks n).2 ∧ (VT.valL ks n).2 ≤ n
 | [], n, h => by simp [VT.valL, VT.nodesL]; omega
 | v :: vs, n, h => by
  have h1 := VT.val_spec v n h
  simp only [VT.valL, VT.nodesL]
  split
  ·rename_i m hm
   rw [hm] at h1
   have h2 := h1.1 rfl
   simp only at h2
   have h3 := VT.valL_spec vs m h2.2
   refine ⟨fun ht => ?_, by omega, by omega⟩
   have := h3.1 ht
   omega
  ·rename_i m hm
   rw [hm] at h1
   simp only at h1
   exact ⟨by simp, by omega, by omega⟩
end
theorem VT.valL_drop {ks : List VT} {i : Nat} (h : i < ks.length) (n : Int) : VT.valL (ks.drop i) n = match VT.val ks[i] n with
  | (true, m) => VT.valL (ks.drop (i + 1)) m
  | (false, m) => (false, m) := by rw [List.drop_eq_getElem_cons h, VT.valL]
end Go.Abs
namespace Go.Abs
open Go
def icmp (a b : Int) : Int := if a < b then -1 else if b < a then 1 else 0
def cor (a b : Int) : Int := if a = 0 then b else a
theorem zff (a b : Int) : icmp a b = - icmp b a := by unfold icmp; split <;> split <;> first | omega | (split <;> omega)
theorem zgo (a b : Int) : icmp a b = 0 ↔ a = b := by unfold icmp; split <;> first | omega | (split <;> omega)
theorem zfg (a b : Int) : icmp a b = -1 ∨ icmp a b = 0 ∨ icmp a b = 1 := by unfold icmp; split <;> first | omega | (split <;> omega)
theorem zkf (a : Int) : icmp a a = 0 := (zgo a a).mpr rfl
theorem zpn {a b : Int} (h : a ≠ b) : icmp a b = if a < b then -1 else 1 := by unfold icmp; split <;> first | omega | (split <;> omega)
theorem zdR {a a' b b' : Int} (h : a = - b) (h' : a' = - b') : cor a a' = - cor b b' := by unfold cor; split <;> split <;> omega
theorem ze4 (a b : Int) : cor a b = 0 ↔ a = 0 ∧ b = 0 := by unfold cor; split <;> omega
theorem zdS {a b : Int} (h : a = -1 ∨ a = 0 ∨ a = 1) (h' : b = -1 ∨ b = 0 ∨ b = 1) : cor a b = -1 ∨ cor a b = 0 ∨ cor a b = 1 := by unfold cor; split <;> omega
theorem zgj {a b : Int} (h : a ≠ 0) : cor a b = a := by simp [cor, h]
theorem zj1 {a b : Int} (h : a = 0) : cor a b = b := by simp [cor, h]
def Tri (a b c : Int) : Prop := a ≤ 0 → b ≤ 0 → c ≤ 0 ∧ (c = 0 → a = 0 ∧ b = 0)
theorem Tri.icmp (x y z : Int) : Tri (icmp x y) (icmp y z) (icmp x z) := by
 unfold Tri Go.Abs.icmp
 intro h1 h2
 split at h1 <;> split at h2 <;> (try split at h1) <;> (try split at h2) <;> split <;> (try split) <;> omega
theorem Tri.cor {a b c a' b' c' : Int} (h : Tri a b c) (h' : Tri a' b' c') : Tri (cor a a') (cor b b') (cor c c') := by
 unfold Tri Go.Abs.cor at *
 intro h1 h2
 by_cases ha : a = 0 <;> by_cases hb : b = 0 <;> by_cases hc : c = 0 <;> simp only [ha, hb, hc, if_true, if_false] at * <;> first | omega | (simp_all; done) | (have := h' h1 h2; simp_all; omega)
mutual
def VT.cmp : VT → VT → Int
 | .mk k n ks, .mk k' n' ks' => cor (icmp k k') (cor (icmp n n') (cor (icmp ks.length ks'.length) (VT.cmpL ks ks')))
def VT.cmpL : List VT → List VT → Int
 | v :: vs, w :: ws => cor (VT.cmp v w) (VT.cmpL vs ws)
 | [], [] => 0
 | [], _ :: _ => -1
 | _ :: _, [] => 1
end
mutual
def VT.same : VT → VT → Bool
 | .mk k n ks, .mk k' n' ks' => k == k' && n == n' && VT.sameL ks ks'
def VT.sameL : List VT → List VT → Bool
 | v :: vs, w :: ws => VT.same v w && VT.sameL vs ws
 | [], [] => true
 | [], _ :: _ => false
 | _ :: _, [] => false
end
mutual
theorem VT.cmp_anti : ∀ v w : VT, VT.cmp v w = - VT.cmp w v
 | .mk k n ks, .mk k' n' ks' => by
  simp only [VT.cmp]
  exact zdR (zff _ _) (zdR (zff _ _) (zdR (zff _ _) (VT.cmpL_anti ks ks')))
theorem VT.cmpL_anti : ∀ v w : List VT, VT.cmpL v w = - VT.cmpL w v
 | v :: vs, w :: ws => by simp only [VT.cmpL]; exact zdR (VT.cmp_anti v w) (VT.cmpL_anti vs ws)
 | [], [] => by simp [VT.cmpL]
 | [], _ :: _ => by simp [VT.cmpL]
 | _ :: _, [] => by simp [VT.cmpL]
end
mutual
theorem VT.cmp_rng : ∀ v w : VT, VT.cmp v w = -1 ∨ VT.cmp v w = 0 ∨ VT.cmp v w = 1
 | .mk k n ks, .mk k' n' ks' => by
  simp only [VT.cmp]
  exact zdS (zfg _ _) (zdS (zfg _ _) (zdS (zfg _ _) (VT.cmpL_rng ks ks')))
theorem VT.cmpL_rng : ∀ v w : List VT, VT.cmpL v w = -1 ∨ VT.cmpL v w = 0 ∨ VT.cmpL v w = 1
 | v :: vs, w :: ws => by simp only [VT.cmpL]; exact zdS (VT.cmp_rng v w) (VT.cmpL_rng vs ws)
 | [], [] => by simp [VT.cmpL]
 | [], _ :: _ => by simp [VT.cmpL]
 | _ :: _, [] => by simp [VT.cmpL]
end
theorem VT.sameL_len : ∀ v w : List VT, VT.sameL v w = true → v.length = w.length
 | v :: vs, w :: ws => by simp only [VT.sameL, Bool.and_eq_true, List.length_cons]; intro h; have := VT.sameL_len vs ws h.2; omega
 | [], [] => by simp
 | [], _ :: _ => by simp [VT.sameL]
 | _ :: _, [] => by simp [VT.sameL]
mutual
theorem VT.cmp_zero : ∀ v w : VT, VT.cmp v w = 0 ↔ VT.same v w = true
 | .mk k n ks, .mk k' n' ks' => by
  have h := VT.cmpL_zero ks ks'
  simp only [VT.cmp, VT.same, ze4, zgo, Bool.and_eq_true, beq_iff_eq, and_assoc, h]
  constructor
  ·rintro ⟨a, b, _, c⟩; exact ⟨a, b, c⟩
  ·rintro ⟨a, b, c⟩; exact ⟨a, b, by have := VT.sameL_len _ _ c; omega, c⟩
theorem VT.cmpL_zero : ∀ v w : List VT, VT.cmpL v w = 0 ↔ VT.sameL v w = true
 | v :: vs, w :: ws => by simp only [VT.cmpL, VT.sameL, ze4, Bool.and_eq_true, VT.cmp_zero v w, VT.cmpL_zero vs ws]
 | [], [] => by simp [VT.cmpL, VT.sameL]
 | [], _ :: _ => by simp [VT.cmpL, VT.sameL]
 | _ :: _, [] => by simp [VT.cmpL, VT.sameL]
end
mutual
theorem VT.cmp_tri : ∀ v w x : VT, Tri (VT.cmp v w) (VT.cmp w x) (VT.cmp v x)
 | .mk k n ks, .mk k' n' ks', .mk k'' n'' ks'' => by
  simp only [VT.cmp]
  exact (Tri.icmp _ _ _).cor ((Tri.icmp _ _ _).cor ((Tri.icmp _ _ _).cor (VT.cmpL_tri ks ks' ks'')))
theorem VT.cmpL_tri : ∀ v w x : List VT, Tri (VT.cmpL v w) (VT.cmpL w x) (VT.cmpL v x)
 | v :: vs, w :: ws, x :: xs => by simp only [VT.cmpL]; exact (VT.cmp_tri v w x).cor (VT.cmpL_tri vs ws xs)
 | [], [], [] => by simp [VT.cmpL, Tri]
 | [], [], _ :: _ => by simp [VT.cmpL, Tri]
 | [], _ :: _, [] => by simp [VT.cmpL, Tri]
 | [], _ :: _, _ :: _ => by simp [VT.cmpL, Tri]
 | _ :: _, [], [] => by simp [VT.cmpL, Tri]
 | _ :: _, [], _ :: _ => by simp [VT.cmpL, Tri]
 | _ :: _, _ :: _, [] => by simp [VT.cmpL, Tri]
end
theorem VT.cmpL_drop {a b : List VT} {i : Nat} (ha : i < a.length) (hb : i < b.length) : VT.cmpL (a.drop i) (b.drop i) = cor (VT.cmp a[i] b[i]) (VT.cmpL (a.drop (i + 1)) (b.drop (i + 1))) := by
 rw [List.drop_eq_getElem_cons ha, List.drop_eq_getElem_cons hb, VT.cmpL]
theorem VT.sameL_drop {a b : List VT} {i : Nat} (ha : i < a.length) (hb : i < b.length) : VT.sameL (a.drop i) (b.drop i) = (VT.same a[i] b[i] && VT.sameL (a.drop (i + 1)) (b.drop (i + 1))) := by
 rw [List.drop_eq_getElem_cons ha, List.drop_eq_getElem_cons hb, VT.sameL]
end Go.Abs
