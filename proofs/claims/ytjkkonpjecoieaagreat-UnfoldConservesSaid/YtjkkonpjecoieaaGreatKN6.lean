import Derived.Test.YtjkkonpjecoieaaGreatAbsU
import Derived.Test.YtjkkonpjecoieaaGreatAbsQ1
import Derived.Lib.AppendStr
import Derived.Lib.UnsafeStr
import Derived.Sort.Grow
import Derived.Deep.Draws
set_option linter.unusedSimpArgs false
set_option linter.unusedVariables false
namespace Go.Abs
open Go
theorem Out.tup {H J : zaa} {K : AV → zaa → Prop} {asx bs : List AV} (hs : HSc H) (h : K (.tup bs) H) (hw : All2 (fun a b => WkV a b ∧ b.isV = true ∧ b.scV H.length = true) asx bs) : Out H.length K (.tup asx) (H ++ J) :=
 ⟨_, H, J, rfl, Nat.le_refl _, hs, .tup (hw.mono fun _ _ h => .wk h.1 h.2.1 h.2.2), h⟩
theorem Out.tup0 {H : zaa} {K : AV → zaa → Prop} {asx bs : List AV} (hs : HSc H) (h : K (.tup bs) H) (hw : All2 (fun a b => WkV a b ∧ b.isV = true ∧ b.scV H.length = true) asx bs) : Out H.length K (.tup asx) H := by
 have := Out.tup (J := []) hs h hw
 simpa using this
theorem Out.one {H J : zaa} {K : AV → zaa → Prop} {a b : AV} (hs : HSc H) (hw : WkV a b) (hv : b.isV = true) (hc : b.scV H.length = true) (h : K b H) : Out H.length K a (H ++ J) :=
 ⟨_, H, J, rfl, Nat.le_refl _, hs, .one (.wk hw hv hc), h⟩
theorem Out.one0 {H : zaa} {K : AV → zaa → Prop} {a b : AV} (hs : HSc H) (hw : WkV a b) (hv : b.isV = true) (hc : b.scV H.length = true) (h : K b H) : Out H.length K a H := by
 have := Out.one (J := []) hs hw hv hc h
 simpa using this
@[simp] theorem zQH (k : IntKind) (n : Int) : (AV.int k n).known = true := rfl
@[simp] theorem zQO (s : List UInt8) : (AV.str s).known = true := rfl
@[simp] theorem zQF (b : Bool) : (AV.bool b).known = true := rfl
@[simp] theorem zQN (es : List (List AV)) (t : Tok) : (AV.sl es t).known = true := rfl
@[simp] theorem zhu : AV.snil.known = true := rfl
@[simp] theorem zQK : AV.nilp.known = true := rfl
@[simp] theorem zQM (i o : Nat) : (AV.ptr i o).known = true := rfl
@[simp] theorem zQJ (i o l c : Nat) : (AV.ms i o l c).known = true := rfl
@[simp] theorem zQG (f : Nat) (c : List AV) : (AV.fn f c).known = true := rfl
@[simp] theorem zQI (i : Nat) : (AV.map i).known = true := rfl
@[simp] theorem zQP (cs : List AV) : (AV.view cs).known = true := rfl
section
variable {H : zaa} {K : AV → zaa → Prop}
@[simp] theorem zN1 (i o : Nat) : zap (.ptr i o) H K = K (.ptr H.length 0) (H ++ [.cells [.ptr i o]]) := propext Iff.rfl
@[simp] theorem zNZ (i o l c : Nat) : zap (.ms i o l c) H K = K (.ptr H.length 0) (H ++ [.cells [.ms i o l c]]) := propext Iff.rfl
@[simp] theorem zNY (i : Nat) : zap (.map i) H K = K (.ptr H.length 0) (H ++ [.cells [.map i]]) := propext Iff.rfl
@[simp] theorem zNW (f : Nat) (c : List AV) : zap (.fn f c) H K = K (.ptr H.length 0) (H ++ [.cells [.fn f c]]) := propext Iff.rfl
@[simp] theorem zN3 : zap .snil H K = K (.ptr H.length 0) (H ++ [.cells [.snil]]) := propext Iff.rfl
end
theorem zaF {H : zaa} {p : zaa → (AV → zaa → Prop) → Prop} {k : AV → Prop} (r : AV) (h : ∀ J : zaa, p (H ++ J) fun v H' => v = r ∧ H' = H ++ J) (hk : k r) : zaE H p k := ⟨r, h, hk⟩
@[simp] theorem zQW (m : Nat) (k : IntKind) (n : Int) : (AV.int k n).scA m = true := rfl
@[simp] theorem zQ4 (m : Nat) (s : List UInt8) : (AV.str s).scA m = true := rfl
@[simp] theorem zQV (m : Nat) (b : Bool) : (AV.bool b).scA m = true := rfl
@[simp] theorem zQ2 (m : Nat) (es : List (List AV)) : (AV.sl es .none).scA m = true := rfl
@[simp] theorem zQ3 (m : Nat) : AV.snil.scA m = true := rfl
@[simp] theorem zQ1 (m i o : Nat) : (AV.ptr i o).scA m = decide (i < m) := rfl
@[simp] theorem zQY (m i o l c : Nat) : (AV.ms i o l c).scA m = decide (i < m) := rfl
@[simp] theorem zQX (m i : Nat) : (AV.map i).scA m = decide (i < m) := rfl
@[simp] theorem zQ0 (m : Nat) (es : List (List AV)) (i : Nat) : (AV.sl es (.own i)).scA m = decide (i < m) := rfl
theorem WkV.rfl' {a : AV} : WkV a a := .atom (.refl a)
theorem zaZ {n : Nat} {a : AV} (h1 : a.isV = true) (h2 : a.scV n = true) : WkV a a ∧ a.isV = true ∧ a.scV n = true := ⟨.rfl', h1, h2⟩
theorem slV {n : Nat} {es : List (List AV)} {t : Tok} : WkV (.sl es t) (.sl es .none) ∧ (AV.sl es .none).isV = true ∧ (AV.sl es .none).scV n = true := ⟨.atom (.sl es t), rfl, rfl⟩
theorem zea {n : Nat} : WkV .snil (.sl [] .none) ∧ (AV.sl [] .none).isV = true ∧ (AV.sl [] .none).scV n = true := ⟨.atom .snil, rfl, rfl⟩
theorem zdU {x : Option AV} {d : Nat} {p : Nat → Prop} {p' : AV → Nat → Prop} {q : AV → Prop} (hp : ∀ n, p n ↔ ∃ v, p' v n ∧ q v) : zby x d p ↔ ∃ v, zby x d (p' v) ∧ q v := by
 unfold zby
 split
 ·exact hp d
 ·rename_i n
  constructor
  ·rintro ⟨h1, h2⟩
   obtain ⟨v, h3, h4⟩ := (hp _).1 h2
   exact ⟨v, ⟨h1, h3⟩, h4⟩
  ·rintro ⟨v, ⟨h1, h3⟩, h4⟩
   exact ⟨h1, (hp _).2 ⟨v, h3, h4⟩⟩
 ·simp
theorem zhv {a : Prop} {q : AV → Prop} {x : AV} : (a ∧ q x) ↔ ∃ v, (a ∧ x = v) ∧ q v := by
 constructor
 ·rintro ⟨h1, h2⟩; exact ⟨_, ⟨h1, rfl⟩, h2⟩
 ·rintro ⟨v, ⟨h1, rfl⟩, h2⟩; exact ⟨h1, h2⟩
@[simp] theorem zPZ {H : zaa} {k : AV → Prop} (u e : Nat) (x : AV) (lo hi : Option AV) : zae H (fun K' => zaK u e x lo hi fun v => K' v H) k = zaK u e x lo hi k := zbU (p := fun q => zaK u e x lo hi q) fun q => by
 unfold zaK
 split
 ·exact zdU fun h => zdU fun l => zhv
 ·exact zdU fun h => zdU fun l => zhv
 ·exact zdU fun h => zdU fun l => zhv
 ·exact zdU fun h => zdU fun l => zhv
 ·simp
end Go.Abs
namespace Go.Abs
open Go
theorem Out.at {n : Nat} {H2 J H' : zaa} {K : AV → zaa → Prop} {a b : AV} (he : H' = H2 ++ J) (hn : n ≤ H2.length) (hs : HSc H2) (hw : WkV a b) (hv : b.isV = true) (hc : b.scV H2.length = true) (h : K b H2) : Out n K a H' := by
 subst he
 exact ⟨_, H2, J, rfl, hn, hs, .one (.wk hw hv hc), h⟩
theorem Out.bool {n : Nat} {H2 J H' : zaa} {K : AV → zaa → Prop} {b : Bool} (he : H' = H2 ++ J) (hn : n ≤ H2.length) (hs : HSc H2) (h : K (.bool b) H2) : Out n K (.bool b) H' := Out.at he hn hs .rfl' rfl rfl h
theorem Out.int {n : Nat} {H2 J H' : zaa} {K : AV → zaa → Prop} {k : IntKind} {b : Int} (he : H' = H2 ++ J) (hn : n ≤ H2.length) (hs : HSc H2) (h : K (.int k b) H2) : Out n K (.int k b) H' := Out.at he hn hs .rfl' rfl rfl h
theorem Back.at {n0 : Nat} {Inv : List AV → zaa → Prop} {F : List AV} {H2 J H' : zaa} (he : H' = H2 ++ J) (hn : n0 ≤ H2.length) (hsc : HSc H2) (hs : F.all (AV.sc H2.length) = true) (h : Inv F H2) : Back n0 Inv F H' := by
 subst he
 exact Back.same hn hsc hs h
theorem HSc.snoc {H : zaa} {b : AB} (h : HSc H) (hb : b.sc (H.length + 1) = true) : HSc (H ++ [b]) := h.append (by simpa using hb)
end Go.Abs
namespace Go.Abs
open Go
theorem zzR {B : Nat} {w w' : World} {G G' : Gh} (h : Ext B w G w' G') : G.μ.length ≤ G'.μ.length := by
 by_cases h0 : G.μ.length = 0
 ·omega
 ·obtain ⟨g, h1, _⟩ := h.ids (G.μ.length - 1) _ (List.getElem?_eq_getElem (by omega))
  have := (List.getElem?_eq_some_iff.1 h1).1
  omega
theorem ACalls.mono' {P : Program} {f : FuncId} {args : List AV} {H : zaa} {K K' : AV → zaa → Prop} (h : ACalls P f args H K) (hk : ∀ r H', HSc H' → H.length ≤ H'.length → K r H' → K' r H') : ACalls P f args H K' :=
 fun B w G vs hH hv => (h B w G vs hH hv).mono fun _ _ ⟨v, r, H', G', h1, h2, h3, h4, h5⟩ => ⟨v, r, H', G', h1, h2, h3, h4, hk _ _ h3.sc (by have := zzR h2; rw [hH.len, h3.len] at this; exact this) h5⟩
theorem aCallV.mono' {P : Program} {g : AV} {args : List AV} {H : zaa} {K K' : AV → zaa → Prop} (h : aCallV P g args H K) (hk : ∀ r H', HSc H' → H.length ≤ H'.length → K r H' → K' r H') : aCallV P g args H K' := by
 unfold aCallV at *
 split at h
 ·split at h
  ·exact ACalls.mono' h hk
  ·exact h.elim
 ·exact h.elim
end Go.Abs
namespace Go.Abs
open Go Go.RowKit
theorem HRel.reCell {B : Nat} {w : World} {G : Gh} {H : zaa} (h : HRel B w G H) {id : Nat} {cs cs' : List AV} (hid : H[id]? = some (.cells cs)) (hc : ∀ vs : List Value, All2 (ARel w G) vs cs → All2 (ARel w G) vs cs') : HRel B w G (H.set id (.cells cs')) := by
 refine ⟨by simp [h.len], ?_, h.dist, h.fresh, h.lt, h.base⟩
 intro i ab gi h1 h2
 by_cases hi : i = id
 ·subst hi
  rw [List.getElem?_set_self (List.getElem?_eq_some_iff.1 hid).1] at h1
  cases h1
  have hok := h.ok i _ _ hid h2
  cases gi with
  | blk b =>
   obtain ⟨k1, k2, vs, e, k3, k4⟩ := hok
   exact ⟨k1, k2, vs, e, k3, hc _ k4⟩
  | own v s n => exact hok.elim
  | gap => exact hok.elim
 ·rw [List.getElem?_set_ne (fun h => hi h.symm)] at h1
  exact h.ok i ab gi h1 h2
theorem HRel.ownCell {B : Nat} {w : World} {G : Gh} {H : zaa} (h : HRel B w G H) {id j : Nat} {cs : List AV} (e size : Nat) (hid : H[id]? = some (.cells cs)) (hj : cs[j]? = some .snil) :
  ∃ G', Ext B w G w G' ∧ HRel B w G' (H.set id (.cells (cs.set j (.sl [] (.own H.length)))) ++ [.perm e size 0]) := by
 obtain ⟨hE, hH'⟩ := h.newOwn e size
 refine ⟨_, hE, ?_⟩
 have hlt := (List.getElem?_eq_some_iff.1 hid).1
 have := hH'.reCell (id := id) (cs := cs) (cs' := cs.set j (.sl [] (.own H.length))) (by rw [List.getElem?_append_left hlt]; exact hid) (fun vs hvs => by
  obtain ⟨v, h1, h2⟩ := All2.get hvs hj
  have h2 : v = .slice none 0 0 := h2
  subst h2
  have hset : vs = vs.set j (.slice none 0 0) := by
   apply List.ext_getElem?
   intro k
   by_cases hk : k = j
   ·subst hk; rw [List.getElem?_set_self (List.getElem?_eq_some_iff.1 h1).1]; exact h1
   ·rw [List.getElem?_set_ne (fun h => hk h.symm)]
  rw [hset]
  refine All2.set j hvs ?_
  refine ⟨.slE _ _, .slice none 0 0, size, 0, ?_, Nat.le_refl _, fun _ => ⟨rfl, by simp⟩⟩
  rw [← h.len]
  simp)
 rwa [List.set_append_left _ _ hlt] at this
theorem ALoop.ownC {P : Program} {c : Code} {Q : AExit → List AV → zaa → Prop} {F : List AV} {H : zaa} {cs : List AV} (id j e size : Nat) (hid : H[id]? = some (.cells cs)) (hj : cs[j]? = some .snil)
  (h : ALoop P c Q F (H.set id (.cells (cs.set j (.sl [] (.own H.length)))) ++ [.perm e size 0])) : ALoop P c Q F H := by
 intro B w G a hH hF hd
 obtain ⟨G', hE, hH'⟩ := hH.ownCell e size hid hj
 refine wp_mono (h B w G' a hH' (hF.ext hE) hd) fun e a' w' hp => ?_
 obtain ⟨F'', H'', G'', e'', rfl, k1, k2, k3, k4, k5⟩ := hp
 exact ⟨F'', H'', G'', e'', rfl, hE.trans k1, k2, k3, k4, k5⟩
end Go.Abs
namespace Go.Abs
open Go Go.RowKit
def zaq (l : List Nat) : List (List AV) := l.map fun (n : Nat) => [AV.int .u32 (n : Int)]
@[simp] theorem zRb (l : List Nat) : (zaq l).length = l.length := by simp [zaq]
theorem zCh (l : List Nat) (n : Nat) : (zaq l).take n = zaq (l.take n) := by simp [zaq, List.map_take]
theorem zRa {l : List Nat} {i : Nat} (h : i < l.length) : (zaq l)[i]?.getD [] = [.int .u32 ((l[i] : Nat) : Int)] := by simp [zaq, h]
@[simp] theorem zQ9 {l : List Nat} {i : Nat} (h : i < (zaq l).length) : (zaq l)[i] = [.int .u32 (((l[i]'(by simpa using h)) : Nat) : Int)] := by simp [zaq]
theorem ziB (l : List Nat) : ∀ c ∈ zaq l, c.length = 1 := by
 intro c hc
 simp only [zaq, List.mem_map] at hc
 obtain ⟨n, _, rfl⟩ := hc
 rfl
theorem zB5 {L : List Nat} {n : Nat} (hn : 0 < n) (h : n ≤ L.length) (h0 : L[n - 1] = 0) : zbG (L.take n) = zbG (L.take (n - 1)) := by
 obtain ⟨m, rfl⟩ : ∃ m, n = m + 1 := ⟨n - 1, by omega⟩
 simp only [Nat.add_sub_cancel] at h0 ⊢
 rw [List.take_succ_eq_append_getElem (by omega), h0]
 generalize L.take m = A
 induction A with
 | nil => simp [zbG]
 | cons a A ih => rw [List.cons_append, zbG, zbG, ih]
theorem zB4 {L : List Nat} {n : Nat} (hn : 0 < n) (h : n ≤ L.length) (h0 : L[n - 1] ≠ 0) : zbG (L.take n) = L.take n := by
 obtain ⟨m, rfl⟩ : ∃ m, n = m + 1 := ⟨n - 1, by omega⟩
 simp only [Nat.add_sub_cancel] at h0
 rw [List.take_succ_eq_append_getElem (by omega)]
 generalize hx : L[m] = x at h0
 generalize L.take m = A
 induction A with
 | nil => simp [zbG, h0]
 | cons a A ih =>
  rw [List.cons_append, zbG, ih, if_neg]
  rintro ⟨_, h⟩
  simp at h
theorem zcK {n : Nat} (h : n < 4294967296) : IntKind.u32.wrap (n : Int) = n := IntWalk.u32_in _ ⟨by omega, by omega⟩
theorem zcb {n : Nat} (h : n < 18446744073709551616) : IntKind.u64.wrap (n : Int) = n := IntWalk.u64_in _ ⟨by omega, by omega⟩
theorem zrr {k : AV → Prop} (b : Bool) (j : IntKind) (m n : Nat) (hn : n ≠ 0) : zac .rem b (.int j m) (.int j n) k = k (.int j ((m % n : Nat) : Int)) := by
 simp only [zb0, ne_eq, Int.natCast_eq_zero, hn, not_false_eq_true, true_and]
 rfl
theorem zrq {k : AV → Prop} (b : Bool) (j : IntKind) (m n : Nat) (hn : n ≠ 0) : zac .quo b (.int j m) (.int j n) k = k (.int j (j.wrap ((m / n : Nat) : Int))) := by
 simp only [zb0, ne_eq, Int.natCast_eq_zero, hn, not_false_eq_true, true_and]
 rfl
theorem zlM {k : AV → Prop} (b : Bool) (j : IntKind) (m : Nat) : zac .rem b (.int j m) (.int j 1000000000) k = k (.int j ((m % 1000000000 : Nat) : Int)) := zrr b j m 1000000000 (by decide)
theorem zro {k : AV → Prop} (b : Bool) (j : IntKind) (m : Nat) : zac .quo b (.int j m) (.int j 1000000000) k = k (.int j (j.wrap ((m / 1000000000 : Nat) : Int))) := zrq b j m 1000000000 (by decide)
theorem zrp {k : AV → Prop} (b : Bool) {m : Nat} (h : m < 18446744073709551616) : zac .quo b (.int .u64 m) (.int .u64 1000000000) k = k (.int .u64 ((m / 1000000000 : Nat) : Int)) := by
 rw [zro, zcb (by have := Nat.div_le_self m 1000000000; omega)]
theorem zy0 {k : AV → Prop} (b : Bool) {m : Nat} (h : m < 4294967296) : zac .quo b (.int .u32 m) (.int .u32 1000000000) k = k (.int .u32 ((m / 1000000000 : Nat) : Int)) := by
 rw [zro, zcK (by have := Nat.div_le_self m 1000000000; omega)]
theorem zyV {k : AV → Prop} (j : IntKind) {m : Nat} (h : m < 4294967296) : zbt .u32 (.int j m) k = k (.int .u32 m) := by rw [zyW, zcK h]
theorem zmo (m : Nat) : m % 1000000000 < 1000000000 := Nat.mod_lt _ (by decide)
theorem zzK {m : Nat} (h : m ≠ 0) : m / 1000000000 < m := Nat.div_lt_self (by omega) (by decide)
theorem sN (l : List Nat) (x : Nat) : zaq l ++ [[AV.int .u32 (x : Int)]] = zaq (l ++ [x]) := by simp [zaq]
theorem zr8 (s : Nat) (h : s < 18446744073709551616) : ∃ x c : Nat, x < 1000000000 ∧ s = x + 1000000000 * c ∧ IntKind.u32.wrap (x : Int) = x ∧
  (∀ (b : Bool) (k : AV → Prop), zac .rem b (.int .u64 s) (.int .u64 1000000000) k = k (.int .u64 x)) ∧ ∀ (b : Bool) (k : AV → Prop), zac .quo b (.int .u64 s) (.int .u64 1000000000) k = k (.int .u64 c) :=
 ⟨s % 1000000000, s / 1000000000, zmo s, by omega, zcK (by omega), fun b k => zlM b .u64 s, fun b k => zrp b h⟩
theorem zzL (s : Nat) (h : s < 4294967296) : ∃ x c : Nat, x < 1000000000 ∧ s = x + 1000000000 * c ∧
  (∀ (b : Bool) (k : AV → Prop), zac .rem b (.int .u32 s) (.int .u32 1000000000) k = k (.int .u32 x)) ∧ ∀ (b : Bool) (k : AV → Prop), zac .quo b (.int .u32 s) (.int .u32 1000000000) k = k (.int .u32 c) :=
 ⟨s % 1000000000, s / 1000000000, zmo s, by omega, fun b k => zlM b .u32 s, fun b k => zy0 b h⟩
theorem zzM (s d : Nat) (hd : 0 < d) (h : s < 18446744073709551616) : ∃ x c : Nat, x < d ∧ s = x + d * c ∧
  (∀ (b : Bool) (k : AV → Prop), zac .rem b (.int .u64 s) (.int .u64 d) k = k (.int .u64 x)) ∧ ∀ (b : Bool) (k : AV → Prop), zac .quo b (.int .u64 s) (.int .u64 d) k = k (.int .u64 c) :=
 ⟨s % d, s / d, Nat.mod_lt _ hd, (Nat.mod_add_div s d).symm, fun b k => zrr b .u64 s d (by omega), fun b k => by rw [zrq b .u64 s d (by omega), zcb (by have := Nat.div_le_self s d; omega)]⟩
theorem wi (i : Nat) (h : i < 1000000000) : IntKind.i64.wrap ((i : Int) + 1) = ((i + 1 : Nat) : Int) := by rw [zas (by omega) (by omega)]; omega
theorem wd (i : Nat) (h : i < 1000000000) (h0 : 0 < i) : IntKind.i64.wrap ((i : Int) - 1) = ((i - 1 : Nat) : Int) := by rw [zas (by omega) (by omega)]; omega
theorem zt6 : ∀ l : List Nat, (zbG l).length ≤ l.length ∧ ((zbG l).length = l.length → zbG l = l)
 | [] => by simp [zbG]
 | x :: l => by
  obtain ⟨h1, h2⟩ := zt6 l
  rw [zbG]
  split
  ·simp
  ·simp only [List.length_cons]
   exact ⟨by omega, fun h => by rw [h2 (by omega)]⟩
theorem zsC {n k : Nat} (h : 1000000000 ^ k ≤ n) : k < (lim n).length := by
 have h1 := zd0 (lim n) (zct n)
 rw [zbX] at h1
 refine Nat.lt_of_not_le fun h2 => ?_
 have := Nat.pow_le_pow_right (show 0 < 1000000000 by omega) h2
 omega
theorem zzq {R : List Nat} (hR : ∀ x ∈ R, x < 1000000000) (h : R.length ≤ (lim (zao R)).length) : R = lim (zao R) := by
 have h1 := zgG R hR
 obtain ⟨h2, h3⟩ := zt6 R
 rw [← h1, h3 (by rw [h1] at h2 ⊢; omega)]
end Go.Abs
namespace Go.Proofs.YtjkkonpjecoieaaGreat
open Go Go.Abs
set_option maxRecDepth 8000
theorem zn5 (L : List Nat) (hL : L.length ≤ 1000000) (H : zaa) (K : Kt) (hK : K (.sl (zaq (zbG L)) .none) H) :
  ACalls tP zd4 [.sl (zaq L) .none] H K := by
 refine ACalls.out (zCZ fun hs => ?_)
 simp [zuX]
 refine zCX (Inv := fun q t3 H' => ∃ n : Nat, n ≤ L.length ∧ n = q ∧ t3 = .int .i64 n ∧ H' = H ∧ zbG L = zbG (L.take n)) L.length ?_ ?_
 ·intro _; exact ⟨L.length, by omega, rfl, by simp, rfl, by simp⟩
 ·rintro q t3 H' ⟨n, hn, rfl, rfl, rfl, hst⟩ hsc' hlen hsF Kb hKb
  have hone : ∀ (l : List Nat) (J : zaa), l = zbG L → Out (List.length H') K (AV.sl (zaq l) (Tok.own (List.length H'))) (H' ++ J) := fun l J hl => Out.one hs (.atom (.sl _ _)) rfl rfl (by rw [hl]; exact hK)
  by_cases h0 : n = 0
  ·subst h0
   simp [ziQ, zax, zaW, zaN]
   exact ⟨ziB L, hone [] _ (by simpa [zbG] using hst.symm)⟩
  ·have hw : IntKind.i64.wrap ((n : Int) - 1) = ((n - 1 : Nat) : Int) := by rw [zas (by omega) (by omega)]; omega
   have hlt : n - 1 < L.length := by omega
   by_cases hz : L[n - 1] = 0
   ·simp [ziQ, show 0 < n by omega, hw, hlt, hz]
    exact hKb _ _ ⟨n - 1, by omega, Back.here (by simp) hs (by simp [ziR, AV.sc, AV.scA, AV.scB, AV.scV]) ⟨_, rfl, n - 1, by omega, rfl, rfl, rfl, by rw [hst, zB5 (by omega) hn hz]⟩⟩
   ·have hzb : (((L[n - 1] : Nat) : Int) == 0) = false := by simp; omega
    simp [ziQ, show 0 < n by omega, hw, hlt, hzb, zax, zaW, zaN]
    refine ⟨⟨hn, ziB L⟩, fun c hc => ziB L c (List.mem_of_mem_take hc), ⟨by omega, by omega⟩, ?_⟩
    rw [zCh]
    exact hone _ _ (by rw [hst, zB4 (by omega) hn hz])
end Go.Proofs.YtjkkonpjecoieaaGreat
namespace Go.Abs
open Go Go.RowKit
variable {P : Program} {B : Nat} {w : World} {G : Gh} {H : zaa}
theorem HRel.frz (h : HRel B w G H) {id : Nat} {cs : List AV} (hH : H[id]? = some (.cells cs)) :
  ∃ G', Ext B w G w G' ∧ HRel B w G' (H.set id .dead) ∧ ∃ b, G.μ[id]? = some (.blk b) ∧ G'.L b = cs.length ∧ ∃ (vs : Array Value) (e : TypeId), w.heap[b]? = some (.cells vs e (0, 0)) ∧ All2 (ARel w G) vs.toList cs := by
 have hlt : id < G.μ.length := by rw [h.len]; exact (List.getElem?_eq_some_iff.1 hH).1
 obtain ⟨gi, hgi⟩ : ∃ gi, G.μ[id]? = some gi := ⟨_, List.getElem?_eq_getElem hlt⟩
 have hok := h.ok id _ _ hH hgi
 cases gi with
 | gap => exact hok.elim
 | own v s n => exact hok.elim
 | blk b =>
  obtain ⟨hB, hL, vs, e, hw, hcs⟩ := hok
  have hl : vs.size = cs.length := by simpa using hcs.length
  have he : Ext B w G w ⟨fun x => if x = b then cs.length else G.L x, G.μ⟩ :=
   ⟨Nat.le_refl _, Below.refl _ _, fun x => by by_cases hx : x = b <;> simp [hx, hL], fun _ _ _ => rfl, fun _ gi h => ⟨gi, h, gi.le_refl⟩⟩
  refine ⟨_, he, ⟨by simp [h.len], ?_, h.dist, fun x hx => ?_, h.lt, h.base⟩, b, hgi, by simp, vs, e, hw, hcs⟩
  ·intro id' ab gi h1 h2
   by_cases hid : id' = id
   ·subst hid
    rw [List.getElem?_set_self (List.getElem?_eq_some_iff.1 hH).1] at h1
    cases h1
    have h2 : G.μ[id']? = some gi := h2
    rw [hgi] at h2
    cases h2
    exact ⟨vs, e, (0, 0), hw, by simp [hl]⟩
   ·rw [List.getElem?_set_ne (fun h => hid h.symm)] at h1
    refine (h.ok id' ab gi h1 h2).keep he (fun x hx => ⟨rfl, ?_⟩)
    have : ¬ x = b := fun hxb => hid (h.dist id' id gi _ b h2 hgi (by rw [hx, hxb]) rfl)
    simp [this]
  ·have := h.lt id _ b hgi rfl
   have h3 : ¬ x = b := by omega
   simp [h3, h.fresh x hx]
inductive FzA (id off len cap : Nat) (es : List (List AV)) : AV → AV → Prop
 | refl (a : AV) : FzA id off len cap es a a
 | ms : FzA id off len cap es (.ms id off len cap) (.sl es .none)
inductive FzT (id off len cap : Nat) (es : List (List AV)) : AV → AV → Prop
 | one {a b : AV} (h : FzA id off len cap es a b) : FzT id off len cap es a b
 | agg {asx bs : List AV} (h : All2 (FzA id off len cap es) asx bs) : FzT id off len cap es (.agg asx) (.agg bs)
theorem FzA.rel {id off len cap size : Nat} {cs : List AV} {es : List (List AV)} (hfit : off + len * size ≤ cs.length)
  (hp : zaD ((cs.drop off).take (len * size)) = some es.flatten) (hlen : es.length = len) (hsz : ∀ c ∈ es, c.length = size) (hcap : len ≤ cap) {G' : Gh} (hE : Ext B w G w G') {b : Nat} (hμ : G.μ[id]? = some (.blk b)) (hLb : G'.L b = cs.length)
  {vs0 : Array Value} {e : TypeId} (hw : w.heap[b]? = some (.cells vs0 e (0, 0))) (hcs : All2 (ARel w G) vs0.toList cs) {v : Value} {a b' : AV} (hab : FzA id off len cap es a b') (hr : ARel w G v a) : ARel w G' v b' := by
 cases hab with
 | refl a => exact hE.arel hr
 | ms =>
  obtain ⟨b2, hb2, rfl⟩ := hr
  rw [hμ] at hb2
  cases hb2
  show DRel w G'.L _ _
  subst hlen
  by_cases hne : es = []
  ·subst hne; exact .slE _ _
  ·have hl := hcs.length
   have hd := zc8 ((hcs.drop off).take (es.length * size)) hp
   refine DRel.of_flat_at (zs := (vs0.toList.drop off).take (es.length * size)) hsz hne hcap (by rw [hLb]; exact hfit) (hd.mono fun _ _ => hE.drel) ?_
   intro j u hj
   rw [List.getElem?_take] at hj
   split at hj
   ·simp only [World.cell?, hw]
    simpa using hj
   ·cases hj
theorem zlP {R R' : Value → AV → Prop} {S : AV → AV → Prop} (h : ∀ v a b, S a b → R v a → R' v b) {vs : List Value} {asx bs : List AV} (hr : All2 R vs asx) (hs : All2 S asx bs) : All2 R' vs bs :=
 All2.of_get (hr.length.trans hs.length) fun i x y hx hy => by
  obtain ⟨a, ha, hxa⟩ := All2.get' hr hx
  obtain ⟨y', hy', hay⟩ := All2.get' hs ha
  rw [hy] at hy'
  cases hy'
  exact h _ _ _ hay hxa
theorem ACalls.frz {f : FuncId} {args args' : List AV} {K : Kt} (id off len cap size : Nat) (cs : List AV) (es : List (List AV)) (hH : H[id]? = some (.cells cs)) (hfit : off + len * size ≤ cs.length)
  (hp : zaD ((cs.drop off).take (len * size)) = some es.flatten) (hlen : es.length = len) (hsz : ∀ c ∈ es, c.length = size) (hcap : len ≤ cap) (ha : All2 (FzT id off len cap es) args args')
  (h : ACalls P f args' (H.set id .dead) K) : ACalls P f args H K := by
 intro B w G vs hR hv
 obtain ⟨G', hE, hR', b, hμ, hLb, vs0, e, hw, hcs⟩ := hR.frz hH
 have h1 : ∀ v a b, FzA id off len cap es a b → ARel w G v a → ARel w G' v b := fun v a b' hab hr => FzA.rel hfit hp hlen hsz hcap hE hμ hLb hw hcs hab hr
 have h2 : ∀ v a b, FzT id off len cap es a b → TRel w G v a → TRel w G' v b := by
  intro v a b' hab hr
  cases hab with
  | one hab =>
   cases hab with
   | refl a => exact hE.trel hr
   | ms => exact TRel.of_v (VRel.of_a (h1 _ _ _ .ms hr))
  | agg hab =>
   obtain ⟨us, hu, hr⟩ := hr
   exact ⟨us, hu, zlP h1 hr hab⟩
 refine (h B w G' vs hR' (zlP h2 hv ha)).mono fun e w' ⟨v, r, H', G'', k1, k2, k3, k4, k5⟩ => ⟨v, r, H', G'', k1, hE.trans k2, k3, k4, k5⟩
theorem AWp.frz {c : Code} {Q : AExit → List AV → zaa → Prop} {F : List AV} (id off len cap size : Nat) (cs : List AV) (es : List (List AV)) (id2 : Nat) (cs2 cs2' : List AV) (hH : H[id]? = some (.cells cs)) (hfit : off + len * size ≤ cs.length)
  (hp : zaD ((cs.drop off).take (len * size)) = some es.flatten) (hlen : es.length = len) (hsz : ∀ c ∈ es, c.length = size) (hcap : len ≤ cap) (hne : id ≠ id2) (hH2 : H[id2]? = some (.cells cs2)) (ha : All2 (FzA id off len cap es) cs2 cs2')
  (h : AWp P c Q F ((H.set id .dead).set id2 (.cells cs2'))) : AWp P c Q F H := by
 intro B w G a hR hF hd
 obtain ⟨G', hE, hR', b, hμ, hLb, vs0, e, hw, hcs⟩ := hR.frz hH
 have h1 : ∀ v a b, FzA id off len cap es a b → ARel w G v a → ARel w G' v b := fun v a b' hab hr => FzA.rel hfit hp hlen hsz hcap hE hμ hLb hw hcs hab hr
 have hlt2 : id2 < G.μ.length := by rw [hR.len]; exact (List.getElem?_eq_some_iff.1 hH2).1
 have hH2' : (H.set id .dead)[id2]? = some (.cells cs2) := by rw [List.getElem?_set_ne hne]; exact hH2
 have hR2 : HRel B w G' ((H.set id .dead).set id2 (.cells cs2')) := by
  refine ⟨by simp [hR'.len], ?_, hR'.dist, hR'.fresh, hR'.lt, hR'.base⟩
  intro i ab gi k1 k2
  by_cases hi : i = id2
  ·subst hi
   rw [List.getElem?_set_self (List.getElem?_eq_some_iff.1 hH2').1] at k1
   cases k1
   have hok := hR'.ok i _ _ hH2' k2
   have hgi : G.μ[i]? = some gi := by
    obtain ⟨gi0, hgi0⟩ : ∃ gi0, G.μ[i]? = some gi0 := ⟨_, List.getElem?_eq_getElem hlt2⟩
    have hok0 := hR.ok i _ _ hH2 hgi0
    obtain ⟨gi1, hg1, hle⟩ := hE.ids i gi0 hgi0
    rw [k2] at hg1
    cases hg1
    cases gi0 with
    | blk x => cases gi with
     | blk y => obtain rfl : x = y := hle; exact hgi0
     | own v s n => exact hle.elim
     | gap => exact hle.elim
    | own v s n => exact hok0.elim
    | gap => exact hok0.elim
   have hok0 := hR.ok i _ _ hH2 hgi
   cases gi with
   | blk x =>
    obtain ⟨k3, k4, vs, e', k5, k6⟩ := hok
    obtain ⟨_, _, vs1, e1, k7, k8⟩ := hok0
    rw [k5] at k7
    cases k7
    exact ⟨k3, k4, vs, e', k5, zlP h1 k8 ha⟩
   | own v s n => exact hok.elim
   | gap => exact hok.elim
  ·rw [List.getElem?_set_ne (fun h => hi h.symm)] at k1
   exact hR'.ok i ab gi k1 k2
 refine wp_mono (h B w G' a hR2 (hF.ext hE) hd) fun e a' w' hp => ?_
 obtain ⟨F', H', G'', e', rfl, k1, k2, k3, k4, k5⟩ := hp
 exact ⟨F', H', G'', e', rfl, hE.trans k1, k2, k3, k4, k5⟩
end Go.Abs
namespace Go.Abs
open Go Go.RowKit
variable {P : Program} {B : Nat} {w : World} {G : Gh} {H : zaa}
inductive OutW (H : zaa) (n : Nat) : AV → AV → Prop
 | one {a b : AV} (h : OutV H n a b) : OutW H n a b
 | rows (id e m : Nat) (cs : List AV) (rs : List (List (List AV))) (hid : n ≤ id) (hH : H[id]? = some (.vec e 1 m cs)) (hm : rs.length = m)
   (hall : All2 (OutV H n) cs (rs.map fun r => .sl r .none)) : OutW H n (.ov id m) (.sl (rs.map fun r => [.sl r .none]) .none)
theorem OutW.vrel (hH : HRel B w G H) {n : Nat} {v : Value} {a b : AV} (h : OutW H n a b) (hr : TRel w G v a) : VRel w (G.cut w n) v b := by
 cases h with
 | one h => exact h.vrel hH hr
 | rows id e m cs rs hid hHid hm hall =>
  obtain ⟨⟨a, cap0, rfl, _⟩, v', s0, n', hμ, _, heq⟩ := hr
  obtain ⟨rfl, rfl, ⟨xs, hown, hcs⟩, _⟩ := hH.ok id _ _ hHid hμ
  obtain rfl := heq rfl
  subst hm
  show DRel w (G.cut w n).L _ _
  by_cases hne : rs = []
  ·subst hne; exact .slE _ _
  ·have hown2 := hown
   obtain ⟨hl, hrow⟩ := hown2
   have hd : All2 (DRel w (G.cut w n).L) xs (rs.map fun r => AV.sl r .none) := All2.of_get (hcs.length.trans hall.length) fun i x y hx hy => by
    obtain ⟨a, ha, hxa⟩ := All2.get' hcs hx
    obtain ⟨y', hy', hay⟩ := All2.get' hall ha
    rw [hy] at hy'
    cases hy'
    obtain ⟨r, hr, rfl⟩ : ∃ r, rs[i]? = some r ∧ AV.sl r .none = y := by simpa using hy
    exact hay.vrel hH (TRel.of_v (VRel.of_a hxa))
   rcases hrow with ⟨h1, h2⟩ | ⟨g, cap, cur, h1, h2, h3, h4, h5, h6, h7⟩
   ·cases rs <;> simp_all
   ·simp at h1
    obtain ⟨rfl, rfl⟩ := h1
    obtain ⟨_, _, _, hcell⟩ := zc7 hown
    have hfl : ∀ l : List (List (List AV)), (l.map fun r => [AV.sl r .none]).flatten = l.map fun r => AV.sl r .none := by
     intro l
     induction l with
     | nil => rfl
     | cons r l ih => simp [ih]
    have := DRel.of_flat_at (w := w) (L := (G.cut w n).L) (g := g) (off := 0) (size := 1) (cap := cap0) (es := rs.map fun r => [AV.sl r .none]) (zs := xs) (by simp) (by simpa using hne) (by simpa using h4) ?_ (by rw [hfl rs]; exact hd) ?_
    ·simpa using this
    ·have : (G.cut w n).L g = cur.size := by
      simp only [Gh.cut]
      rw [if_pos (cut_dropped.2 ⟨id, _, hid, hμ, rfl⟩), h3]
     rw [this, h6]
     simpa using h4
    ·intro j u hj
     rw [Nat.zero_add, hcell j (by rw [← hl]; exact (List.getElem?_eq_some_iff.1 hj).1)]
     exact hj
inductive OutT2 (H : zaa) (n : Nat) : AV → AV → Prop
 | one {a b : AV} (h : OutW H n a b) : OutT2 H n a b
 | tup {asx bs : List AV} (h : All2 (OutW H n) asx bs) : OutT2 H n (.tup asx) (.tup bs)
theorem zAH (hH : HRel B w G H) {n : Nat} {asx bs : List AV} (h : All2 (OutW H n) asx bs) {vs : List Value} (hr : All2 (VRel w G) vs asx) : All2 (VRel w (G.cut w n)) vs bs :=
 All2.of_get (hr.length.trans h.length) fun i x y hx hy => by
  obtain ⟨a, ha, hxa⟩ := All2.get' hr hx
  obtain ⟨y', hy', hay⟩ := All2.get' h ha
  rw [hy] at hy'
  cases hy'
  exact hay.vrel hH (TRel.of_v hxa)
def zeV (n : Nat) (K : AV → zaa → Prop) (r : AV) (H' : zaa) : Prop := ∃ r2 H2 J, H' = H2 ++ J ∧ n ≤ H2.length ∧ HSc H2 ∧ OutT2 H' H2.length r r2 ∧ K r2 H2
theorem ACalls.out2 {f : FuncId} {args : List AV} {K : AV → zaa → Prop} (h : ACalls P f args H (zeV H.length K)) : ACalls P f args H K := by
 intro B w G vs hH hv
 refine (h B w G vs hH hv).mono fun e w' ⟨v, r, H', G', h1, h2, h3, h4, h5⟩ => ?_
 obtain ⟨r2, H2, J, hJ, hn, hsc, ho, hk⟩ := h5
 subst hJ
 refine ⟨v, r2, H2, G'.cut w' H2.length, h1, zl2 h3 h2 (by rw [hH.len]; exact hn), h3.cut hsc, ?_, hk⟩
 cases ho with
 | one ho => exact TRel.of_v (ho.vrel h3 h4)
 | tup ho =>
  obtain ⟨us, hu, hr⟩ := h4
  exact ⟨us, hu, zAH h3 ho hr⟩
theorem Out.two {n : Nat} {K : AV → zaa → Prop} {r : AV} (h : Out n K r H) : zeV n K r H := by
 obtain ⟨r2, H2, J, hJ, hn, hsc, ho, hk⟩ := h
 refine ⟨r2, H2, J, hJ, hn, hsc, ?_, hk⟩
 cases ho with
 | one h => exact .one (.one h)
 | tup h => exact .tup (All2.of_get h.length fun i x y hx hy => by
   obtain ⟨y', hy', hay⟩ := All2.get' h hx
   rw [hy] at hy'
   cases hy'
   exact .one hay)
end Go.Abs
namespace Go.Abs
open Go Go.RowKit Go.Lib
variable {P : Program} {B : Nat} {w : World}
end Go.Abs
namespace Go.Abs
open Go Go.RowKit Go.Lib
variable {P : Program} {B : Nat} {w : World} {G : Gh} {H : zaa}
theorem HRel.dead (h : HRel B w G H) {id e s n : Nat} (hH : H[id]? = some (.perm e s n)) : HRel B w G (H.set id .dead) := by
 refine ⟨by simp [h.len], ?_, h.dist, h.fresh, h.lt, h.base⟩
 intro i ab gi h1 h2
 by_cases hi : i = id
 ·subst hi
  rw [List.getElem?_set_self (List.getElem?_eq_some_iff.1 hH).1] at h1
  cases h1
  have hok := h.ok i _ _ hH h2
  cases gi with
  | blk b => exact hok.elim
  | gap => exact hok.elim
  | own v s' n' =>
   obtain ⟨rfl, rfl, ⟨xs, hl, ⟨rfl, _⟩ | ⟨g, cap, cur, rfl, k1, k2, k3, k4, k5, k6⟩⟩, hL⟩ := hok
   ·intro b hb
    cases hb
   ·intro b hb
    simp [Value.ownBlock] at hb
    subst hb
    exact ⟨cur, e, _, k2, by rw [hL g rfl, k5]; exact Nat.mul_le_mul_right _ k3⟩
 ·rw [List.getElem?_set_ne (fun h => hi h.symm)] at h1
  exact h.ok i ab gi h1 h2
theorem HRel.other (h : HRel B w G H) (o : Obj) : Ext B w G (w.alloc o) G ∧ HRel B (w.alloc o) G H := by
 have he := Ext.alloc h o G.L (fun _ _ => rfl) []
 simp only [List.append_nil] at he
 refine ⟨he, h.keep he rfl (fun id gi b h1 h2 => ⟨zdf (h.lt id gi b h1 h2), rfl⟩) (fun b hb => ?_)⟩
 rw [zcS] at hb
 exact h.fresh b (by omega)
end Go.Abs
namespace Go.Abs
open Go Go.RowKit Go.Sort
variable {P : Program} {B : Nat} {w : World} {G : Gh} {H : zaa}
end Go.Abs
namespace Go.Abs
open Go Go.RowKit
variable {P : Program} {B : Nat} {w : World} {G : Gh} {H : zaa}
theorem HRel.newVec (h : HRel B w G H) (e size : Nat) : Ext B w G w ⟨G.L, G.μ ++ [.own (.slice none 0 0) size 0]⟩ ∧ HRel B w ⟨G.L, G.μ ++ [.own (.slice none 0 0) size 0]⟩ (H ++ [.vec e size 0 []]) := by
 obtain ⟨hE, hH⟩ := h.newOwn e size
 refine ⟨hE, by simpa using hH.len, fun id ab gi h1 h2 => ?_, hH.dist, hH.fresh, hH.lt, hH.base⟩
 by_cases hlt : id < H.length
 ·rw [List.getElem?_append_left hlt] at h1
  exact hH.ok id ab gi (by rw [List.getElem?_append_left hlt]; exact h1) h2
 ·have hlt2 := (List.getElem?_eq_some_iff.1 h2).1
  simp [h.len] at hlt2
  obtain rfl : id = H.length := by omega
  simp at h1
  have h2 : (G.μ ++ [GI.own (.slice none 0 0) size 0])[H.length]? = some gi := h2
  rw [← h.len] at h2
  simp at h2
  subst h1 h2
  exact ⟨rfl, rfl, ⟨[], World.ownsRow_nil w B e size, trivial⟩, fun b hb => by simp [Value.ownBlock] at hb⟩
end Go.Abs
namespace Go.Abs
open Go Go.RowKit
variable {P : Program} {B : Nat} {w : World} {G : Gh} {H : zaa}
theorem zta (h : HRel B w G H) (e size : Nat) : TRel w ⟨G.L, G.μ ++ [.own (.slice none 0 0) size 0]⟩ (.slice none 0 0) (.ov H.length 0) := by
 refine ⟨⟨none, 0, rfl, fun h => absurd h (by omega)⟩, .slice none 0 0, size, 0, ?_, Nat.le_refl _, fun _ => rfl⟩
 rw [← h.len]
 simp
theorem ALoop.vec {c : Code} {Q : AExit → List AV → zaa → Prop} {F : List AV} (i e size : Nat) (hi : F[i]? = some .snil)
  (h : ALoop P c Q (F.set i (.ov H.length 0)) (H ++ [.vec e size 0 []])) : ALoop P c Q F H := by
 intro B w G a hH hF hd
 obtain ⟨hE, hH'⟩ := hH.newVec e size
 have hF' : FRel w ⟨G.L, G.μ ++ [.own (.slice none 0 0) size 0]⟩ a.tmps (F.set i (.ov H.length 0)) := by
  unfold FRel
  obtain ⟨v, h1, h2⟩ := All2.get hF hi
  have h2 : v = .slice none 0 0 := h2
  subst h2
  have hset : a.tmps.toList = a.tmps.toList.set i (.slice none 0 0) := by
   apply List.ext_getElem?
   intro k
   by_cases hk : k = i
   ·subst hk; rw [List.getElem?_set_self (List.getElem?_eq_some_iff.1 h1).1]; exact h1
   ·rw [List.getElem?_set_ne (fun h => hk h.symm)]
  rw [hset]
  exact All2.set i (hF.ext hE) (zta hH e size)
 refine wp_mono (h B w _ a hH' hF' hd) fun e a' w' hp => ?_
 obtain ⟨F'', H'', G'', e'', rfl, k1, k2, k3, k4, k5⟩ := hp
 exact ⟨F'', H'', G'', e'', rfl, hE.trans k1, k2, k3, k4, k5⟩
theorem ACalls.vecRes {f : FuncId} {args : List AV} {K : Kt} (e size : Nat) (h : ACalls P f args H fun r H' => (r = .snil ∧ K (.ov H'.length 0) (H' ++ [.vec e size 0 []])) ∨ K r H') : ACalls P f args H K := by
 intro B w G vs hH hv
 refine (h B w G vs hH hv).mono fun ex w' ⟨v, r, H', G', h1, h2, h3, h4, h5⟩ => ?_
 rcases h5 with ⟨rfl, hk⟩ | hk
 ·have h4 : v = .slice none 0 0 := h4
  subst h4
  obtain ⟨hE, hH'⟩ := h3.newVec e size
  exact ⟨_, _, _, _, h1, h2.trans hE, hH', zta h3 e size, hk⟩
 ·exact ⟨v, r, H', G', h1, h2, h3, h4, hk⟩
theorem ACalls.withSc {f : FuncId} {args : List AV} {K : Kt} (h : ACalls P f args H fun r H' => HSc H' → K r H') : ACalls P f args H K := by
 intro B w G vs hH hv
 exact (h B w G vs hH hv).mono fun ex w' ⟨v, r, H', G', h1, h2, h3, h4, h5⟩ => ⟨v, r, H', G', h1, h2, h3, h4, h5 h3.sc⟩
theorem zuG {vs : List Value} : ∀ {cs cs' : List AV}, All2 WkA cs cs' → ∀ {vs : List Value}, All2 (ARel w G) vs cs → All2 (ARel w G) vs cs'
 | [], [], _, _, hv => hv
 | x :: cs, x' :: cs', hw, [], hv => hv.elim
 | x :: cs, x' :: cs', hw, v :: vs, hv => ⟨hw.1.arel hv.1, zuG (vs := []) hw.2 hv.2⟩
 | [], _ :: _, hw, _, _ => hw.elim
 | _ :: _, [], hw, _, _ => hw.elim
theorem ALoop.reCell {c : Code} {Q : AExit → List AV → zaa → Prop} {F : List AV} {id : Nat} {cs : List AV} (cs' : List AV) (hid : H[id]? = some (.cells cs)) (hw : All2 WkA cs cs') (h : ALoop P c Q F (H.set id (.cells cs'))) : ALoop P c Q F H := by
 intro B w G a hH hF hd
 exact h B w G a (hH.reCell hid fun vs hv => zuG (vs := []) hw hv) hF hd
theorem HRel.frzV (h : HRel B w G H) {id e size n : Nat} {cs : List AV} (hH : H[id]? = some (.vec e size n cs)) {es : List (List AV)} (hp : zaD cs = some es.flatten) (hlen : es.length = n) (hsz : ∀ c ∈ es, c.length = size) :
  ∃ G', Ext B w G w G' ∧ HRel B w G' (H.set id .dead) ∧ ∀ v, ARel w G v (.ov id n) → DRel w G'.L v (.sl es .none) := by
 have hlt : id < G.μ.length := by rw [h.len]; exact (List.getElem?_eq_some_iff.1 hH).1
 obtain ⟨gi, hgi⟩ : ∃ gi, G.μ[id]? = some gi := ⟨_, List.getElem?_eq_getElem hlt⟩
 have hok := h.ok id _ _ hH hgi
 cases gi with
 | gap => exact hok.elim
 | blk b => exact hok.elim
 | own v0 s0 n0 =>
  obtain ⟨rfl, rfl, ⟨xs, hown, hcs⟩, hL0⟩ := hok
  have hown2 := hown
  obtain ⟨hl, hrow⟩ := hown2
  rcases hrow with ⟨h1, h2⟩ | ⟨g, cap, cur, h1, hB, hw, hcap, hcm, hcz, htk⟩
  ·subst h1
   refine ⟨G, Ext.refl _ _ _, ⟨by simp [h.len], ?_, h.dist, h.fresh, h.lt, h.base⟩, ?_⟩
   ·intro id' ab gi k1 k2
    by_cases hid : id' = id
    ·subst hid
     rw [List.getElem?_set_self (List.getElem?_eq_some_iff.1 hH).1] at k1
     cases k1
     rw [hgi] at k2
     cases k2
     exact fun b hb => by simp [Value.ownBlock] at hb
    ·rw [List.getElem?_set_ne (fun h => hid h.symm)] at k1
     exact h.ok id' ab gi k1 k2
   ·intro v hv
    obtain ⟨⟨a, cap0, rfl, _⟩, v', s', n', hμ, _, heq⟩ := hv
    have hes : es = [] := List.eq_nil_of_length_eq_zero (by omega)
    subst hes
    subst hlen
    exact .slE _ _
  ·subst h1
   have hLg : G.L g = 0 := hL0 g rfl
   have he : Ext B w G w ⟨fun x => if x = g then cur.size else G.L x, G.μ⟩ :=
    ⟨Nat.le_refl _, Below.refl _ _, fun x => by by_cases hx : x = g <;> simp [hx, hLg], fun _ _ _ => rfl, fun _ gi h => ⟨gi, h, gi.le_refl⟩⟩
   refine ⟨_, he, ⟨by simp [h.len], ?_, h.dist, fun x hx => ?_, h.lt, h.base⟩, ?_⟩
   ·intro id' ab gi k1 k2
    by_cases hid : id' = id
    ·subst hid
     rw [List.getElem?_set_self (List.getElem?_eq_some_iff.1 hH).1] at k1
     cases k1
     have k2 : G.μ[id']? = some gi := k2
     rw [hgi] at k2
     cases k2
     intro b hb
     simp [Value.ownBlock] at hb
     subst hb
     exact ⟨cur, e, _, hw, by simp⟩
    ·rw [List.getElem?_set_ne (fun h => hid h.symm)] at k1
     refine (h.ok id' ab gi k1 k2).keep he (fun x hx => ⟨rfl, ?_⟩)
     have : ¬ x = g := fun hxb => hid (h.dist id' id gi _ g k2 hgi (by rw [hx, hxb]) rfl)
     simp [this]
   ·have := h.lt id _ g hgi rfl
    have h3 : ¬ x = g := by omega
    simp [h3, h.fresh x hx]
   ·intro v hv
    obtain ⟨⟨a, cap0, rfl, _⟩, v', s', n', hμ, _, heq⟩ := hv
    rw [hgi] at hμ
    simp only [Option.some.injEq, GI.own.injEq] at hμ
    obtain ⟨rfl, rfl, rfl⟩ := hμ
    have hvv := heq rfl
    simp only [Value.slice.injEq, true_and] at hvv
    obtain ⟨rfl, rfl⟩ := hvv
    subst hlen
    by_cases hes : es = []
    ·subst hes; exact .slE _ _
    ·obtain ⟨_, _, _, hcell⟩ := zc7 hown
     refine DRel.of_flat_at (zs := xs) hsz hes hcap ?_ ((zc8 hcs hp).mono fun _ _ => he.drel) ?_
     ·simp only [if_true]
      rw [hcz, Nat.zero_add]
      exact Nat.mul_le_mul_right _ hcap
     ·intro j u hj
      rw [Nat.zero_add, hcell j (by rw [← hl]; exact (List.getElem?_eq_some_iff.1 hj).1)]
      exact hj
theorem ACalls.frzV {f : FuncId} {x : AV} {K : Kt} (id e size n : Nat) (cs : List AV) (es : List (List AV)) (hH : H[id]? = some (.vec e size n cs)) (hp : zaD cs = some es.flatten) (hlen : es.length = n) (hsz : ∀ c ∈ es, c.length = size)
  (h : ACalls P f [.agg [x, .sl es .none]] (H.set id .dead) K) : ACalls P f [.agg [x, .ov id n]] H K := by
 intro B w G vs hR hv
 obtain ⟨G', hE, hR', hd⟩ := hR.frzV hH hp hlen hsz
 refine (h B w G' vs hR' ?_).mono fun e w' ⟨v, r, H', G'', k1, k2, k3, k4, k5⟩ => ⟨v, r, H', G'', k1, hE.trans k2, k3, k4, k5⟩
 generalize vs.toList = l at *
 match l, hv with
 | [v], ⟨⟨us, hu, h1⟩, _⟩ =>
  refine ⟨⟨us, hu, ?_⟩, trivial⟩
  generalize us.toList = m at *
  match m, h1 with
  | [a, b], ⟨h2, h3, _⟩ => exact ⟨hE.arel h2, hd b h3, trivial⟩
end Go.Abs
namespace Go.Proofs.YtjkkonpjecoieaaGreat
open Go Go.Abs
set_option maxRecDepth 8000
theorem zxT (n : Nat) (hn : n < 18446744073709551616) (H : zaa) (K : Kt) (hK : K (.sl (zaq (lim n)) .none) H) :
  ACalls tP zgo [.int .u64 n] H K := by
 refine ACalls.out (zKN fun hs => ?_)
 unfold zxS zkO
 refine ALoop.own 3 zce 1 rfl ?_
 show zkO (.int .u64 n) (.sl [] (.own H.length)) (H ++ [.perm zce 1 0]) (Out H.length K)
 refine zKL (Inv := fun q t0 t3 H' => ∃ (m : Nat) (A : List Nat), m = q ∧ t0 = .int .u64 m ∧ t3 = .sl (zaq A) (.own H.length) ∧ lim n = A ++ lim m ∧ m < 18446744073709551616 ∧
  H' = H ++ [.perm zce 1 A.length]) n ?_ ?_
 ·intro _; exact ⟨n, [], rfl, rfl, rfl, by simp, hn, rfl⟩
 ·rintro q t0 t3 H' ⟨m, A, rfl, rfl, rfl, hA, hm, rfl⟩ hsc' hlen hsF Kb hKb
  by_cases h0 : m = 0
  ·subst h0
   simp [zqi]
   exact Out.one hs (.atom (.sl _ _)) rfl rfl (by simpa [hA] using hK)
  ·have hq := zmo m
   have hd := zzK h0
   have hlA : A.length + 1 ≤ 1000 := by
    have h1 := congrArg List.length hA
    have h2 := zev (n := n) (k := 3) (by omega)
    rw [zcW h0] at h1
    simp at h1
    omega
   simp only [zqi, zlM, zrp false hm, zyV .u64 (show m % 1000000000 < 4294967296 by omega)]
   simp [show 0 < m by omega, zaz, zbq, zaD, AV.pd, zax, zaW, zaN]
   refine ⟨⟨by omega, by omega⟩, ?_⟩
   have e1 : ((m : Int) / 1000000000) = ((m / 1000000000 : Nat) : Int) := rfl
   have e2 : ((m : Int) % 1000000000) = ((m % 1000000000 : Nat) : Int) := rfl
   rw [e1, e2, sN]
   refine hKb _ _ ⟨m / 1000000000, hd, Back.here (by simp) (hs.append (by simp [AB.sc])) (by simp [zkN, ux, AV.sc, AV.scA, AV.scB, AV.scV]) ⟨_, _, rfl, m / 1000000000, A ++ [m % 1000000000], rfl, rfl, rfl, ?_, by omega, by simp⟩⟩
   rw [hA, zcW h0]; simp
theorem zhx (A : List Nat) (x : Nat) : zao (A ++ [x]) = zao A + 1000000000 ^ A.length * x := by rw [zhw]; simp [zao]
theorem zuS (L : List Nat) (h32 : ∀ x ∈ L, x < 4294967296) (hL : L.length ≤ 100000) (H : zaa) (K : Kt) (hK : K (.sl (zaq (lim (zao L))) .none) H) :
  ACalls tP zhA [.sl (zaq L) .none] H K := by
 refine ACalls.out (zCG fun hs => ?_)
 unfold zuR ziM
 refine ALoop.own 3 zce 1 rfl ?_
 show ziM (.sl (zaq L) .none) (.sl [] (.own H.length)) (.int .u64 0) (.int .i64 0) (H ++ [.perm zce 1 0]) (Out H.length K)
 have hend : ∀ A : List Nat, (∀ x ∈ A, x < 1000000000) → zao A = zao L → A.length ≤ 200000 → ziL (.sl (zaq A) (.own H.length)) (H ++ [.perm zce 1 A.length]) (Out H.length K) := by
  intro A hA he hl
  unfold ziL
  refine ACalls.wk (args' := [.sl (zaq A) .none]) (zn5 A (by omega) _ _ ?_) ⟨.atom (.sl _ _), trivial⟩
  rw [zgG A hA, he]
  exact Out.one hs (.atom (.sl _ _)) rfl rfl hK
 refine zCE (Inv := fun q t3 t4 t5 H' => ∃ (i c : Nat) (A : List Nat), i ≤ L.length ∧ L.length - i = q ∧ t5 = .int .i64 i ∧ t4 = .int .u64 c ∧ t3 = .sl (zaq A) (.own H.length) ∧ A.length = i ∧ (∀ x ∈ A, x < 1000000000) ∧ c ≤ 5 ∧
  zao A + 1000000000 ^ i * c = zao (L.take i) ∧ H' = H ++ [.perm zce 1 A.length]) L.length ?_ ?_
 ·intro _; exact ⟨0, 0, [], by omega, rfl, rfl, rfl, rfl, rfl, by simp, by omega, by simp [zao], rfl⟩
 ·rintro q t3 t4 t5 H' ⟨i, c, A, hi, rfl, rfl, rfl, rfl, hAl, hA, hc, hv, rfl⟩ hsc' hlen hsF Kb hKb
  by_cases hlt : i < L.length
  ·have hx := h32 L[i] (List.getElem_mem hlt)
   have w1 : IntKind.u64.wrap ((L[i] : Nat) : Int) = L[i] := zcb (by omega)
   obtain ⟨s, hs1⟩ : ∃ s, s = c + L[i] := ⟨_, rfl⟩
   have w2 : IntKind.u64.wrap ((c : Int) + (L[i] : Nat)) = (s : Int) := by rw [hs1, ← Int.natCast_add]; exact zcb (by omega)
   obtain ⟨x, c', hx1, hx2, hx3, e1, e2⟩ := zr8 s (by omega)
   simp only [ziJ]
   simp [hlt, w1, w2, e1, e2, hx3, zaz, zbq, zaD, AV.pd, zax, zaW, zaN, wi i (by omega)]
   refine ⟨⟨by omega, by omega⟩, ?_⟩
   rw [sN]
   refine hKb _ _ ⟨L.length - (i + 1), by omega, Back.here (by simp) (hs.append (by simp [AB.sc])) (by simp [ziK, ux, AV.sc, AV.scA, AV.scB, AV.scV]) ⟨_, _, _, rfl, i + 1, c', A ++ [x], by omega, rfl, rfl, rfl, rfl, by simp [hAl], ?_, by omega, ?_, by simp⟩⟩
   ·intro y hy
    rcases List.mem_append.1 hy with hy | hy
    ·exact hA y hy
    ·simp at hy; omega
   ·rw [zhx, zd1 L i hlt, ← hv, hAl, Nat.pow_succ]
    grind
  ·obtain rfl : i = L.length := by omega
   rw [List.take_length] at hv
   by_cases h0 : c = 0
   ·subst h0
    simp [ziJ]
    exact hend A hA (by simpa using hv) (by omega)
   ·simp only [ziJ]
    simp [show 0 < c by omega, zcK (show c < 4294967296 by omega), zaz, zbq, zaD, AV.pd, zax, zaW, zaN]
    refine ⟨⟨by omega, by omega⟩, ?_⟩
    rw [sN]
    have := hend (A ++ [c]) (fun y hy => by
     rcases List.mem_append.1 hy with hy | hy
     ·exact hA y hy
     ·simp at hy; omega) (by rw [zhx, hAl]; exact hv) (by simp; omega)
    simpa using this
theorem zsH {A B : List Nat} (hl : A.length = B.length) (hA : ∀ x ∈ A, x < 1000000000) (i : Nat) (hi : i < A.length) (hd : A.drop (i + 1) = B.drop (i + 1)) (hlt : A[i] < B[i]'(by omega)) : zao A < zao B := by
 have e1 : ∀ (l : List Nat) (h : i < l.length), zao l = zao (l.take i) + 1000000000 ^ i * (l[i] + 1000000000 * zao (l.drop (i + 1))) := by
  intro l h
  conv => lhs; rw [← List.take_append_drop i l, zhw, List.drop_eq_getElem_cons h, zao]
  rw [List.length_take, Nat.min_eq_left (by omega)]
 rw [e1 A hi, e1 B (by omega), hd]
 have h1 := zd0 (A.take i) (fun x hx => hA x (List.mem_of_mem_take hx))
 rw [List.length_take, Nat.min_eq_left (by omega)] at h1
 generalize hZ : zao (B.drop (i + 1)) = Z
 generalize A[i] = a at hlt ⊢
 generalize B[i] = b at hlt ⊢
 have h2 : 1000000000 ^ i * (a + 1000000000 * Z + 1) ≤ 1000000000 ^ i * (b + 1000000000 * Z) := Nat.mul_le_mul_left _ (by omega)
 rw [Nat.mul_succ] at h2
 omega
def zc2 (a b : Nat) : Int := if a < b then -1 else if b < a then 1 else 0
theorem zx2 (a b : Nat) (ha : (lim a).length ≤ 1000) (hb : (lim b).length ≤ 1000) (H : zaa) (K : Kt) (hK : K (.int .i64 (zc2 a b)) H) :
  ACalls tP zh0 [.sl (zaq (lim a)) .none, .sl (zaq (lim b)) .none] H K := by
 refine ACalls.out (zLb fun hs => ?_)
 have hO : ∀ r, r = zc2 a b → Out H.length K (.int .i64 r) H := fun r hr => Out.int (J := []) (by simp) (Nat.le_refl _) hs (by rw [hr]; exact hK)
 have lA := zct a
 have lB := zct b
 have vA := zbX a
 have vB := zbX b
 by_cases hne : (lim a).length = (lim b).length
 ·simp [zkX, hne]
  generalize hLA : lim a = A at *
  generalize hLB : lim b = B at *
  have hstart : IntKind.i64.wrap ((B.length : Int) - 1) = (B.length : Int) - 1 := zas (by omega) (by omega)
  rw [hstart]
  refine zK9 (Inv := fun q t5 H' => ∃ i : Nat, i ≤ B.length ∧ i = q ∧ t5 = .int .i64 ((i : Int) - 1) ∧ H' = H ∧ A.drop i = B.drop i) B.length ?_ ?_
  ·intro _; exact ⟨B.length, by omega, rfl, rfl, rfl, by rw [List.drop_of_length_le (by omega), List.drop_of_length_le (by omega)]⟩
  ·rintro q t5 H' ⟨i, hi, rfl, rfl, rfl, hd⟩ hsc' hlen hsF Kb hKb
   by_cases h0 : i = 0
   ·subst h0
    simp [zgZ]
    refine hO _ ?_
    simp at hd
    rw [← vA, ← vB, hd]
    simp [zc2]
   ·obtain ⟨j, rfl⟩ : ∃ j, i = j + 1 := ⟨i - 1, by omega⟩
    have hja : j < A.length := by omega
    have hjb : j < B.length := by omega
    have ej : ((j + 1 : Nat) : Int) - 1 = (j : Int) := by omega
    have hstep : IntKind.i64.wrap ((j : Int) - 1) = (j : Int) - 1 := zas (by omega) (by omega)
    rw [ej]
    rcases Nat.lt_trichotomy A[j] B[j] with h | h | h
    ·have := zsH hne lA j hja hd h
     simp [zgZ, hja, hjb, h]
     exact hO _ (by rw [← vA, ← vB]; simp [zc2, this])
    ·simp [zgZ, hja, hjb, h, hstep]
     refine hKb _ _ ⟨j, by omega, Back.here (by simp) hs (by simp [zkZ, ux, AV.sc, AV.scA, AV.scB, AV.scV]) ⟨_, rfl, j, by omega, rfl, rfl, rfl, ?_⟩⟩
     rw [List.drop_eq_getElem_cons hja, List.drop_eq_getElem_cons hjb, hd, h]
    ·have := zsH hne.symm lB j hjb hd.symm h
     simp [zgZ, hja, hjb, h, Nat.le_of_lt h, Nat.not_lt.2 (Nat.le_of_lt h)]
     exact hO _ (by rw [← vA, ← vB]; simp [zc2, this, Nat.not_lt.2 (Nat.le_of_lt this)])
 ·have hnb : (((lim a).length : Int) != ((lim b).length : Int)) = true := by simp; omega
  by_cases hlt : (lim a).length < (lim b).length
  ·have := zmn hlt
   simp [zkX, hnb, hlt]
   exact hO (-1) (by simp [zc2, this])
  ·have := zmn (show (lim b).length < (lim a).length by omega)
   simp [zkX, hnb, hlt]
   exact hO 1 (by simp [zc2, this, Nat.not_lt.2 (Nat.le_of_lt this)])
theorem zK6 (A B : List Nat) (lA : ∀ x ∈ A, x < 1000000000) (lB : ∀ x ∈ B, x < 1000000000) (ha : A.length ≤ 1000) (hb : B.length ≤ 1000) (H : zaa) (K : Kt)
  (cA : lim (zao A) = A) (cB : lim (zao B) = B) (hK : K (.sl (zaq (lim (zao A + zao B))) .none) H) :
  ACalls tP zm5 [.sl (zaq A) .none, .sl (zaq B) .none] H K := by
 refine ACalls.out (zK4 fun hs => ?_)
 unfold zx0 zkW
 refine ALoop.own 5 zce 1 rfl ?_
 show zkW (.sl (zaq A) .none) (.sl (zaq B) .none) (.sl [] (.own H.length)) (.int .u32 0) (.int .i64 0) (H ++ [.perm zce 1 0]) (Out H.length K)
 refine zK2 (Inv := fun q t5 t6 t7 H' => ∃ (i c : Nat) (R : List Nat), 2002 - i = q ∧ i ≤ 1001 ∧ t7 = .int .i64 i ∧ t6 = .int .u32 c ∧ t5 = .sl (zaq R) (.own H.length) ∧ R.length = i ∧ (∀ x ∈ R, x < 1000000000) ∧ c ≤ 1 ∧
  (max A.length B.length < i → c = 0 ∧ 1000000000 ^ (i - 1) ≤ zao R) ∧ zao R + 1000000000 ^ i * c = zao (A.take i) + zao (B.take i) ∧ H' = H ++ [.perm zce 1 R.length]) 2002 ?_ ?_
 ·intro _; exact ⟨0, 0, [], rfl, by omega, rfl, rfl, rfl, rfl, by simp, by omega, by omega, by simp [zao], rfl⟩
 ·rintro q t5 t6 t7 H' ⟨i, c, R, rfl, hi, rfl, rfl, rfl, hRl, hR, hc, hmx, hv, rfl⟩ hsc' hlen hsF Kb hKb
  have hbit : ∀ (s : Nat), s ≤ 2 * 999999999 + 1 → i ≤ 1000 → s + 1000000000 ^ 0 * 0 = c + (if h : i < A.length then A[i] else 0) + (if h : i < B.length then B[i] else 0) → (max A.length B.length < i + 1 → s = 1) →
    zkV (.sl (zaq A) .none) (.sl (zaq B) .none) (.sl (zaq R) (.own H.length)) (.int .i64 i) (.int .u32 s) (H ++ [.perm zce 1 R.length]) (Out H.length K) Kb := by
   intro s hs1 hi2 hs2 hs3
   obtain ⟨x, c', hx1, hx2, e1, e2⟩ := zzL s (by omega)
   simp only [zkV]
   simp [e1, e2, zaz, zbq, zaD, AV.pd, zax, zaW, zaN, wi i (by omega)]
   refine ⟨⟨by omega, by omega⟩, ?_⟩
   rw [sN]
   have tk : ∀ L : List Nat, zao (L.take (i + 1)) = zao (L.take i) + (if h : i < L.length then L[i] else 0) * 1000000000 ^ i := by
    intro L
    by_cases h : i < L.length
    ·rw [dif_pos h, zd1 L i h]
    ·rw [dif_neg h, List.take_of_length_le (by omega), List.take_of_length_le (by omega)]; simp
   refine hKb _ _ ⟨2002 - (i + 1), by omega, Back.here (by simp) (hs.append (by simp [AB.sc])) (by simp [zkU, ux, AV.sc, AV.scA, AV.scB, AV.scV]) ⟨_, _, _, rfl, i + 1, c', R ++ [x], rfl, by omega, rfl, rfl, rfl, by simp [hRl], ?_, by omega, ?_, ?_, by simp⟩⟩
   ·intro y hy
    rcases List.mem_append.1 hy with hy | hy
    ·exact hR y hy
    ·simp at hy; omega
   ·intro h
    have := hs3 h
    refine ⟨by omega, ?_⟩
    obtain rfl : x = 1 := by omega
    rw [zhx, hRl, Nat.add_sub_cancel]
    omega
   ·rw [zhx, tk A, tk B, hRl, Nat.pow_succ]
    simp only [Nat.pow_zero, Nat.mul_zero, Nat.add_zero] at hs2
    generalize (if h : i < A.length then A[i] else 0) = u at *
    generalize (if h : i < B.length then B[i] else 0) = v at *
    grind
  by_cases hA : i < A.length
  ·have hxa := lA A[i] (List.getElem_mem hA)
   by_cases hB : i < B.length
   ·have hxb := lB B[i] (List.getElem_mem hB)
    obtain ⟨s1, hs1⟩ : ∃ s, s = c + A[i] := ⟨_, rfl⟩
    have w1 : IntKind.u32.wrap ((c : Int) + (A[i] : Nat)) = (s1 : Int) := by rw [hs1, ← Int.natCast_add]; exact zcK (by omega)
    obtain ⟨s2, hs2⟩ : ∃ s, s = s1 + B[i] := ⟨_, rfl⟩
    have w2 : IntKind.u32.wrap ((s1 : Int) + (B[i] : Nat)) = (s2 : Int) := by rw [hs2, ← Int.natCast_add]; exact zcK (by omega)
    simp [zfA, zfB, hA, hB, w1, w2]
    exact hbit s2 (by omega) (by omega) (by simp [hA, hB]; omega) (by omega)
   ·obtain ⟨s1, hs1⟩ : ∃ s, s = c + A[i] := ⟨_, rfl⟩
    have w1 : IntKind.u32.wrap ((c : Int) + (A[i] : Nat)) = (s1 : Int) := by rw [hs1, ← Int.natCast_add]; exact zcK (by omega)
    simp [zfA, zfB, hA, hB, w1]
    exact hbit s1 (by omega) (by omega) (by simp [hA, hB]; omega) (by omega)
  ·by_cases hB : i < B.length
   ·have hxb := lB B[i] (List.getElem_mem hB)
    obtain ⟨s2, hs2⟩ : ∃ s, s = c + B[i] := ⟨_, rfl⟩
    have w2 : IntKind.u32.wrap ((c : Int) + (B[i] : Nat)) = (s2 : Int) := by rw [hs2, ← Int.natCast_add]; exact zcK (by omega)
    simp [zfA, zfB, hA, hB, w2]
    exact hbit s2 (by omega) (by omega) (by simp [hA, hB]; omega) (by omega)
   ·by_cases h0 : c = 0
    ·subst h0
     simp [zfA, hA, hB]
     rw [List.take_of_length_le (by omega), List.take_of_length_le (by omega)] at hv
     have hv' : zao R = zao A + zao B := by simpa using hv
     rw [← hv'] at hK
     have hcan : R = lim (zao R) := by
      refine zzq hR ?_
      by_cases hm : max A.length B.length < i
      ·have := zsC (hmx hm).2
       omega
      ·by_cases hi0 : i = 0
       ·omega
       ·have hmm : i = max A.length B.length := by omega
        have hge : 1000000000 ^ (i - 1) ≤ zao R := by
         by_cases hAB : B.length ≤ A.length
         ·have : i = A.length := by omega
          have h3 := zml (n := zao A) (by intro h; have hl0 := congrArg List.length cA; rw [h] at hl0; simp at hl0; omega)
          rw [cA, ← this] at h3
          omega
         ·have : i = B.length := by omega
          have h3 := zml (n := zao B) (by intro h; have hl0 := congrArg List.length cB; rw [h] at hl0; simp at hl0; omega)
          rw [cB, ← this] at h3
          omega
        have := zsC hge
        omega
     rw [← hcan] at hK
     exact Out.one hs (.atom (.sl _ _)) rfl rfl hK
    ·have : i ≤ 1000 := by
      refine Nat.le_of_not_lt fun h => ?_
      exact h0 (hmx (by omega)).1
     simp [zfA, zfB, hA, hB, show 0 < c by omega]
     exact hbit c (by omega) this (by simp [hA, hB]) (by omega)
def us (l : List Nat) : List AV := l.map fun (n : Nat) => AV.int .u32 (n : Int)
@[simp] theorem zRc (l : List Nat) : (us l).length = l.length := by simp [us]
theorem zCj (l : List Nat) : (zaq l).flatten = us l := by induction l with
 | nil => rfl
 | cons x l ih => simp only [zaq, us, List.map_cons, List.flatten_cons] at ih ⊢; rw [ih]; rfl
theorem zuD : ∀ (l : List Nat), zaD (us l) = some (us l)
 | [] => rfl
 | x :: l => by simp only [us, List.map_cons, zaD, AV.pd]; rw [show zaD (List.map (fun n : Nat => AV.int .u32 (n : Int)) l) = some (us l) from zuD l]; rfl
theorem zCk (l : List Nat) (i : Nat) (h : i < l.length) : (us l)[i]? = some (.int .u32 ((l[i] : Nat) : Int)) := by simp [us, h]
theorem zuE (l : List Nat) (i x : Nat) (h : i < l.length) : (us l).take i ++ [AV.int .u32 (x : Int)] ++ (us l).drop (i + 1) = us (l.set i x) := by
 simp only [us, ← List.map_take, ← List.map_drop]
 rw [List.set_eq_take_append_cons_drop, if_pos h]
 simp
theorem znT (n : Nat) : List.replicate n (AV.int .u32 0) = us (List.replicate n 0) := by simp [us]
theorem zrl {k : AV → Prop} (l : List Nat) (i : Nat) (h : i < l.length) : za9 false 1 i (us l) k = k (.int .u32 ((l[i] : Nat) : Int)) := by
 simp [za9, zCk l i h]
theorem zl4 (L : List Nat) (hL : ∀ x ∈ L, x < 1000000000) (hl : L.length ≤ 100000) {id : Nat} {H : zaa} {K : Kt} (hid : H[id]? = some (.cells (us L))) (hK : K (.sl (zaq (lim (zao L))) .none) (H.set id .dead)) :
  ACalls tP zd4 [.ms id 0 L.length L.length] H K := by
 refine ACalls.frz id 0 L.length L.length 1 (us L) (zaq L) hid (by simp) ?_ (by simp) (ziB L) (Nat.le_refl _) (args' := [.sl (zaq L) .none]) ⟨.one .ms, trivial⟩ ?_
 ·rw [List.drop_zero, List.take_of_length_le (by simp), zCj, zuD]
 ·refine zn5 L (by omega) _ _ ?_
  rw [zgG L hL]; exact hK
theorem zKZ (A B : List Nat) (lA : ∀ x ∈ A, x < 1000000000) (lB : ∀ x ∈ B, x < 1000000000) (ha : A.length ≤ 1000) (hb : B.length ≤ 1000) (H : zaa) (K : Kt)
  (hK : K (.sl (zaq (lim (zao A * zao B))) .none) H) :
  ACalls tP zcH [.sl (zaq A) .none, .sl (zaq B) .none] H K := by
 refine ACalls.out (zKX fun hs => ?_)
 have hw : IntKind.i64.wrap (IntKind.i64.wrap ((A.length : Int) + B.length) + 1) = ((A.length + B.length + 1 : Nat) : Int) := by
  rw [zas (n := (A.length : Int) + B.length) (by omega) (by omega), zas (by omega) (by omega)]; omega
 simp [zxV, hw, zbe]
 have hN : ((A.length : Int) + B.length + 1).toNat = A.length + B.length + 1 := by omega
 rw [hN, znT]
 refine ⟨⟨by omega, by omega, by omega⟩, ?_⟩
 have hsc : ∀ O : List Nat, HSc (H ++ [.cells (us O)]) := fun O => hs.append (by simp [AB.sc, us, AV.scA, AV.scB])
 have hBlt := zd0 B lB
 refine zKU (Inv := fun q t6 H' => ∃ (i : Nat) (O : List Nat), i ≤ A.length ∧ A.length - i = q ∧ t6 = .int .i64 i ∧ O.length = A.length + B.length + 1 ∧ (∀ x ∈ O, x < 1000000000) ∧ zao O = zao (A.take i) * zao B ∧ H' = H ++ [.cells (us O)]) A.length ?_ ?_
 ·intro _; exact ⟨0, _, by omega, rfl, rfl, by simp, by simp, by rw [zAf]; simp [zao], rfl⟩
 ·rintro q t6 H' ⟨i, O, hi, rfl, rfl, hOl, hO, hv, rfl⟩ hsc' hlen hsF Kb hKb
  by_cases hlt : i < A.length
  ·have hxa := lA A[i] (List.getElem_mem hlt)
   simp [zqk, hlt]
   refine zKV (Inv := fun q t7 t8 H' => ∃ (k c : Nat) (R : List Nat), k ≤ B.length + 1 ∧ B.length + 1 - k = q ∧ t8 = .int .i64 k ∧ t7 = .int .u64 c ∧ R.length = A.length + B.length + 1 ∧ (∀ x ∈ R, x < 1000000000) ∧ c < 1000000000 ∧ (B.length < k → c = 0) ∧
    zao R + c * 1000000000 ^ (i + k) = zao O + A[i] * zao (B.take k) * 1000000000 ^ i ∧ H' = H ++ [.cells (us R)]) (B.length + 1) ?_ ?_
   ·intro _; exact ⟨0, 0, O, by omega, rfl, rfl, rfl, hOl, hO, by omega, by omega, by simp [zao], rfl⟩
   ·rintro q t7 t8 H' ⟨k, c, R, hk, rfl, rfl, rfl, hRl, hR, hc, hmx, hr, rfl⟩ hsc'' hlen' hsF' Kb2 hKb2
    have hik : IntKind.i64.wrap ((i : Int) + k) = ((i + k : Nat) : Int) := by rw [zas (by omega) (by omega)]; omega
    have hstep : ∀ s : Nat, s < 1000000000 * 1000000000 → (hR2 : i + k < R.length) → k ≤ B.length → s = c + R[i + k] + A[i] * (if h : k < B.length then B[k] else 0) →
      zkS (.sl (zaq A) .none) (.sl (zaq B) .none) (.ms H.length 0 (A.length + B.length + 1) (A.length + B.length + 1)) (.int .i64 i) (.int .u64 s) (.int .i64 k) (H ++ [.cells (us R)]) (Out H.length K) Kb Kb2 := by
     intro s hs1 hR2 hkB hs2
     obtain ⟨x, c', hx1, hx2, hx3, e1, e2⟩ := zr8 s (by omega)
     have hlt2 : i + k < A.length + B.length + 1 := by omega
     have hset := zuE R (i + k) x hR2
     simp only [zkS]
     simp [hik, e1, e2, hx3, wi k (by omega), hlt2]
     have eT : ((i : Int) + k).toNat = i + k := by omega
     rw [eT]
     refine ⟨⟨by omega, by omega⟩, by omega, ?_⟩
     have hset' : List.take (i + k) (us R) ++ AV.int .u32 (x : Int) :: List.drop (i + k + 1) (us R) = us (R.set (i + k) x) := by rw [← hset]; simp
     rw [hset']
     have hb1 : zao (B.take (k + 1)) = zao (B.take k) + (if h : k < B.length then B[k] else 0) * 1000000000 ^ k := by
      by_cases h : k < B.length
      ·rw [dif_pos h, zd1 B k h]
      ·rw [dif_neg h, List.take_of_length_le (by omega), List.take_of_length_le (by omega)]; simp
     have hls := zsI R (i + k) x hR2
     have hmain : zao (R.set (i + k) x) + c' * 1000000000 ^ (i + (k + 1)) = zao O + A[i] * zao (B.take (k + 1)) * 1000000000 ^ i := by
      rw [hb1, show i + (k + 1) = i + k + 1 by omega, Nat.pow_succ]
      rw [Nat.pow_add] at hr hls ⊢
      rw [hs2] at hx2
      clear hset hset' e1 e2 hx3 hs2 hb1 hKb hKb2 hsc' hsc'' hsF hsF' hBlt hK hs
      generalize (if h : k < B.length then B[k] else 0) = b at *
      generalize zao (R.set (i + k) x) = vS at *
      generalize R[i + k] = r at *
      generalize A[i] = a at *
      generalize zao (List.take k B) = T at *
      generalize 1000000000 ^ i = P at *
      generalize 1000000000 ^ k = Q at *
      generalize zao R = vR at *
      generalize zao O = vO at *
      grind
     have hc1 : c' < 1000000000 := by
      refine Nat.lt_of_not_le fun h => ?_
      have := Nat.mul_le_mul_left 1000000000 h
      omega
     refine hKb2 _ _ ⟨B.length + 1 - (k + 1), by omega, Back.here (by simp) (hsc _) (by simp [zkR, ux, AV.sc, AV.scA, AV.scB, AV.scV]) ⟨_, _, rfl, k + 1, c', R.set (i + k) x, by omega, rfl, by simp, rfl, by simp [hRl], ?_, hc1, ?_, hmain, rfl⟩⟩
     ·intro y hy
      rcases List.mem_or_eq_of_mem_set hy with hy | rfl
      ·exact hR y hy
      ·exact hx1
     ·intro hkl
      obtain rfl : k = B.length := by omega
      have htot : zao O + A[i] * zao (B.take (B.length + 1)) * 1000000000 ^ i = zao (A.take (i + 1)) * zao B := by
       rw [List.take_of_length_le (by omega), zd1 A i hlt, hv]
       grind
      rw [htot] at hmain
      have hAl := zd0 (A.take (i + 1)) (fun y hy => lA y (List.mem_of_mem_take hy))
      rw [List.length_take, Nat.min_eq_left (by omega)] at hAl
      have hp := Nat.mul_lt_mul'' hAl hBlt
      rw [← Nat.pow_add] at hp
      refine Nat.eq_zero_of_not_pos fun hpos => ?_
      have h3 : 1 * 1000000000 ^ (i + (B.length + 1)) ≤ c' * 1000000000 ^ (i + (B.length + 1)) := Nat.mul_le_mul_right _ hpos
      rw [show i + 1 + B.length = i + (B.length + 1) by omega] at hp
      omega
    by_cases hkb : k < B.length
    ·have hR2 : i + k < R.length := by omega
     have hxb := lB B[k] (List.getElem_mem hkb)
     have hxr := hR R[i + k] (List.getElem_mem hR2)
     have eT : ((i : Int) + k).toNat = i + k := by omega
     have w1 : IntKind.u64.wrap ((R[i + k] : Nat) : Int) = R[i + k] := zcb (by omega)
     have w2 : IntKind.u64.wrap ((A[i] : Nat) : Int) = A[i] := zcb (by omega)
     have w3 : IntKind.u64.wrap ((B[k] : Nat) : Int) = B[k] := zcb (by omega)
     have hmul : A[i] * B[k] ≤ 999999999 * 999999999 := Nat.mul_le_mul (by omega) (by omega)
     obtain ⟨m, hm⟩ : ∃ m, m = A[i] * B[k] := ⟨_, rfl⟩
     have w4 : IntKind.u64.wrap (((A[i] : Nat) : Int) * (B[k] : Nat)) = (m : Int) := by rw [hm, ← Int.natCast_mul]; exact zcb (by omega)
     obtain ⟨s1, hs1⟩ : ∃ s, s = c + R[i + k] := ⟨_, rfl⟩
     have w5 : IntKind.u64.wrap ((c : Int) + (R[i + k] : Nat)) = (s1 : Int) := by rw [hs1, ← Int.natCast_add]; exact zcb (by omega)
     obtain ⟨s2, hs2⟩ : ∃ s, s = s1 + m := ⟨_, rfl⟩
     have w6 : IntKind.u64.wrap ((s1 : Int) + (m : Int)) = (s2 : Int) := by rw [hs2, ← Int.natCast_add]; exact zcb (by omega)
     have := hstep s2 (by omega) hR2 (by omega) (by rw [hs2, hs1, hm, dif_pos hkb])
     simp [zkP, hkb, hik, eT, w2, w3, w4]
     refine ⟨⟨by omega, by omega⟩, ?_⟩
     rw [zrl R _ hR2]
     simp [w1, w2, w3, w4, w5, w6, hlt, hkb]
     exact this
    ·by_cases h0 : c = 0
     ·subst h0
      simp [zkP, hkb, wi i (by omega)]
      refine hKb _ _ ⟨A.length - (i + 1), by omega, Back.here (by simp) (hsc _) (by simp [zkQ, ux, AV.sc, AV.scA, AV.scB, AV.scV]) ⟨_, rfl, i + 1, R, by omega, rfl, rfl, hRl, hR, ?_, rfl⟩⟩
      rw [List.take_of_length_le (by omega)] at hr
      rw [zd1 A i hlt]
      rw [hv] at hr
      grind
     ·have hk2 : k = B.length := by
       refine Nat.le_antisymm (Nat.le_of_not_lt fun h => h0 (hmx h)) (by omega)
      have hR2 : i + k < R.length := by omega
      have hxr := hR R[i + k] (List.getElem_mem hR2)
      have eT : ((i : Int) + k).toNat = i + k := by omega
      have w1 : IntKind.u64.wrap ((R[i + k] : Nat) : Int) = R[i + k] := zcb (by omega)
      obtain ⟨s1, hs1⟩ : ∃ s, s = c + R[i + k] := ⟨_, rfl⟩
      have w5 : IntKind.u64.wrap ((c : Int) + (R[i + k] : Nat)) = (s1 : Int) := by rw [hs1, ← Int.natCast_add]; exact zcb (by omega)
      have := hstep s1 (by omega) hR2 (by omega) (by rw [hs1, dif_neg hkb]; omega)
      simp [zkP, hkb, hik, eT, show 0 < c by omega]
      refine ⟨⟨by omega, by omega⟩, ?_⟩
      rw [zrl R _ hR2]
      simp [w1, w5]
      exact this
  ·obtain rfl : i = A.length := by omega
   rw [List.take_length] at hv
   simp [zqk]
   rw [← hOl]
   refine zl4 O hO (by omega) (by simp) ?_
   rw [hv]
   simp
   exact Out.one hs (.atom (.sl _ _)) rfl rfl hK
theorem znS (O : List Nat) (i x : Nat) (h : i < O.length) : List.take i (us O) ++ AV.int .u32 (x : Int) :: List.drop (i + 1) (us O) = us (O.set i x) := by rw [← zuE O i x h]; simp
theorem ztW {O : List Nat} (hO : ∀ x ∈ O, x < 1000000000) {i x : Nat} (hx : x < 1000000000) : ∀ y ∈ O.set i x, y < 1000000000 := by
 intro y hy
 rcases List.mem_or_eq_of_mem_set hy with hy | rfl
 ·exact hO y hy
 ·exact hx
theorem zLj (A B : List Nat) (lA : ∀ x ∈ A, x < 1000000000) (lB : ∀ x ∈ B, x < 1000000000) (ha : A.length ≤ 1000) (hb : B.length ≤ A.length) (hle : zao B ≤ zao A) (H : zaa) (K : Kt)
  (hK : K (.sl (zaq (lim (zao A - zao B))) .none) H) :
  ACalls tP zgp [.sl (zaq A) .none, .sl (zaq B) .none] H K := by
 refine ACalls.out (zLh fun hs => ?_)
 simp [zx3, zbe]
 rw [znT]
 refine ⟨⟨by omega, by omega⟩, ?_⟩
 have hsc : ∀ O : List Nat, HSc (H ++ [.cells (us O)]) := fun O => hs.append (by simp [AB.sc, us, AV.scA, AV.scB])
 have tk : ∀ i, zao (B.take (i + 1)) = zao (B.take i) + (if h : i < B.length then B[i] else 0) * 1000000000 ^ i := by
  intro i
  by_cases h : i < B.length
  ·rw [dif_pos h, zd1 B i h]
  ·rw [dif_neg h, List.take_of_length_le (by omega), List.take_of_length_le (by omega)]; simp
 refine zLf (Inv := fun q t6 t7 H' => ∃ (i w : Nat) (O : List Nat), i ≤ A.length ∧ A.length - i = q ∧ t7 = .int .i64 i ∧ t6 = .int .u32 w ∧ w ≤ 1 ∧ O.length = A.length ∧ (∀ x ∈ O, x < 1000000000) ∧
  zao (O.take i) + zao (B.take i) = zao (A.take i) + w * 1000000000 ^ i ∧ H' = H ++ [.cells (us O)]) A.length ?_ ?_
 ·intro _; exact ⟨0, 0, _, by omega, rfl, rfl, rfl, by omega, by simp, by simp, by simp [zao], rfl⟩
 ·rintro q t6 t7 H' ⟨i, w, O, hi, rfl, rfl, rfl, hw, hOl, hO, hv, rfl⟩ hsc' hlen hsF Kb hKb
  by_cases hlt : i < A.length
  ·have hxa := lA A[i] (List.getElem_mem hlt)
   have hOi : i < O.length := by omega
   have hstep : ∀ s : Nat, s ≤ 1000000000 → s = w + (if h : i < B.length then B[i] else 0) →
     zg1 (.sl (zaq A) .none) (.sl (zaq B) .none) (.ms H.length 0 A.length A.length) (.int .i64 i) (.int .u32 s) (H ++ [.cells (us O)]) (Out H.length K) Kb := by
    intro s hs1 hs2
    have hpw : 1000000000 ^ (i + 1) = 1000000000 ^ i * 1000000000 := Nat.pow_succ ..
    have fin : ∀ (x w' : Nat), x < 1000000000 → w' ≤ 1 → x + s = A[i] + w' * 1000000000 →
      Kb (zg0 (.sl (zaq A) .none) (.sl (zaq B) .none) (.ms H.length 0 A.length A.length) (.int .u32 w') (.int .i64 ((i : Int) + 1))) (H ++ [.cells (us (O.set i x))]) := by
     intro x w' hx hw' he
     refine hKb _ _ ⟨A.length - (i + 1), by omega, Back.here (by simp) (hsc _) (by simp [zg0, ux, AV.sc, AV.scA, AV.scB, AV.scV]) ⟨_, _, rfl, i + 1, w', O.set i x, by omega, rfl, by simp, rfl, hw', by simp [hOl], ztW hO hx, ?_, rfl⟩⟩
     rw [zd1 (O.set i x) i (by simpa using hOi), tk i, zd1 A i hlt, List.take_set_of_le (Nat.le_refl _), List.getElem_set_self, hpw]
     generalize (if h : i < B.length then B[i] else 0) = b at *
     grind
    by_cases hge : s ≤ A[i]
    ·have w1 : IntKind.u32.wrap (((A[i] : Nat) : Int) - (s : Int)) = ((A[i] - s : Nat) : Int) := by rw [← Int.natCast_sub hge]; exact zcK (by omega)
     obtain ⟨x, hx⟩ : ∃ x, x = A[i] - s := ⟨_, rfl⟩
     rw [← hx] at w1
     have := fin x 0 (by omega) (by omega) (by omega)
     simp only [zg1, zk2, zqq]
     simp [hlt, hge, w1, wi i (by omega), znS O i x hOi, hOl]
     exact ⟨by omega, by simpa using this⟩
    ·have w1 : IntKind.u32.wrap (((A[i] : Nat) : Int) + 1000000000) = ((A[i] + 1000000000 : Nat) : Int) := by
      rw [show ((A[i] : Nat) : Int) + 1000000000 = ((A[i] + 1000000000 : Nat) : Int) by omega]; exact zcK (by omega)
     obtain ⟨x, hx⟩ : ∃ x, x = A[i] + 1000000000 - s := ⟨_, rfl⟩
     have w2 : IntKind.u32.wrap (((A[i] : Nat) : Int) + 1000000000 - (s : Int)) = (x : Int) := by
      rw [show ((A[i] : Nat) : Int) + 1000000000 - (s : Int) = (x : Int) by omega]; exact zcK (by omega)
     have := fin x 1 (by omega) (by omega) (by omega)
     simp only [zg1, zk2, zqq]
     simp [hlt, hge, w1, w2, wi i (by omega), znS O i x hOi, hOl]
     exact ⟨by omega, by simpa using this⟩
   by_cases hB : i < B.length
   ·have hxb := lB B[i] (List.getElem_mem hB)
    obtain ⟨s, hs1⟩ : ∃ s, s = w + B[i] := ⟨_, rfl⟩
    have w1 : IntKind.u32.wrap ((w : Int) + (B[i] : Nat)) = (s : Int) := by rw [hs1, ← Int.natCast_add]; exact zcK (by omega)
    have := hstep s (by omega) (by rw [hs1, dif_pos hB])
    simp [zk1, hlt, hB, w1]
    exact this
   ·have := hstep w (by omega) (by rw [dif_neg hB]; rfl)
    simp [zk1, hlt, hB]
    exact this
  ·obtain rfl : i = A.length := by omega
   rw [List.take_length, List.take_of_length_le (by omega), List.take_of_length_le (by omega)] at hv
   have hOlt := zd0 O hO
   rw [hOl] at hOlt
   have hw0 : w = 0 := by
    refine Nat.eq_zero_of_not_pos fun h => ?_
    have : w = 1 := by omega
    subst this
    omega
   subst hw0
   simp [zk1]
   rw [← hOl]
   refine zl4 O hO (by omega) (by simp) ?_
   rw [show zao O = zao A - zao B by omega]
   simp
   exact Out.one hs (.atom (.sl _ _)) rfl rfl hK
theorem zEx (A : List Nat) (lA : ∀ x ∈ A, x < 1000000000) (ha : A.length ≤ 1000) (d : Nat) (hd0 : 0 < d) (hd : d < 4294967296) (hdB : d ≤ 1000000000) (H : zaa) (K : Kt)
  (hK : K (.tup [.sl (zaq (lim (zao A / d))) .none, .int .u64 ((zao A % d : Nat) : Int)]) H) :
  ACalls tP zmz [.sl (zaq A) .none, .int .u64 d] H K := by
 refine ACalls.out (zEv fun hs => ?_)
 have hst : IntKind.i64.wrap ((A.length : Int) - 1) = (A.length : Int) - 1 := zas (by omega) (by omega)
 simp [zvn, zbe, hst]
 rw [znT]
 refine ⟨⟨by omega, by omega⟩, ?_⟩
 have hsc : ∀ O : List Nat, HSc (H ++ [.cells (us O)]) := fun O => hs.append (by simp [AB.sc, us, AV.scA, AV.scB])
 refine zEt (Inv := fun q t7 t8 H' => ∃ (i r : Nat) (O : List Nat), i ≤ A.length ∧ i = q ∧ t8 = .int .i64 ((i : Int) - 1) ∧ t7 = .int .u64 r ∧ r < d ∧ O.length = A.length ∧ (∀ x ∈ O, x < 1000000000) ∧
  zao (A.drop i) = d * zao (O.drop i) + r ∧ H' = H ++ [.cells (us O)]) A.length ?_ ?_
 ·intro _; exact ⟨A.length, 0, _, by omega, rfl, rfl, rfl, by omega, by simp, by simp, by simp [zao], rfl⟩
 ·rintro q t7 t8 H' ⟨i, r, O, hi, rfl, rfl, rfl, hr, hOl, hO, hv, rfl⟩ hsc' hlen hsF Kb hKb
  by_cases h0 : i = 0
  ·subst h0
   simp [zor]
   rw [List.drop_zero, List.drop_zero] at hv
   rw [← hOl]
   refine zl4 O hO (by omega) (by simp) ?_
   have e1 : zao A / d = zao O := by rw [hv, Nat.mul_add_div hd0, Nat.div_eq_of_lt hr]; simp
   have e2 : zao A % d = r := by rw [hv, Nat.mul_add_mod, Nat.mod_eq_of_lt hr]
   rw [e1, e2] at hK
   simp
   exact ⟨⟨rfl, rfl⟩, Out.tup (bs := [.sl (zaq (lim (zao O))) .none, .int .u64 (r : Int)]) hs hK ⟨slV, zaZ rfl rfl, trivial⟩⟩
  ·obtain ⟨j, rfl⟩ : ∃ j, i = j + 1 := ⟨i - 1, by omega⟩
   have hja : j < A.length := by omega
   have hjO : j < O.length := by omega
   have hxa := lA A[j] (List.getElem_mem hja)
   have ej : ((j + 1 : Nat) : Int) - 1 = (j : Int) := by omega
   have hstep : IntKind.i64.wrap ((j : Int) - 1) = (j : Int) - 1 := zas (by omega) (by omega)
   have hrB : r * 1000000000 ≤ 1000000000 * 1000000000 := Nat.mul_le_mul_right _ (by omega)
   obtain ⟨m, hm⟩ : ∃ m, m = r * 1000000000 := ⟨_, rfl⟩
   have w1 : IntKind.u64.wrap ((r : Int) * 1000000000) = (m : Int) := by rw [show (r : Int) * 1000000000 = (m : Int) by omega]; exact zcb (by omega)
   have w2 : IntKind.u64.wrap ((A[j] : Nat) : Int) = A[j] := zcb (by omega)
   obtain ⟨s, hs1⟩ : ∃ s, s = m + A[j] := ⟨_, rfl⟩
   have w3 : IntKind.u64.wrap ((m : Int) + (A[j] : Nat)) = (s : Int) := by rw [hs1, ← Int.natCast_add]; exact zcb (by omega)
   obtain ⟨x, c, hx1, hx2, e1, e2⟩ := zzM s d hd0 (by omega)
   have hcB : c < 1000000000 := by
    refine Nat.lt_of_not_le fun h => ?_
    have h1 : d * 1000000000 ≤ d * c := Nat.mul_le_mul_left _ h
    have h2 : r * 1000000000 + 1000000000 ≤ d * 1000000000 := by
     rw [← Nat.succ_mul]; exact Nat.mul_le_mul_right _ hr
    omega
   have w4 : IntKind.u32.wrap (c : Int) = c := zcK (by omega)
   rw [ej]
   simp only [zor]
   simp [hja, w1, w2, w3, e1, e2, w4, hstep, znS O j c hjO, hOl]
   refine ⟨by omega, hKb _ _ ⟨j, by omega, Back.here (by simp) (hsc _) (by simp [zjg, ux, AV.sc, AV.scA, AV.scB, AV.scV]) ⟨_, _, rfl, j, x, O.set j c, by omega, rfl, rfl, rfl, hx1, by simp [hOl], ztW hO hcB, ?_, rfl⟩⟩⟩
   rw [zsG A j hja, zsG (O.set j c) j (by simpa using hjO), List.getElem_set_self, List.drop_set_of_lt (by omega), hv]
   rw [hs1, hm] at hx2
   generalize zao (O.drop (j + 1)) = Z at *
   grind
end Go.Proofs.YtjkkonpjecoieaaGreat
