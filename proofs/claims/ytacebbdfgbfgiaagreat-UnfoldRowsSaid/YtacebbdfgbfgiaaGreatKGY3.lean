import Derived.Test.YtacebbdfgbfgiaaGreatIT
import Derived.Test.YtacebbdfgbfgiaaGreatVO
import Derived.Test.YtacebbdfgbfgiaaGreatKGX
import Derived.Test.YtacebbdfgbfgiaaGreatKNum
import Derived.Test.YtacebbdfgbfgiaaGreatProg
import Derived.KernelRfl
set_option linter.unusedSimpArgs false
set_option linter.unusedVariables false
namespace Go.Abs
open Go
def fill : List IT → List Nat → List IT → List IT
 | row, p :: ps, x :: xs => fill (row.set p x) ps xs
 | row, _, _ => row
@[simp] theorem zJc (row xs : List IT) : fill row [] xs = row := by cases xs <;> rfl
@[simp] theorem zfb : ∀ (row : List IT) (ps : List Nat) (xs : List IT), (fill row ps xs).length = row.length
 | row, p :: ps, x :: xs => by rw [fill, zfb]; simp
 | row, [], _ => by simp [fill]
 | row, _ :: _, [] => by simp [fill]
theorem zo8 : ∀ (ps : List Nat) (row xs : List IT) (p : Nat) (y : IT), p ∉ ps → fill (row.set p y) ps xs = (fill row ps xs).set p y
 | [], row, xs, p, y, _ => by simp
 | q :: ps, row, [], p, y, _ => by simp [fill]
 | q :: ps, row, x :: xs, p, y, h => by
  simp only [List.mem_cons, not_or] at h
  rw [fill, fill, List.set_comm _ _ h.1, zo8 ps _ _ _ _ h.2]
theorem zo6 : ∀ (ps : List Nat) (row asx bs : List IT), ps.Nodup → asx.length = ps.length → bs.length = ps.length → fill (fill row ps asx) ps bs = fill row ps bs
 | [], row, asx, bs, _, _, _ => by simp
 | p :: ps, row, a :: asx, b :: bs, h, ha, hb => by
  rw [List.nodup_cons] at h
  rw [fill, fill, fill, ← zo8 ps _ _ _ _ h.1, List.set_set, zo6 ps _ _ _ h.2 (by simpa using ha) (by simpa using hb)]
 | p :: ps, row, [], _, _, ha, _ => by simp at ha
 | p :: ps, row, _ :: _, [], _, _, hb => by simp at hb
def za1 : List IT → Nat → List (List (List IT))
 | l, 0 => if l.isEmpty then [[]] else []
 | l, n + 1 => (List.range (l.length + 1)).flatMap fun k => (za1 (l.drop k) n).map fun r => l.take k :: r
def zaN : List IT → List Nat → List IT → List (List IT)
 | row, [], l => if l.isEmpty then [row] else []
 | row, p :: ps, l => (List.range (l.length + 1)).flatMap fun n => zaN (row.set p (.mk 0 (l.take n))) ps (l.drop n)
theorem zep : ∀ (ps : List Nat) (row l : List IT), zaN row ps l = (za1 l ps.length).map fun r => fill row ps (r.map (IT.mk 0))
 | [], row, l => by
  simp only [zaN, List.length_nil, za1]
  split <;> simp
 | p :: ps, row, l => by
  simp only [zaN, List.length_cons, za1, List.map_flatMap, List.map_map]
  congr 1
  funext n
  rw [zep]
  rfl
theorem zhe : ∀ (n : Nat) (l : List IT), ∀ r ∈ za1 l n, r.length = n
 | 0, l, r, h => by
  simp only [za1] at h
  split at h <;> simp at h
  simp [h]
 | n + 1, l, r, h => by
  simp only [za1, List.mem_flatMap, List.mem_map] at h
  obtain ⟨k, _, r', h2, rfl⟩ := h
  simp [zhe n _ r' h2]
theorem zql : ∀ (n : Nat) (l : List IT), ∀ r ∈ za1 l n, r.flatten = l
 | 0, l, r, h => by
  simp only [za1] at h
  split at h <;> simp at h
  rename_i h2
  simp at h2
  simp [h, h2]
 | n + 1, l, r, h => by
  simp only [za1, List.mem_flatMap, List.mem_map] at h
  obtain ⟨k, _, r', h2, rfl⟩ := h
  simp [zql n _ r' h2]
theorem zgn {α β : Type} {N : Nat} (f : α → List β) : ∀ (l : List α), (∀ a ∈ l, (f a).length ≤ N) → (l.flatMap f).length ≤ l.length * N
 | [], _ => by simp
 | a :: l, h => by
  rw [List.flatMap_cons, List.length_append, List.length_cons, Nat.succ_mul]
  have h1 := h a (by simp)
  have h2 := zgn f l (fun b hb => h b (by simp [hb]))
  omega
theorem zhd : ∀ (n : Nat) (l : List IT), (za1 l n).length ≤ (l.length + 1) ^ n
 | 0, l => by simp only [za1]; split <;> simp
 | n + 1, l => by
  rw [za1, Nat.pow_succ, Nat.mul_comm]
  refine Nat.le_trans (zgn (N := (l.length + 1) ^ n) _ _ fun k _ => ?_) (by simp)
  rw [List.length_map]
  refine Nat.le_trans (zhd n _) (Nat.pow_le_pow_left ?_ _)
  simp
def rle (x y : List IT) : Prop := ¬ IT.cmpL y x < 0
mutual
theorem IT.same_eq : ∀ v w : IT, IT.same v w = true → v = w
 | .mk n ks, .mk n' ks', h => by
  simp only [IT.same, Bool.and_eq_true, beq_iff_eq] at h
  rw [h.1, IT.sameL_eq ks ks' h.2]
theorem IT.sameL_eq : ∀ v w : List IT, IT.sameL v w = true → v = w
 | [], [], _ => rfl
 | v :: vs, w :: ws, h => by
  simp only [IT.sameL, Bool.and_eq_true] at h
  rw [IT.same_eq v w h.1, IT.sameL_eq vs ws h.2]
 | [], _ :: _, h => by simp [IT.sameL] at h
 | _ :: _, [], h => by simp [IT.sameL] at h
end
theorem zv8 (x y : List IT) (h1 : rle x y) (h2 : rle y x) : x = y := by
 unfold rle at h1 h2
 have := IT.cmpL_anti x y
 exact IT.sameL_eq _ _ ((IT.cmpL_zero x y).1 (by omega))
theorem zwa {a b : List (List IT)} (hp : a.Perm b) (ha : a.Pairwise rle) (hb : b.Pairwise rle) : a = b :=
 hp.eq_of_pairwise (le := rle) (fun x y _ _ h1 h2 => zv8 x y h1 h2) ha hb
end Go.Abs
namespace Go.Abs
open Go
theorem Out.tup {H J : zaa} {K : AV → zaa → Prop} {asx bs : List AV} (hs : HSc H) (h : K (.tup bs) H) (hw : All2 (fun a b => WkV a b ∧ b.isV = true ∧ b.scV H.length = true) asx bs) : Out H.length K (.tup asx) (H ++ J) :=
 ⟨_, H, J, rfl, Nat.le_refl _, hs, .tup (hw.mono fun _ _ h => .wk h.1 h.2.1 h.2.2), h⟩
theorem Out.tup0 {H : zaa} {K : AV → zaa → Prop} {asx bs : List AV} (hs : HSc H) (h : K (.tup bs) H) (hw : All2 (fun a b => WkV a b ∧ b.isV = true ∧ b.scV H.length = true) asx bs) : Out H.length K (.tup asx) H := by
 have := Out.tup (J := []) hs h hw
 simpa using this
theorem Out.one {H J : zaa} {K : AV → zaa → Prop} {a b : AV} (hs : HSc H) (hw : WkV a b) (hv : b.isV = true) (hc : b.scV H.length = true) (h : K b H) : Out H.length K a (H ++ J) :=
 ⟨_, H, J, rfl, Nat.le_refl _, hs, .one (.wk hw hv hc), h⟩
@[simp] theorem zJk (k : IntKind) (n : Int) : (AV.int k n).known = true := rfl
@[simp] theorem zJs (s : List UInt8) : (AV.str s).known = true := rfl
@[simp] theorem zJi (b : Bool) : (AV.bool b).known = true := rfl
@[simp] theorem zJq (es : List (List AV)) (t : Tok) : (AV.sl es t).known = true := rfl
@[simp] theorem zJr : AV.snil.known = true := rfl
@[simp] theorem zJn : AV.nilp.known = true := rfl
@[simp] theorem zJp (i o : Nat) : (AV.ptr i o).known = true := rfl
@[simp] theorem zJm (i o l c : Nat) : (AV.ms i o l c).known = true := rfl
@[simp] theorem zJj (f : Nat) (c : List AV) : (AV.fn f c).known = true := rfl
@[simp] theorem zJl (i : Nat) : (AV.map i).known = true := rfl
@[simp] theorem zJt (cs : List AV) : (AV.view cs).known = true := rfl
section
variable {H : zaa} {K : AV → zaa → Prop}
@[simp] theorem zGC (i o : Nat) : zaq (.ptr i o) H K = K (.ptr H.length 0) (H ++ [.cells [.ptr i o]]) := propext Iff.rfl
@[simp] theorem zGA (i o l c : Nat) : zaq (.ms i o l c) H K = K (.ptr H.length 0) (H ++ [.cells [.ms i o l c]]) := propext Iff.rfl
@[simp] theorem zGz (i : Nat) : zaq (.map i) H K = K (.ptr H.length 0) (H ++ [.cells [.map i]]) := propext Iff.rfl
@[simp] theorem zGx (f : Nat) (c : List AV) : zaq (.fn f c) H K = K (.ptr H.length 0) (H ++ [.cells [.fn f c]]) := propext Iff.rfl
@[simp] theorem zGE : zaq .snil H K = K (.ptr H.length 0) (H ++ [.cells [.snil]]) := propext Iff.rfl
end
theorem zbE {H : zaa} {p : zaa → (AV → zaa → Prop) → Prop} {k : AV → Prop} (r : AV) (h : ∀ J : zaa, p (H ++ J) fun v H' => v = r ∧ H' = H ++ J) (hk : k r) : zbl H p k := ⟨r, h, hk⟩
@[simp] theorem zJw (m : Nat) (k : IntKind) (n : Int) : (AV.int k n).scA m = true := rfl
@[simp] theorem zJE (m : Nat) (s : List UInt8) : (AV.str s).scA m = true := rfl
@[simp] theorem zJv (m : Nat) (b : Bool) : (AV.bool b).scA m = true := rfl
@[simp] theorem zJC (m : Nat) (es : List (List AV)) : (AV.sl es .none).scA m = true := rfl
@[simp] theorem zJD (m : Nat) : AV.snil.scA m = true := rfl
@[simp] theorem zJB (m i o : Nat) : (AV.ptr i o).scA m = decide (i < m) := rfl
@[simp] theorem zJy (m i o l c : Nat) : (AV.ms i o l c).scA m = decide (i < m) := rfl
@[simp] theorem zJx (m i : Nat) : (AV.map i).scA m = decide (i < m) := rfl
@[simp] theorem zJA (m : Nat) (es : List (List AV)) (i : Nat) : (AV.sl es (.own i)).scA m = decide (i < m) := rfl
theorem WkV.rfl' {a : AV} : WkV a a := .atom (.refl a)
theorem za4 {n : Nat} {a : AV} (h1 : a.isV = true) (h2 : a.scV n = true) : WkV a a ∧ a.isV = true ∧ a.scV n = true := ⟨.rfl', h1, h2⟩
theorem slV {n : Nat} {es : List (List AV)} {t : Tok} : WkV (.sl es t) (.sl es .none) ∧ (AV.sl es .none).isV = true ∧ (AV.sl es .none).scV n = true := ⟨.atom (.sl es t), rfl, rfl⟩
theorem zd5 {n : Nat} : WkV .snil (.sl [] .none) ∧ (AV.sl [] .none).isV = true ∧ (AV.sl [] .none).scV n = true := ⟨.atom .snil, rfl, rfl⟩
theorem zdp {x : Option AV} {d : Nat} {p : Nat → Prop} {p' : AV → Nat → Prop} {q : AV → Prop} (hp : ∀ n, p n ↔ ∃ v, p' v n ∧ q v) : zbk x d p ↔ ∃ v, zbk x d (p' v) ∧ q v := by
 unfold zbk
 split
 ·exact hp d
 ·rename_i n
  constructor
  ·rintro ⟨h1, h2⟩
   obtain ⟨v, h3, h4⟩ := (hp _).1 h2
   exact ⟨v, ⟨h1, h3⟩, h4⟩
  ·rintro ⟨v, ⟨h1, h3⟩, h4⟩
   exact ⟨h1, (hp _).2 ⟨v, h3, h4⟩⟩
 ·simp
theorem zgq {a : Prop} {q : AV → Prop} {x : AV} : (a ∧ q x) ↔ ∃ v, (a ∧ x = v) ∧ q v := by
 constructor
 ·rintro ⟨h1, h2⟩; exact ⟨_, ⟨h1, rfl⟩, h2⟩
 ·rintro ⟨v, ⟨h1, rfl⟩, h2⟩; exact ⟨h1, h2⟩
@[simp] theorem zIA {H : zaa} {k : AV → Prop} (u e : Nat) (x : AV) (lo hi : Option AV) : zae H (fun K' => zaD u e x lo hi fun v => K' v H) k = zaD u e x lo hi k := zbC (p := fun q => zaD u e x lo hi q) fun q => by
 unfold zaD
 split
 ·exact zdp fun h => zdp fun l => zgq
 ·exact zdp fun h => zdp fun l => zgq
 ·exact zdp fun h => zdp fun l => zgq
 ·exact zdp fun h => zdp fun l => zgq
 ·simp
end Go.Abs
namespace Go.Abs
open Go
theorem Out.at {n : Nat} {H2 J H' : zaa} {K : AV → zaa → Prop} {a b : AV} (he : H' = H2 ++ J) (hn : n ≤ H2.length) (hs : HSc H2) (hw : WkV a b) (hv : b.isV = true) (hc : b.scV H2.length = true) (h : K b H2) : Out n K a H' := by
 subst he
 exact ⟨_, H2, J, rfl, hn, hs, .one (.wk hw hv hc), h⟩
theorem Out.bool {n : Nat} {H2 J H' : zaa} {K : AV → zaa → Prop} {b : Bool} (he : H' = H2 ++ J) (hn : n ≤ H2.length) (hs : HSc H2) (h : K (.bool b) H2) : Out n K (.bool b) H' := Out.at he hn hs .rfl' rfl rfl h
theorem Out.int {n : Nat} {H2 J H' : zaa} {K : AV → zaa → Prop} {k : IntKind} {b : Int} (he : H' = H2 ++ J) (hn : n ≤ H2.length) (hs : HSc H2) (h : K (.int k b) H2) : Out n K (.int k b) H' := Out.at he hn hs .rfl' rfl rfl h
theorem Back.at {n0 : Nat} {Inv : List AV → zaa → Prop} {F : List AV} {H2 J H' : zaa} (he : H' = H2 ++ J) (hn : n0 ≤ H2.length) (hsc : HSc H2) (hs : F.all (AV.sc H2.length) = true) (h : Inv F H2) : Back n0 Inv F H' := by
 subst he
 exact Back.same hn hsc hs h
theorem HSc.snoc {H : zaa} {b : AB} (h : HSc H) (hb : b.sc (H.length + 1) = true) : HSc (H ++ [b]) := h.append (by simpa using hb)
end Go.Abs
namespace Go.Abs
open Go
theorem zu8 {B : Nat} {w w' : World} {G G' : Gh} (h : Ext B w G w' G') : G.μ.length ≤ G'.μ.length := by
 by_cases h0 : G.μ.length = 0
 ·omega
 ·obtain ⟨g, h1, _⟩ := h.ids (G.μ.length - 1) _ (List.getElem?_eq_getElem (by omega))
  have := (List.getElem?_eq_some_iff.1 h1).1
  omega
theorem ACalls.mono' {P : Program} {f : FuncId} {args : List AV} {H : zaa} {K K' : AV → zaa → Prop} (h : ACalls P f args H K) (hk : ∀ r H', HSc H' → H.length ≤ H'.length → K r H' → K' r H') : ACalls P f args H K' :=
 fun B w G vs hH hv => (h B w G vs hH hv).mono fun _ _ ⟨v, r, H', G', h1, h2, h3, h4, h5⟩ => ⟨v, r, H', G', h1, h2, h3, h4, hk _ _ h3.sc (by have := zu8 h2; rw [hH.len, h3.len] at this; exact this) h5⟩
theorem aCallV.mono' {P : Program} {g : AV} {args : List AV} {H : zaa} {K K' : AV → zaa → Prop} (h : aCallV P g args H K) (hk : ∀ r H', HSc H' → H.length ≤ H'.length → K r H' → K' r H') : aCallV P g args H K' := by
 unfold aCallV at *
 split at h
 ·split at h
  ·exact ACalls.mono' h hk
  ·exact h.elim
 ·exact h.elim
end Go.Abs
namespace Go.Abs
open Go Go.RowKit
theorem HRel.reCell {B : Nat} {w : World} {G : Gh} {H : zaa} (h : HRel B w G H) {id : Nat} {cs cs' : List AV} (hid : H[id]? = some (.cells cs)) (hc : ∀ vs : List Value, All2 (ARel w G) vs cs → All2 (ARel w G) vs cs') : HRel B w G (H.set id (.cells cs')) := by
 refine ⟨by simp [h.len], ?_, h.dist, h.fresh, h.lt, h.base⟩
 intro i ab gi h1 h2
 by_cases hi : i = id
 ·subst hi
  rw [List.getElem?_set_self (List.getElem?_eq_some_iff.1 hid).1] at h1
  cases h1
  have hok := h.ok i _ _ hid h2
  cases gi with
  | blk b =>
   obtain ⟨k1, k2, vs, e, k3, k4⟩ := hok
   exact ⟨k1, k2, vs, e, k3, hc _ k4⟩
  | own v s n => exact hok.elim
  | gap => exact hok.elim
 ·rw [List.getElem?_set_ne (fun h => hi h.symm)] at h1
  exact h.ok i ab gi h1 h2
theorem HRel.ownCell {B : Nat} {w : World} {G : Gh} {H : zaa} (h : HRel B w G H) {id j : Nat} {cs : List AV} (e size : Nat) (hid : H[id]? = some (.cells cs)) (hj : cs[j]? = some .snil) :
  ∃ G', Ext B w G w G' ∧ HRel B w G' (H.set id (.cells (cs.set j (.sl [] (.own H.length)))) ++ [.perm e size 0]) := by
 obtain ⟨hE, hH'⟩ := h.newOwn e size
 refine ⟨_, hE, ?_⟩
 have hlt := (List.getElem?_eq_some_iff.1 hid).1
 have := hH'.reCell (id := id) (cs := cs) (cs' := cs.set j (.sl [] (.own H.length))) (by rw [List.getElem?_append_left hlt]; exact hid) (fun vs hvs => by
  obtain ⟨v, h1, h2⟩ := All2.get hvs hj
  have h2 : v = .slice none 0 0 := h2
  subst h2
  have hset : vs = vs.set j (.slice none 0 0) := by
   apply List.ext_getElem?
   intro k
   by_cases hk : k = j
   ·subst hk; rw [List.getElem?_set_self (List.getElem?_eq_some_iff.1 h1).1]; exact h1
   ·rw [List.getElem?_set_ne (fun h => hk h.symm)]
  rw [hset]
  refine All2.set j hvs ?_
  refine ⟨.slE _ _, .slice none 0 0, size, 0, ?_, Nat.le_refl _, fun _ => ⟨rfl, by simp⟩⟩
  rw [← h.len]
  simp)
 rwa [List.set_append_left _ _ hlt] at this
theorem ALoop.ownC {P : Program} {c : Code} {Q : AExit → List AV → zaa → Prop} {F : List AV} {H : zaa} {cs : List AV} (id j e size : Nat) (hid : H[id]? = some (.cells cs)) (hj : cs[j]? = some .snil)
  (h : ALoop P c Q F (H.set id (.cells (cs.set j (.sl [] (.own H.length)))) ++ [.perm e size 0])) : ALoop P c Q F H := by
 intro B w G a hH hF hd
 obtain ⟨G', hE, hH'⟩ := hH.ownCell e size hid hj
 refine wp_mono (h B w G' a hH' (hF.ext hE) hd) fun e a' w' hp => ?_
 obtain ⟨F'', H'', G'', e'', rfl, k1, k2, k3, k4, k5⟩ := hp
 exact ⟨F'', H'', G'', e'', rfl, hE.trans k1, k2, k3, k4, k5⟩
end Go.Abs
namespace Go.Proofs.YtacebbdfgbfgiaaGreat
open Go Go.Abs
set_option maxRecDepth 8000
def RowA (H : zaa) (a : AV) (n : Nat) (ds : List AV) : Prop :=
 ds.length = n * 2 ∧ ds.all AV.known = true ∧ ((∃ id, a = .ms id 0 n n ∧ H[id]? = some (.cells ds)) ∨ (0 < n ∧ ∃ id e, a = .ov id n ∧ H[id]? = some (.vec e 2 n ds)))
theorem RowA.app {H J : zaa} {a : AV} {n : Nat} {ds : List AV} (h : RowA H a n ds) : RowA (H ++ J) a n ds := by
 obtain ⟨h1, h2, h3⟩ := h
 refine ⟨h1, h2, ?_⟩
 rcases h3 with ⟨id, rfl, h⟩ | ⟨h0, id, e, rfl, h⟩
 ·exact .inl ⟨id, rfl, by rw [List.getElem?_append_left (List.getElem?_eq_some_iff.1 h).1]; exact h⟩
 ·exact .inr ⟨h0, id, e, rfl, by rw [List.getElem?_append_left (List.getElem?_eq_some_iff.1 h).1]; exact h⟩
theorem zqs {H : zaa} {a : AV} {n : Nat} {ds : List AV} (hr : RowA H a n ds) (hn : n ≤ 1000000) (K : Kt) (h0 : n = 0 → K (.sl [] .none) H) (h1 : 0 < n → K (.ov H.length n) (H ++ [.vec zaO 2 n ds])) :
  ACalls tP zgM [a] H K := by
 refine zCV fun hs => ?_
 obtain ⟨hl, hk, hr⟩ := hr
 cases n with
 | zero =>
  rcases hr with ⟨id, rfl, h⟩ | ⟨h, _⟩
  ·have hds : ds = [] := by cases ds <;> simp_all
   subst hds
   simp [ziS, zem, zdW, zaA, zbt, zaB, AV.pd, zar, zbV, h]
   exact h0 rfl
  ·omega
 | succ n =>
  have hkk := h1 (by omega)
  rcases hr with ⟨id, rfl, h⟩ | ⟨_, id, e, rfl, h⟩
  ·simp [ziS, zem, zdW, zaA, zbt, zaB, AV.pd, zar, zbV, h]
   have ht : List.take ((n + 1) * 2) ds = ds := List.take_of_length_le (by omega)
   rw [ht]
   refine ⟨by omega, ⟨by simpa using hk, by omega, by omega, by omega⟩, hkk⟩
  ·simp [ziS, zem, zdW, zaA, zbt, zaB, AV.pd, zar, zbV, h]
   refine ⟨⟨by simpa using hk, by omega, by omega, by omega⟩, hkk⟩
end Go.Proofs.YtacebbdfgbfgiaaGreat
namespace Go.Abs
open Go
structure Con where
 name : List UInt8
 args : List VT
structure Dat where
 name : List UInt8
 vars : Int
 cons : List Con
structure Cod where
 name : List UInt8
 params : List Int
 capt : List Int
 res : VT
 body : Int
structure CEx where
 op : Int
 num : Int
 vars : List Int
 binds : List (List Int)
 kids : List Int
 ty : VT
structure Cor where
 data : List Dat
 codes : List Cod
 vars : List VT
 exprs : List CEx
def ints (l : List Int) : List (List AV) := l.map fun n => [.int .i64 n]
def rows (l : List (List Int)) : List (List AV) := l.map fun r => [.sl (ints r) .none]
def Con.cs (c : Con) : List AV := [.str c.name, .sl (VT.css c.args) .none]
def Dat.cs (d : Dat) : List AV := [.str d.name, .int .i64 d.vars, .sl (d.cons.map Con.cs) .none]
def Cod.cs (c : Cod) : List AV := .str c.name :: .sl (ints c.params) .none :: .sl (ints c.capt) .none :: (c.res.cs ++ [.int .i64 c.body])
def CEx.cs (e : CEx) : List AV := .int .i64 e.op :: .int .i64 e.num :: .sl (ints e.vars) .none :: .sl (rows e.binds) .none :: .sl (ints e.kids) .none :: e.ty.cs
def Cor.cs (c : Cor) : List AV := [.sl (c.data.map Dat.cs) .none, .sl (c.codes.map Cod.cs) .none, .sl (VT.css c.vars) .none, .sl (c.exprs.map CEx.cs) .none]
@[simp] theorem zJh (l : List Int) : (ints l).length = l.length := by simp [ints]
@[simp] theorem zJu (l : List (List Int)) : (rows l).length = l.length := by simp [rows]
def VT.kind : VT → Int | .mk k _ _ => k
def VT.num : VT → Int | .mk _ n _ => n
def VT.kids : VT → List VT | .mk _ _ ks => ks
def zaS (data : List Dat) (vars k n : Int) (len : Nat) : Bool :=
 if k == 1 || k == 2 || k == 3 then n == 0 && len == 0
 else if k == 4 then decide (0 ≤ n) && decide (n < vars) && len == 0
 else if k == 5 then decide (0 ≤ n) && (match data[n.toNat]? with | some d => (len : Int) == d.vars | none => false)
 else if k == 6 then n == 0 && decide (2 ≤ len) && decide (len ≤ 6)
 else if k == 7 || k == 8 then n == 0 && len == 1
 else if k == 9 then n == 0 && decide (1 ≤ len) && decide (len ≤ 7)
 else false
mutual
def zaK (data : List Dat) (vars : Int) : VT → Bool
 | .mk k n asx => zaS data vars k n asx.length && zaQ data vars asx
def zaQ (data : List Dat) (vars : Int) : List VT → Bool
 | [] => true
 | t :: ts => zaK data vars t && zaQ data vars ts
end
def zbe (data : List Dat) (vars : Int) (t : VT) : Bool := decide (t.nodes ≤ 200) && zaK data vars t
mutual
def subst (args : List VT) : VT → VT
 | .mk k n ks => if k = 4 ∧ 0 ≤ n ∧ n < args.length then (args[n.toNat]?).getD (.mk 0 0 []) else .mk k n (zaC args ks)
def zaC (args : List VT) : List VT → List VT
 | [] => []
 | t :: ts => subst args t :: zaC args ts
end
def zaL (data : List Dat) (t : VT) (c : Int) : Option (List VT) :=
 if t.kind = 5 ∧ 0 ≤ t.num ∧ 0 ≤ c then
  match data[t.num.toNat]? with
  | some d => if (t.kids.length : Int) = d.vars then
    match d.cons[c.toNat]? with
    | some k => let l := k.args.map (subst t.kids)
     if l.all (fun x => decide (x.nodes ≤ 200)) = true then some l else none
    | none => none
   else none
  | none => none
 else none
end Go.Abs
namespace Go.Proofs.YtacebbdfgbfgiaaGreat
open Go Go.Abs
set_option maxRecDepth 100000
def ziD : Nat → List Bool
 | 5 => rl false [1,2,2,1,24]
 | _ => []
noncomputable def zmS : Code := Tryz.f48.body.getD .skip
noncomputable def zCg : List ResultVar := Tryz.f48.results.toList
def ziE (t1 t2 t5 : AV) : List AV := ux 1 (t1 :: t2 :: ux 2 (t5 :: ux 24 []))
def zCe : List Bool := ziD 5
noncomputable def zCc : Code := zao [1, 1, 1, 0, 1, 0, 0] zmS
def zCb (K : Kt) : AExit → List AV → zaa → Prop := zap tP ziD [1, 1, 1, 0, 1, 0] zmS (zaw tP zCg K)
def zsC (t1 t2 t5 : AV) (H : zaa) (K : Kt) : Prop := ALoop tP zCc (zCb K) (ziE t1 t2 t5) H
def zmR (t1 t2 t5 : AV) (H : zaa) (K : Kt) (Kb5 : Lt) : Prop :=
 zaf 2 t2 fun t16 =>
 zad false 1 t16 H fun t17 =>
 zah 1 t17 fun t18 =>
 zac .lss false t5 t18 fun t19 =>
 zag t19
 (zaf 2 t2 fun t22 =>
 zad false 1 t22 H fun t23 =>
 zai 3 t23 t5 fun t25 =>
 zad true 3 t25 H fun t26 =>
 ACalls tP zft [t26, t1] H fun t28 H =>
 aUn .not t28 fun t29 =>
 zag t29
 (K (.bool false) H)
 (zac .add false t5 (.int .i64 1) fun t21 =>
 Kb5 (ziE t1 t2 t21) H))
 (K (.bool true) H)
def zsB (t0 t1 : AV) (H : zaa) (K : Kt) : Prop :=
 zaq t0 H fun t2 H =>
 za9 t1 fun t7 =>
 zad false 1 t7 H fun t8 =>
 zac .sub false t8 (.int .i64 1) fun t9 =>
 za9 t1 fun t10 =>
 zak 1 t10 t9 H fun H =>
 za9 t1 fun t12 =>
 zad false 1 t12 H fun t13 =>
 zac .lss false t13 (.int .i64 0) fun t14 =>
 zag t14
 (K (.bool false) H)
 (zsC t1 t2 (.int .i64 0) H K)
theorem zCd {t1 t2 t5 : AV} {H : zaa} {K : Kt} (Inv : Nat → AV → zaa → Prop) (n : Nat) (h0 : HSc H → Inv n t5 H)
  (round : Rd1 (fun t5 => ziE t1 t2 t5) (fun t5 => fun H Kb5 => zmR t1 t2 t5 H K Kb5) H Inv) : zsC t1 t2 t5 H K :=
 lp1 (M := ziD) zCe t5 (by kernel_rfl) Inv n h0 round
theorem zCf {t0 t1 : AV} {H : zaa} {K : Kt} (h : HSc H → zsB t0 t1 H K) : ACalls tP zft [t0, t1] H K :=
 zam (M := ziD) Tryz.func48 (c := zmS) (by kernel_rfl) (fun hs => Eq.mpr (by kernel_rfl) (h hs))
def zAa (_ : Nat) : List Bool := []
noncomputable def zAb : Code := Tryz.f25.body.getD .skip
def zrX (t0 : AV) (H : zaa) (K : Kt) : Prop :=
 zaq t0 H fun t1 H =>
 zau [(.int .i64 0)] H fun t3 H =>
 zak 1 t3 (.int .i64 250) H fun H =>
 zad true 3 t1 H fun t4 =>
 ACalls tP zft [t4, t3] H fun t5 H =>
 K t5 H
theorem zAc {t0 : AV} {H : zaa} {K : Kt} (h : HSc H → zrX t0 H K) : ACalls tP zkz [t0] H K :=
 zam (M := zAa) Tryz.func25 (c := zAb) (by kernel_rfl) (fun hs => Eq.mpr (by kernel_rfl) (h hs))
def zcW : Nat → List Bool
 | 4 => rl false [13,3,43]
 | 9 => rl false [13,3,14,3,26]
 | 15 => rl false [7,1,5,3,14,3,14,3,9]
 | _ => []
noncomputable def zmb : Code := Tryz.f24.body.getD .skip
noncomputable def zz8 : List ResultVar := Tryz.f24.results.toList
def zfP (t13 t14 t15 : AV) : List AV := ux 13 (t13 :: t14 :: t15 :: ux 43 [])
def zrV : List Bool := zcW 4
noncomputable def zmc : Code := zao [1, 1, 0, 1, 0, 0] zmb
def zrQ (K : Kt) : AExit → List AV → zaa → Prop := zap tP zcW [1, 1, 0, 1, 0] zmb (zaw tP zz8 K)
def zrT (t13 t14 t15 : AV) (H : zaa) (K : Kt) : Prop := ALoop tP zmc (zrQ K) (zfP t13 t14 t15) H
def zh2 (t13 t14 t15 t30 t31 t32 : AV) : List AV := ux 13 (t13 :: t14 :: t15 :: ux 14 (t30 :: t31 :: t32 :: ux 26 []))
def zrW : List Bool := zcW 9
noncomputable def zmd : Code := zao [1, 1, 0, 0, 1, 1, 1, 0, 0] zmc
def zrR (K : Kt) (Kb4 : Lt) : AExit → List AV → zaa → Prop := zap tP zcW [1, 1, 0, 0, 1, 1, 1, 0] zmc (zbm zrV Kb4 (zrQ K))
def zrU (t13 t14 t15 t30 t31 t32 : AV) (H : zaa) (K : Kt) (Kb4 : Lt) : Prop := ALoop tP zmd (zrR K Kb4) (zh2 t13 t14 t15 t30 t31 t32) H
def zh1 (t7 t13 t14 t15 t30 t31 t32 t47 t48 t49 : AV) : List AV := ux 7 (t7 :: ux 5 (t13 :: t14 :: t15 :: ux 14 (t30 :: t31 :: t32 :: ux 14 (t47 :: t48 :: t49 :: ux 9 []))))
def zz6 : List Bool := zcW 15
noncomputable def zz2 : Code := zao [1, 1, 0, 0, 1, 1, 1, 1, 0, 0] zmd
def zz1 (K : Kt) (Kb4 : Lt) (Kb9 : Lt) : AExit → List AV → zaa → Prop := zap tP zcW [1, 1, 0, 0, 1, 1, 1, 1, 0] zmd (zbm zrW Kb9 (zrR K Kb4))
def zrS (t7 t13 t14 t15 t30 t31 t32 t47 t48 t49 : AV) (H : zaa) (K : Kt) (Kb4 : Lt) (Kb9 : Lt) : Prop := ALoop tP zz2 (zz1 K Kb4 Kb9) (zh1 t7 t13 t14 t15 t30 t31 t32 t47 t48 t49) H
def zl8 (t7 t13 t14 t15 t30 t31 t32 t47 t48 t49 : AV) (H : zaa) (K : Kt) (Kb4 : Lt) (Kb9 : Lt) (Kb15 : Lt) : Prop :=
 zac .lss false t49 t48 fun t50 =>
 zag t50
 (zai 3 t47 t49 fun t51 =>
 zad true 3 t51 H fun t52 =>
 zau [(.int .i64 0), (.int .i64 0), .snil] H fun t9 H =>
 zak 3 t9 t52 H fun H =>
 zad true 3 t9 H fun t53 =>
 ACalls tP zft [t53, t7] H fun t54 H =>
 aUn .not t54 fun t55 =>
 zag t55
 (K (.bool false) H)
 (zac .add false t49 (.int .i64 1) fun t56 =>
 Kb15 (zh1 t7 t13 t14 t15 t30 t31 t32 t47 t48 t56) H))
 (zac .add false t32 (.int .i64 1) fun t57 =>
 Kb9 (zh2 t13 t14 t15 t30 t31 t57) H)
def zma (t13 t14 t15 t30 t31 t32 : AV) (H : zaa) (K : Kt) (Kb4 : Lt) (Kb9 : Lt) : Prop :=
 zac .lss false t32 t31 fun t33 =>
 zag t33
 (zai 2 t30 t32 fun t34 =>
 zad true 2 t34 H fun t35 =>
 zau [(.str []), .snil] H fun t6 H =>
 zak 2 t6 t35 H fun H =>
 zaf 0 t6 fun t36 =>
 zad false 1 t36 H fun t37 =>
 zah 0 t37 fun t38 =>
 zac .gtr false t38 (.int .i64 40) fun t39 =>
 zab t39 false H (fun K' => zaf 1 t6 (K' · H)) fun t41 H =>
 zab t39 false H (fun K' => zad false 1 t41 H (K' · H)) fun t42 H =>
 zab t39 false H (fun K' => zah 1 t42 (K' · H)) fun t43 H =>
 zab t39 false H (fun K' => zac .gtr false t43 (.int .i64 8) (K' · H)) fun t44 H =>
 zaj t39 (.bool true) t44 fun t45 =>
 zag t45
 (K (.bool false) H)
 (zau [(.int .i64 0)] H fun t7 H =>
 zak 1 t7 (.int .i64 20) H fun H =>
 zaf 1 t6 fun t46 =>
 zad false 1 t46 H fun t47 =>
 zah 1 t47 fun t48 =>
 zrS t7 t13 t14 t15 t30 t31 t32 t47 t48 (.int .i64 0) H K Kb4 Kb9))
 (zac .add false t15 (.int .i64 1) fun t58 =>
 Kb4 (zfP t13 t14 t58) H)
def zl9 (t13 t14 t15 : AV) (H : zaa) (K : Kt) (Kb4 : Lt) : Prop :=
 zac .lss false t15 t14 fun t16 =>
 zag t16
 (zai 3 t13 t15 fun t17 =>
 zad true 3 t17 H fun t18 =>
 zau [(.str []), (.int .i64 0), .snil] H fun t4 H =>
 zak 3 t4 t18 H fun H =>
 zaf 0 t4 fun t19 =>
 zad false 1 t19 H fun t20 =>
 zah 0 t20 fun t21 =>
 zac .gtr false t21 (.int .i64 40) fun t22 =>
 zab t22 false H (fun K' => zaf 2 t4 (K' · H)) fun t24 H =>
 zab t22 false H (fun K' => zad false 1 t24 H (K' · H)) fun t25 H =>
 zab t22 false H (fun K' => zah 1 t25 (K' · H)) fun t26 H =>
 zab t22 false H (fun K' => zac .gtr false t26 (.int .i64 10) (K' · H)) fun t27 H =>
 zaj t22 (.bool true) t27 fun t28 =>
 zag t28
 (K (.bool false) H)
 (zaf 2 t4 fun t29 =>
 zad false 1 t29 H fun t30 =>
 zah 1 t30 fun t31 =>
 zrU t13 t14 t15 t30 t31 (.int .i64 0) H K Kb4))
 (K (.bool true) H)
def zl7 (t0 : AV) (H : zaa) (K : Kt) : Prop :=
 zah 1 t0 fun t11 =>
 zac .gtr false t11 (.int .i64 14) fun t12 =>
 zag t12
 (K (.bool false) H)
 (zah 1 t0 fun t14 =>
 zrT t0 t14 (.int .i64 0) H K)
theorem zz3 {t7 t13 t14 t15 t30 t31 t32 t47 t48 t49 : AV} {H : zaa} {K : Kt} {Kb4 : Lt} {Kb9 : Lt} (Inv : Nat → AV → zaa → Prop) (n : Nat) (h0 : HSc H → Inv n t49 H)
  (round : Rd1 (fun t49 => zh1 t7 t13 t14 t15 t30 t31 t32 t47 t48 t49) (fun t49 => fun H Kb15 => zl8 t7 t13 t14 t15 t30 t31 t32 t47 t48 t49 H K Kb4 Kb9 Kb15) H Inv) : zrS t7 t13 t14 t15 t30 t31 t32 t47 t48 t49 H K Kb4 Kb9 :=
 lp1 (M := zcW) zz6 t49 (by kernel_rfl) Inv n h0 round
theorem zz5 {t13 t14 t15 t30 t31 t32 : AV} {H : zaa} {K : Kt} {Kb4 : Lt} (Inv : Nat → AV → zaa → Prop) (n : Nat) (h0 : HSc H → Inv n t32 H)
  (round : Rd1 (fun t32 => zh2 t13 t14 t15 t30 t31 t32) (fun t32 => fun H Kb9 => zma t13 t14 t15 t30 t31 t32 H K Kb4 Kb9) H Inv) : zrU t13 t14 t15 t30 t31 t32 H K Kb4 :=
 lp1 (M := zcW) zrW t32 (by kernel_rfl) Inv n h0 round
theorem zz4 {t13 t14 t15 : AV} {H : zaa} {K : Kt} (Inv : Nat → AV → zaa → Prop) (n : Nat) (h0 : HSc H → Inv n t15 H)
  (round : Rd1 (fun t15 => zfP t13 t14 t15) (fun t15 => fun H Kb4 => zl9 t13 t14 t15 H K Kb4) H Inv) : zrT t13 t14 t15 H K :=
 lp1 (M := zcW) zrV t15 (by kernel_rfl) Inv n h0 round
theorem zz7 {t0 : AV} {H : zaa} {K : Kt} (h : HSc H → zl7 t0 H K) : ACalls tP zky [t0] H K :=
 zam (M := zcW) Tryz.func24 (c := zmb) (by kernel_rfl) (fun hs => Eq.mpr (by kernel_rfl) (h hs))
def zD8 (_ : Nat) : List Bool := []
noncomputable def zD9 : Code := Tryz.f71.body.getD .skip
def zte (t0 t1 t2 : AV) (H : zaa) (K : Kt) : Prop :=
 zaq t1 H fun t4 H =>
 zav [.snil, (.int .i64 0), (.int .i64 0)] [(0, 1), (1, 1), (2, 1)] [(0, t0), (1, t2), (2, (.int .i64 200))] fun t10 =>
 zaq t10 H fun t11 H =>
 zad true 3 t4 H fun t13 =>
 ACalls tP zg0 [t11, t13] H fun t14 H =>
 K t14 H
theorem zEa {t0 t1 t2 : AV} {H : zaa} {K : Kt} (h : HSc H → zte t0 t1 t2 H K) : ACalls tP zfw [t0, t1, t2] H K :=
 zam (M := zD8) Tryz.func71 (c := zD9) (by kernel_rfl) (fun hs => Eq.mpr (by kernel_rfl) (h hs))
def zdg : Nat → List Bool
 | 171022 => rl false [2,2,16,1,53,1,34]
 | 150010 => rl false [2,2,1,2,13,2,87]
 | 100007 => rl false [2,2,1,2,13,1,88]
 | 100002 => rl false [2,2,105]
 | _ => []
noncomputable def zdh : Code := Tryz.f97.body.getD .skip
noncomputable def zjM : List ResultVar := Tryz.f97.results.toList
def zeT (t2 t3 t5 t6 : AV) (H : zaa) (K : Kt) : Prop :=
 zaf 0 t3 fun t79 =>
 zad false 1 t79 H fun t80 =>
 zac .neq false t80 (.int .i64 4) fun t81 =>
 zab t81 true H (fun K' => zaf 0 t3 (K' · H)) fun t83 H =>
 zab t81 true H (fun K' => zad false 1 t83 H (K' · H)) fun t84 H =>
 zab t81 true H (fun K' => zac .neq false t84 (.int .i64 5) (K' · H)) fun t85 H =>
 zaj t81 t85 (.bool false) fun t86 =>
 zab t86 true H (fun K' => zaf 1 t3 (K' · H)) fun t88 H =>
 zab t86 true H (fun K' => zad false 1 t88 H (K' · H)) fun t89 H =>
 zab t86 true H (fun K' => zac .neq false t89 (.int .i64 0) (K' · H)) fun t90 H =>
 zaj t86 t90 (.bool false) fun t91 =>
 zag t91
 (K (.bool false) H)
 (zaf 2 t3 fun t92 =>
 zad false 1 t92 H fun t93 =>
 zah 1 t93 fun t94 =>
 zac .lss false t94 t5 fun t96 =>
 zab t96 false H (fun K' => zaf 2 t3 (K' · H)) fun t98 H =>
 zab t96 false H (fun K' => zad false 1 t98 H (K' · H)) fun t99 H =>
 zab t96 false H (fun K' => zah 1 t99 (K' · H)) fun t100 H =>
 zab t96 false H (fun K' => K' t6 H) fun t101 H =>
 zab t96 false H (fun K' => zac .gtr false t100 t101 (K' · H)) fun t102 H =>
 zaj t96 (.bool true) t102 fun t103 =>
 zag t103
 (K (.bool false) H)
 (zaf 2 t3 fun t104 =>
 zad false 1 t104 H fun t105 =>
 zb0 zgt [t2] fun t106 =>
 ACalls tP zdX [t105, t106] H fun t107 H =>
 aUn .not t107 fun t108 =>
 K t108 H))
def zcB (t2 t3 t5 t6 : AV) (H : zaa) (K : Kt) : Prop :=
 zeT t2 t3 t5 t6 H K
noncomputable def zGf : Code := zao [1, 1, 1, 1, 0, 1, 0, 1, 1, 1, 1, 1, 1, 1, 1, 1] zdh
def zGe (K : Kt) : AExit → List AV → zaa → Prop := zap tP zdg [1, 1, 1, 1, 0, 1, 0, 1, 1, 1, 1, 1, 1, 1, 1, 1] zdh (zaw tP zjM K)
def zoc (t2 t3 t20 t74 : AV) (H : zaa) (K : Kt) : Prop := AWp tP zGf (zGe K) (ux 2 (t2 :: t3 :: ux 16 (t20 :: ux 53 (t74 :: ux 34 [])))) H
def zjL (t2 t3 t20 t74 : AV) (H : zaa) (K : Kt) : Prop :=
 zag t74
 (zcB t2 t3 (.int .i64 1) (.int .i64 1) H K)
 (zac .eql false t20 (.int .i64 9) fun t78 =>
 zag t78
 (zcB t2 t3 (.int .i64 1) (.int .i64 7) H K)
 (K (.bool false) H))
noncomputable def zGd : Code := zao [1, 1, 1, 1, 0, 1, 0, 1] zdh
def zGc (K : Kt) : AExit → List AV → zaa → Prop := zap tP zdg [1, 1, 1, 1, 0, 1, 0, 1] zdh (zaw tP zjM K)
def zjK (t2 t3 t5 t6 t20 t21 : AV) (H : zaa) (K : Kt) : Prop := AWp tP zGd (zGc K) (ux 2 (t2 :: t3 :: ux 1 (t5 :: t6 :: ux 13 (t20 :: t21 :: ux 87 [])))) H
def zcK (t2 t3 t5 t6 t20 t21 : AV) (H : zaa) (K : Kt) : Prop :=
 zag t21
 (zcB t2 t3 t5 t6 H K)
 (zac .eql false t20 (.int .i64 4) fun t26 =>
 zag t26
 (zae H (fun K' => zaf 1 t3 (K' · H)) fun t27 =>
 zae H (fun K' => zan false 1 t27 H (K' · H)) fun t28 =>
 zae H (fun K' => zac .lss false t28 (.int .i64 0) (K' · H)) fun t29 =>
 zae H (fun K' => K' t29 H) fun t30 =>
 zab t30 false H (fun K' => zae H (fun K'' => zaf 1 t3 (K'' · H)) (K' · H)) fun t31 H =>
 zab t30 false H (fun K' => zae H (fun K'' => zan false 1 t31 H (K'' · H)) (K' · H)) fun t32 H =>
 zab t30 false H (fun K' => zae H (fun K'' => zan false 1 t2 H (K'' · H)) (K' · H)) fun t33 H =>
 zab t30 false H (fun K' => zae H (fun K'' => za9 t33 (K'' · H)) (K' · H)) fun t34 H =>
 zab t30 false H (fun K' => zae H (fun K'' => zaf 1 t34 (K'' · H)) (K' · H)) fun t35 H =>
 zab t30 false H (fun K' => zae H (fun K'' => zan false 1 t35 H (K'' · H)) (K' · H)) fun t36 H =>
 zab t30 false H (fun K' => zae H (fun K'' => zac .geq false t32 t36 (K'' · H)) (K' · H)) fun t37 H =>
 zae H (fun K' => zaj t30 (.bool true) t37 (K' · H)) fun t38 =>
 zag t38
 (K (.bool false) H)
 (zcB t2 t3 t5 t6 H K))
 (zac .eql false t20 (.int .i64 5) fun t40 =>
 zag t40
 (zae H (fun K' => zaf 1 t3 (K' · H)) fun t41 =>
 zae H (fun K' => zan false 1 t41 H (K' · H)) fun t42 =>
 zae H (fun K' => zac .lss false t42 (.int .i64 0) (K' · H)) fun t43 =>
 zae H (fun K' => K' t43 H) fun t44 =>
 zab t44 false H (fun K' => zae H (fun K'' => zaf 1 t3 (K'' · H)) (K' · H)) fun t45 H =>
 zab t44 false H (fun K' => zae H (fun K'' => zan false 1 t45 H (K'' · H)) (K' · H)) fun t46 H =>
 zab t44 false H (fun K' => zae H (fun K'' => zan false 1 t2 H (K'' · H)) (K' · H)) fun t47 H =>
 zab t44 false H (fun K' => zae H (fun K'' => za9 t47 (K'' · H)) (K' · H)) fun t48 H =>
 zab t44 false H (fun K' => zae H (fun K'' => zaf 0 t48 (K'' · H)) (K' · H)) fun t49 H =>
 zab t44 false H (fun K' => zae H (fun K'' => zan false 1 t49 H (K'' · H)) (K' · H)) fun t50 H =>
 zab t44 false H (fun K' => zae H (fun K'' => zah 1 t50 (K'' · H)) (K' · H)) fun t51 H =>
 zab t44 false H (fun K' => zae H (fun K'' => zac .geq false t46 t51 (K'' · H)) (K' · H)) fun t52 H =>
 zae H (fun K' => zaj t44 (.bool true) t52 (K' · H)) fun t53 =>
 zag t53
 (K (.bool false) H)
 (zae H (fun K' => zan false 1 t2 H (K' · H)) fun t54 =>
 zae H (fun K' => za9 t54 (K' · H)) fun t55 =>
 zae H (fun K' => zaf 0 t55 (K' · H)) fun t56 =>
 zae H (fun K' => zan false 1 t56 H (K' · H)) fun t57 =>
 zae H (fun K' => zaf 1 t3 (K' · H)) fun t58 =>
 zae H (fun K' => zan false 1 t58 H (K' · H)) fun t59 =>
 zae H (fun K' => zai 3 t57 t59 (K' · H)) fun t60 =>
 zae H (fun K' => zaf 1 t60 (K' · H)) fun t61 =>
 zae H (fun K' => zan false 1 t61 H (K' · H)) fun t62 =>
 zae H (fun K' => zan false 1 t2 H (K' · H)) fun t63 =>
 zae H (fun K' => za9 t63 (K' · H)) fun t64 =>
 zae H (fun K' => zaf 0 t64 (K' · H)) fun t65 =>
 zae H (fun K' => zan false 1 t65 H (K' · H)) fun t66 =>
 zae H (fun K' => zaf 1 t3 (K' · H)) fun t67 =>
 zae H (fun K' => zan false 1 t67 H (K' · H)) fun t68 =>
 zae H (fun K' => zai 3 t66 t68 (K' · H)) fun t69 =>
 zae H (fun K' => zaf 1 t69 (K' · H)) fun t70 =>
 zae H (fun K' => zan false 1 t70 H (K' · H)) fun t71 =>
 zae H (fun K' => K' t62 H) fun t5 =>
 zae H (fun K' => K' t71 H) fun t6 =>
 zcB t2 t3 t5 t6 H K))
 (zac .eql false t20 (.int .i64 6) fun t73 =>
 zag t73
 (zcB t2 t3 (.int .i64 2) (.int .i64 6) H K)
 (zac .eql false t20 (.int .i64 7) fun t75 =>
 zag t75
 (zoc t2 t3 t20 t75 H K)
 (zac .eql false t20 (.int .i64 8) fun t76 =>
 zoc t2 t3 t20 t76 H K)))))
noncomputable def zGa : Code := zao [1, 1, 1, 1, 0, 1] zdh
def zF9 (K : Kt) : AExit → List AV → zaa → Prop := zap tP zdg [1, 1, 1, 1, 0, 1] zdh (zaw tP zjM K)
def zud (t2 t3 t5 t6 t20 : AV) (H : zaa) (K : Kt) : Prop := AWp tP zGa (zF9 K) (ux 2 (t2 :: t3 :: ux 1 (t5 :: t6 :: ux 13 (t20 :: ux 88 [])))) H
def zob (t2 t3 t5 t6 t20 : AV) (H : zaa) (K : Kt) : Prop :=
 zac .eql false t20 (.int .i64 1) fun t22 =>
 zag t22
 (zjK t2 t3 t5 t6 t20 t22 H K)
 (zac .eql false t20 (.int .i64 2) fun t23 =>
 zag t23
 (zjK t2 t3 t5 t6 t20 t23 H K)
 (zac .eql false t20 (.int .i64 3) fun t24 =>
 zjK t2 t3 t5 t6 t20 t24 H K))
noncomputable def zF7 : Code := zao [1, 1] zdh
def zF6 (K : Kt) : AExit → List AV → zaa → Prop := zap tP zdg [1, 1] zdh (zaw tP zjM K)
def zn9 (t2 t3 : AV) (H : zaa) (K : Kt) : Prop := AWp tP zF7 (zF6 K) (ux 2 (t2 :: t3 :: ux 105 [])) H
def zoa (t2 t3 : AV) (H : zaa) (K : Kt) : Prop :=
 zad false 1 t2 H fun t14 =>
 za9 t14 fun t15 =>
 zaf 2 t15 fun t16 =>
 zad false 1 t16 H fun t17 =>
 zac .lss false t17 (.int .i64 0) fun t18 =>
 zag t18
 (K (.bool false) H)
 (zaf 0 t3 fun t19 =>
 zad false 1 t19 H fun t20 =>
 zud t2 t3 (.int .i64 0) (.int .i64 0) t20 H K)
def zuc (t0 t1 : AV) (H : zaa) (K : Kt) : Prop :=
 zaq t0 H fun t2 H =>
 zaq t1 H fun t3 H =>
 zad false 1 t2 H fun t7 =>
 za9 t7 fun t8 =>
 zaf 2 t8 fun t9 =>
 zad false 1 t9 H fun t10 =>
 zac .sub false t10 (.int .i64 1) fun t11 =>
 za9 t7 fun t12 =>
 zaf 2 t12 fun t13 =>
 zak 1 t13 t11 H fun H =>
 zn9 t2 t3 H K
theorem zuf {t2 t3 t20 t74 : AV} {H : zaa} {K : Kt} (h : HSc H → zjL t2 t3 t20 t74 H K) : zoc t2 t3 t20 t74 H K :=
 fun B w G a hH hF hd => zdP (M := zdg) _ _ _ _ (Eq.mpr (by kernel_rfl) (h hH.sc)) B w G a hH hF hd
theorem zue {t2 t3 t5 t6 t20 t21 : AV} {H : zaa} {K : Kt} (h : HSc H → zcK t2 t3 t5 t6 t20 t21 H K) : zjK t2 t3 t5 t6 t20 t21 H K :=
 fun B w G a hH hF hd => zdP (M := zdg) _ _ _ _ (Eq.mpr (by kernel_rfl) (h hH.sc)) B w G a hH hF hd
theorem zGb {t2 t3 t5 t6 t20 : AV} {H : zaa} {K : Kt} (h : HSc H → zob t2 t3 t5 t6 t20 H K) : zud t2 t3 t5 t6 t20 H K :=
 fun B w G a hH hF hd => zdP (M := zdg) _ _ _ _ (Eq.mpr (by kernel_rfl) (h hH.sc)) B w G a hH hF hd
theorem zF8 {t2 t3 : AV} {H : zaa} {K : Kt} (h : HSc H → zoa t2 t3 H K) : zn9 t2 t3 H K :=
 fun B w G a hH hF hd => zdP (M := zdg) _ _ _ _ (Eq.mpr (by kernel_rfl) (h hH.sc)) B w G a hH hF hd
theorem zGg {t0 t1 : AV} {H : zaa} {K : Kt} (h : HSc H → zuc t0 t1 H K) : ACalls tP zg0 [t0, t1] H K :=
 zam (M := zdg) Tryz.func97 (c := zdh) (by kernel_rfl) (fun hs => Eq.mpr (by kernel_rfl) (h hs))
def zx8 (_ : Nat) : List Bool := []
noncomputable def zx9 : Code := Tryz.f114.body.getD .skip
def zrm (t0 t1 : AV) (H : zaa) (K : Kt) : Prop :=
 zaq t0 H fun t2 H =>
 zad false 1 t1 H fun t4 =>
 zad true 3 t2 H fun t5 =>
 ACalls tP zg0 [t4, t5] H fun t6 H =>
 aUn .not t6 fun t7 =>
 K t7 H
theorem zya {t0 t1 : AV} {H : zaa} {K : Kt} (h : HSc H → zrm t0 t1 H K) : ACalls tP zgt [t0, t1] H K :=
 zam (M := zx8) Tryz.func114 (c := zx9) (by kernel_rfl) (fun hs => Eq.mpr (by kernel_rfl) (h hs))
def zxZ (_ : Nat) : List Bool := []
noncomputable def zx0 : Code := Tryz.f106.body.getD .skip
def zrj (t0 t1 : AV) (H : zaa) (K : Kt) : Prop :=
 ACalls tP zkt [t0, t1] H fun t7 H =>
 zac .geq false t7 (.int .i64 0) fun t8 =>
 K t8 H
theorem zx1 {t0 t1 : AV} {H : zaa} {K : Kt} (h : HSc H → zrj t0 t1 H K) : ACalls tP zdX [t0, t1] H K :=
 zam (M := zxZ) Tryz.func106 (c := zx0) (by kernel_rfl) (fun hs => Eq.mpr (by kernel_rfl) (h hs))
def zhL : Nat → List Bool
 | 2 => rl false [0,2,5,2,10]
 | _ => []
noncomputable def zlS : Code := Tryz.f124.body.getD .skip
noncomputable def zyV : List ResultVar := Tryz.f124.results.toList
def zhM (t0 t1 t7 t8 : AV) : List AV := t0 :: t1 :: ux 5 (t7 :: t8 :: ux 10 [])
def zyT : List Bool := zhL 2
noncomputable def zyR : Code := zao [1, 0, 1, 0, 0] zlS
def zyQ (K : Kt) : AExit → List AV → zaa → Prop := zap tP zhL [1, 0, 1, 0] zlS (zaw tP zyV K)
def zrA (t0 t1 t7 t8 : AV) (H : zaa) (K : Kt) : Prop := ALoop tP zyR (zyQ K) (zhM t0 t1 t7 t8) H
def zlR (t0 t1 t7 t8 : AV) (H : zaa) (K : Kt) (Kb2 : Lt) : Prop :=
 zac .lss false t8 t7 fun t9 =>
 zag t9
 (zai 3 t0 t8 fun t14 =>
 zad true 3 t14 H fun t15 =>
 aCallV tP t1 [t15] H fun t16 H =>
 zag t16
 (K t8 H)
 (zac .add false t8 (.int .i64 1) fun t18 =>
 Kb2 (zhM t0 t1 t7 t18) H))
 (K (.int .i64 (-1)) H)
def zrz (t0 t1 : AV) (H : zaa) (K : Kt) : Prop :=
 zah 1 t0 fun t7 =>
 zrA t0 t1 t7 (.int .i64 0) H K
theorem zyS {t0 t1 t7 t8 : AV} {H : zaa} {K : Kt} (Inv : Nat → AV → zaa → Prop) (n : Nat) (h0 : HSc H → Inv n t8 H)
  (round : Rd1 (fun t8 => zhM t0 t1 t7 t8) (fun t8 => fun H Kb2 => zlR t0 t1 t7 t8 H K Kb2) H Inv) : zrA t0 t1 t7 t8 H K :=
 lp1 (M := zhL) zyT t8 (by kernel_rfl) Inv n h0 round
theorem zyU {t0 t1 : AV} {H : zaa} {K : Kt} (h : HSc H → zrz t0 t1 H K) : ACalls tP zkt [t0, t1] H K :=
 zam (M := zhL) Tryz.func124 (c := zlS) (by kernel_rfl) (fun hs => Eq.mpr (by kernel_rfl) (h hs))
end Go.Proofs.YtacebbdfgbfgiaaGreat
namespace Go.Proofs.YtacebbdfgbfgiaaGreat
open Go Go.Abs
set_option maxRecDepth 100000
def zcX : Nat → List Bool
 | 8 => rl false [2,1,1,1,3,2,49,3,46]
 | 13 => rl false [2,1,1,1,3,2,67,3,28]
 | 20 => rl false [4,1,9,1,78,3,12]
 | _ => []
noncomputable def zeb : Code := Tryz.f28.body.getD .skip
noncomputable def zmj : List ResultVar := Tryz.f28.results.toList
def zh7 (t2 t4 t8 t9 t59 t60 t61 : AV) : List AV := ux 2 (t2 :: ux 1 (t4 :: ux 3 (t8 :: t9 :: ux 49 (t59 :: t60 :: t61 :: ux 46 []))))
def zAA : List Bool := zcX 8
noncomputable def zAu : Code := zao [1, 1, 1, 1, 1, 0, 1, 0, 0] zeb
def zAr (K : Kt) : AExit → List AV → zaa → Prop := zap tP zcX [1, 1, 1, 1, 1, 0, 1, 0] zeb (zaw tP zmj K)
def zr3 (t2 t4 t8 t9 t59 t60 t61 : AV) (H : zaa) (K : Kt) : Prop := ALoop tP zAu (zAr K) (zh7 t2 t4 t8 t9 t59 t60 t61) H
def zh5 (t2 t4 t8 t9 t77 t78 t79 : AV) : List AV := ux 2 (t2 :: ux 1 (t4 :: ux 3 (t8 :: t9 :: ux 67 (t77 :: t78 :: t79 :: ux 28 []))))
def zAy : List Bool := zcX 13
noncomputable def zAs : Code := zao [1, 1, 1, 1, 1, 1, 0, 1, 0, 0] zeb
def zAp (K : Kt) : AExit → List AV → zaa → Prop := zap tP zcX [1, 1, 1, 1, 1, 1, 0, 1, 0] zeb (zaw tP zmj K)
def zr2 (t2 t4 t8 t9 t77 t78 t79 : AV) (H : zaa) (K : Kt) : Prop := ALoop tP zAs (zAp K) (zh5 t2 t4 t8 t9 t77 t78 t79) H
def zh6 (t4 t14 t93 t94 t95 : AV) : List AV := ux 4 (t4 :: ux 9 (t14 :: ux 78 (t93 :: t94 :: t95 :: ux 12 [])))
def zAz : List Bool := zcX 20
noncomputable def zAt : Code := zao [1, 1, 1, 1, 1, 1, 1, 1, 0, 1, 0, 0] zeb
def zAq (K : Kt) : AExit → List AV → zaa → Prop := zap tP zcX [1, 1, 1, 1, 1, 1, 1, 1, 0, 1, 0] zeb (zaw tP zmj K)
def zh8 (t4 t14 t93 t94 t95 : AV) (H : zaa) (K : Kt) : Prop := ALoop tP zAt (zAq K) (zh6 t4 t14 t93 t94 t95) H
def zmh (t4 t14 t93 t94 t95 : AV) (H : zaa) (K : Kt) (Kb20 : Lt) : Prop :=
 zac .lss false t95 t94 fun t96 =>
 zag t96
 (zai 3 t93 t95 fun t97 =>
 zad true 3 t97 H fun t98 =>
 zau [(.int .i64 0), (.int .i64 0), .snil] H fun t16 H =>
 zak 3 t16 t98 H fun H =>
 zad true 3 t16 H fun t100 =>
 zaf 2 t4 fun t101 =>
 zad false 1 t101 H fun t102 =>
 ACalls tP zfu [t100, t102] H fun t103 H =>
 zaA 3 [(.int .i64 0), (.int .i64 0), .snil] 1 [(0, t103)] fun t104 =>
 zar zaP 3 40 t14 t104 H fun t105 H =>
 zac .add false t95 (.int .i64 1) fun t106 =>
 Kb20 (zh6 t4 t105 t93 t94 t106) H)
 (zax [t14, (.bool true)] (K · H))
def zmg (t2 t4 t8 t9 t77 t78 t79 : AV) (H : zaa) (K : Kt) (Kb13 : Lt) : Prop :=
 zac .lss false t79 t78 fun t80 =>
 zag t80
 (zai 3 t77 t79 fun t81 =>
 zad true 3 t81 H fun t82 =>
 zau [(.int .i64 0), (.int .i64 0), .snil] H fun t13 H =>
 zak 3 t13 t82 H fun H =>
 zad true 3 t13 H fun t83 =>
 ACalls tP zgK [t83, t9] H fun t85 H =>
 zac .gtr false t85 (.int .i64 200) fun t86 =>
 zag t86
 (zax [.snil, (.bool false)] (K · H))
 (zac .add false t79 (.int .i64 1) fun t87 =>
 Kb13 (zh5 t2 t4 t8 t9 t77 t78 t87) H))
 (zaf 2 t8 fun t88 =>
 zad false 1 t88 H fun t89 =>
 zai 2 t89 t2 fun t91 =>
 zaf 1 t91 fun t92 =>
 zad false 1 t92 H fun t93 =>
 zah 1 t93 fun t94 =>
 zh8 t4 .snil t93 t94 (.int .i64 0) H K)
def zmi (t2 t4 t8 t9 t59 t60 t61 : AV) (H : zaa) (K : Kt) (Kb8 : Lt) : Prop :=
 zac .lss false t61 t60 fun t62 =>
 zag t62
 (zai 3 t59 t61 fun t64 =>
 zad true 3 t64 H fun t65 =>
 zau [(.int .i64 0), (.int .i64 0), .snil] H fun t11 H =>
 zak 3 t11 t65 H fun H =>
 zad true 3 t11 H fun t68 =>
 ACalls tP zgJ [t68] H fun t69 H =>
 zai 1 t9 t61 fun t70 =>
 zak 1 t70 t69 H fun H =>
 zac .add false t61 (.int .i64 1) fun t71 =>
 Kb8 (zh7 t2 t4 t8 t9 t59 t60 t71) H)
 (zaf 2 t8 fun t72 =>
 zad false 1 t72 H fun t73 =>
 zai 2 t73 t2 fun t75 =>
 zaf 1 t75 fun t76 =>
 zad false 1 t76 H fun t77 =>
 zah 1 t77 fun t78 =>
 zr2 t2 t4 t8 t9 t77 t78 (.int .i64 0) H K)
def zr1 (t0 t1 t2 : AV) (H : zaa) (K : Kt) : Prop :=
 zaq t1 H fun t4 H =>
 zaf 0 t4 fun t17 =>
 zad false 1 t17 H fun t18 =>
 zac .neq false t18 (.int .i64 5) fun t19 =>
 zab t19 false H (fun K' => zaf 1 t4 (K' · H)) fun t21 H =>
 zab t19 false H (fun K' => zad false 1 t21 H (K' · H)) fun t22 H =>
 zab t19 false H (fun K' => zac .lss false t22 (.int .i64 0) (K' · H)) fun t23 H =>
 zaj t19 (.bool true) t23 fun t24 =>
 zab t24 false H (fun K' => zaf 1 t4 (K' · H)) fun t26 H =>
 zab t24 false H (fun K' => zad false 1 t26 H (K' · H)) fun t27 H =>
 zab t24 false H (fun K' => K' t0 H) fun t28 H =>
 zab t24 false H (fun K' => zah 1 t28 (K' · H)) fun t29 H =>
 zab t24 false H (fun K' => zac .geq false t27 t29 (K' · H)) fun t30 H =>
 zaj t24 (.bool true) t30 fun t31 =>
 zag t31
 (zax [.snil, (.bool false)] (K · H))
 (zaf 1 t4 fun t33 =>
 zad false 1 t33 H fun t34 =>
 zai 3 t0 t34 fun t35 =>
 zad true 3 t35 H fun t36 =>
 zau [(.str []), (.int .i64 0), .snil] H fun t8 H =>
 zak 3 t8 t36 H fun H =>
 zaf 2 t4 fun t37 =>
 zad false 1 t37 H fun t38 =>
 zah 1 t38 fun t39 =>
 zaf 1 t8 fun t40 =>
 zad false 1 t40 H fun t41 =>
 zac .neq false t39 t41 fun t42 =>
 zab t42 false H (fun K' => K' t2 H) fun t44 H =>
 zab t42 false H (fun K' => zac .lss false t44 (.int .i64 0) (K' · H)) fun t45 H =>
 zaj t42 (.bool true) t45 fun t46 =>
 zab t46 false H (fun K' => K' t2 H) fun t48 H =>
 zab t46 false H (fun K' => zaf 2 t8 (K' · H)) fun t49 H =>
 zab t46 false H (fun K' => zad false 1 t49 H (K' · H)) fun t50 H =>
 zab t46 false H (fun K' => zah 1 t50 (K' · H)) fun t51 H =>
 zab t46 false H (fun K' => zac .geq false t48 t51 (K' · H)) fun t52 H =>
 zaj t46 (.bool true) t52 fun t53 =>
 zag t53
 (zax [.snil, (.bool false)] (K · H))
 (zaf 2 t4 fun t54 =>
 zad false 1 t54 H fun t55 =>
 zah 1 t55 fun t56 =>
 zbo 8 [(.int .i64 0)] t56 t56 H fun t57 H =>
 zaf 2 t4 fun t58 =>
 zad false 1 t58 H fun t59 =>
 zah 1 t59 fun t60 =>
 zr3 t2 t4 t8 t57 t59 t60 (.int .i64 0) H K))
theorem zAw {t4 t14 t93 t94 t95 : AV} {H : zaa} {K : Kt} (Inv : Nat → AV → AV → zaa → Prop) (n : Nat) (h0 : HSc H → Inv n t14 t95 H)
  (round : Rd2 (fun t14 => fun t95 => zh6 t4 t14 t93 t94 t95) (fun t14 => fun t95 => fun H Kb20 => zmh t4 t14 t93 t94 t95 H K Kb20) H Inv) : zh8 t4 t14 t93 t94 t95 H K :=
 lp2 (M := zcX) zAz t14 t95 (by kernel_rfl) Inv n h0 round
theorem zAv {t2 t4 t8 t9 t77 t78 t79 : AV} {H : zaa} {K : Kt} (Inv : Nat → AV → zaa → Prop) (n : Nat) (h0 : HSc H → Inv n t79 H)
  (round : Rd1 (fun t79 => zh5 t2 t4 t8 t9 t77 t78 t79) (fun t79 => fun H Kb13 => zmg t2 t4 t8 t9 t77 t78 t79 H K Kb13) H Inv) : zr2 t2 t4 t8 t9 t77 t78 t79 H K :=
 lp1 (M := zcX) zAy t79 (by kernel_rfl) Inv n h0 round
theorem zAx {t2 t4 t8 t9 t59 t60 t61 : AV} {H : zaa} {K : Kt} (Inv : Nat → AV → zaa → Prop) (n : Nat) (h0 : HSc H → Inv n t61 H)
  (round : Rd1 (fun t61 => zh7 t2 t4 t8 t9 t59 t60 t61) (fun t61 => fun H Kb8 => zmi t2 t4 t8 t9 t59 t60 t61 H K Kb8) H Inv) : zr3 t2 t4 t8 t9 t59 t60 t61 H K :=
 lp1 (M := zcX) zAA t61 (by kernel_rfl) Inv n h0 round
theorem zAB {t0 t1 t2 : AV} {H : zaa} {K : Kt} (h : HSc H → zr1 t0 t1 t2 H K) : ACalls tP zfq [t0, t1, t2] H K :=
 zam (M := zcX) Tryz.func28 (c := zeb) (by kernel_rfl) (fun hs => Eq.mpr (by kernel_rfl) (h hs))
def ziF : Nat → List Bool
 | 3 => rl false [3,1,3,3,9]
 | _ => []
noncomputable def zmU : Code := Tryz.f49.body.getD .skip
noncomputable def zCm : List ResultVar := Tryz.f49.results.toList
def ziG (t3 t7 t8 t9 : AV) : List AV := ux 3 (t3 :: ux 3 (t7 :: t8 :: t9 :: ux 9 []))
def zCk : List Bool := ziF 3
noncomputable def zCi : Code := zao [1, 1, 0, 1, 0, 0] zmU
def zCh (K : Kt) : AExit → List AV → zaa → Prop := zap tP ziF [1, 1, 0, 1, 0] zmU (zaw tP zCm K)
def zsF (t3 t7 t8 t9 : AV) (H : zaa) (K : Kt) : Prop := ALoop tP zCi (zCh K) (ziG t3 t7 t8 t9) H
def zmT (t3 t7 t8 t9 : AV) (H : zaa) (K : Kt) (Kb3 : Lt) : Prop :=
 zac .lss false t9 t8 fun t10 =>
 zag t10
 (zai 3 t7 t9 fun t11 =>
 zad true 3 t11 H fun t12 =>
 zau [(.int .i64 0), (.int .i64 0), .snil] H fun t5 H =>
 zak 3 t5 t12 H fun H =>
 zad true 3 t5 H fun t14 =>
 ACalls tP zgJ [t14] H fun t15 H =>
 zac .add false t3 t15 fun t16 =>
 zac .add false t9 (.int .i64 1) fun t17 =>
 Kb3 (ziG t16 t7 t8 t17) H)
 (K t3 H)
def zsE (t0 : AV) (H : zaa) (K : Kt) : Prop :=
 zaq t0 H fun t1 H =>
 zaf 2 t1 fun t6 =>
 zad false 1 t6 H fun t7 =>
 zah 1 t7 fun t8 =>
 zsF (.int .i64 1) t7 t8 (.int .i64 0) H K
theorem zCj {t3 t7 t8 t9 : AV} {H : zaa} {K : Kt} (Inv : Nat → AV → AV → zaa → Prop) (n : Nat) (h0 : HSc H → Inv n t3 t9 H)
  (round : Rd2 (fun t3 => fun t9 => ziG t3 t7 t8 t9) (fun t3 => fun t9 => fun H Kb3 => zmT t3 t7 t8 t9 H K Kb3) H Inv) : zsF t3 t7 t8 t9 H K :=
 lp2 (M := ziF) zCk t3 t9 (by kernel_rfl) Inv n h0 round
theorem zCl {t0 : AV} {H : zaa} {K : Kt} (h : HSc H → zsE t0 H K) : ACalls tP zgJ [t0] H K :=
 zam (M := ziF) Tryz.func49 (c := zmU) (by kernel_rfl) (fun hs => Eq.mpr (by kernel_rfl) (h hs))
def ziH : Nat → List Bool
 | 5 => rl false [1,1,3,1,23,3,12]
 | _ => []
noncomputable def zmX : Code := Tryz.f50.body.getD .skip
noncomputable def zCt : List ResultVar := Tryz.f50.results.toList
def ziI (t1 t5 t29 t30 t31 : AV) : List AV := ux 1 (t1 :: ux 3 (t5 :: ux 23 (t29 :: t30 :: t31 :: ux 12 [])))
def zCr : List Bool := ziH 5
noncomputable def zCp : Code := zao [1, 1, 1, 0, 1, 0, 0] zmX
def zCo (K : Kt) : AExit → List AV → zaa → Prop := zap tP ziH [1, 1, 1, 0, 1, 0] zmX (zaw tP zCt K)
def zmZ (t1 t5 t29 t30 t31 : AV) (H : zaa) (K : Kt) : Prop := ALoop tP zCp (zCo K) (ziI t1 t5 t29 t30 t31) H
def zmY (t5 : AV) (H : zaa) (K : Kt) : Prop :=
 K t5 H
def ziJ (t5 : AV) (H : zaa) (K : Kt) : Prop :=
 zmY t5 H K
def zmW (t1 t5 t29 t30 t31 : AV) (H : zaa) (K : Kt) (Kb5 : Lt) : Prop :=
 zac .lss false t31 t30 fun t32 =>
 zag t32
 (zai 3 t29 t31 fun t33 =>
 zad true 3 t33 H fun t34 =>
 zau [(.int .i64 0), (.int .i64 0), .snil] H fun t7 H =>
 zak 3 t7 t34 H fun H =>
 zad true 3 t7 H fun t36 =>
 ACalls tP zgK [t36, t1] H fun t38 H =>
 zac .add false t5 t38 fun t39 =>
 zac .gtr false t39 (.int .i64 200) fun t41 =>
 zag t41
 (ziJ t39 H K)
 (zac .add false t31 (.int .i64 1) fun t42 =>
 Kb5 (ziI t1 t39 t29 t30 t42) H))
 (ziJ t5 H K)
def zmV (t0 t1 : AV) (H : zaa) (K : Kt) : Prop :=
 zaq t0 H fun t2 H =>
 zaf 0 t2 fun t8 =>
 zad false 1 t8 H fun t9 =>
 zac .eql false t9 (.int .i64 4) fun t10 =>
 zab t10 true H (fun K' => zaf 1 t2 (K' · H)) fun t12 H =>
 zab t10 true H (fun K' => zad false 1 t12 H (K' · H)) fun t13 H =>
 zab t10 true H (fun K' => zac .geq false t13 (.int .i64 0) (K' · H)) fun t14 H =>
 zaj t10 t14 (.bool false) fun t15 =>
 zab t15 true H (fun K' => zaf 1 t2 (K' · H)) fun t17 H =>
 zab t15 true H (fun K' => zad false 1 t17 H (K' · H)) fun t18 H =>
 zab t15 true H (fun K' => K' t1 H) fun t19 H =>
 zab t15 true H (fun K' => zah 1 t19 (K' · H)) fun t20 H =>
 zab t15 true H (fun K' => zac .lss false t18 t20 (K' · H)) fun t21 H =>
 zaj t15 t21 (.bool false) fun t22 =>
 zag t22
 (zaf 1 t2 fun t24 =>
 zad false 1 t24 H fun t25 =>
 zai 1 t1 t25 fun t26 =>
 zad false 1 t26 H fun t27 =>
 K t27 H)
 (zaf 2 t2 fun t28 =>
 zad false 1 t28 H fun t29 =>
 zah 1 t29 fun t30 =>
 zmZ t1 (.int .i64 1) t29 t30 (.int .i64 0) H K)
theorem zCq {t1 t5 t29 t30 t31 : AV} {H : zaa} {K : Kt} (Inv : Nat → AV → AV → zaa → Prop) (n : Nat) (h0 : HSc H → Inv n t5 t31 H)
  (round : Rd2 (fun t5 => fun t31 => ziI t1 t5 t29 t30 t31) (fun t5 => fun t31 => fun H Kb5 => zmW t1 t5 t29 t30 t31 H K Kb5) H Inv) : zmZ t1 t5 t29 t30 t31 H K :=
 lp2 (M := ziH) zCr t5 t31 (by kernel_rfl) Inv n h0 round
theorem zCs {t0 t1 : AV} {H : zaa} {K : Kt} (h : HSc H → zmV t0 t1 H K) : ACalls tP zgK [t0, t1] H K :=
 zam (M := ziH) Tryz.func50 (c := zmX) (by kernel_rfl) (fun hs => Eq.mpr (by kernel_rfl) (h hs))
def ziK : Nat → List Bool
 | 5 => rl false [1,1,2,2,29,3,13]
 | _ => []
noncomputable def zm2 : Code := Tryz.f51.body.getD .skip
noncomputable def zCA : List ResultVar := Tryz.f51.results.toList
def ziL (t1 t4 t5 t35 t36 t37 : AV) : List AV := ux 1 (t1 :: ux 2 (t4 :: t5 :: ux 29 (t35 :: t36 :: t37 :: ux 13 [])))
def zCy : List Bool := ziK 5
noncomputable def zCw : Code := zao [1, 1, 1, 0, 1, 0, 0] zm2
def zCv (K : Kt) : AExit → List AV → zaa → Prop := zap tP ziK [1, 1, 1, 0, 1, 0] zm2 (zaw tP zCA K)
def zfW (t1 t4 t5 t35 t36 t37 : AV) (H : zaa) (K : Kt) : Prop := ALoop tP zCw (zCv K) (ziL t1 t4 t5 t35 t36 t37) H
def zm1 (t1 t4 t5 t35 t36 t37 : AV) (H : zaa) (K : Kt) (Kb5 : Lt) : Prop :=
 zac .lss false t37 t36 fun t38 =>
 zag t38
 (zai 3 t35 t37 fun t39 =>
 zad true 3 t39 H fun t40 =>
 zau [(.int .i64 0), (.int .i64 0), .snil] H fun t7 H =>
 zak 3 t7 t40 H fun H =>
 zae H (fun K' => zaf 2 t5 (K' · H)) fun t41 =>
 zae H (fun K' => zan false 1 t41 H (K' · H)) fun t42 =>
 zae H (fun K' => zan true 3 t7 H (K' · H)) fun t43 =>
 zae H (fun K' => K' t1 H) fun t44 =>
 zbl H (fun H K' => ACalls tP zfu [t43, t44] H K') fun t45 =>
 zae H (fun K' => zaA 3 [(.int .i64 0), (.int .i64 0), .snil] 1 [(0, t45)] (K' · H)) fun t46 =>
 zar zaP 3 40 t42 t46 H fun t47 H =>
 zae H (fun K' => zaf 2 t5 (K' · H)) fun t48 =>
 zak 1 t48 t47 H fun H =>
 zac .add false t37 (.int .i64 1) fun t49 =>
 Kb5 (ziL t1 t4 t5 t35 t36 t49) H)
 (zad true 3 t5 H fun t50 =>
 zak 3 t4 t50 H fun H =>
 zad true 3 t4 H fun r0 =>
 K r0 H)
def zm0 (t0 t1 : AV) (H : zaa) (K : Kt) : Prop :=
 zaq t0 H fun t2 H =>
 zau [(.int .i64 0), (.int .i64 0), .snil] H fun t4 H =>
 zaf 0 t2 fun t8 =>
 zad false 1 t8 H fun t9 =>
 zac .eql false t9 (.int .i64 4) fun t10 =>
 zab t10 true H (fun K' => zaf 1 t2 (K' · H)) fun t12 H =>
 zab t10 true H (fun K' => zad false 1 t12 H (K' · H)) fun t13 H =>
 zab t10 true H (fun K' => zac .geq false t13 (.int .i64 0) (K' · H)) fun t14 H =>
 zaj t10 t14 (.bool false) fun t15 =>
 zab t15 true H (fun K' => zaf 1 t2 (K' · H)) fun t17 H =>
 zab t15 true H (fun K' => zad false 1 t17 H (K' · H)) fun t18 H =>
 zab t15 true H (fun K' => K' t1 H) fun t19 H =>
 zab t15 true H (fun K' => zah 1 t19 (K' · H)) fun t20 H =>
 zab t15 true H (fun K' => zac .lss false t18 t20 (K' · H)) fun t21 H =>
 zaj t15 t21 (.bool false) fun t22 =>
 zag t22
 (zaf 1 t2 fun t24 =>
 zad false 1 t24 H fun t25 =>
 zai 3 t1 t25 fun t26 =>
 zad true 3 t26 H fun t27 =>
 ACalls tP zfu [t27, .snil] H fun t28 H =>
 zak 3 t4 t28 H fun H =>
 zad true 3 t4 H fun r0 =>
 K r0 H)
 (zaf 0 t2 fun t29 =>
 zad false 1 t29 H fun t30 =>
 zaf 1 t2 fun t31 =>
 zad false 1 t31 H fun t32 =>
 zav [(.int .i64 0), (.int .i64 0), .snil] [(0, 1), (1, 1), (2, 1)] [(0, t30), (1, t32)] fun t33 =>
 zau [(.int .i64 0), (.int .i64 0), .snil] H fun t5 H =>
 zak 3 t5 t33 H fun H =>
 zaf 2 t2 fun t34 =>
 zad false 1 t34 H fun t35 =>
 zah 1 t35 fun t36 =>
 zfW t1 t4 t5 t35 t36 (.int .i64 0) H K)
theorem zCx {t1 t4 t5 t35 t36 t37 : AV} {H : zaa} {K : Kt} (Inv : Nat → AV → zaa → Prop) (n : Nat) (h0 : HSc H → Inv n t37 H)
  (round : Rd1 (fun t37 => ziL t1 t4 t5 t35 t36 t37) (fun t37 => fun H Kb5 => zm1 t1 t4 t5 t35 t36 t37 H K Kb5) H Inv) : zfW t1 t4 t5 t35 t36 t37 H K :=
 lp1 (M := ziK) zCy t37 (by kernel_rfl) Inv n h0 round
theorem zCz {t0 t1 : AV} {H : zaa} {K : Kt} (h : HSc H → zm0 t0 t1 H K) : ACalls tP zfu [t0, t1] H K :=
 zam (M := ziK) Tryz.func51 (c := zm2) (by kernel_rfl) (fun hs => Eq.mpr (by kernel_rfl) (h hs))
def zDv (_ : Nat) : List Bool := []
noncomputable def zDw : Code := Tryz.f64.body.getD .skip
def zs2 (t0 t1 t2 : AV) (H : zaa) (K : Kt) : Prop :=
 zaq t1 H fun t4 H =>
 zad true 3 t4 H fun t7 =>
 ACalls tP zfr [t7] H fun t8 H =>
 zac .leq false t8 (.int .i64 200) fun t9 =>
 zab t9 true H (fun K' => K' t0 H) fun t11 H =>
 zab t9 true H (fun K' => zad true 3 t4 H (K' · H)) fun t12 H =>
 zab t9 true H (fun K' => K' t2 H) fun t13 H =>
 zab t9 true H (fun K' => ACalls tP zgY [t11, t12, t13] H K') fun t14 H =>
 zaj t9 t14 (.bool false) fun t15 =>
 K t15 H
theorem zDx {t0 t1 t2 : AV} {H : zaa} {K : Kt} (h : HSc H → zs2 t0 t1 t2 H K) : ACalls tP zgQ [t0, t1, t2] H K :=
 zam (M := zDv) Tryz.func64 (c := zDw) (by kernel_rfl) (fun hs => Eq.mpr (by kernel_rfl) (h hs))
def ziy : Nat → List Bool
 | 3 => rl false [1,1,1,2,16]
 | _ => []
noncomputable def zmN : Code := Tryz.f42.body.getD .skip
noncomputable def zBU : List ResultVar := Tryz.f42.results.toList
def ziz (t1 t3 t4 : AV) : List AV := ux 1 (t1 :: ux 1 (t3 :: t4 :: ux 16 []))
def zBS : List Bool := ziy 3
noncomputable def zBQ : Code := zao [1, 1, 0, 1, 0, 0] zmN
def zBP (K : Kt) : AExit → List AV → zaa → Prop := zap tP ziy [1, 1, 0, 1, 0] zmN (zaw tP zBU K)
def zsv (t1 t3 t4 : AV) (H : zaa) (K : Kt) : Prop := ALoop tP zBQ (zBP K) (ziz t1 t3 t4) H
def zmM (t1 t3 t4 : AV) (H : zaa) (K : Kt) (Kb3 : Lt) : Prop :=
 zaf 2 t1 fun t6 =>
 zad false 1 t6 H fun t7 =>
 zah 1 t7 fun t8 =>
 zac .lss false t4 t8 fun t9 =>
 zag t9
 (zaf 2 t1 fun t13 =>
 zad false 1 t13 H fun t14 =>
 zai 3 t14 t4 fun t16 =>
 zad true 3 t16 H fun t17 =>
 ACalls tP zfr [t17] H fun t18 H =>
 zac .add false t3 t18 fun t19 =>
 zac .add false t4 (.int .i64 1) fun t11 =>
 Kb3 (ziz t1 t19 t11) H)
 (K t3 H)
def zsu (t0 : AV) (H : zaa) (K : Kt) : Prop :=
 zaq t0 H fun t1 H =>
 zsv t1 (.int .i64 1) (.int .i64 0) H K
theorem zBR {t1 t3 t4 : AV} {H : zaa} {K : Kt} (Inv : Nat → AV → AV → zaa → Prop) (n : Nat) (h0 : HSc H → Inv n t3 t4 H)
  (round : Rd2 (fun t3 => fun t4 => ziz t1 t3 t4) (fun t3 => fun t4 => fun H Kb3 => zmM t1 t3 t4 H K Kb3) H Inv) : zsv t1 t3 t4 H K :=
 lp2 (M := ziy) zBS t3 t4 (by kernel_rfl) Inv n h0 round
theorem zBT {t0 : AV} {H : zaa} {K : Kt} (h : HSc H → zsu t0 H K) : ACalls tP zfr [t0] H K :=
 zam (M := ziy) Tryz.func42 (c := zmN) (by kernel_rfl) (fun hs => Eq.mpr (by kernel_rfl) (h hs))
def zjr : Nat → List Bool
 | 24 => rl false [0,1,1,1,1,1,2,2,103]
 | _ => []
noncomputable def znF : Code := Tryz.f86.body.getD .skip
noncomputable def zEH : List ResultVar := Tryz.f86.results.toList
def zjs (t0 t2 t4 t7 t8 : AV) : List AV := t0 :: ux 1 (t2 :: ux 1 (t4 :: ux 2 (t7 :: t8 :: ux 103 [])))
def zEF : List Bool := zjr 24
noncomputable def zED : Code := zao [1, 1, 1, 0, 1, 0, 0] znF
def zEC (K : Kt) : AExit → List AV → zaa → Prop := zap tP zjr [1, 1, 1, 0, 1, 0] znF (zaw tP zEH K)
def znG (t0 t2 t4 t7 t8 : AV) (H : zaa) (K : Kt) : Prop := ALoop tP zED (zEC K) (zjs t0 t2 t4 t7 t8) H
def znE (t0 t2 t4 t7 t8 : AV) (H : zaa) (K : Kt) (Kb24 : Lt) : Prop :=
 zac .lss false t8 t7 fun t100 =>
 zag t100
 (zaf 2 t4 fun t104 =>
 zad false 1 t104 H fun t105 =>
 zai 3 t105 t8 fun t107 =>
 zad true 3 t107 H fun t108 =>
 ACalls tP zgY [t0, t108, t2] H fun t110 H =>
 aUn .not t110 fun t111 =>
 zag t111
 (K (.bool false) H)
 (zac .add false t8 (.int .i64 1) fun t102 =>
 Kb24 (zjs t0 t2 t4 t7 t102) H))
 (K (.bool true) H)
def zfY (t0 t2 t4 t7 : AV) (H : zaa) (K : Kt) : Prop :=
 znG t0 t2 t4 t7 (.int .i64 0) H K
def zdJ (t0 t2 t4 t7 : AV) (H : zaa) (K : Kt) : Prop :=
 zfY t0 t2 t4 t7 H K
def zcZ (t0 t2 t4 t7 t13 t75 : AV) (H : zaa) (K : Kt) : Prop :=
 zag t75
 (zaf 1 t4 fun t78 =>
 zad false 1 t78 H fun t79 =>
 zac .neq false t79 (.int .i64 0) fun t80 =>
 zab t80 false H (fun K' => K' t7 H) fun t82 H =>
 zab t80 false H (fun K' => zac .neq false t82 (.int .i64 1) (K' · H)) fun t83 H =>
 zaj t80 (.bool true) t83 fun t84 =>
 zag t84
 (K (.bool false) H)
 (zdJ t0 t2 t4 t7 H K))
 (zac .eql false t13 (.int .i64 9) fun t86 =>
 zag t86
 (zaf 1 t4 fun t87 =>
 zad false 1 t87 H fun t88 =>
 zac .neq false t88 (.int .i64 0) fun t89 =>
 zab t89 false H (fun K' => K' t7 H) fun t91 H =>
 zab t89 false H (fun K' => zac .lss false t91 (.int .i64 1) (K' · H)) fun t92 H =>
 zaj t89 (.bool true) t92 fun t93 =>
 zab t93 false H (fun K' => K' t7 H) fun t95 H =>
 zab t93 false H (fun K' => zac .gtr false t95 (.int .i64 7) (K' · H)) fun t96 H =>
 zaj t93 (.bool true) t96 fun t97 =>
 zag t97
 (K (.bool false) H)
 (zdJ t0 t2 t4 t7 H K))
 (K (.bool false) H))
def zbn (t0 t2 t4 t7 t13 t14 : AV) (H : zaa) (K : Kt) : Prop :=
 zag t14
 (zaf 1 t4 fun t18 =>
 zad false 1 t18 H fun t19 =>
 zac .eql false t19 (.int .i64 0) fun t20 =>
 zab t20 true H (fun K' => K' t7 H) fun t22 H =>
 zab t20 true H (fun K' => zac .eql false t22 (.int .i64 0) (K' · H)) fun t23 H =>
 zaj t20 t23 (.bool false) fun t24 =>
 K t24 H)
 (zac .eql false t13 (.int .i64 4) fun t26 =>
 zag t26
 (zaf 1 t4 fun t27 =>
 zad false 1 t27 H fun t28 =>
 zac .geq false t28 (.int .i64 0) fun t29 =>
 zab t29 true H (fun K' => zaf 1 t4 (K' · H)) fun t31 H =>
 zab t29 true H (fun K' => zad false 1 t31 H (K' · H)) fun t32 H =>
 zab t29 true H (fun K' => K' t2 H) fun t33 H =>
 zab t29 true H (fun K' => zac .lss false t32 t33 (K' · H)) fun t34 H =>
 zaj t29 t34 (.bool false) fun t35 =>
 zab t35 true H (fun K' => K' t7 H) fun t37 H =>
 zab t35 true H (fun K' => zac .eql false t37 (.int .i64 0) (K' · H)) fun t38 H =>
 zaj t35 t38 (.bool false) fun t39 =>
 K t39 H)
 (zac .eql false t13 (.int .i64 5) fun t41 =>
 zag t41
 (zaf 1 t4 fun t42 =>
 zad false 1 t42 H fun t43 =>
 zac .lss false t43 (.int .i64 0) fun t44 =>
 zab t44 false H (fun K' => zaf 1 t4 (K' · H)) fun t46 H =>
 zab t44 false H (fun K' => zad false 1 t46 H (K' · H)) fun t47 H =>
 zab t44 false H (fun K' => K' t0 H) fun t48 H =>
 zab t44 false H (fun K' => zah 1 t48 (K' · H)) fun t49 H =>
 zab t44 false H (fun K' => zac .geq false t47 t49 (K' · H)) fun t50 H =>
 zaj t44 (.bool true) t50 fun t51 =>
 zab t51 false H (fun K' => K' t7 H) fun t53 H =>
 zab t51 false H (fun K' => K' t0 H) fun t54 H =>
 zab t51 false H (fun K' => zaf 1 t4 (K' · H)) fun t55 H =>
 zab t51 false H (fun K' => zad false 1 t55 H (K' · H)) fun t56 H =>
 zab t51 false H (fun K' => zai 3 t54 t56 (K' · H)) fun t57 H =>
 zab t51 false H (fun K' => zaf 1 t57 (K' · H)) fun t58 H =>
 zab t51 false H (fun K' => zad false 1 t58 H (K' · H)) fun t59 H =>
 zab t51 false H (fun K' => zac .neq false t53 t59 (K' · H)) fun t60 H =>
 zaj t51 (.bool true) t60 fun t61 =>
 zag t61
 (K (.bool false) H)
 (zdJ t0 t2 t4 t7 H K))
 (zac .eql false t13 (.int .i64 6) fun t63 =>
 zag t63
 (zaf 1 t4 fun t64 =>
 zad false 1 t64 H fun t65 =>
 zac .neq false t65 (.int .i64 0) fun t66 =>
 zab t66 false H (fun K' => K' t7 H) fun t68 H =>
 zab t66 false H (fun K' => zac .lss false t68 (.int .i64 2) (K' · H)) fun t69 H =>
 zaj t66 (.bool true) t69 fun t70 =>
 zab t70 false H (fun K' => K' t7 H) fun t72 H =>
 zab t70 false H (fun K' => zac .gtr false t72 (.int .i64 6) (K' · H)) fun t73 H =>
 zaj t70 (.bool true) t73 fun t74 =>
 zag t74
 (K (.bool false) H)
 (zdJ t0 t2 t4 t7 H K))
 (zac .eql false t13 (.int .i64 7) fun t76 =>
 zag t76
 (zcZ t0 t2 t4 t7 t13 t76 H K)
 (zac .eql false t13 (.int .i64 8) fun t77 =>
 zcZ t0 t2 t4 t7 t13 t77 H K)))))
def zbZ (t0 t1 t2 : AV) (H : zaa) (K : Kt) : Prop :=
 zaq t1 H fun t4 H =>
 zaf 2 t4 fun t9 =>
 zad false 1 t9 H fun t10 =>
 zah 1 t10 fun t11 =>
 zaf 0 t4 fun t12 =>
 zad false 1 t12 H fun t13 =>
 zac .eql false t13 (.int .i64 1) fun t15 =>
 zag t15
 (zbn t0 t2 t4 t11 t13 t15 H K)
 (zac .eql false t13 (.int .i64 2) fun t16 =>
 zag t16
 (zbn t0 t2 t4 t11 t13 t16 H K)
 (zac .eql false t13 (.int .i64 3) fun t17 =>
 zbn t0 t2 t4 t11 t13 t17 H K))
theorem zEE {t0 t2 t4 t7 t8 : AV} {H : zaa} {K : Kt} (Inv : Nat → AV → zaa → Prop) (n : Nat) (h0 : HSc H → Inv n t8 H)
  (round : Rd1 (fun t8 => zjs t0 t2 t4 t7 t8) (fun t8 => fun H Kb24 => znE t0 t2 t4 t7 t8 H K Kb24) H Inv) : znG t0 t2 t4 t7 t8 H K :=
 lp1 (M := zjr) zEF t8 (by kernel_rfl) Inv n h0 round
theorem zEG {t0 t1 t2 : AV} {H : zaa} {K : Kt} (h : HSc H → zbZ t0 t1 t2 H K) : ACalls tP zgY [t0, t1, t2] H K :=
 zam (M := zjr) Tryz.func86 (c := znF) (by kernel_rfl) (fun hs => Eq.mpr (by kernel_rfl) (h hs))
def zhO : Nat → List Bool
 | 5 => rl false [4,1,3,1,54,3,16]
 | _ => []
noncomputable def zlV : Code := Tryz.f15.body.getD .skip
noncomputable def zzh : List ResultVar := Tryz.f15.results.toList
def zhP (t4 t8 t63 t64 t65 : AV) : List AV := ux 4 (t4 :: ux 3 (t8 :: ux 54 (t63 :: t64 :: t65 :: ux 16 [])))
def zzf : List Bool := zhO 5
noncomputable def zzd : Code := zao [1, 1, 1, 0, 1, 0, 0] zlV
def zzc (K : Kt) : AExit → List AV → zaa → Prop := zap tP zhO [1, 1, 1, 0, 1, 0] zlV (zaw tP zzh K)
def zhQ (t4 t8 t63 t64 t65 : AV) (H : zaa) (K : Kt) : Prop := ALoop tP zzd (zzc K) (zhP t4 t8 t63 t64 t65) H
def zlU (t4 t8 t63 t64 t65 : AV) (H : zaa) (K : Kt) (Kb5 : Lt) : Prop :=
 zac .lss false t65 t64 fun t66 =>
 zag t66
 (zai 3 t63 t65 fun t67 =>
 zad true 3 t67 H fun t68 =>
 zau [(.int .i64 0), (.int .i64 0), .snil] H fun t10 H =>
 zak 3 t10 t68 H fun H =>
 zad true 3 t10 H fun t69 =>
 zaf 2 t4 fun t70 =>
 zad false 1 t70 H fun t71 =>
 ACalls tP zgG [t69, t71] H fun t72 H =>
 zau [(.int .i64 0), (.int .i64 0), .snil] H fun t11 H =>
 zak 3 t11 t72 H fun H =>
 zad true 3 t11 H fun t73 =>
 ACalls tP zfr [t73] H fun t74 H =>
 zac .gtr false t74 (.int .i64 200) fun t75 =>
 zag t75
 (zax [.snil, (.bool false)] (K · H))
 (zad true 3 t11 H fun t77 =>
 zaA 3 [(.int .i64 0), (.int .i64 0), .snil] 1 [(0, t77)] fun t78 =>
 zar zaP 3 40 t8 t78 H fun t79 H =>
 zac .add false t65 (.int .i64 1) fun t80 =>
 Kb5 (zhP t4 t79 t63 t64 t80) H))
 (zax [t8, (.bool true)] (K · H))
def zrB (t0 t1 t2 : AV) (H : zaa) (K : Kt) : Prop :=
 zaq t1 H fun t4 H =>
 zae H (fun K' => zaf 0 t4 (K' · H)) fun t12 =>
 zae H (fun K' => zan false 1 t12 H (K' · H)) fun t13 =>
 zae H (fun K' => zac .neq false t13 (.int .i64 5) (K' · H)) fun t14 =>
 zae H (fun K' => K' t14 H) fun t15 =>
 zab t15 false H (fun K' => zae H (fun K'' => zaf 1 t4 (K'' · H)) (K' · H)) fun t16 H =>
 zab t15 false H (fun K' => zae H (fun K'' => zan false 1 t16 H (K'' · H)) (K' · H)) fun t17 H =>
 zab t15 false H (fun K' => zae H (fun K'' => zac .lss false t17 (.int .i64 0) (K'' · H)) (K' · H)) fun t18 H =>
 zae H (fun K' => zaj t15 (.bool true) t18 (K' · H)) fun t19 =>
 zae H (fun K' => K' t19 H) fun t20 =>
 zab t20 false H (fun K' => zae H (fun K'' => zaf 1 t4 (K'' · H)) (K' · H)) fun t21 H =>
 zab t20 false H (fun K' => zae H (fun K'' => zan false 1 t21 H (K'' · H)) (K' · H)) fun t22 H =>
 zab t20 false H (fun K' => zae H (fun K'' => K'' t0 H) (K' · H)) fun t23 H =>
 zab t20 false H (fun K' => zae H (fun K'' => zah 1 t23 (K'' · H)) (K' · H)) fun t24 H =>
 zab t20 false H (fun K' => zae H (fun K'' => zac .geq false t22 t24 (K'' · H)) (K' · H)) fun t25 H =>
 zae H (fun K' => zaj t20 (.bool true) t25 (K' · H)) fun t26 =>
 zae H (fun K' => K' t26 H) fun t27 =>
 zab t27 false H (fun K' => zae H (fun K'' => zaf 2 t4 (K'' · H)) (K' · H)) fun t28 H =>
 zab t27 false H (fun K' => zae H (fun K'' => zan false 1 t28 H (K'' · H)) (K' · H)) fun t29 H =>
 zab t27 false H (fun K' => zae H (fun K'' => zah 1 t29 (K'' · H)) (K' · H)) fun t30 H =>
 zab t27 false H (fun K' => zae H (fun K'' => K'' t0 H) (K' · H)) fun t31 H =>
 zab t27 false H (fun K' => zae H (fun K'' => zaf 1 t4 (K'' · H)) (K' · H)) fun t32 H =>
 zab t27 false H (fun K' => zae H (fun K'' => zan false 1 t32 H (K'' · H)) (K' · H)) fun t33 H =>
 zab t27 false H (fun K' => zae H (fun K'' => zai 3 t31 t33 (K'' · H)) (K' · H)) fun t34 H =>
 zab t27 false H (fun K' => zae H (fun K'' => zaf 1 t34 (K'' · H)) (K' · H)) fun t35 H =>
 zab t27 false H (fun K' => zae H (fun K'' => zan false 1 t35 H (K'' · H)) (K' · H)) fun t36 H =>
 zab t27 false H (fun K' => zae H (fun K'' => zac .neq false t30 t36 (K'' · H)) (K' · H)) fun t37 H =>
 zae H (fun K' => zaj t27 (.bool true) t37 (K' · H)) fun t38 =>
 zae H (fun K' => K' t38 H) fun t39 =>
 zab t39 false H (fun K' => zae H (fun K'' => K'' t2 H) (K' · H)) fun t40 H =>
 zab t39 false H (fun K' => zae H (fun K'' => zac .lss false t40 (.int .i64 0) (K'' · H)) (K' · H)) fun t41 H =>
 zae H (fun K' => zaj t39 (.bool true) t41 (K' · H)) fun t42 =>
 zae H (fun K' => K' t42 H) fun t43 =>
 zab t43 false H (fun K' => zae H (fun K'' => K'' t2 H) (K' · H)) fun t44 H =>
 zab t43 false H (fun K' => zae H (fun K'' => K'' t0 H) (K' · H)) fun t45 H =>
 zab t43 false H (fun K' => zae H (fun K'' => zaf 1 t4 (K'' · H)) (K' · H)) fun t46 H =>
 zab t43 false H (fun K' => zae H (fun K'' => zan false 1 t46 H (K'' · H)) (K' · H)) fun t47 H =>
 zab t43 false H (fun K' => zae H (fun K'' => zai 3 t45 t47 (K'' · H)) (K' · H)) fun t48 H =>
 zab t43 false H (fun K' => zae H (fun K'' => zaf 2 t48 (K'' · H)) (K' · H)) fun t49 H =>
 zab t43 false H (fun K' => zae H (fun K'' => zan false 1 t49 H (K'' · H)) (K' · H)) fun t50 H =>
 zab t43 false H (fun K' => zae H (fun K'' => zah 1 t50 (K'' · H)) (K' · H)) fun t51 H =>
 zab t43 false H (fun K' => zae H (fun K'' => zac .geq false t44 t51 (K'' · H)) (K' · H)) fun t52 H =>
 zae H (fun K' => zaj t43 (.bool true) t52 (K' · H)) fun t53 =>
 zag t53
 (zax [.snil, (.bool false)] (K · H))
 (zaf 1 t4 fun t55 =>
 zad false 1 t55 H fun t56 =>
 zai 3 t0 t56 fun t57 =>
 zaf 2 t57 fun t58 =>
 zad false 1 t58 H fun t59 =>
 zai 2 t59 t2 fun t61 =>
 zaf 1 t61 fun t62 =>
 zad false 1 t62 H fun t63 =>
 zah 1 t63 fun t64 =>
 zhQ t4 .snil t63 t64 (.int .i64 0) H K)
theorem zze {t4 t8 t63 t64 t65 : AV} {H : zaa} {K : Kt} (Inv : Nat → AV → AV → zaa → Prop) (n : Nat) (h0 : HSc H → Inv n t8 t65 H)
  (round : Rd2 (fun t8 => fun t65 => zhP t4 t8 t63 t64 t65) (fun t8 => fun t65 => fun H Kb5 => zlU t4 t8 t63 t64 t65 H K Kb5) H Inv) : zhQ t4 t8 t63 t64 t65 H K :=
 lp2 (M := zhO) zzf t8 t65 (by kernel_rfl) Inv n h0 round
theorem zzg {t0 t1 t2 : AV} {H : zaa} {K : Kt} (h : HSc H → zrB t0 t1 t2 H K) : ACalls tP zfl [t0, t1, t2] H K :=
 zam (M := zhO) Tryz.func15 (c := zlV) (by kernel_rfl) (fun hs => Eq.mpr (by kernel_rfl) (h hs))
def ziw : Nat → List Bool
 | 5 => rl false [1,2,1,3,46]
 | _ => []
noncomputable def zmK : Code := Tryz.f41.body.getD .skip
noncomputable def zBN : List ResultVar := Tryz.f41.results.toList
def zix (t1 t2 t4 t5 t6 : AV) : List AV := ux 1 (t1 :: t2 :: ux 1 (t4 :: t5 :: t6 :: ux 46 []))
def zBL : List Bool := ziw 5
noncomputable def zBJ : Code := zao [1, 1, 1, 0, 1, 0, 0] zmK
def zBI (K : Kt) : AExit → List AV → zaa → Prop := zap tP ziw [1, 1, 1, 0, 1, 0] zmK (zaw tP zBN K)
def zmL (t1 t2 t4 t5 t6 : AV) (H : zaa) (K : Kt) : Prop := ALoop tP zBJ (zBI K) (zix t1 t2 t4 t5 t6) H
def zmJ (t1 t2 t4 t5 t6 : AV) (H : zaa) (K : Kt) (Kb5 : Lt) : Prop :=
 zaf 2 t2 fun t34 =>
 zad false 1 t34 H fun t35 =>
 zah 1 t35 fun t36 =>
 zac .lss false t6 t36 fun t37 =>
 zag t37
 (zae H (fun K' => zaf 2 t5 (K' · H)) fun t40 =>
 zae H (fun K' => zan false 1 t40 H (K' · H)) fun t41 =>
 zae H (fun K' => zaf 2 t2 (K' · H)) fun t42 =>
 zae H (fun K' => zan false 1 t42 H (K' · H)) fun t43 =>
 zae H (fun K' => K' t6 H) fun t44 =>
 zae H (fun K' => zai 3 t43 t44 (K' · H)) fun t45 =>
 zae H (fun K' => zan true 3 t45 H (K' · H)) fun t46 =>
 zae H (fun K' => K' t1 H) fun t47 =>
 zbl H (fun H K' => ACalls tP zgG [t46, t47] H K') fun t48 =>
 zae H (fun K' => zaA 3 [(.int .i64 0), (.int .i64 0), .snil] 1 [(0, t48)] (K' · H)) fun t49 =>
 zar zaP 3 40 t41 t49 H fun t50 H =>
 zae H (fun K' => zaf 2 t5 (K' · H)) fun t51 =>
 zak 1 t51 t50 H fun H =>
 zac .add false t6 (.int .i64 1) fun t39 =>
 Kb5 (zix t1 t2 t4 t5 t39) H)
 (zad true 3 t5 H fun t52 =>
 zak 3 t4 t52 H fun H =>
 zad true 3 t4 H fun r0 =>
 K r0 H)
def zmI (t0 t1 : AV) (H : zaa) (K : Kt) : Prop :=
 zaq t0 H fun t2 H =>
 zau [(.int .i64 0), (.int .i64 0), .snil] H fun t4 H =>
 zaf 0 t2 fun t7 =>
 zad false 1 t7 H fun t8 =>
 zac .eql false t8 (.int .i64 4) fun t9 =>
 zab t9 true H (fun K' => zaf 1 t2 (K' · H)) fun t11 H =>
 zab t9 true H (fun K' => zad false 1 t11 H (K' · H)) fun t12 H =>
 zab t9 true H (fun K' => zac .geq false t12 (.int .i64 0) (K' · H)) fun t13 H =>
 zaj t9 t13 (.bool false) fun t14 =>
 zab t14 true H (fun K' => zaf 1 t2 (K' · H)) fun t16 H =>
 zab t14 true H (fun K' => zad false 1 t16 H (K' · H)) fun t17 H =>
 zab t14 true H (fun K' => K' t1 H) fun t18 H =>
 zab t14 true H (fun K' => zah 1 t18 (K' · H)) fun t19 H =>
 zab t14 true H (fun K' => zac .lss false t17 t19 (K' · H)) fun t20 H =>
 zaj t14 t20 (.bool false) fun t21 =>
 zag t21
 (zaf 1 t2 fun t23 =>
 zad false 1 t23 H fun t24 =>
 zai 3 t1 t24 fun t25 =>
 zad true 3 t25 H fun t26 =>
 ACalls tP zgS [t26] H fun t27 H =>
 zak 3 t4 t27 H fun H =>
 zad true 3 t4 H fun r0 =>
 K r0 H)
 (zaf 0 t2 fun t28 =>
 zad false 1 t28 H fun t29 =>
 zaf 1 t2 fun t30 =>
 zad false 1 t30 H fun t31 =>
 zav [(.int .i64 0), (.int .i64 0), .snil] [(0, 1), (1, 1), (2, 1)] [(0, t29), (1, t31)] fun t32 =>
 zau [(.int .i64 0), (.int .i64 0), .snil] H fun t5 H =>
 zak 3 t5 t32 H fun H =>
 zmL t1 t2 t4 t5 (.int .i64 0) H K)
theorem zBK {t1 t2 t4 t5 t6 : AV} {H : zaa} {K : Kt} (Inv : Nat → AV → zaa → Prop) (n : Nat) (h0 : HSc H → Inv n t6 H)
  (round : Rd1 (fun t6 => zix t1 t2 t4 t5 t6) (fun t6 => fun H Kb5 => zmJ t1 t2 t4 t5 t6 H K Kb5) H Inv) : zmL t1 t2 t4 t5 t6 H K :=
 lp1 (M := ziw) zBL t6 (by kernel_rfl) Inv n h0 round
theorem zBM {t0 t1 : AV} {H : zaa} {K : Kt} (h : HSc H → zmI t0 t1 H K) : ACalls tP zgG [t0, t1] H K :=
 zam (M := ziw) Tryz.func41 (c := zmK) (by kernel_rfl) (fun hs => Eq.mpr (by kernel_rfl) (h hs))
def zje : Nat → List Bool
 | 3 => rl false [1,4,24]
 | _ => []
noncomputable def znv : Code := Tryz.f67.body.getD .skip
noncomputable def zDQ : List ResultVar := Tryz.f67.results.toList
def zjf (t1 t2 t3 t4 : AV) : List AV := ux 1 (t1 :: t2 :: t3 :: t4 :: ux 24 [])
def zDO : List Bool := zje 3
noncomputable def zDM : Code := zao [1, 1, 0, 1, 0, 0] znv
def zDL (K : Kt) : AExit → List AV → zaa → Prop := zap tP zje [1, 1, 0, 1, 0] znv (zaw tP zDQ K)
def zs8 (t1 t2 t3 t4 : AV) (H : zaa) (K : Kt) : Prop := ALoop tP zDM (zDL K) (zjf t1 t2 t3 t4) H
def znu (t1 t2 t3 t4 : AV) (H : zaa) (K : Kt) (Kb3 : Lt) : Prop :=
 zaf 2 t1 fun t11 =>
 zad false 1 t11 H fun t12 =>
 zah 1 t12 fun t13 =>
 zac .lss false t4 t13 fun t14 =>
 zag t14
 (zae H (fun K' => zaf 2 t3 (K' · H)) fun t17 =>
 zae H (fun K' => zan false 1 t17 H (K' · H)) fun t18 =>
 zae H (fun K' => zaf 2 t1 (K' · H)) fun t19 =>
 zae H (fun K' => zan false 1 t19 H (K' · H)) fun t20 =>
 zae H (fun K' => K' t4 H) fun t21 =>
 zae H (fun K' => zai 3 t20 t21 (K' · H)) fun t22 =>
 zae H (fun K' => zan true 3 t22 H (K' · H)) fun t23 =>
 zbl H (fun H K' => ACalls tP zgS [t23] H K') fun t24 =>
 zae H (fun K' => zaA 3 [(.int .i64 0), (.int .i64 0), .snil] 1 [(0, t24)] (K' · H)) fun t25 =>
 zar zaP 3 40 t18 t25 H fun t26 H =>
 zae H (fun K' => zaf 2 t3 (K' · H)) fun t27 =>
 zak 1 t27 t26 H fun H =>
 zac .add false t4 (.int .i64 1) fun t16 =>
 Kb3 (zjf t1 t2 t3 t16) H)
 (zad true 3 t3 H fun t28 =>
 zak 3 t2 t28 H fun H =>
 zad true 3 t2 H fun r0 =>
 K r0 H)
def zs7 (t0 : AV) (H : zaa) (K : Kt) : Prop :=
 zaq t0 H fun t1 H =>
 zau [(.int .i64 0), (.int .i64 0), .snil] H fun t2 H =>
 zaf 0 t1 fun t5 =>
 zad false 1 t5 H fun t6 =>
 zaf 1 t1 fun t7 =>
 zad false 1 t7 H fun t8 =>
 zav [(.int .i64 0), (.int .i64 0), .snil] [(0, 1), (1, 1), (2, 1)] [(0, t6), (1, t8)] fun t9 =>
 zau [(.int .i64 0), (.int .i64 0), .snil] H fun t3 H =>
 zak 3 t3 t9 H fun H =>
 zs8 t1 t2 t3 (.int .i64 0) H K
theorem zDN {t1 t2 t3 t4 : AV} {H : zaa} {K : Kt} (Inv : Nat → AV → zaa → Prop) (n : Nat) (h0 : HSc H → Inv n t4 H)
  (round : Rd1 (fun t4 => zjf t1 t2 t3 t4) (fun t4 => fun H Kb3 => znu t1 t2 t3 t4 H K Kb3) H Inv) : zs8 t1 t2 t3 t4 H K :=
 lp1 (M := zje) zDO t4 (by kernel_rfl) Inv n h0 round
theorem zDP {t0 : AV} {H : zaa} {K : Kt} (h : HSc H → zs7 t0 H K) : ACalls tP zgS [t0] H K :=
 zam (M := zje) Tryz.func67 (c := znv) (by kernel_rfl) (fun hs => Eq.mpr (by kernel_rfl) (h hs))
end Go.Proofs.YtacebbdfgbfgiaaGreat
