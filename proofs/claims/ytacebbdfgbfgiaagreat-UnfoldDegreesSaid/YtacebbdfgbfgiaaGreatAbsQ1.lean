import Derived.Test.YtacebbdfgbfgiaaGreatVO
set_option linter.unusedSimpArgs false
set_option linter.unusedVariables false
namespace Go.Abs
open Go
theorem Out.tup {H J : zaa} {K : AV → zaa → Prop} {asx bs : List AV} (hs : HSc H) (h : K (.tup bs) H) (hw : All2 (fun a b => WkV a b ∧ b.isV = true ∧ b.scV H.length = true) asx bs) : Out H.length K (.tup asx) (H ++ J) :=
 ⟨_, H, J, rfl, Nat.le_refl _, hs, .tup (hw.mono fun _ _ h => .wk h.1 h.2.1 h.2.2), h⟩
theorem Out.tup0 {H : zaa} {K : AV → zaa → Prop} {asx bs : List AV} (hs : HSc H) (h : K (.tup bs) H) (hw : All2 (fun a b => WkV a b ∧ b.isV = true ∧ b.scV H.length = true) asx bs) : Out H.length K (.tup asx) H := by
 have := Out.tup (J := []) hs h hw
 simpa using this
theorem Out.one {H J : zaa} {K : AV → zaa → Prop} {a b : AV} (hs : HSc H) (hw : WkV a b) (hv : b.isV = true) (hc : b.scV H.length = true) (h : K b H) : Out H.length K a (H ++ J) :=
 ⟨_, H, J, rfl, Nat.le_refl _, hs, .one (.wk hw hv hc), h⟩
@[simp] theorem zGY (k : IntKind) (n : Int) : (AV.int k n).known = true := rfl
@[simp] theorem zG6 (s : List UInt8) : (AV.str s).known = true := rfl
@[simp] theorem zGW (b : Bool) : (AV.bool b).known = true := rfl
@[simp] theorem zG4 (es : List (List AV)) (t : Tok) : (AV.sl es t).known = true := rfl
@[simp] theorem zG5 : AV.snil.known = true := rfl
@[simp] theorem zG1 : AV.nilp.known = true := rfl
@[simp] theorem zG3 (i o : Nat) : (AV.ptr i o).known = true := rfl
@[simp] theorem zG0 (i o l c : Nat) : (AV.ms i o l c).known = true := rfl
@[simp] theorem zGX (f : Nat) (c : List AV) : (AV.fn f c).known = true := rfl
@[simp] theorem zGZ (i : Nat) : (AV.map i).known = true := rfl
@[simp] theorem zG7 (cs : List AV) : (AV.view cs).known = true := rfl
section
variable {H : zaa} {K : AV → zaa → Prop}
@[simp] theorem zEg (i o : Nat) : zaq (.ptr i o) H K = K (.ptr H.length 0) (H ++ [.cells [.ptr i o]]) := propext Iff.rfl
@[simp] theorem zEe (i o l c : Nat) : zaq (.ms i o l c) H K = K (.ptr H.length 0) (H ++ [.cells [.ms i o l c]]) := propext Iff.rfl
@[simp] theorem zEd (i : Nat) : zaq (.map i) H K = K (.ptr H.length 0) (H ++ [.cells [.map i]]) := propext Iff.rfl
@[simp] theorem zEb (f : Nat) (c : List AV) : zaq (.fn f c) H K = K (.ptr H.length 0) (H ++ [.cells [.fn f c]]) := propext Iff.rfl
@[simp] theorem zEi : zaq .snil H K = K (.ptr H.length 0) (H ++ [.cells [.snil]]) := propext Iff.rfl
end
theorem zbI {H : zaa} {p : zaa → (AV → zaa → Prop) → Prop} {k : AV → Prop} (r : AV) (h : ∀ J : zaa, p (H ++ J) fun v H' => v = r ∧ H' = H ++ J) (hk : k r) : zbs H p k := ⟨r, h, hk⟩
@[simp] theorem zHa (m : Nat) (k : IntKind) (n : Int) : (AV.int k n).scA m = true := rfl
@[simp] theorem zHi (m : Nat) (s : List UInt8) : (AV.str s).scA m = true := rfl
@[simp] theorem zG9 (m : Nat) (b : Bool) : (AV.bool b).scA m = true := rfl
@[simp] theorem zHg (m : Nat) (es : List (List AV)) : (AV.sl es .none).scA m = true := rfl
@[simp] theorem zHh (m : Nat) : AV.snil.scA m = true := rfl
@[simp] theorem zHf (m i o : Nat) : (AV.ptr i o).scA m = decide (i < m) := rfl
@[simp] theorem zHc (m i o l c : Nat) : (AV.ms i o l c).scA m = decide (i < m) := rfl
@[simp] theorem zHb (m i : Nat) : (AV.map i).scA m = decide (i < m) := rfl
@[simp] theorem zHe (m : Nat) (es : List (List AV)) (i : Nat) : (AV.sl es (.own i)).scA m = decide (i < m) := rfl
theorem WkV.rfl' {a : AV} : WkV a a := .atom (.refl a)
theorem zaY {n : Nat} {a : AV} (h1 : a.isV = true) (h2 : a.scV n = true) : WkV a a ∧ a.isV = true ∧ a.scV n = true := ⟨.rfl', h1, h2⟩
theorem slV {n : Nat} {es : List (List AV)} {t : Tok} : WkV (.sl es t) (.sl es .none) ∧ (AV.sl es .none).isV = true ∧ (AV.sl es .none).scV n = true := ⟨.atom (.sl es t), rfl, rfl⟩
theorem zdU {n : Nat} : WkV .snil (.sl [] .none) ∧ (AV.sl [] .none).isV = true ∧ (AV.sl [] .none).scV n = true := ⟨.atom .snil, rfl, rfl⟩
theorem zdc {x : Option AV} {d : Nat} {p : Nat → Prop} {p' : AV → Nat → Prop} {q : AV → Prop} (hp : ∀ n, p n ↔ ∃ v, p' v n ∧ q v) : zbd x d p ↔ ∃ v, zbd x d (p' v) ∧ q v := by
 unfold zbd
 split
 ·exact hp d
 ·rename_i n
  constructor
  ·rintro ⟨h1, h2⟩
   obtain ⟨v, h3, h4⟩ := (hp _).1 h2
   exact ⟨v, ⟨h1, h3⟩, h4⟩
  ·rintro ⟨v, ⟨h1, h3⟩, h4⟩
   exact ⟨h1, (hp _).2 ⟨v, h3, h4⟩⟩
 ·simp
theorem zgc {a : Prop} {q : AV → Prop} {x : AV} : (a ∧ q x) ↔ ∃ v, (a ∧ x = v) ∧ q v := by
 constructor
 ·rintro ⟨h1, h2⟩; exact ⟨_, ⟨h1, rfl⟩, h2⟩
 ·rintro ⟨v, ⟨h1, rfl⟩, h2⟩; exact ⟨h1, h2⟩
@[simp] theorem zGe {H : zaa} {k : AV → Prop} (u e : Nat) (x : AV) (lo hi : Option AV) : zae H (fun K' => zaD u e x lo hi fun v => K' v H) k = zaD u e x lo hi k := zby (p := fun q => zaD u e x lo hi q) fun q => by
 unfold zaD
 split
 ·exact zdc fun h => zdc fun l => zgc
 ·exact zdc fun h => zdc fun l => zgc
 ·exact zdc fun h => zdc fun l => zgc
 ·exact zdc fun h => zdc fun l => zgc
 ·simp
end Go.Abs
namespace Go.Abs
open Go
theorem Out.at {n : Nat} {H2 J H' : zaa} {K : AV → zaa → Prop} {a b : AV} (he : H' = H2 ++ J) (hn : n ≤ H2.length) (hs : HSc H2) (hw : WkV a b) (hv : b.isV = true) (hc : b.scV H2.length = true) (h : K b H2) : Out n K a H' := by
 subst he
 exact ⟨_, H2, J, rfl, hn, hs, .one (.wk hw hv hc), h⟩
theorem Out.bool {n : Nat} {H2 J H' : zaa} {K : AV → zaa → Prop} {b : Bool} (he : H' = H2 ++ J) (hn : n ≤ H2.length) (hs : HSc H2) (h : K (.bool b) H2) : Out n K (.bool b) H' := Out.at he hn hs .rfl' rfl rfl h
theorem Out.int {n : Nat} {H2 J H' : zaa} {K : AV → zaa → Prop} {k : IntKind} {b : Int} (he : H' = H2 ++ J) (hn : n ≤ H2.length) (hs : HSc H2) (h : K (.int k b) H2) : Out n K (.int k b) H' := Out.at he hn hs .rfl' rfl rfl h
theorem Back.at {n0 : Nat} {Inv : List AV → zaa → Prop} {F : List AV} {H2 J H' : zaa} (he : H' = H2 ++ J) (hn : n0 ≤ H2.length) (hsc : HSc H2) (hs : F.all (AV.sc H2.length) = true) (h : Inv F H2) : Back n0 Inv F H' := by
 subst he
 exact Back.same hn hsc hs h
theorem HSc.snoc {H : zaa} {b : AB} (h : HSc H) (hb : b.sc (H.length + 1) = true) : HSc (H ++ [b]) := h.append (by simpa using hb)
end Go.Abs
namespace Go.Abs
open Go
theorem ztS {B : Nat} {w w' : World} {G G' : Gh} (h : Ext B w G w' G') : G.μ.length ≤ G'.μ.length := by
 by_cases h0 : G.μ.length = 0
 ·omega
 ·obtain ⟨g, h1, _⟩ := h.ids (G.μ.length - 1) _ (List.getElem?_eq_getElem (by omega))
  have := (List.getElem?_eq_some_iff.1 h1).1
  omega
theorem ACalls.mono' {P : Program} {f : FuncId} {args : List AV} {H : zaa} {K K' : AV → zaa → Prop} (h : ACalls P f args H K) (hk : ∀ r H', HSc H' → H.length ≤ H'.length → K r H' → K' r H') : ACalls P f args H K' :=
 fun B w G vs hH hv => (h B w G vs hH hv).mono fun _ _ ⟨v, r, H', G', h1, h2, h3, h4, h5⟩ => ⟨v, r, H', G', h1, h2, h3, h4, hk _ _ h3.sc (by have := ztS h2; rw [hH.len, h3.len] at this; exact this) h5⟩
theorem aCallV.mono' {P : Program} {g : AV} {args : List AV} {H : zaa} {K K' : AV → zaa → Prop} (h : aCallV P g args H K) (hk : ∀ r H', HSc H' → H.length ≤ H'.length → K r H' → K' r H') : aCallV P g args H K' := by
 unfold aCallV at *
 split at h
 ·split at h
  ·exact ACalls.mono' h hk
  ·exact h.elim
 ·exact h.elim
end Go.Abs
namespace Go.Abs
open Go Go.RowKit
theorem HRel.reCell {B : Nat} {w : World} {G : Gh} {H : zaa} (h : HRel B w G H) {id : Nat} {cs cs' : List AV} (hid : H[id]? = some (.cells cs)) (hc : ∀ vs : List Value, All2 (ARel w G) vs cs → All2 (ARel w G) vs cs') : HRel B w G (H.set id (.cells cs')) := by
 refine ⟨by simp [h.len], ?_, h.dist, h.fresh, h.lt, h.base⟩
 intro i ab gi h1 h2
 by_cases hi : i = id
 ·subst hi
  rw [List.getElem?_set_self (List.getElem?_eq_some_iff.1 hid).1] at h1
  cases h1
  have hok := h.ok i _ _ hid h2
  cases gi with
  | blk b =>
   obtain ⟨k1, k2, vs, e, k3, k4⟩ := hok
   exact ⟨k1, k2, vs, e, k3, hc _ k4⟩
  | own v s n => exact hok.elim
  | gap => exact hok.elim
 ·rw [List.getElem?_set_ne (fun h => hi h.symm)] at h1
  exact h.ok i ab gi h1 h2
theorem HRel.ownCell {B : Nat} {w : World} {G : Gh} {H : zaa} (h : HRel B w G H) {id j : Nat} {cs : List AV} (e size : Nat) (hid : H[id]? = some (.cells cs)) (hj : cs[j]? = some .snil) :
  ∃ G', Ext B w G w G' ∧ HRel B w G' (H.set id (.cells (cs.set j (.sl [] (.own H.length)))) ++ [.perm e size 0]) := by
 obtain ⟨hE, hH'⟩ := h.newOwn e size
 refine ⟨_, hE, ?_⟩
 have hlt := (List.getElem?_eq_some_iff.1 hid).1
 have := hH'.reCell (id := id) (cs := cs) (cs' := cs.set j (.sl [] (.own H.length))) (by rw [List.getElem?_append_left hlt]; exact hid) (fun vs hvs => by
  obtain ⟨v, h1, h2⟩ := All2.get hvs hj
  have h2 : v = .slice none 0 0 := h2
  subst h2
  have hset : vs = vs.set j (.slice none 0 0) := by
   apply List.ext_getElem?
   intro k
   by_cases hk : k = j
   ·subst hk; rw [List.getElem?_set_self (List.getElem?_eq_some_iff.1 h1).1]; exact h1
   ·rw [List.getElem?_set_ne (fun h => hk h.symm)]
  rw [hset]
  refine All2.set j hvs ?_
  refine ⟨.slE _ _, .slice none 0 0, size, 0, ?_, Nat.le_refl _, fun _ => ⟨rfl, by simp⟩⟩
  rw [← h.len]
  simp)
 rwa [List.set_append_left _ _ hlt] at this
theorem ALoop.ownC {P : Program} {c : Code} {Q : AExit → List AV → zaa → Prop} {F : List AV} {H : zaa} {cs : List AV} (id j e size : Nat) (hid : H[id]? = some (.cells cs)) (hj : cs[j]? = some .snil)
  (h : ALoop P c Q F (H.set id (.cells (cs.set j (.sl [] (.own H.length)))) ++ [.perm e size 0])) : ALoop P c Q F H := by
 intro B w G a hH hF hd
 obtain ⟨G', hE, hH'⟩ := hH.ownCell e size hid hj
 refine wp_mono (h B w G' a hH' (hF.ext hE) hd) fun e a' w' hp => ?_
 obtain ⟨F'', H'', G'', e'', rfl, k1, k2, k3, k4, k5⟩ := hp
 exact ⟨F'', H'', G'', e'', rfl, hE.trans k1, k2, k3, k4, k5⟩
end Go.Abs
namespace Go.Abs
open Go
structure Con where
 name : List UInt8
 args : List VT
structure Dat where
 name : List UInt8
 vars : Int
 cons : List Con
structure Cod where
 name : List UInt8
 params : List Int
 capt : List Int
 res : VT
 body : Int
structure CEx where
 op : Int
 num : Int
 vars : List Int
 binds : List (List Int)
 kids : List Int
 ty : VT
structure Cor where
 data : List Dat
 codes : List Cod
 vars : List VT
 exprs : List CEx
def ints (l : List Int) : List (List AV) := l.map fun n => [.int .i64 n]
def rows (l : List (List Int)) : List (List AV) := l.map fun r => [.sl (ints r) .none]
def Con.cs (c : Con) : List AV := [.str c.name, .sl (VT.css c.args) .none]
def Dat.cs (d : Dat) : List AV := [.str d.name, .int .i64 d.vars, .sl (d.cons.map Con.cs) .none]
def Cod.cs (c : Cod) : List AV := .str c.name :: .sl (ints c.params) .none :: .sl (ints c.capt) .none :: (c.res.cs ++ [.int .i64 c.body])
def CEx.cs (e : CEx) : List AV := .int .i64 e.op :: .int .i64 e.num :: .sl (ints e.vars) .none :: .sl (rows e.binds) .none :: .sl (ints e.kids) .none :: e.ty.cs
def Cor.cs (c : Cor) : List AV := [.sl (c.data.map Dat.cs) .none, .sl (c.codes.map Cod.cs) .none, .sl (VT.css c.vars) .none, .sl (c.exprs.map CEx.cs) .none]
@[simp] theorem zGV (l : List Int) : (ints l).length = l.length := by simp [ints]
@[simp] theorem zG8 (l : List (List Int)) : (rows l).length = l.length := by simp [rows]
def VT.kind : VT → Int | .mk k _ _ => k
def VT.num : VT → Int | .mk _ n _ => n
def VT.kids : VT → List VT | .mk _ _ ks => ks
def zaO (data : List Dat) (vars k n : Int) (len : Nat) : Bool :=
 if k == 1 || k == 2 || k == 3 then n == 0 && len == 0
 else if k == 4 then decide (0 ≤ n) && decide (n < vars) && len == 0
 else if k == 5 then decide (0 ≤ n) && (match data[n.toNat]? with | some d => (len : Int) == d.vars | none => false)
 else if k == 6 then n == 0 && decide (2 ≤ len) && decide (len ≤ 6)
 else if k == 7 || k == 8 then n == 0 && len == 1
 else if k == 9 then n == 0 && decide (1 ≤ len) && decide (len ≤ 7)
 else false
mutual
def zaH (data : List Dat) (vars : Int) : VT → Bool
 | .mk k n asx => zaO data vars k n asx.length && zaL data vars asx
def zaL (data : List Dat) (vars : Int) : List VT → Bool
 | [] => true
 | t :: ts => zaH data vars t && zaL data vars ts
end
def za3 (data : List Dat) (vars : Int) (t : VT) : Bool := decide (t.nodes ≤ 200) && zaH data vars t
mutual
def subst (args : List VT) : VT → VT
 | .mk k n ks => if k = 4 ∧ 0 ≤ n ∧ n < args.length then (args[n.toNat]?).getD (.mk 0 0 []) else .mk k n (zay args ks)
def zay (args : List VT) : List VT → List VT
 | [] => []
 | t :: ts => subst args t :: zay args ts
end
def zaM (data : List Dat) (t : VT) (c : Int) : Option (List VT) :=
 if t.kind = 5 ∧ 0 ≤ t.num ∧ 0 ≤ c then
  match data[t.num.toNat]? with
  | some d => if (t.kids.length : Int) = d.vars then
    match d.cons[c.toNat]? with
    | some k => let l := k.args.map (subst t.kids)
     if l.all (fun x => decide (x.nodes ≤ 200)) = true then some l else none
    | none => none
   else none
  | none => none
 else none
end Go.Abs
namespace Go.Abs
open Go
abbrev Kt := AV → zaa → Prop
abbrev Lt := List AV → zaa → Prop
def ux : Nat → List AV → List AV
 | 0, l => l
 | n + 1, l => .unk :: ux n l
@[simp] theorem zHm (m n : Nat) (l : List AV) : (ux n l).all (AV.sc m) = l.all (AV.sc m) := by
 induction n with
 | zero => rfl
 | succ n ih => rw [ux, List.all_cons, ih]; rfl
def rl : Bool → List Nat → List Bool
 | _, [] => []
 | b, n :: l => List.replicate n b ++ rl (!b) l
end Go.Abs
namespace Go.Abs
open Go Go.RowKit
variable {P : Program} {M : Nat → List Bool} {c : Code} {Q : AExit → List AV → zaa → Prop} {H : zaa}
def Rd1 (fr : AV → List AV) (bd : AV → zaa → Lt → Prop) (H : zaa) (Inv : Nat → AV → zaa → Prop) : Prop :=
 ∀ n t0 H', Inv n t0 H' → HSc H' → H.length ≤ H'.length → (fr t0).all (AV.sc H'.length) = true → ∀ Kb : Lt, (∀ F'' H'', (∃ n', n' < n ∧ Back H.length (fun F2 H2 => ∃ t0, F2 = fr t0 ∧ Inv n' t0 H2) F'' H'') → Kb F'' H'') → bd t0 H' Kb
theorem lp1 {fr : AV → List AV} {bd : AV → zaa → Lt → Prop} (m : List Bool) (t0 : AV) (he : (fun t0 H Kb => awp P M c (zbz m Kb Q) (fr t0) H) = bd) (Inv : Nat → AV → zaa → Prop) (n : Nat) (h0 : HSc H → Inv n t0 H) (round : Rd1 fr bd H Inv) : ALoop P c Q (fr t0) H := by
 subst he
 exact zje (M := M) m (fun n F H => ∃ t0, F = fr t0 ∧ Inv n t0 H) n (fun hs _ => ⟨t0, rfl, h0 hs⟩) (fun n F H' ⟨t0, hF, hI⟩ h1 h2 h3 => by subst hF; exact round n t0 H' hI h1 h2 h3 _ (fun _ _ h => h))
def Rd2 (fr : AV → AV → List AV) (bd : AV → AV → zaa → Lt → Prop) (H : zaa) (Inv : Nat → AV → AV → zaa → Prop) : Prop :=
 ∀ n t0 t1 H', Inv n t0 t1 H' → HSc H' → H.length ≤ H'.length → (fr t0 t1).all (AV.sc H'.length) = true → ∀ Kb : Lt, (∀ F'' H'', (∃ n', n' < n ∧ Back H.length (fun F2 H2 => ∃ t0 t1, F2 = fr t0 t1 ∧ Inv n' t0 t1 H2) F'' H'') → Kb F'' H'') → bd t0 t1 H' Kb
theorem lp2 {fr : AV → AV → List AV} {bd : AV → AV → zaa → Lt → Prop} (m : List Bool) (t0 t1 : AV) (he : (fun t0 t1 H Kb => awp P M c (zbz m Kb Q) (fr t0 t1) H) = bd) (Inv : Nat → AV → AV → zaa → Prop) (n : Nat) (h0 : HSc H → Inv n t0 t1 H) (round : Rd2 fr bd H Inv) : ALoop P c Q (fr t0 t1) H := by
 subst he
 exact zje (M := M) m (fun n F H => ∃ t0 t1, F = fr t0 t1 ∧ Inv n t0 t1 H) n (fun hs _ => ⟨t0, t1, rfl, h0 hs⟩) (fun n F H' ⟨t0, t1, hF, hI⟩ h1 h2 h3 => by subst hF; exact round n t0 t1 H' hI h1 h2 h3 _ (fun _ _ h => h))
def Rd3 (fr : AV → AV → AV → List AV) (bd : AV → AV → AV → zaa → Lt → Prop) (H : zaa) (Inv : Nat → AV → AV → AV → zaa → Prop) : Prop :=
 ∀ n t0 t1 t2 H', Inv n t0 t1 t2 H' → HSc H' → H.length ≤ H'.length → (fr t0 t1 t2).all (AV.sc H'.length) = true → ∀ Kb : Lt, (∀ F'' H'', (∃ n', n' < n ∧ Back H.length (fun F2 H2 => ∃ t0 t1 t2, F2 = fr t0 t1 t2 ∧ Inv n' t0 t1 t2 H2) F'' H'') → Kb F'' H'') → bd t0 t1 t2 H' Kb
theorem lp3 {fr : AV → AV → AV → List AV} {bd : AV → AV → AV → zaa → Lt → Prop} (m : List Bool) (t0 t1 t2 : AV) (he : (fun t0 t1 t2 H Kb => awp P M c (zbz m Kb Q) (fr t0 t1 t2) H) = bd) (Inv : Nat → AV → AV → AV → zaa → Prop) (n : Nat) (h0 : HSc H → Inv n t0 t1 t2 H) (round : Rd3 fr bd H Inv) : ALoop P c Q (fr t0 t1 t2) H := by
 subst he
 exact zje (M := M) m (fun n F H => ∃ t0 t1 t2, F = fr t0 t1 t2 ∧ Inv n t0 t1 t2 H) n (fun hs _ => ⟨t0, t1, t2, rfl, h0 hs⟩) (fun n F H' ⟨t0, t1, t2, hF, hI⟩ h1 h2 h3 => by subst hF; exact round n t0 t1 t2 H' hI h1 h2 h3 _ (fun _ _ h => h))
end Go.Abs
