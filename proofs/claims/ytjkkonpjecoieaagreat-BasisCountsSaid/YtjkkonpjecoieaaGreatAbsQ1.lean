import Derived.Test.YtjkkonpjecoieaaGreatAbsM
import Derived.IntWalk
set_option linter.unusedSimpArgs false
set_option linter.unusedVariables false
namespace Go.Abs
open Go Go.RowKit

variable {P : Program} {B : Nat} {w : World} {G : Gh} {H : zaa}

theorem DRel.of_flat_at {L : Nat → Nat} {g off size cap : Nat} {es : List (List AV)} {zs : List Value} (hsz : ∀ c ∈ es, c.length = size) (hne : es ≠ []) (hcap : es.length ≤ cap) (hL : off + es.length * size ≤ L g)
  (hr : All2 (DRel w L) zs es.flatten) (hc : ∀ j v, zs[j]? = some v → w.cell? ⟨g, off + j, none⟩ = some v) : DRel w L (.slice (some ⟨g, off, none⟩) es.length cap) (.sl es .none) := by
 have hget : ∀ i j (hi : i < es.length) (hj : j < (es[i]).length), ∃ v, zs[i * size + j]? = some v ∧ DRel w L v (es[i])[j] := fun i j hi hj => hr.get (zfh hsz i j hi hj)
 refine .sl g off cap size es (fun i j => zs.getD (i * size + j) undef) hne hcap hL (fun i hi => hsz _ (List.getElem_mem hi)) (fun i j hi hj => ?_) (fun i j hi hj => ?_)
 ·obtain ⟨v, h1, h2⟩ := hget i j hi hj
  simp only [List.getD_eq_getElem?_getD, h1, Option.getD_some, Nat.add_assoc]
  exact hc _ _ h1
 ·obtain ⟨v, h1, h2⟩ := hget i j hi hj
  simp only [List.getD_eq_getElem?_getD, h1, Option.getD_some]
  exact h2

inductive OutV (H : zaa) (n : Nat) : AV → AV → Prop
 | wk {a b : AV} (h : WkV a b) (hv : b.isV = true) (hs : b.scV n = true) : OutV H n a b
 | frz (id off len cap size : Nat) (cs : List AV) (es : List (List AV)) (hid : n ≤ id) (hH : H[id]? = some (.cells cs)) (hfit : off + len * size ≤ cs.length)
   (hp : zaz ((cs.drop off).take (len * size)) = some es.flatten) (hlen : es.length = len) (hsz : ∀ c ∈ es, c.length = size) (hcap : len ≤ cap) : OutV H n (.ms id off len cap) (.sl es .none)
 | vfz (id e size m : Nat) (cs : List AV) (es : List (List AV)) (hid : n ≤ id) (hH : H[id]? = some (.vec e size m cs)) (hp : zaz cs = some es.flatten) (hlen : es.length = m) (hsz : ∀ c ∈ es, c.length = size) : OutV H n (.ov id m) (.sl es .none)
inductive OutT (H : zaa) (n : Nat) : AV → AV → Prop
 | one {a b : AV} (h : OutV H n a b) : OutT H n a b
 | tup {asx bs : List AV} (h : All2 (OutV H n) asx bs) : OutT H n (.tup asx) (.tup bs)

theorem zw6 {n : Nat} {b : AV} (hv : b.isV = true) (hs : b.scV n = true) : b.sc n = true := by
 cases b <;> first | exact hs | (simp [AV.isV] at hv; done)

theorem OutV.vrel (hH : HRel B w G H) {n : Nat} {v : Value} {a b : AV} (h : OutV H n a b) (hr : TRel w G v a) : VRel w (G.cut w n) v b := by
 cases h with
 | wk h hv hs => exact zp5 (zpC hH (h.trel hr) (zw6 hv hs)) hv
 | frz id off len cap size cs es hid hHid hfit hp hlen hsz hcap =>
  obtain ⟨b, hμ, rfl⟩ := hr
  have hok := hH.ok id _ _ hHid hμ
  obtain ⟨_, _, vs, e, hw, hcs⟩ := hok
  subst hlen
  show DRel w (G.cut w n).L _ _
  by_cases hne : es = []
  ·subst hne; exact .slE _ _
  ·have hl := hcs.length
   have hd := zcP ((hcs.drop off).take (es.length * size)) hp
   refine DRel.of_flat_at (zs := (vs.toList.drop off).take (es.length * size)) hsz hne hcap ?_ (hd.mono fun _ _ => zfd hH) ?_
   ·have : (G.cut w n).L b = vs.size := by
     simp only [Gh.cut]
     rw [if_pos (cut_dropped.2 ⟨id, _, hid, hμ, rfl⟩), hw]
    rw [this]
    simp at hl
    omega
   ·intro j u hj
    rw [List.getElem?_take] at hj
    split at hj
    ·simp only [World.cell?, hw]
     simpa using hj
    ·cases hj
 | vfz id e size m cs es hid hHid hp hlen hsz =>
  obtain ⟨⟨a, cap0, rfl, _⟩, v', s0, n', hμ, _, heq⟩ := hr
  obtain ⟨rfl, rfl, ⟨xs, hown, hcs⟩, _⟩ := hH.ok id _ _ hHid hμ
  obtain rfl := heq rfl
  subst hlen
  show DRel w (G.cut w n).L _ _
  by_cases hne : es = []
  ·subst hne; exact .slE _ _
  ·have hown2 := hown
   obtain ⟨hl, hrow⟩ := hown2
   rcases hrow with ⟨h1, h2⟩ | ⟨g, cap, cur, h1, h2, h3, h4, h5, h6, h7⟩
   ·cases es <;> simp_all
   ·simp at h1
    obtain ⟨rfl, rfl⟩ := h1
    obtain ⟨_, _, _, hcell⟩ := zcO hown
    refine DRel.of_flat_at (zs := xs) hsz hne h4 ?_ ((zcP hcs hp).mono fun _ _ => zfd hH) ?_
    ·have : (G.cut w n).L g = cur.size := by
      simp only [Gh.cut]
      rw [if_pos (cut_dropped.2 ⟨id, _, hid, hμ, rfl⟩), h3]
     rw [this, h6, Nat.zero_add]
     exact Nat.mul_le_mul_right _ h4
    ·intro j u hj
     rw [Nat.zero_add, hcell j (by rw [← hl]; exact (List.getElem?_eq_some_iff.1 hj).1)]
     exact hj

theorem zxE (hH : HRel B w G H) {n : Nat} {asx bs : List AV} (h : All2 (OutV H n) asx bs) : ∀ {vs : List Value}, All2 (VRel w G) vs asx → All2 (VRel w (G.cut w n)) vs bs := by
 induction asx generalizing bs with
 | nil =>
  intro vs hr
  cases bs with
  | nil => cases vs <;> first | trivial | exact hr.elim
  | cons b bs => exact h.elim
 | cons a asx ih =>
  intro vs hr
  cases bs with
  | nil => exact h.elim
  | cons b bs =>
   cases vs with
   | nil => exact hr.elim
   | cons v vs => exact ⟨h.1.vrel hH (TRel.of_v hr.1), ih h.2 hr.2⟩

def Out (n : Nat) (K : AV → zaa → Prop) (r : AV) (H' : zaa) : Prop := ∃ r2 H2 J, H' = H2 ++ J ∧ n ≤ H2.length ∧ HSc H2 ∧ OutT H' H2.length r r2 ∧ K r2 H2

theorem ACalls.out {f : FuncId} {args : List AV} {K : AV → zaa → Prop} (h : ACalls P f args H (Out H.length K)) : ACalls P f args H K := by
 intro B w G vs hH hv
 refine (h B w G vs hH hv).mono fun e w' ⟨v, r, H', G', h1, h2, h3, h4, h5⟩ => ?_
 obtain ⟨r2, H2, J, hJ, hn, hsc, ho, hk⟩ := h5
 subst hJ
 refine ⟨v, r2, H2, G'.cut w' H2.length, h1, zpB h3 h2 (by rw [hH.len]; exact hn), h3.cut hsc, ?_, hk⟩
 cases ho with
 | one ho => exact TRel.of_v (ho.vrel h3 h4)
 | tup ho =>
  obtain ⟨us, hu, hr⟩ := h4
  exact ⟨us, hu, zxE h3 ho hr⟩

theorem Out.same {n : Nat} {K : AV → zaa → Prop} {r : AV} {J : zaa} (hn : n = H.length) (hsc : HSc H) (hv : r.isV = true) (hr : r.scV H.length = true) (h : K r H) : Out n K r (H ++ J) :=
 ⟨r, H, J, rfl, by omega, hsc, .one (.wk (.atom (.refl r)) hv hr), h⟩

theorem ALoop.own {c : Code} {Q : AExit → List AV → zaa → Prop} {F : List AV} (i e size : Nat) (hi : F[i]? = some .snil)
  (h : ALoop P c Q (F.set i (.sl [] (.own H.length))) (H ++ [.perm e size 0])) : ALoop P c Q F H := by
 intro B w G a hH hF hd
 obtain ⟨hE, hH'⟩ := hH.newOwn e size
 have hF' : FRel w ⟨G.L, G.μ ++ [.own (.slice none 0 0) size 0]⟩ a.tmps (F.set i (.sl [] (.own H.length))) := by
  unfold FRel
  obtain ⟨v, h1, h2⟩ := All2.get hF hi
  have h2 : v = .slice none 0 0 := h2
  subst h2
  have hset : a.tmps.toList = a.tmps.toList.set i (.slice none 0 0) := by
   apply List.ext_getElem?
   intro k
   by_cases hk : k = i
   ·subst hk; rw [List.getElem?_set_self (List.getElem?_eq_some_iff.1 h1).1]; exact h1
   ·rw [List.getElem?_set_ne (fun h => hk h.symm)]
  rw [hset]
  refine All2.set i (hF.ext hE) ?_
  refine ⟨.slE _ _, .slice none 0 0, size, 0, ?_, Nat.le_refl _, fun _ => ⟨rfl, by simp⟩⟩
  rw [← hH.len]
  simp
 refine wp_mono (h B w _ a hH' hF' hd) fun e a' w' hp => ?_
 obtain ⟨F'', H'', G'', e'', rfl, k1, k2, k3, k4, k5⟩ := hp
 exact ⟨F'', H'', G'', e'', rfl, hE.trans k1, k2, k3, k4, k5⟩

def zbZ (w : World) (b : Nat) : Nat := match w.heap[b]? with | some (.cells c _ _) => c.size | _ => 0
def G0 (w : World) : Gh := ⟨zbZ w, []⟩

theorem zw2 (w : World) : HRel w.heap.size w (G0 w) [] :=
 ⟨rfl, fun _ _ _ h => by simp at h, fun _ _ _ _ _ h => by simp [G0] at h, fun b hb => by simp [G0, zbZ, Array.getElem?_eq_none hb], fun _ _ _ h => by simp [G0] at h, Nat.le_refl _⟩

theorem zyX {f : FuncId} {args : List AV} (h : ACalls P f args [] fun r _ => r = .bool true) (w : World) (vs : Array Value) (hv : All2 (TRel w (G0 w)) vs.toList args) :
  Calls P f vs w fun e w' => e = .returned (.bool true) ∧ Below w.heap.size w w' := by
 refine (h _ w (G0 w) vs (zw2 w) hv).mono fun e w' ⟨v, r, H', G', h1, h2, h3, h4, h5⟩ => ?_
 subst h5
 have h4 : v = .bool true := h4
 subst h4
 exact ⟨h1, h2.below⟩

end Go.Abs
namespace Go.Abs
open Go Go.RowKit

section
variable {H : zaa} {K : AV → zaa → Prop} {k : AV → Prop}
@[simp] theorem zKN (p q : Prop) : aIf true p q = p := propext Iff.rfl
@[simp] theorem zKM (p q : Prop) : aIf false p q = q := propext Iff.rfl
theorem zo6 (b : Bool) (p q : Prop) : zag (.bool b) p q = (if b = true then p else q) := rfl
@[simp] theorem zMe (p q : Prop) : zag (.bool true) p q = p := propext Iff.rfl
@[simp] theorem zMd (p q : Prop) : zag (.bool false) p q = q := propext Iff.rfl
@[simp] theorem zLE (x y : AV) : zai (.bool true) x y k = k x := propext Iff.rfl
@[simp] theorem zLD (x y : AV) : zai (.bool false) x y k = k y := propext Iff.rfl
@[simp] theorem zKD (p q : Prop) : zcz (.bool true) true p q = p := propext Iff.rfl
@[simp] theorem zKA (p q : Prop) : zcz (.bool false) false p q = p := propext Iff.rfl
@[simp] theorem zKC (p q : Prop) : zcz (.bool true) false p q = q := propext Iff.rfl
@[simp] theorem zKB (p q : Prop) : zcz (.bool false) true p q = q := propext Iff.rfl
@[simp] theorem zKE (want : Bool) (p q : Prop) : zcz (.tup []) want p q = q := propext Iff.rfl
@[simp] theorem zKx (p : (AV → zaa → Prop) → Prop) (J : AV → zaa → Prop) : zab (.bool true) true H p J = p J := propext Iff.rfl
@[simp] theorem zKu (p : (AV → zaa → Prop) → Prop) (J : AV → zaa → Prop) : zab (.bool false) false H p J = p J := propext Iff.rfl
@[simp] theorem zKw (p : (AV → zaa → Prop) → Prop) (J : AV → zaa → Prop) : zab (.bool true) false H p J = J (.tup []) H := propext Iff.rfl
@[simp] theorem zKv (p : (AV → zaa → Prop) → Prop) (J : AV → zaa → Prop) : zab (.bool false) true H p J = J (.tup []) H := propext Iff.rfl
@[simp] theorem zKy (want : Bool) (p : (AV → zaa → Prop) → Prop) (J : AV → zaa → Prop) : zab (.tup []) want H p J = J (.tup []) H := propext Iff.rfl
@[simp] theorem zMk (cs : List AV) : (AV.agg cs).cs? = some cs := rfl
@[simp] theorem zMn (j : IntKind) (n : Int) : (AV.int j n).cs? = some [.int j n] := rfl
@[simp] theorem zMl (b : Bool) : (AV.bool b).cs? = some [.bool b] := rfl
@[simp] theorem zMx (s : List UInt8) : (AV.str s).cs? = some [.str s] := rfl
@[simp] theorem zMv (es : List (List AV)) (t : Tok) : (AV.sl es t).cs? = some [.sl es t] := rfl
@[simp] theorem zMw : (AV.snil).cs? = some [.snil] := rfl
@[simp] theorem zMu (i o : Nat) : (AV.ptr i o).cs? = some [.ptr i o] := rfl
@[simp] theorem zMp (i o l c : Nat) : (AV.ms i o l c).cs? = some [.ms i o l c] := rfl
@[simp] theorem zMm (f : Nat) (c : List AV) : (AV.fn f c).cs? = some [.fn f c] := rfl
@[simp] theorem zMs : (AV.nilp).cs? = some [.nilp] := rfl
@[simp] theorem zMr : (AV.nili).cs? = some [.nili] := rfl
@[simp] theorem zMt (i n : Nat) : (AV.ov i n).cs? = some [.ov i n] := rfl
@[simp] theorem zMy (i n o : Nat) : (AV.vp i n o).cs? = some [.vp i n o] := rfl
@[simp] theorem zMq : (AV.nilfn).cs? = some [.nilfn] := rfl
@[simp] theorem zLr (cs : List AV) : zau cs H K = K (.ptr H.length 0) (H ++ [.cells cs]) := propext Iff.rfl
@[simp] theorem zJR (cs : List AV) : zap (.agg cs) H K = K (.ptr H.length 0) (H ++ [.cells cs]) := propext Iff.rfl
@[simp] theorem zJV (j : IntKind) (n : Int) : zap (.int j n) H K = K (.ptr H.length 0) (H ++ [.cells [.int j n]]) := propext Iff.rfl
@[simp] theorem zJ2 (s : List UInt8) : zap (.str s) H K = K (.ptr H.length 0) (H ++ [.cells [.str s]]) := propext Iff.rfl
@[simp] theorem zJS (b : Bool) : zap (.bool b) H K = K (.ptr H.length 0) (H ++ [.cells [.bool b]]) := propext Iff.rfl
@[simp] theorem zJ0 (es : List (List AV)) (t : Tok) : zap (.sl es t) H K = K (.ptr H.length 0) (H ++ [.cells [.sl es t]]) := propext Iff.rfl
@[simp] theorem zJ6 (n off : Nat) (cs : List AV) : zaY true n off cs k = (off + n ≤ cs.length ∧ k (.agg ((cs.drop off).take n))) := propext Iff.rfl
@[simp] theorem zJ9 (n : Nat) (c : AV) (cs : List AV) : zaY false n 0 (c :: cs) k = k c := propext Iff.rfl
@[simp] theorem zJ8 (n i : Nat) (c : AV) (cs : List AV) : zaY false n (i + 1) (c :: cs) k = zaY false n i cs k := by simp [zaY]
@[simp] theorem zK6 (g : Bool) (n : Nat) (cs : List AV) : zad g n (.view cs) H k = zaY g n 0 cs k := propext Iff.rfl
def zga (g : Bool) (n off : Nat) (b : Option AB) (k : AV → Prop) : Prop :=
 match b with
 | some (.cells cs) => zaY g n off cs k
 | _ => False
@[simp] theorem zvV (g : Bool) (n off : Nat) (cs : List AV) : zga g n off (some (.cells cs)) k = zaY g n off cs k := propext Iff.rfl
@[simp] theorem zK5 (g : Bool) (n id off : Nat) : zad g n (.ptr id off) H k = zga g n off H[id]? k := by
 rw [ze2]; rfl
def zdN (n off id : Nat) (xs : Option (List AV)) (b : Option AB) (H : zaa) (K : zaa → Prop) : Prop :=
 match xs, b with
 | some xs, some (.cells cs) => (xs.length = n ∧ off + n ≤ cs.length ∧ xs.all AV.known = true) ∧ K (H.set id (.cells (cs.take off ++ xs ++ cs.drop (off + n))))
 | _, _ => False
@[simp] theorem zL7 {K' : zaa → Prop} (n off id : Nat) (xs cs : List AV) : zdN n off id (some xs) (some (.cells cs)) H K' = ((xs.length = n ∧ off + n ≤ cs.length ∧ xs.all AV.known = true) ∧ K' (H.set id (.cells (cs.take off ++ xs ++ cs.drop (off + n))))) := propext Iff.rfl
@[simp] theorem zL9 {K' : zaa → Prop} (n id off : Nat) (x : AV) : zak n (.ptr id off) x H K' = zdN n off id x.cs? H[id]? H K' := by
 cases hx : x.cs? with
 | none => simp [zdm, zdN, hx]
 | some xs => cases hb : H[id]? with
  | none => simp [zdm, zdN, hx, hb]
  | some b => cases b <;> simp [zdm, zdN, hx, hb]
def zo0 (g : Bool) (n m off : Nat) (b : Option AB) (k : AV → Prop) : Prop :=
 match b with
 | some (.vec _ _ m' cs) => m' = m ∧ zaY g n off cs k
 | _ => False
@[simp] theorem zK3 (g : Bool) (n m off e s m' : Nat) (cs : List AV) : zo0 g n m off (some (.vec e s m' cs)) k = (m' = m ∧ zaY g n off cs k) := propext Iff.rfl
@[simp] theorem zK7 (g : Bool) (n id m off : Nat) : zad g n (.vp id m off) H k = zo0 g n m off H[id]? k := by
 rw [ze2]; rfl
def ze3 (n m off id : Nat) (xs : Option (List AV)) (b : Option AB) (H : zaa) (K' : zaa → Prop) : Prop :=
 match xs, b with
 | some xs, some (.vec e s m' cs) => (m' = m ∧ xs.length = n ∧ off + n ≤ cs.length ∧ xs.all AV.known = true) ∧ K' (H.set id (.vec e s m' (cs.take off ++ xs ++ cs.drop (off + n))))
 | _, _ => False
@[simp] theorem zka {K' : zaa → Prop} (n m off id e s m' : Nat) (xs cs : List AV) : ze3 n m off id (some xs) (some (.vec e s m' cs)) H K' = ((m' = m ∧ xs.length = n ∧ off + n ≤ cs.length ∧ xs.all AV.known = true) ∧ K' (H.set id (.vec e s m' (cs.take off ++ xs ++ cs.drop (off + n))))) := propext Iff.rfl
@[simp] theorem zMa {K' : zaa → Prop} (n id m off : Nat) (x : AV) : zak n (.vp id m off) x H K' = ze3 n m off id x.cs? H[id]? H K' := by
 cases hx : x.cs? with
 | none => simp [zdm, ze3, hx]
 | some xs => cases hb : H[id]? with
  | none => simp [zdm, ze3, hx, hb]
  | some b => cases b <;> simp [zdm, ze3, hx, hb]
def zj5 (e size bytes n id : Nat) (ys : List (List AV)) (b : Option AB) (H : zaa) (K : AV → zaa → Prop) : Prop :=
 match b with
 | some (.vec e' s' n' cs) => ((e' = e ∧ s' = size ∧ n' = n) ∧ (n + ys.length) * bytes ≤ 140737488355328 ∧ n + ys.length ≤ 9223372036854775807) ∧ K (.ov id (n + ys.length)) (H.set id (.vec e size (n + ys.length) (cs ++ ys.flatten)))
 | _ => False
@[simp] theorem zJN (e size bytes n id e' s' n' : Nat) (ys : List (List AV)) (cs : List AV) : zj5 e size bytes n id ys (some (.vec e' s' n' cs)) H K = (((e' = e ∧ s' = size ∧ n' = n) ∧ (n + ys.length) * bytes ≤ 140737488355328 ∧ n + ys.length ≤ 9223372036854775807) ∧ K (.ov id (n + ys.length)) (H.set id (.vec e size (n + ys.length) (cs ++ ys.flatten)))) := propext Iff.rfl
@[simp] theorem zJM (e size bytes id n : Nat) (ys : List (List AV)) : zaN e size bytes (.ov id n) ys H K = zj5 e size bytes n id ys H[id]? H K := by
 unfold zaN zj5; rfl
@[simp] theorem zKH (esz id m : Nat) (j : IntKind) (n : Int) : zaj esz (.ov id m) (.int j n) k = ((0 ≤ n ∧ n < m) ∧ k (.vp id m (n.toNat * esz))) := zf9 ..
@[simp] theorem zKQ (id n : Nat) : zah 1 (.ov id n) k = k (.int .i64 n) := propext Iff.rfl
@[simp] theorem zKq (off i m o : Nat) : zaf off (.vp i m o) k = k (.vp i m (o + off)) := propext Iff.rfl
@[simp] theorem zLA (i m o : Nat) : zaU (.vp i m o) k = k (.vp i m o) := propext Iff.rfl
@[simp] theorem zJY (i n : Nat) : zap (.ov i n) H K = K (.ptr H.length 0) (H ++ [.cells [.ov i n]]) := propext Iff.rfl
@[simp] theorem zMJ (i n : Nat) : (AV.ov i n).known = true := rfl
@[simp] theorem zM1 (m i n : Nat) : (AV.ov i n).scA m = decide (i < m) := rfl
@[simp] theorem zLy (i o : Nat) : zaU (.ptr i o) k = k (.ptr i o) := propext Iff.rfl
@[simp] theorem zLz (cs : List AV) : zaU (.view cs) k = k (.view cs) := propext Iff.rfl
@[simp] theorem zLx (f : Nat) (c : List AV) : zaU (.fn f c) k = k (.fn f c) := propext Iff.rfl
@[simp] theorem zKo (off i o : Nat) : zaf off (.ptr i o) k = k (.ptr i (o + off)) := propext Iff.rfl
@[simp] theorem zKp (off : Nat) (cs : List AV) : zaf off (.view cs) k = (off ≤ cs.length ∧ k (.view (cs.drop off))) := zoZ ..
@[simp] theorem zKl (g : Bool) (n off : Nat) (cs : List AV) : zcT g n off (.agg cs) k = zaY g n off cs k := propext Iff.rfl
@[simp] theorem zKI (esz : Nat) (es : List (List AV)) (t : Tok) (j : IntKind) (n : Int) : zaj esz (.sl es t) (.int j n) k = ((0 ≤ n ∧ n < es.length) ∧ ((es.getD n.toNat []).length = esz ∧ k (.view (es.getD n.toNat [])))) := zf9 ..
@[simp] theorem zKG (esz id off len cap : Nat) (j : IntKind) (n : Int) : zaj esz (.ms id off len cap) (.int j n) k = ((0 ≤ n ∧ n < len) ∧ k (.ptr id (off + n.toNat * esz))) := zf9 ..
@[simp] theorem zKK (s : List UInt8) (j : IntKind) (n : Int) : zbc (.str s) (.int j n) k = ((0 ≤ n ∧ n < s.length) ∧ k (.int .u8 (s.getD n.toNat 0).toNat)) := propext Iff.rfl
@[simp] theorem zKT (s : List UInt8) : zah 0 (.str s) k = k (.int .i64 s.length) := propext Iff.rfl
@[simp] theorem zKR (es : List (List AV)) (t : Tok) : zah 1 (.sl es t) k = k (.int .i64 es.length) := propext Iff.rfl
@[simp] theorem zKS : zah 1 .snil k = k (.int .i64 0) := propext Iff.rfl
@[simp] theorem zKP (i o l c : Nat) : zah 1 (.ms i o l c) k = k (.int .i64 l) := propext Iff.rfl
@[simp] theorem zvQ (d : Nat) (q : Nat → Prop) : zbz none d q = q d := propext Iff.rfl
@[simp] theorem zvP (j : IntKind) (n : Int) (d : Nat) (q : Nat → Prop) : zbz (some (.int j n)) d q = (0 ≤ n ∧ q n.toNat) := propext Iff.rfl
@[simp] theorem zLf {K : AV → zaa → Prop} {H : zaa} (e s b : Nat) (c : Int) : zdL e s b (.int .i64 c) H K = ((0 ≤ c ∧ c * b ≤ 140737488355328 ∧ c ≤ 9223372036854775807) ∧ K (.ov H.length 0) (H ++ [.vec e s 0 []])) := propext Iff.rfl
@[congr] theorem zLe {K : AV → zaa → Prop} {H H' : zaa} {e s b : Nat} {c c' : AV} (hc : c = c') (hH : H = H') : zdL e s b c H K = zdL e s b c' H' K := by rw [hc, hH]
@[simp] theorem zLi {K : AV → Prop} (k k' : IntKind) (m n : Int) : zel (.int k m) (.int k' n) K = K (.int k (if n > m then n else m)) := propext Iff.rfl
@[congr] theorem zLh {K : AV → Prop} {x x' y y' : AV} (h : x = x') (hy : y = y') : zel x y K = zel x' y' K := by rw [h, hy]
@[simp] theorem zv0 (s : List UInt8) (lo hi : Option AV) : zaL 0 0 (.str s) lo hi k = zbz hi s.length fun h => zbz lo 0 fun l => (l ≤ h ∧ h ≤ s.length) ∧ k (.str ((s.take h).drop l)) := propext Iff.rfl
@[simp] theorem zL4 (esz : Nat) (es : List (List AV)) (t : Tok) (lo hi : Option AV) : zaL 1 esz (.sl es t) lo hi k = zbz hi es.length fun h => zbz lo 0 fun l => (l ≤ h ∧ h ≤ es.length ∧ ∀ c ∈ es, c.length = esz) ∧ k (.sl ((es.take h).drop l) .none) := propext Iff.rfl
@[simp] theorem zJJ (b : Bool) (j : IntKind) (m n : Int) : zac .add b (.int j m) (.int j n) k = k (.int j (j.wrap (m + n))) := by simp [zbS]
@[simp] theorem zMb (b : Bool) (j : IntKind) (m n : Int) : zac .sub b (.int j m) (.int j n) k = k (.int j (j.wrap (m - n))) := by simp [zbS]
@[simp] theorem zLl (b : Bool) (j : IntKind) (m n : Int) : zac .mul b (.int j m) (.int j n) k = k (.int j (j.wrap (m * n))) := by simp [zbS]
@[simp] theorem zKg (b : Bool) (j : IntKind) (m n : Int) : zac .eql b (.int j m) (.int j n) k = k (.bool (m == n)) := by simp [zbS]
@[simp] theorem zLo (b : Bool) (j : IntKind) (m n : Int) : zac .neq b (.int j m) (.int j n) k = k (.bool (m != n)) := by simp [zbS]
@[simp] theorem zK8 (b : Bool) (j : IntKind) (m n : Int) : zac .lss b (.int j m) (.int j n) k = k (.bool (decide (m < n))) := by simp [zbS]
@[simp] theorem zKU (b : Bool) (j : IntKind) (m n : Int) : zac .leq b (.int j m) (.int j n) k = k (.bool (decide (m ≤ n))) := by simp [zbS]
@[simp] theorem zKs (b : Bool) (j : IntKind) (m n : Int) : zac .gtr b (.int j m) (.int j n) k = k (.bool (decide (m > n))) := by simp [zbS]
@[simp] theorem zKr (b : Bool) (j : IntKind) (m n : Int) : zac .geq b (.int j m) (.int j n) k = k (.bool (decide (m ≥ n))) := by simp [zbS]
@[simp] theorem zKh (b : Bool) (s t : List UInt8) : zac .eql b (.str s) (.str t) k = k (.bool (s == t)) := propext Iff.rfl
@[simp] theorem zLp (b : Bool) (s t : List UInt8) : zac .neq b (.str s) (.str t) k = k (.bool (!(s == t))) := rfl
@[simp] theorem zJK (b : Bool) (s t : List UInt8) : zac .add b (.str s) (.str t) k = (s.length + t.length ≤ 9223372036854775807 ∧ k (.str (s ++ t))) := zbS ..
@[simp] theorem zKf (m n : Bool) : zac .eql true (.bool m) (.bool n) k = k (.bool (m == n)) := by simp [zbS]
@[simp] theorem zLn (m n : Bool) : zac .neq true (.bool m) (.bool n) k = k (.bool (!(m == n))) := by simp [zbS]
@[simp] theorem zLB (b : Bool) : aUn .not (.bool b) k = k (.bool (!b)) := rfl
@[simp] theorem zLm (j : IntKind) (n : Int) : aUn .neg (.int j n) k = k (.int j (j.wrap (0 - n))) := rfl
@[simp] theorem zvT (j i : IntKind) (n : Int) : zaP j (.int i n) k = k (.int j (j.wrap n)) := propext Iff.rfl
@[simp] theorem zKd (s : List UInt8) : zcS (.str s) k = k (.str s) := propext Iff.rfl
@[simp] theorem zKi (v : AV) (vs : List AV) : zax (.tup (v :: vs)) 0 k = k v := propext Iff.rfl
@[simp] theorem zKk (v : AV) (vs : List AV) (i : Nat) : zax (.tup (v :: vs)) (i + 1) k = zax (.tup vs) i k := by simp [zax]
@[simp] theorem zKb (f : Nat) (caps : List AV) : zbM f caps k = (caps.all AV.isB = true ∧ k (.fn f caps)) := propext Iff.rfl
@[simp] theorem zL1 (v : AV) : zay [v] k = k v := propext Iff.rfl
@[simp] theorem zL2 (v u : AV) (vs : List AV) : zay (v :: u :: vs) k = ((v :: u :: vs).all AV.isV = true ∧ k (.tup (v :: u :: vs))) := propext Iff.rfl
end


section
variable {H : zaa} {K : AV → zaa → Prop} {k : AV → Prop} {kh : zaa → Prop}
@[simp] theorem zMo (i : Nat) : (AV.map i).cs? = some [.map i] := rfl
@[simp] theorem zLk : zdl H K = K (.map H.length) (H ++ [.map []]) := propext Iff.rfl
def zej (zero : AV) (ok : Bool) (s : List UInt8) (b : Option AB) (k : AV → Prop) : Prop :=
 match b with
 | some (.map kvs) => k (match ok with
   | true => .tup [(zbO kvs s).getD zero, .bool (zbO kvs s).isSome]
   | false => (zbO kvs s).getD zero)
 | _ => False
@[simp] theorem zKZ (z : AV) (ok : Bool) (id : Nat) (s : List UInt8) : zcU z ok (.map id) (.str s) H k = zej z ok s H[id]? k := by unfold zcU zej; rfl
@[simp] theorem zKW (z : AV) (s : List UInt8) (kvs : List (List UInt8 × AV)) : zej z false s (some (.map kvs)) k = k ((zbO kvs s).getD z) := propext Iff.rfl
@[simp] theorem zKX (z : AV) (s : List UInt8) (kvs : List (List UInt8 × AV)) : zej z true s (some (.map kvs)) k = k (.tup [(zbO kvs s).getD z, .bool (zbO kvs s).isSome]) := propext Iff.rfl
def zek (id : Nat) (s : List UInt8) (x : AV) (b : Option AB) (H : zaa) (kh : zaa → Prop) : Prop :=
 match b with
 | some (.map kvs) => (match x with
   | .tup _ => False
   | x => kh (H.set id (.map (zcF kvs s x))))
 | _ => False
@[simp] theorem zLd (id : Nat) (s : List UInt8) (x : AV) : zcq (.map id) (.str s) x H kh = zek id s x H[id]? H kh := by unfold zcq zek; rfl
@[simp] theorem zK9 (id : Nat) (s : List UInt8) (b : Bool) (kvs : List (List UInt8 × AV)) : zek id s (.bool b) (some (.map kvs)) H kh = kh (H.set id (.map (zcF kvs s (.bool b)))) := propext Iff.rfl
@[simp] theorem zLb (id : Nat) (s : List UInt8) (j : IntKind) (n : Int) (kvs : List (List UInt8 × AV)) : zek id s (.int j n) (some (.map kvs)) H kh = kh (H.set id (.map (zcF kvs s (.int j n)))) := propext Iff.rfl
@[congr] theorem zLj {H' : zaa} (hH : H = H') : zdl H K = zdl H' K := by rw [hH]
@[congr] theorem zKY {H' : zaa} {z : AV} {ok : Bool} {m m' x x' : AV} (hm : m = m') (hx : x = x') (hH : H = H') : zcU z ok m x H k = zcU z ok m' x' H' k := by rw [hm, hx, hH]
@[congr] theorem zKV {z : AV} {ok : Bool} {s s' : List UInt8} {b b' : Option AB} (hs : s = s') (hb : b = b') : zej z ok s b k = zej z ok s' b' k := by rw [hs, hb]
@[congr] theorem zLc {H' : zaa} {m m' y y' x x' : AV} (hm : m = m') (hy : y = y') (hx : x = x') (hH : H = H') : zcq m y x H kh = zcq m' y' x' H' kh := by rw [hm, hy, hx, hH]
@[congr] theorem zLa {H' : zaa} {id id' : Nat} {s s' : List UInt8} {x x' : AV} {b b' : Option AB} (hi : id = id') (hs : s = s') (hx : x = x') (hb : b = b') (hH : H = H') : zek id s x b H kh = zek id' s' x' b' H' kh := by rw [hi, hs, hx, hb, hH]
end

section
variable {H H' : zaa} {K : AV → zaa → Prop} {k : AV → Prop} {kh : zaa → Prop}
@[congr] theorem zKL {b b' : Bool} {p q : Prop} (h : b = b') : aIf b p q = aIf b' p q := by rw [h]
@[congr] theorem zMc {c c' : AV} {p q : Prop} (h : c = c') : zag c p q = zag c' p q := by rw [h]
@[congr] theorem zKz {c c' : AV} {w : Bool} {p q : Prop} (h : c = c') : zcz c w p q = zcz c' w p q := by rw [h]
@[congr] theorem zKt {c c' : AV} {w : Bool} {p : (AV → zaa → Prop) → Prop} {J : AV → zaa → Prop} (h : c = c') (hH : H = H') : zab c w H p J = zab c' w H' p J := by rw [h, hH]
@[congr] theorem zLC {c c' a a' b b' : AV} (h : c = c') (ha : a = a') (hb : b = b') : zai c a b k = zai c' a' b' k := by rw [h, ha, hb]
@[congr] theorem zJT {x x' : AV} (h : x = x') (hH : H = H') : zap x H K = zap x' H' K := by rw [h, hH]
@[congr] theorem zLq {x x' : List AV} (h : x = x') (hH : H = H') : zau x H K = zau x' H' K := by rw [h, hH]
@[congr] theorem zJ7 {g : Bool} {n n' o o' : Nat} {c c' : List AV} (hn : n = n') (ho : o = o') (hc : c = c') : zaY g n o c k = zaY g n' o' c' k := by rw [hn, ho, hc]
@[congr] theorem zK4 {g : Bool} {n : Nat} {x x' : AV} (h : x = x') (hH : H = H') : zad g n x H k = zad g n x' H' k := by rw [h, hH]
@[congr] theorem zK0 {g : Bool} {n o o' : Nat} {b b' : Option AB} (ho : o = o') (h : b = b') : zga g n o b k = zga g n o' b' k := by rw [h, ho]
@[congr] theorem zL8 {n : Nat} {a a' x x' : AV} (ha : a = a') (h : x = x') (hH : H = H') : zak n a x H kh = zak n a' x' H' kh := by rw [ha, h, hH]
@[congr] theorem zL6 {n o o' i i' : Nat} {x x' : Option (List AV)} {b b' : Option AB} (ho : o = o') (hi : i = i') (h : x = x') (hb : b = b') (hH : H = H') : zdN n o i x b H kh = zdN n o' i' x' b' H' kh := by rw [ho, hi, h, hb, hH]
@[congr] theorem zKn {n : Nat} {x x' : AV} (h : x = x') : zaf n x k = zaf n x' k := by rw [h]
@[congr] theorem zKm {g : Bool} {n o : Nat} {x x' : AV} (h : x = x') : zcT g n o x k = zcT g n o x' k := by rw [h]
@[congr] theorem zKF {n : Nat} {x x' i i' : AV} (h : x = x') (hi : i = i') : zaj n x i k = zaj n x' i' k := by rw [h, hi]
@[congr] theorem zKJ {x x' i i' : AV} (h : x = x') (hi : i = i') : zbc x i k = zbc x' i' k := by rw [h, hi]
@[congr] theorem zKO {u : Nat} {x x' : AV} (h : x = x') : zah u x k = zah u x' k := by rw [h]
@[congr] theorem zJQ {x x' : Option AV} {d d' : Nat} {q : Nat → Prop} (h : x = x') (hd : d = d') : zbz x d q = zbz x' d' q := by rw [h, hd]
@[congr] theorem zL3 {u e : Nat} {x x' : AV} {l l' h h' : Option AV} (hx : x = x') (hl : l = l') (hh : h = h') : zaL u e x l h k = zaL u e x' l' h' k := by rw [hx, hl, hh]
@[congr] theorem zJP {o : BinOp} {b : Bool} {x x' y y' : AV} (h : x = x') (hy : y = y') : zac o b x y k = zac o b x' y' k := by rw [h, hy]
@[congr] theorem zMf {o : UnOp} {x x' : AV} (h : x = x') : aUn o x k = aUn o x' k := by rw [h]
@[congr] theorem zKe {o : IntKind} {x x' : AV} (h : x = x') : zaP o x k = zaP o x' k := by rw [h]
@[congr] theorem zKc {x x' : AV} (h : x = x') : zcS x k = zcS x' k := by rw [h]
@[congr] theorem zKj {x x' : AV} {i : Nat} (h : x = x') : zax x i k = zax x' i k := by rw [h]
@[congr] theorem zKa {f : Nat} {x x' : List AV} (h : x = x') : zbM f x k = zbM f x' k := by rw [h]
@[congr] theorem zLw {x x' : AV} (h : x = x') : zaU x k = zaU x' k := by rw [h]
@[congr] theorem zJ4 {z : List AV} {p : List (Nat × Nat)} {x x' : List (Nat × AV)} (h : x = x') : zav z p x k = zav z p x' k := by rw [h]
@[congr] theorem zJ3 {e : Nat} {z : List AV} {l : Nat} {x x' : List (Nat × AV)} (h : x = x') : zaB e z l x k = zaB e z l x' k := by rw [h]
@[congr] theorem zLg {b : Nat} {z : List AV} {l l' c c' : AV} (h : l = l') (hc : c = c') (hH : H = H') : zba b z l c H K = zba b z l' c' H' K := by rw [h, hc, hH]
@[congr] theorem zJO {e s b : Nat} {x x' y y' : AV} (h : x = x') (hy : y = y') (hH : H = H') : zaA e s b x y H K = zaA e s b x' y' H' K := by rw [h, hy, hH]
@[congr] theorem zJL {e s b : Nat} {x x' : AV} {y y' : List (List AV)} (h : x = x') (hy : y = y') (hH : H = H') : zaN e s b x y H K = zaN e s b x' y' H' K := by rw [h, hy, hH]
@[congr] theorem zL5 {x x' : AV} {q : List (List AV) → Prop} (h : x = x') : zaV x q = zaV x' q := by rw [h]
@[congr] theorem zJH {P : Program} {f : FuncId} {x x' : List AV} (h : x = x') (hH : H = H') : ACalls P f x H K = ACalls P f x' H' K := by rw [h, hH]
@[congr] theorem zJ5 {P : Program} {g g' : AV} {x x' : List AV} (hg : g = g') (h : x = x') (hH : H = H') : aCallV P g x H K = aCallV P g' x' H' K := by rw [hg, h, hH]
@[congr] theorem zLI {p : (AV → zaa → Prop) → Prop} : zae H p k = zae H p k := rfl
@[congr] theorem zJI {n : Nat} {r r' : AV} (hr : r = r') (hH : H = H') : Out n K r H = Out n K r' H' := by rw [hr, hH]
end
section
variable {H : zaa} {k : AV → Prop}
theorem zbI {p : (AV → Prop) → Prop} (h : ∀ q : AV → Prop, p q ↔ ∃ v, p (fun u => u = v) ∧ q v) : zae H (fun K' => p fun v => K' v H) k = p k := by
 unfold zae
 rw [eq_iff_iff, h k]
 simp only [and_true]
@[simp] theorem zLQ (x : AV) : zae H (fun K' => K' x H) k = k x := by simp [zae]
theorem zkj (g : Bool) (n o : Nat) (cs : List AV) (q : AV → Prop) : zaY g n o cs q ↔ ∃ v, zaY g n o cs (fun u => u = v) ∧ q v := by
 unfold zaY
 split
 ·constructor
  ·rintro ⟨h1, h2⟩; exact ⟨_, ⟨h1, rfl⟩, h2⟩
  ·rintro ⟨v, ⟨h1, rfl⟩, h2⟩; exact ⟨h1, h2⟩
 ·split <;> simp
theorem zv5 {a : Prop} {p : Prop} {p' : AV → Prop} {q : AV → Prop} (h : p ↔ ∃ v, p' v ∧ q v) : (a ∧ p) ↔ ∃ v, (a ∧ p' v) ∧ q v := by
 constructor
 ·rintro ⟨h1, h2⟩; obtain ⟨v, h3, h4⟩ := h.1 h2; exact ⟨v, ⟨h1, h3⟩, h4⟩
 ·rintro ⟨v, ⟨h1, h3⟩, h4⟩; exact ⟨h1, h.2 ⟨v, h3, h4⟩⟩
@[simp] theorem zLU (g : Bool) (n : Nat) (a : AV) : zae H (fun K' => zad g n a H fun v => K' v H) k = zad g n a H k := zbI (p := fun q => zad g n a H q) fun q => by
 unfold zad
 split
 ·exact zkj _ _ _ _ q
 ·simp
@[simp] theorem zK1 (g : Bool) (n id off : Nat) : zan g n (.ptr id off) H k = zad g n (.ptr id off) H k := propext Iff.rfl
@[simp] theorem zK2 (g : Bool) (n : Nat) (cs : List AV) : zan g n (.view cs) H k = zad g n (.view cs) H k := propext Iff.rfl
@[simp] theorem zLV (g : Bool) (n : Nat) (a : AV) : zae H (fun K' => zan g n a H fun v => K' v H) k = zan g n a H k := zbI (p := fun q => zan g n a H q) fun q => by
 unfold zan
 split
 ·simp
 unfold zad
 split
 ·exact zkj _ _ _ _ q
 ·simp
@[simp] theorem zLX (b : Bool) (o : BinOp) (x : AV) : zae H (fun K' => zcg b o x fun v => K' v H) k = zcg b o x k := zbI (p := fun q => zcg b o x q) fun q => by
 unfold zcg
 refine zv5 ?_
 split
 ·split <;> simp
 ·split <;> simp
 ·simp
@[simp] theorem zLv : zcg true .neq .nili k = k (.bool false) := by simp [zcg]
@[simp] theorem zLt : zcg true .neq .ifc k = k (.bool true) := by simp [zcg]
@[simp] theorem zLu : zcg true .eql .nili k = k (.bool true) := by simp [zcg]
@[simp] theorem zLs : zcg true .eql .ifc k = k (.bool false) := by simp [zcg]
@[simp] theorem zLY (c a b : AV) : zae H (fun K' => zai c a b fun v => K' v H) k = zai c a b k := zbI (p := fun q => zai c a b q) fun q => by
 unfold zai; split <;> simp
@[simp] theorem zLO (o : Nat) (a : AV) : zae H (fun K' => zaf o a fun v => K' v H) k = zaf o a k := zbI (p := fun q => zaf o a q) fun q => by
 unfold zaf; split <;> simp
@[simp] theorem zLP (g : Bool) (n o : Nat) (a : AV) : zae H (fun K' => zcT g n o a fun v => K' v H) k = zcT g n o a k := zbI (p := fun q => zcT g n o a q) fun q => by
 unfold zcT
 split
 ·exact zkj _ _ _ _ q
 ·simp
@[simp] theorem zLR (n : Nat) (x i : AV) : zae H (fun K' => zaj n x i fun v => K' v H) k = zaj n x i k := zbI (p := fun q => zaj n x i q) fun q => by
 unfold zaj; split <;> simp
@[simp] theorem zLS (x i : AV) : zae H (fun K' => zbc x i fun v => K' v H) k = zbc x i k := zbI (p := fun q => zbc x i q) fun q => by
 unfold zbc
 split
 ·constructor
  ·rintro ⟨h1, h2⟩; exact ⟨_, ⟨h1, rfl⟩, h2⟩
  ·rintro ⟨v, ⟨h1, rfl⟩, h2⟩; exact ⟨h1, h2⟩
 ·simp
@[simp] theorem zLT (u : Nat) (x : AV) : zae H (fun K' => zah u x fun v => K' v H) k = zah u x k := zbI (p := fun q => zah u x q) fun q => by
 unfold zah; split <;> simp
@[simp] theorem zL0 (o : UnOp) (x : AV) : zae H (fun K' => aUn o x fun v => K' v H) k = aUn o x k := zbI (p := fun q => aUn o x q) fun q => by
 unfold aUn; split <;> simp
@[simp] theorem zLK (o : IntKind) (x : AV) : zae H (fun K' => zaP o x fun v => K' v H) k = zaP o x k := zbI (p := fun q => zaP o x q) fun q => by
 unfold zaP; split <;> simp
@[simp] theorem zLM (x : AV) : zae H (fun K' => zcS x fun v => K' v H) k = zcS x k := zbI (p := fun q => zcS x q) fun q => by
 unfold zcS; split <;> simp
@[simp] theorem zLL (x : AV) : zae H (fun K' => zdK x fun v => K' v H) k = zdK x k := zbI (p := fun q => zdK x q) fun q => by
 unfold zdK
 split
 ·split <;> simp
 ·simp
 ·simp
@[simp] theorem zLW (x : AV) : zae H (fun K' => zaU x fun v => K' v H) k = zaU x k := zbI (p := fun q => zaU x q) fun q => by
 unfold zaU; split <;> simp
@[simp] theorem zLN (x : AV) (i : Nat) : zae H (fun K' => zax x i fun v => K' v H) k = zax x i k := zbI (p := fun q => zax x i q) fun q => by
 unfold zax
 split
 ·split <;> simp
 ·simp
@[simp] theorem zLG (z : List AV) (ps : List (Nat × Nat)) (x : List (Nat × AV)) : zae H (fun K' => zav z ps x fun v => K' v H) k = zav z ps x k := zbI (p := fun q => zav z ps x q) fun q => by
 unfold zav; split <;> simp
@[simp] theorem zLH (e : Nat) (z : List AV) (l : Nat) (x : List (Nat × AV)) : zae H (fun K' => zaB e z l x fun v => K' v H) k = zaB e z l x k := zbI (p := fun q => zaB e z l x q) fun q => by
 unfold zaB
 split
 ·split <;> simp
 ·simp
@[simp] theorem zLF (o : BinOp) (b : Bool) (x y : AV) : zae H (fun K' => zac o b x y fun v => K' v H) k = zac o b x y k := zbI (p := fun q => zac o b x y q) fun q => by
 unfold zac; split <;> simp
@[simp] theorem zLJ (f : Nat) (x : List AV) : zae H (fun K' => zbM f x fun v => K' v H) k = zbM f x k := zbI (p := fun q => zbM f x q) fun q => by
 unfold zbM
 constructor
 ·rintro ⟨h1, h2⟩; exact ⟨_, ⟨h1, rfl⟩, h2⟩
 ·rintro ⟨v, ⟨h1, rfl⟩, h2⟩; exact ⟨h1, h2⟩
end
@[simp] theorem zw0 (A l : zaa) : (A ++ l)[A.length]? = l[0]? := by rw [List.getElem?_append_right (Nat.le_refl _)]; simp
@[simp] theorem zpV (A l : zaa) (k : Nat) : (A ++ l)[A.length + k]? = l[k]? := by rw [List.getElem?_append_right (by omega)]; congr 1; omega
@[simp] theorem zyb (A l : zaa) (x : AB) : (A ++ l).set A.length x = A ++ l.set 0 x := by rw [List.set_append_right _ _ (Nat.le_refl _)]; simp
@[simp] theorem zre (A l : zaa) (k : Nat) (x : AB) : (A ++ l).set (A.length + k) x = A ++ l.set k x := by rw [List.set_append_right _ _ (by omega)]; congr 2; omega
@[simp] theorem zMA (A l : zaa) (i : Nat) (y : AB) : (A.set i y ++ l)[A.length]? = l[0]? := by have := zw0 (A.set i y) l; rwa [List.length_set] at this
@[simp] theorem zMB (A l : zaa) (i : Nat) (y : AB) (k : Nat) : (A.set i y ++ l)[A.length + k]? = l[k]? := by have := zpV (A.set i y) l k; rwa [List.length_set] at this
@[simp] theorem zM7 (A l : zaa) (i : Nat) (x y : AB) : (A.set i y ++ l).set A.length x = A.set i y ++ l.set 0 x := by have := zyb (A.set i y) l x; rwa [List.length_set] at this
@[simp] theorem zM8 (A l : zaa) (i : Nat) (y : AB) (k : Nat) (x : AB) : (A.set i y ++ l).set (A.length + k) x = A.set i y ++ l.set k x := by have := zre (A.set i y) l k x; rwa [List.length_set] at this
theorem zbd {H J : zaa} {id : Nat} {b : AB} (h : H[id]? = some b) : (H ++ J)[id]? = some b := by
 rw [List.getElem?_append_left (List.getElem?_eq_some_iff.1 h).1]; exact h
theorem zbH {H : zaa} {id : Nat} {b : AB} (h : H[id]? = some b) : id < H.length := (List.getElem?_eq_some_iff.1 h).1
theorem zb8 {H J : zaa} {id : Nat} {b : AB} (x : AB) (h : H[id]? = some b) : (H ++ J).set id x = H.set id x ++ J := List.set_append_left _ _ (zbH h)
theorem zbK {H : zaa} {id : Nat} {b : AB} (x : AB) (h : H[id]? = some b) : (H.set id x)[id]? = some x := List.getElem?_set_self (zbH h)

theorem zaq {n : Int} (h1 : -9223372036854775808 ≤ n) (h2 : n ≤ 9223372036854775807) : IntKind.i64.wrap n = n := IntWalk.i64_in n ⟨h1, h2⟩

theorem HSc.set {H : zaa} {id : Nat} {b : AB} (h : HSc H) (hb : b.sc H.length = true) : HSc (H.set id b) := by
 intro x hx
 rw [List.length_set]
 rcases List.mem_or_eq_of_mem_set hx with h1 | h1
 ·exact h x h1
 ·rw [h1]; exact hb
theorem zb4 {n m : Nat} (h : n ≤ m) : ∀ {a : AV}, a.sc n = true → a.sc m = true := by
 have hB : ∀ {a : AV}, a.scB n = true → a.scB m = true := by
  intro a ha
  cases a with
  | sl es t => cases t <;> simp_all [AV.scB]; omega
  | _ => simp_all [AV.scB] <;> omega
 have hA : ∀ {a : AV}, a.scA n = true → a.scA m = true := by
  intro a ha
  cases a with
  | fn f caps => simp only [AV.scA, List.all_eq_true] at ha ⊢; exact fun x hx => hB (ha x hx)
  | _ => simp only [AV.scA] at ha ⊢; exact hB ha
 have hV : ∀ {a : AV}, a.scV n = true → a.scV m = true := by
  intro a ha
  cases a with
  | agg caps => simp only [AV.scV, List.all_eq_true] at ha ⊢; exact fun x hx => hA (ha x hx)
  | _ => simp only [AV.scV] at ha ⊢; exact hA ha
 intro a ha
 cases a with
 | tup caps => simp only [AV.sc, List.all_eq_true] at ha ⊢; exact fun x hx => hV (ha x hx)
 | _ => simp only [AV.sc] at ha ⊢; exact hV ha
theorem Back.here {n0 : Nat} {Inv : List AV → zaa → Prop} {F : List AV} {H : zaa} (hn : n0 ≤ H.length) (hsc : HSc H) (hs : F.all (AV.sc H.length) = true) (h : Inv F H) : Back n0 Inv F H := by
 have := Back.same (J := []) hn hsc hs h
 simpa using this
theorem zlF {n m : Nat} (h : n ≤ m) {a : AV} (ha : a.scA n = true) : a.scA m = true := by
 cases a with
 | agg cs => rfl
 | tup vs => rfl
 | fn f caps => exact zb4 h (a := .fn f caps) ha
 | sl es t => exact zb4 h (a := .sl es t) ha
 | ptr i o => exact zb4 h (a := .ptr i o) ha
 | ms i o l c => exact zb4 h (a := .ms i o l c) ha
 | ov i n => exact zb4 h (a := .ov i n) ha
 | vp i n o => exact zb4 h (a := .vp i n o) ha
 | map i => exact zb4 h (a := .map i) ha
 | _ => rfl
theorem zx5 {n m : Nat} (h : n ≤ m) {a : AV} (ha : a.scV n = true) : a.scV m = true := by
 cases a with
 | tup vs => rfl
 | agg cs => exact zb4 h (a := .agg cs) ha
 | fn f caps => exact zb4 h (a := .fn f caps) ha
 | sl es t => exact zb4 h (a := .sl es t) ha
 | ptr i o => exact zb4 h (a := .ptr i o) ha
 | ms i o l c => exact zb4 h (a := .ms i o l c) ha
 | ov i n => exact zb4 h (a := .ov i n) ha
 | vp i n o => exact zb4 h (a := .vp i n o) ha
 | map i => exact zb4 h (a := .map i) ha
 | _ => rfl
theorem zvG {n m : Nat} (h : n ≤ m) {b : AB} (hb : b.sc n = true) : b.sc m = true := by
 cases b with
 | cells cs => simp only [AB.sc, List.all_eq_true] at hb ⊢; exact fun x hx => zlF h (hb x hx)
 | perm e s n => rfl
 | gap => rfl
 | dead => rfl
 | fact φ => rfl
 | map kvs => simp only [AB.sc, List.all_eq_true] at hb ⊢; exact fun x hx => zx5 h (hb x hx)
 | bld t cs => simp only [AB.sc, List.all_eq_true] at hb ⊢; exact fun x hx => zlF h (hb x hx)
 | vec e s n cs => simp only [AB.sc, List.all_eq_true] at hb ⊢; exact fun x hx => zlF h (hb x hx)
theorem HSc.append {A J : zaa} (hA : HSc A) (hJ : J.all (AB.sc (A.length + J.length)) = true) : HSc (A ++ J) := by
 intro x hx
 rw [List.length_append]
 rcases List.mem_append.1 hx with h1 | h1
 ·exact zvG (by omega) (hA x h1)
 ·exact List.all_eq_true.1 hJ x h1
end Go.Abs
namespace Go.Abs
open Go

inductive VT where
 | mk (kind num : Int) (kids : List VT)

mutual
def VT.cs : VT → List AV
 | .mk k n ks => [.int .i64 k, .int .i64 n, .sl (VT.css ks) .none]
def VT.css : List VT → List (List AV)
 | [] => []
 | v :: vs => VT.cs v :: VT.css vs
end
mutual
def VT.nodes : VT → Nat
 | .mk _ _ ks => VT.nodesL ks + 1
def VT.nodesL : List VT → Nat
 | [] => 0
 | v :: vs => VT.nodes v + VT.nodesL vs
end
theorem VT.css_map : ∀ ks : List VT, VT.css ks = ks.map VT.cs
 | [] => rfl
 | v :: vs => by simp [VT.css, VT.css_map vs]
theorem VT.nodes_pos : ∀ v : VT, 0 < v.nodes
 | .mk _ _ _ => by simp [VT.nodes]
theorem VT.nodesL_app : ∀ (a b : List VT), VT.nodesL (a ++ b) = VT.nodesL a + VT.nodesL b
 | [], b => by simp [VT.nodesL]
 | v :: a, b => by simp [VT.nodesL, VT.nodesL_app a b]; omega
@[simp] theorem VT.cs_len (v : VT) : v.cs.length = 3 := by cases v; simp [VT.cs]
@[simp] theorem VT.css_len (ks : List VT) : (VT.css ks).length = ks.length := by simp [VT.css_map]
@[simp] theorem VT.cs_take (v : VT) : v.cs.take 3 = v.cs := by cases v; simp [VT.cs]
@[simp] theorem VT.cs_known (v : VT) : v.cs.all AV.known = true := by cases v; simp [VT.cs, AV.known]
@[simp] theorem VT.cs_scA (v : VT) (n : Nat) : v.cs.all (AV.scA n) = true := by cases v; simp [VT.cs, AV.scA, AV.scB]
@[simp] theorem VT.css_at {ks : List VT} {i : Nat} (h : i < ks.length) : (VT.css ks)[i]?.getD [] = (ks[i]).cs := by simp [VT.css_map, h]
@[simp] theorem VT.css_get {ks : List VT} {i : Nat} (h : i < (VT.css ks).length) : (VT.css ks)[i] = (ks[i]'(by simpa using h)).cs := by simp [VT.css_map]
theorem VT.css_getD {ks : List VT} {i : Nat} (h : i < ks.length) : (VT.css ks).getD i [] = (ks[i]).cs := by simp [VT.css_map, List.getD_eq_getElem?_getD, h]
theorem VT.kid_lt {k n : Int} {ks : List VT} {i : Nat} (h : i < ks.length) : (ks[i]).nodes < (VT.mk k n ks).nodes := by
 have h1 : VT.nodesL ks = VT.nodesL (ks.take i) + ((ks[i]).nodes + VT.nodesL (ks.drop (i + 1))) := by
  conv => lhs; rw [← List.take_append_drop i ks, VT.nodesL_app, List.drop_eq_getElem_cons h]
  rw [VT.nodesL]
 simp only [VT.nodes]
 omega
theorem VT.len_le : ∀ ks : List VT, ks.length ≤ VT.nodesL ks
 | [] => by simp
 | v :: vs => by have := VT.len_le vs; have := v.nodes_pos; simp [VT.nodesL]; omega
theorem VT.nodesL_take {ks : List VT} {i : Nat} (h : i < ks.length) : VT.nodesL (ks.take (i + 1)) = VT.nodesL (ks.take i) + (ks[i]).nodes := by
 rw [List.take_succ_eq_append_getElem h, VT.nodesL_app]; simp [VT.nodesL]
theorem VT.nodesL_take_le (ks : List VT) (i : Nat) : VT.nodesL (ks.take i) ≤ VT.nodesL ks := by
 conv => rhs; rw [← List.take_append_drop i ks, VT.nodesL_app]
 omega
def VT.leaf (k : Int) : Bool := k == 6 || k == 7 || k == 8
mutual
def VT.size : VT → Nat
 | .mk k _ ks => if VT.leaf k = true then 1 else VT.sizeL ks + 1
def VT.sizeL : List VT → Nat
 | [] => 0
 | v :: vs => VT.size v + VT.sizeL vs
end
mutual
theorem VT.size_le : ∀ v : VT, v.size ≤ v.nodes
 | .mk k n ks => by
  have := VT.sizeL_le ks
  simp only [VT.size, VT.nodes]
  split <;> omega
theorem VT.sizeL_le : ∀ ks : List VT, VT.sizeL ks ≤ VT.nodesL ks
 | [] => by simp [VT.sizeL, VT.nodesL]
 | v :: vs => by have := VT.size_le v; have := VT.sizeL_le vs; simp only [VT.sizeL, VT.nodesL]; omega
end
/- The guard on a value's nodes: what is left of a number behind it, and whether it was enough. -/
mutual
def VT.val : VT → Int → Bool × Int
 | .mk _ _ ks, n => if n - 1 < 0 then (false, n - 1) else VT.valL ks (n - 1)
def VT.valL : List VT → Int → Bool × Int
 | [], n => (true, n)
 | v :: vs, n => match VT.val v n with
  | (true, m) => VT.valL vs m
  | (false, m) => (false, m)
end
mutual
theorem VT.val_spec : ∀ (v : VT) (n : Int), 0 ≤ n → ((VT.val v n).1 = true → (VT.val v n).2 = n - v.nodes ∧ 0 ≤ (VT.val v n).2) ∧ -1 ≤ (VT.val v n).2 ∧ (VT.val v n).2 ≤ n
 | .mk k m ks, n, h => by
  simp only [VT.val, VT.nodes]
  split
  ·simp; omega
  ·have := VT.valL_spec ks (n - 1) (by omega)
   refine ⟨fun ht => ?_, by omega, by omega⟩
   have := this.1 ht
   omega
theorem VT.valL_spec : ∀ (ks : List VT) (n : Int), 0 ≤ n → ((VT.valL ks n).1 = true → (VT.valL ks n).2 = n - VT.nodesL ks ∧ 0 ≤ (VT.valL ks n).2) ∧ -1 ≤ (VT.valL ks n).2 ∧ (VT.valL ks n).2 ≤ n
 | [], n, h => by simp [VT.valL, VT.nodesL]; omega
 | v :: vs, n, h => by
  have h1 := VT.val_spec v n h
  simp only [VT.valL, VT.nodesL]
  split
  ·rename_i m hm
   rw [hm] at h1
   have h2 := h1.1 rfl
   simp only at h2
   have h3 := VT.valL_spec vs m h2.2
   refine ⟨fun ht => ?_, by omega, by omega⟩
   have := h3.1 ht
   omega
  ·rename_i m hm
   rw [hm] at h1
   simp only at h1
   exact ⟨by simp, by omega, by omega⟩
end
theorem VT.valL_drop {ks : List VT} {i : Nat} (h : i < ks.length) (n : Int) : VT.valL (ks.drop i) n = match VT.val ks[i] n with
  | (true, m) => VT.valL (ks.drop (i + 1)) m
  | (false, m) => (false, m) := by rw [List.drop_eq_getElem_cons h, VT.valL]
end Go.Abs
namespace Go.Abs
open Go
def icmp (a b : Int) : Int := if a < b then -1 else if b < a then 1 else 0
def cor (a b : Int) : Int := if a = 0 then b else a
theorem zfj (a b : Int) : icmp a b = - icmp b a := by unfold icmp; split <;> split <;> first | omega | (split <;> omega)
theorem zp2 (a b : Int) : icmp a b = 0 ↔ a = b := by unfold icmp; split <;> first | omega | (split <;> omega)
theorem zfk (a b : Int) : icmp a b = -1 ∨ icmp a b = 0 ∨ icmp a b = 1 := by unfold icmp; split <;> first | omega | (split <;> omega)
theorem zdP {a a' b b' : Int} (h : a = - b) (h' : a' = - b') : cor a a' = - cor b b' := by unfold cor; split <;> split <;> omega
theorem zgh (a b : Int) : cor a b = 0 ↔ a = 0 ∧ b = 0 := by unfold cor; split <;> omega
theorem zdQ {a b : Int} (h : a = -1 ∨ a = 0 ∨ a = 1) (h' : b = -1 ∨ b = 0 ∨ b = 1) : cor a b = -1 ∨ cor a b = 0 ∨ cor a b = 1 := by unfold cor; split <;> omega
def Tri (a b c : Int) : Prop := a ≤ 0 → b ≤ 0 → c ≤ 0 ∧ (c = 0 → a = 0 ∧ b = 0)
theorem Tri.icmp (x y z : Int) : Tri (icmp x y) (icmp y z) (icmp x z) := by
 unfold Tri Go.Abs.icmp
 intro h1 h2
 split at h1 <;> split at h2 <;> (try split at h1) <;> (try split at h2) <;> split <;> (try split) <;> omega
theorem Tri.cor {a b c a' b' c' : Int} (h : Tri a b c) (h' : Tri a' b' c') : Tri (cor a a') (cor b b') (cor c c') := by
 unfold Tri Go.Abs.cor at *
 intro h1 h2
 by_cases ha : a = 0 <;> by_cases hb : b = 0 <;> by_cases hc : c = 0 <;> simp only [ha, hb, hc, if_true, if_false] at * <;> first | omega | (simp_all; done) | (have := h' h1 h2; simp_all; omega)
mutual
def VT.cmp : VT → VT → Int
 | .mk k n ks, .mk k' n' ks' => cor (icmp k k') (cor (icmp n n') (cor (icmp ks.length ks'.length) (VT.cmpL ks ks')))
def VT.cmpL : List VT → List VT → Int
 | v :: vs, w :: ws => cor (VT.cmp v w) (VT.cmpL vs ws)
 | [], [] => 0
 | [], _ :: _ => -1
 | _ :: _, [] => 1
end
mutual
def VT.same : VT → VT → Bool
 | .mk k n ks, .mk k' n' ks' => k == k' && n == n' && VT.sameL ks ks'
def VT.sameL : List VT → List VT → Bool
 | v :: vs, w :: ws => VT.same v w && VT.sameL vs ws
 | [], [] => true
 | [], _ :: _ => false
 | _ :: _, [] => false
end
mutual
theorem VT.cmp_anti : ∀ v w : VT, VT.cmp v w = - VT.cmp w v
 | .mk k n ks, .mk k' n' ks' => by
  simp only [VT.cmp]
  exact zdP (zfj _ _) (zdP (zfj _ _) (zdP (zfj _ _) (VT.cmpL_anti ks ks')))
theorem VT.cmpL_anti : ∀ v w : List VT, VT.cmpL v w = - VT.cmpL w v
 | v :: vs, w :: ws => by simp only [VT.cmpL]; exact zdP (VT.cmp_anti v w) (VT.cmpL_anti vs ws)
 | [], [] => by simp [VT.cmpL]
 | [], _ :: _ => by simp [VT.cmpL]
 | _ :: _, [] => by simp [VT.cmpL]
end
mutual
theorem VT.cmp_rng : ∀ v w : VT, VT.cmp v w = -1 ∨ VT.cmp v w = 0 ∨ VT.cmp v w = 1
 | .mk k n ks, .mk k' n' ks' => by
  simp only [VT.cmp]
  exact zdQ (zfk _ _) (zdQ (zfk _ _) (zdQ (zfk _ _) (VT.cmpL_rng ks ks')))
theorem VT.cmpL_rng : ∀ v w : List VT, VT.cmpL v w = -1 ∨ VT.cmpL v w = 0 ∨ VT.cmpL v w = 1
 | v :: vs, w :: ws => by simp only [VT.cmpL]; exact zdQ (VT.cmp_rng v w) (VT.cmpL_rng vs ws)
 | [], [] => by simp [VT.cmpL]
 | [], _ :: _ => by simp [VT.cmpL]
 | _ :: _, [] => by simp [VT.cmpL]
end
theorem VT.sameL_len : ∀ v w : List VT, VT.sameL v w = true → v.length = w.length
 | v :: vs, w :: ws => by simp only [VT.sameL, Bool.and_eq_true, List.length_cons]; intro h; have := VT.sameL_len vs ws h.2; omega
 | [], [] => by simp
 | [], _ :: _ => by simp [VT.sameL]
 | _ :: _, [] => by simp [VT.sameL]
mutual
theorem VT.cmp_zero : ∀ v w : VT, VT.cmp v w = 0 ↔ VT.same v w = true
 | .mk k n ks, .mk k' n' ks' => by
  have h := VT.cmpL_zero ks ks'
  simp only [VT.cmp, VT.same, zgh, zp2, Bool.and_eq_true, beq_iff_eq, and_assoc, h]
  constructor
  ·rintro ⟨a, b, _, c⟩; exact ⟨a, b, c⟩
  ·rintro ⟨a, b, c⟩; exact ⟨a, b, by have := VT.sameL_len _ _ c; omega, c⟩
theorem VT.cmpL_zero : ∀ v w : List VT, VT.cmpL v w = 0 ↔ VT.sameL v w = true
 | v :: vs, w :: ws => by simp only [VT.cmpL, VT.sameL, zgh, Bool.and_eq_true, VT.cmp_zero v w, VT.cmpL_zero vs ws]
 | [], [] => by simp [VT.cmpL, VT.sameL]
 | [], _ :: _ => by simp [VT.cmpL, VT.sameL]
 | _ :: _, [] => by simp [VT.cmpL, VT.sameL]
end
mutual
theorem VT.cmp_tri : ∀ v w x : VT, Tri (VT.cmp v w) (VT.cmp w x) (VT.cmp v x)
 | .mk k n ks, .mk k' n' ks', .mk k'' n'' ks'' => by
  simp only [VT.cmp]
  exact (Tri.icmp _ _ _).cor ((Tri.icmp _ _ _).cor ((Tri.icmp _ _ _).cor (VT.cmpL_tri ks ks' ks'')))
theorem VT.cmpL_tri : ∀ v w x : List VT, Tri (VT.cmpL v w) (VT.cmpL w x) (VT.cmpL v x)
 | v :: vs, w :: ws, x :: xs => by simp only [VT.cmpL]; exact (VT.cmp_tri v w x).cor (VT.cmpL_tri vs ws xs)
 | [], [], [] => by simp [VT.cmpL, Tri]
 | [], [], _ :: _ => by simp [VT.cmpL, Tri]
 | [], _ :: _, [] => by simp [VT.cmpL, Tri]
 | [], _ :: _, _ :: _ => by simp [VT.cmpL, Tri]
 | _ :: _, [], [] => by simp [VT.cmpL, Tri]
 | _ :: _, [], _ :: _ => by simp [VT.cmpL, Tri]
 | _ :: _, _ :: _, [] => by simp [VT.cmpL, Tri]
end
theorem VT.cmpL_drop {a b : List VT} {i : Nat} (ha : i < a.length) (hb : i < b.length) : VT.cmpL (a.drop i) (b.drop i) = cor (VT.cmp a[i] b[i]) (VT.cmpL (a.drop (i + 1)) (b.drop (i + 1))) := by
 rw [List.drop_eq_getElem_cons ha, List.drop_eq_getElem_cons hb, VT.cmpL]
theorem VT.sameL_drop {a b : List VT} {i : Nat} (ha : i < a.length) (hb : i < b.length) : VT.sameL (a.drop i) (b.drop i) = (VT.same a[i] b[i] && VT.sameL (a.drop (i + 1)) (b.drop (i + 1))) := by
 rw [List.drop_eq_getElem_cons ha, List.drop_eq_getElem_cons hb, VT.sameL]
end Go.Abs
namespace Go.Abs
open Go
theorem Out.tup {H J : zaa} {K : AV → zaa → Prop} {asx bs : List AV} (hs : HSc H) (h : K (.tup bs) H) (hw : All2 (fun a b => WkV a b ∧ b.isV = true ∧ b.scV H.length = true) asx bs) : Out H.length K (.tup asx) (H ++ J) :=
 ⟨_, H, J, rfl, Nat.le_refl _, hs, .tup (hw.mono fun _ _ h => .wk h.1 h.2.1 h.2.2), h⟩
theorem Out.tup0 {H : zaa} {K : AV → zaa → Prop} {asx bs : List AV} (hs : HSc H) (h : K (.tup bs) H) (hw : All2 (fun a b => WkV a b ∧ b.isV = true ∧ b.scV H.length = true) asx bs) : Out H.length K (.tup asx) H := by
 have := Out.tup (J := []) hs h hw
 simpa using this
theorem Out.one {H J : zaa} {K : AV → zaa → Prop} {a b : AV} (hs : HSc H) (hw : WkV a b) (hv : b.isV = true) (hc : b.scV H.length = true) (h : K b H) : Out H.length K a (H ++ J) :=
 ⟨_, H, J, rfl, Nat.le_refl _, hs, .one (.wk hw hv hc), h⟩
theorem Out.one0 {H : zaa} {K : AV → zaa → Prop} {a b : AV} (hs : HSc H) (hw : WkV a b) (hv : b.isV = true) (hc : b.scV H.length = true) (h : K b H) : Out H.length K a H := by
 have := Out.one (J := []) hs hw hv hc h
 simpa using this
@[simp] theorem zMF (k : IntKind) (n : Int) : (AV.int k n).known = true := rfl
@[simp] theorem zMM (s : List UInt8) : (AV.str s).known = true := rfl
@[simp] theorem zMD (b : Bool) : (AV.bool b).known = true := rfl
@[simp] theorem zML (es : List (List AV)) (t : Tok) : (AV.sl es t).known = true := rfl
@[simp] theorem zcW : AV.snil.known = true := rfl
@[simp] theorem zMI : AV.nilp.known = true := rfl
@[simp] theorem zMK (i o : Nat) : (AV.ptr i o).known = true := rfl
@[simp] theorem zMH (i o l c : Nat) : (AV.ms i o l c).known = true := rfl
@[simp] theorem zME (f : Nat) (c : List AV) : (AV.fn f c).known = true := rfl
@[simp] theorem zMG (i : Nat) : (AV.map i).known = true := rfl
@[simp] theorem zMN (cs : List AV) : (AV.view cs).known = true := rfl
section
variable {H : zaa} {K : AV → zaa → Prop}
@[simp] theorem zJZ (i o : Nat) : zap (.ptr i o) H K = K (.ptr H.length 0) (H ++ [.cells [.ptr i o]]) := propext Iff.rfl
@[simp] theorem zJX (i o l c : Nat) : zap (.ms i o l c) H K = K (.ptr H.length 0) (H ++ [.cells [.ms i o l c]]) := propext Iff.rfl
@[simp] theorem zJW (i : Nat) : zap (.map i) H K = K (.ptr H.length 0) (H ++ [.cells [.map i]]) := propext Iff.rfl
@[simp] theorem zJU (f : Nat) (c : List AV) : zap (.fn f c) H K = K (.ptr H.length 0) (H ++ [.cells [.fn f c]]) := propext Iff.rfl
@[simp] theorem zJ1 : zap .snil H K = K (.ptr H.length 0) (H ++ [.cells [.snil]]) := propext Iff.rfl
end
theorem zbq {H : zaa} {p : zaa → (AV → zaa → Prop) → Prop} {k : AV → Prop} (r : AV) (h : ∀ J : zaa, p (H ++ J) fun v H' => v = r ∧ H' = H ++ J) (hk : k r) : za6 H p k := ⟨r, h, hk⟩
@[simp] theorem zMY (m : Nat) (k : IntKind) (n : Int) : (AV.int k n).scA m = true := rfl
@[simp] theorem zM6 (m : Nat) (s : List UInt8) : (AV.str s).scA m = true := rfl
@[simp] theorem zMX (m : Nat) (b : Bool) : (AV.bool b).scA m = true := rfl
@[simp] theorem zM4 (m : Nat) (es : List (List AV)) : (AV.sl es .none).scA m = true := rfl
@[simp] theorem zM5 (m : Nat) : AV.snil.scA m = true := rfl
@[simp] theorem zM3 (m i o : Nat) : (AV.ptr i o).scA m = decide (i < m) := rfl
@[simp] theorem zM0 (m i o l c : Nat) : (AV.ms i o l c).scA m = decide (i < m) := rfl
@[simp] theorem zMZ (m i : Nat) : (AV.map i).scA m = decide (i < m) := rfl
@[simp] theorem zM2 (m : Nat) (es : List (List AV)) (i : Nat) : (AV.sl es (.own i)).scA m = decide (i < m) := rfl
theorem WkV.rfl' {a : AV} : WkV a a := .atom (.refl a)
theorem zaQ {n : Nat} {a : AV} (h1 : a.isV = true) (h2 : a.scV n = true) : WkV a a ∧ a.isV = true ∧ a.scV n = true := ⟨.rfl', h1, h2⟩
theorem slV {n : Nat} {es : List (List AV)} {t : Tok} : WkV (.sl es t) (.sl es .none) ∧ (AV.sl es .none).isV = true ∧ (AV.sl es .none).scV n = true := ⟨.atom (.sl es t), rfl, rfl⟩
theorem zdA {n : Nat} : WkV .snil (.sl [] .none) ∧ (AV.sl [] .none).isV = true ∧ (AV.sl [] .none).scV n = true := ⟨.atom .snil, rfl, rfl⟩
theorem zdp {x : Option AV} {d : Nat} {p : Nat → Prop} {p' : AV → Nat → Prop} {q : AV → Prop} (hp : ∀ n, p n ↔ ∃ v, p' v n ∧ q v) : zbz x d p ↔ ∃ v, zbz x d (p' v) ∧ q v := by
 unfold zbz
 split
 ·exact hp d
 ·rename_i n
  constructor
  ·rintro ⟨h1, h2⟩
   obtain ⟨v, h3, h4⟩ := (hp _).1 h2
   exact ⟨v, ⟨h1, h3⟩, h4⟩
  ·rintro ⟨v, ⟨h1, h3⟩, h4⟩
   exact ⟨h1, (hp _).2 ⟨v, h3, h4⟩⟩
 ·simp
theorem zgo {a : Prop} {q : AV → Prop} {x : AV} : (a ∧ q x) ↔ ∃ v, (a ∧ x = v) ∧ q v := by
 constructor
 ·rintro ⟨h1, h2⟩; exact ⟨_, ⟨h1, rfl⟩, h2⟩
 ·rintro ⟨v, ⟨h1, rfl⟩, h2⟩; exact ⟨h1, h2⟩
@[simp] theorem zLZ {H : zaa} {k : AV → Prop} (u e : Nat) (x : AV) (lo hi : Option AV) : zae H (fun K' => zaL u e x lo hi fun v => K' v H) k = zaL u e x lo hi k := zbI (p := fun q => zaL u e x lo hi q) fun q => by
 unfold zaL
 split
 ·exact zdp fun h => zdp fun l => zgo
 ·exact zdp fun h => zdp fun l => zgo
 ·exact zdp fun h => zdp fun l => zgo
 ·exact zdp fun h => zdp fun l => zgo
 ·simp
end Go.Abs
namespace Go.Abs
open Go
theorem Out.at {n : Nat} {H2 J H' : zaa} {K : AV → zaa → Prop} {a b : AV} (he : H' = H2 ++ J) (hn : n ≤ H2.length) (hs : HSc H2) (hw : WkV a b) (hv : b.isV = true) (hc : b.scV H2.length = true) (h : K b H2) : Out n K a H' := by
 subst he
 exact ⟨_, H2, J, rfl, hn, hs, .one (.wk hw hv hc), h⟩
theorem Out.bool {n : Nat} {H2 J H' : zaa} {K : AV → zaa → Prop} {b : Bool} (he : H' = H2 ++ J) (hn : n ≤ H2.length) (hs : HSc H2) (h : K (.bool b) H2) : Out n K (.bool b) H' := Out.at he hn hs .rfl' rfl rfl h
theorem Out.int {n : Nat} {H2 J H' : zaa} {K : AV → zaa → Prop} {k : IntKind} {b : Int} (he : H' = H2 ++ J) (hn : n ≤ H2.length) (hs : HSc H2) (h : K (.int k b) H2) : Out n K (.int k b) H' := Out.at he hn hs .rfl' rfl rfl h
theorem Back.at {n0 : Nat} {Inv : List AV → zaa → Prop} {F : List AV} {H2 J H' : zaa} (he : H' = H2 ++ J) (hn : n0 ≤ H2.length) (hsc : HSc H2) (hs : F.all (AV.sc H2.length) = true) (h : Inv F H2) : Back n0 Inv F H' := by
 subst he
 exact Back.same hn hsc hs h
theorem HSc.snoc {H : zaa} {b : AB} (h : HSc H) (hb : b.sc (H.length + 1) = true) : HSc (H ++ [b]) := h.append (by simpa using hb)
end Go.Abs
namespace Go.Abs
open Go
theorem zwS {B : Nat} {w w' : World} {G G' : Gh} (h : Ext B w G w' G') : G.μ.length ≤ G'.μ.length := by
 by_cases h0 : G.μ.length = 0
 ·omega
 ·obtain ⟨g, h1, _⟩ := h.ids (G.μ.length - 1) _ (List.getElem?_eq_getElem (by omega))
  have := (List.getElem?_eq_some_iff.1 h1).1
  omega
theorem ACalls.mono' {P : Program} {f : FuncId} {args : List AV} {H : zaa} {K K' : AV → zaa → Prop} (h : ACalls P f args H K) (hk : ∀ r H', HSc H' → H.length ≤ H'.length → K r H' → K' r H') : ACalls P f args H K' :=
 fun B w G vs hH hv => (h B w G vs hH hv).mono fun _ _ ⟨v, r, H', G', h1, h2, h3, h4, h5⟩ => ⟨v, r, H', G', h1, h2, h3, h4, hk _ _ h3.sc (by have := zwS h2; rw [hH.len, h3.len] at this; exact this) h5⟩
theorem aCallV.mono' {P : Program} {g : AV} {args : List AV} {H : zaa} {K K' : AV → zaa → Prop} (h : aCallV P g args H K) (hk : ∀ r H', HSc H' → H.length ≤ H'.length → K r H' → K' r H') : aCallV P g args H K' := by
 unfold aCallV at *
 split at h
 ·split at h
  ·exact ACalls.mono' h hk
  ·exact h.elim
 ·exact h.elim
end Go.Abs
namespace Go.Abs
open Go Go.RowKit
theorem HRel.reCell {B : Nat} {w : World} {G : Gh} {H : zaa} (h : HRel B w G H) {id : Nat} {cs cs' : List AV} (hid : H[id]? = some (.cells cs)) (hc : ∀ vs : List Value, All2 (ARel w G) vs cs → All2 (ARel w G) vs cs') : HRel B w G (H.set id (.cells cs')) := by
 refine ⟨by simp [h.len], ?_, h.dist, h.fresh, h.lt, h.base⟩
 intro i ab gi h1 h2
 by_cases hi : i = id
 ·subst hi
  rw [List.getElem?_set_self (List.getElem?_eq_some_iff.1 hid).1] at h1
  cases h1
  have hok := h.ok i _ _ hid h2
  cases gi with
  | blk b =>
   obtain ⟨k1, k2, vs, e, k3, k4⟩ := hok
   exact ⟨k1, k2, vs, e, k3, hc _ k4⟩
  | own v s n => exact hok.elim
  | gap => exact hok.elim
 ·rw [List.getElem?_set_ne (fun h => hi h.symm)] at h1
  exact h.ok i ab gi h1 h2
theorem HRel.ownCell {B : Nat} {w : World} {G : Gh} {H : zaa} (h : HRel B w G H) {id j : Nat} {cs : List AV} (e size : Nat) (hid : H[id]? = some (.cells cs)) (hj : cs[j]? = some .snil) :
  ∃ G', Ext B w G w G' ∧ HRel B w G' (H.set id (.cells (cs.set j (.sl [] (.own H.length)))) ++ [.perm e size 0]) := by
 obtain ⟨hE, hH'⟩ := h.newOwn e size
 refine ⟨_, hE, ?_⟩
 have hlt := (List.getElem?_eq_some_iff.1 hid).1
 have := hH'.reCell (id := id) (cs := cs) (cs' := cs.set j (.sl [] (.own H.length))) (by rw [List.getElem?_append_left hlt]; exact hid) (fun vs hvs => by
  obtain ⟨v, h1, h2⟩ := All2.get hvs hj
  have h2 : v = .slice none 0 0 := h2
  subst h2
  have hset : vs = vs.set j (.slice none 0 0) := by
   apply List.ext_getElem?
   intro k
   by_cases hk : k = j
   ·subst hk; rw [List.getElem?_set_self (List.getElem?_eq_some_iff.1 h1).1]; exact h1
   ·rw [List.getElem?_set_ne (fun h => hk h.symm)]
  rw [hset]
  refine All2.set j hvs ?_
  refine ⟨.slE _ _, .slice none 0 0, size, 0, ?_, Nat.le_refl _, fun _ => ⟨rfl, by simp⟩⟩
  rw [← h.len]
  simp)
 rwa [List.set_append_left _ _ hlt] at this
theorem ALoop.ownC {P : Program} {c : Code} {Q : AExit → List AV → zaa → Prop} {F : List AV} {H : zaa} {cs : List AV} (id j e size : Nat) (hid : H[id]? = some (.cells cs)) (hj : cs[j]? = some .snil)
  (h : ALoop P c Q F (H.set id (.cells (cs.set j (.sl [] (.own H.length)))) ++ [.perm e size 0])) : ALoop P c Q F H := by
 intro B w G a hH hF hd
 obtain ⟨G', hE, hH'⟩ := hH.ownCell e size hid hj
 refine wp_mono (h B w G' a hH' (hF.ext hE) hd) fun e a' w' hp => ?_
 obtain ⟨F'', H'', G'', e'', rfl, k1, k2, k3, k4, k5⟩ := hp
 exact ⟨F'', H'', G'', e'', rfl, hE.trans k1, k2, k3, k4, k5⟩
end Go.Abs
namespace Go.Abs
open Go
structure Con where
 name : List UInt8
 args : List VT
structure Dat where
 name : List UInt8
 vars : Int
 cons : List Con
structure Cod where
 name : List UInt8
 params : List Int
 capt : List Int
 res : VT
 body : Int
structure CEx where
 op : Int
 num : Int
 vars : List Int
 binds : List (List Int)
 kids : List Int
 ty : VT
structure Cor where
 data : List Dat
 codes : List Cod
 vars : List VT
 exprs : List CEx
def ints (l : List Int) : List (List AV) := l.map fun n => [.int .i64 n]
def rows (l : List (List Int)) : List (List AV) := l.map fun r => [.sl (ints r) .none]
def Con.cs (c : Con) : List AV := [.str c.name, .sl (VT.css c.args) .none]
def Dat.cs (d : Dat) : List AV := [.str d.name, .int .i64 d.vars, .sl (d.cons.map Con.cs) .none]
def Cod.cs (c : Cod) : List AV := .str c.name :: .sl (ints c.params) .none :: .sl (ints c.capt) .none :: (c.res.cs ++ [.int .i64 c.body])
def CEx.cs (e : CEx) : List AV := .int .i64 e.op :: .int .i64 e.num :: .sl (ints e.vars) .none :: .sl (rows e.binds) .none :: .sl (ints e.kids) .none :: e.ty.cs
def Cor.cs (c : Cor) : List AV := [.sl (c.data.map Dat.cs) .none, .sl (c.codes.map Cod.cs) .none, .sl (VT.css c.vars) .none, .sl (c.exprs.map CEx.cs) .none]
@[simp] theorem zMC (l : List Int) : (ints l).length = l.length := by simp [ints]
@[simp] theorem zMV (l : List (List Int)) : (rows l).length = l.length := by simp [rows]
def VT.kind : VT → Int | .mk k _ _ => k
def VT.num : VT → Int | .mk _ n _ => n
def VT.kids : VT → List VT | .mk _ _ ks => ks
def zaR (data : List Dat) (vars k n : Int) (len : Nat) : Bool :=
 if k == 1 || k == 2 || k == 3 then n == 0 && len == 0
 else if k == 4 then decide (0 ≤ n) && decide (n < vars) && len == 0
 else if k == 5 then decide (0 ≤ n) && (match data[n.toNat]? with | some d => (len : Int) == d.vars | none => false)
 else if k == 6 then n == 0 && decide (2 ≤ len) && decide (len ≤ 6)
 else if k == 7 || k == 8 then n == 0 && len == 1
 else if k == 9 then n == 0 && decide (1 ≤ len) && decide (len ≤ 7)
 else false
mutual
def zaJ (data : List Dat) (vars : Int) : VT → Bool
 | .mk k n asx => zaR data vars k n asx.length && zaS data vars asx
def zaS (data : List Dat) (vars : Int) : List VT → Bool
 | [] => true
 | t :: ts => zaJ data vars t && zaS data vars ts
end
def zaH (data : List Dat) (vars : Int) (t : VT) : Bool := decide (t.nodes ≤ 200) && zaJ data vars t
mutual
def subst (args : List VT) : VT → VT
 | .mk k n ks => if k = 4 ∧ 0 ≤ n ∧ n < args.length then (args[n.toNat]?).getD (.mk 0 0 []) else .mk k n (zaD args ks)
def zaD (args : List VT) : List VT → List VT
 | [] => []
 | t :: ts => subst args t :: zaD args ts
end
def za7 (data : List Dat) (t : VT) (c : Int) : Option (List VT) :=
 if t.kind = 5 ∧ 0 ≤ t.num ∧ 0 ≤ c then
  match data[t.num.toNat]? with
  | some d => if (t.kids.length : Int) = d.vars then
    match d.cons[c.toNat]? with
    | some k => let l := k.args.map (subst t.kids)
     if l.all (fun x => decide (x.nodes ≤ 200)) = true then some l else none
    | none => none
   else none
  | none => none
 else none
end Go.Abs
namespace Go.Abs
open Go
abbrev Kt := AV → zaa → Prop
abbrev Lt := List AV → zaa → Prop
def ux : Nat → List AV → List AV
 | 0, l => l
 | n + 1, l => .unk :: ux n l
@[simp] theorem zNf (m n : Nat) (l : List AV) : (ux n l).all (AV.sc m) = l.all (AV.sc m) := by
 induction n with
 | zero => rfl
 | succ n ih => rw [ux, List.all_cons, ih]; rfl
def rl : Bool → List Nat → List Bool
 | _, [] => []
 | b, n :: l => List.replicate n b ++ rl (!b) l
end Go.Abs
namespace Go.Abs
open Go Go.RowKit
variable {P : Program} {M : Nat → List Bool} {c : Code} {Q : AExit → List AV → zaa → Prop} {H : zaa}
def Rd1 (fr : AV → List AV) (bd : AV → zaa → Lt → Prop) (H : zaa) (Inv : Nat → AV → zaa → Prop) : Prop :=
 ∀ n t0 H', Inv n t0 H' → HSc H' → H.length ≤ H'.length → (fr t0).all (AV.sc H'.length) = true → ∀ Kb : Lt, (∀ F'' H'', (∃ n', n' < n ∧ Back H.length (fun F2 H2 => ∃ t0, F2 = fr t0 ∧ Inv n' t0 H2) F'' H'') → Kb F'' H'') → bd t0 H' Kb
theorem lp1 {fr : AV → List AV} {bd : AV → zaa → Lt → Prop} (m : List Bool) (t0 : AV) (he : (fun t0 H Kb => awp P M c (zbQ m Kb Q) (fr t0) H) = bd) (Inv : Nat → AV → zaa → Prop) (n : Nat) (h0 : HSc H → Inv n t0 H) (round : Rd1 fr bd H Inv) : ALoop P c Q (fr t0) H := by
 subst he
 exact zkd (M := M) m (fun n F H => ∃ t0, F = fr t0 ∧ Inv n t0 H) n (fun hs _ => ⟨t0, rfl, h0 hs⟩) (fun n F H' ⟨t0, hF, hI⟩ h1 h2 h3 => by subst hF; exact round n t0 H' hI h1 h2 h3 _ (fun _ _ h => h))
def Rd2 (fr : AV → AV → List AV) (bd : AV → AV → zaa → Lt → Prop) (H : zaa) (Inv : Nat → AV → AV → zaa → Prop) : Prop :=
 ∀ n t0 t1 H', Inv n t0 t1 H' → HSc H' → H.length ≤ H'.length → (fr t0 t1).all (AV.sc H'.length) = true → ∀ Kb : Lt, (∀ F'' H'', (∃ n', n' < n ∧ Back H.length (fun F2 H2 => ∃ t0 t1, F2 = fr t0 t1 ∧ Inv n' t0 t1 H2) F'' H'') → Kb F'' H'') → bd t0 t1 H' Kb
theorem lp2 {fr : AV → AV → List AV} {bd : AV → AV → zaa → Lt → Prop} (m : List Bool) (t0 t1 : AV) (he : (fun t0 t1 H Kb => awp P M c (zbQ m Kb Q) (fr t0 t1) H) = bd) (Inv : Nat → AV → AV → zaa → Prop) (n : Nat) (h0 : HSc H → Inv n t0 t1 H) (round : Rd2 fr bd H Inv) : ALoop P c Q (fr t0 t1) H := by
 subst he
 exact zkd (M := M) m (fun n F H => ∃ t0 t1, F = fr t0 t1 ∧ Inv n t0 t1 H) n (fun hs _ => ⟨t0, t1, rfl, h0 hs⟩) (fun n F H' ⟨t0, t1, hF, hI⟩ h1 h2 h3 => by subst hF; exact round n t0 t1 H' hI h1 h2 h3 _ (fun _ _ h => h))
def Rd3 (fr : AV → AV → AV → List AV) (bd : AV → AV → AV → zaa → Lt → Prop) (H : zaa) (Inv : Nat → AV → AV → AV → zaa → Prop) : Prop :=
 ∀ n t0 t1 t2 H', Inv n t0 t1 t2 H' → HSc H' → H.length ≤ H'.length → (fr t0 t1 t2).all (AV.sc H'.length) = true → ∀ Kb : Lt, (∀ F'' H'', (∃ n', n' < n ∧ Back H.length (fun F2 H2 => ∃ t0 t1 t2, F2 = fr t0 t1 t2 ∧ Inv n' t0 t1 t2 H2) F'' H'') → Kb F'' H'') → bd t0 t1 t2 H' Kb
theorem lp3 {fr : AV → AV → AV → List AV} {bd : AV → AV → AV → zaa → Lt → Prop} (m : List Bool) (t0 t1 t2 : AV) (he : (fun t0 t1 t2 H Kb => awp P M c (zbQ m Kb Q) (fr t0 t1 t2) H) = bd) (Inv : Nat → AV → AV → AV → zaa → Prop) (n : Nat) (h0 : HSc H → Inv n t0 t1 t2 H) (round : Rd3 fr bd H Inv) : ALoop P c Q (fr t0 t1 t2) H := by
 subst he
 exact zkd (M := M) m (fun n F H => ∃ t0 t1 t2, F = fr t0 t1 t2 ∧ Inv n t0 t1 t2 H) n (fun hs _ => ⟨t0, t1, t2, rfl, h0 hs⟩) (fun n F H' ⟨t0, t1, t2, hF, hI⟩ h1 h2 h3 => by subst hF; exact round n t0 t1 t2 H' hI h1 h2 h3 _ (fun _ _ h => h))
end Go.Abs
