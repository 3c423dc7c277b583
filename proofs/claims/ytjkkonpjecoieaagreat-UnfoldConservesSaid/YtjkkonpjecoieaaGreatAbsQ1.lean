import Derived.Test.YtjkkonpjecoieaaGreatAbsM
set_option linter.unusedSimpArgs false
set_option linter.unusedVariables false
namespace Go.Abs
open Go Go.RowKit

variable {P : Program} {B : Nat} {w : World} {G : Gh} {H : zaa}

theorem DRel.of_flat_at {L : Nat → Nat} {g off size cap : Nat} {es : List (List AV)} {zs : List Value} (hsz : ∀ c ∈ es, c.length = size) (hne : es ≠ []) (hcap : es.length ≤ cap) (hL : off + es.length * size ≤ L g)
  (hr : All2 (DRel w L) zs es.flatten) (hc : ∀ j v, zs[j]? = some v → w.cell? ⟨g, off + j, none⟩ = some v) : DRel w L (.slice (some ⟨g, off, none⟩) es.length cap) (.sl es .none) := by
 have hget : ∀ i j (hi : i < es.length) (hj : j < (es[i]).length), ∃ v, zs[i * size + j]? = some v ∧ DRel w L v (es[i])[j] := fun i j hi hj => hr.get (zf1 hsz i j hi hj)
 refine .sl g off cap size es (fun i j => zs.getD (i * size + j) undef) hne hcap hL (fun i hi => hsz _ (List.getElem_mem hi)) (fun i j hi hj => ?_) (fun i j hi hj => ?_)
 ·obtain ⟨v, h1, h2⟩ := hget i j hi hj
  simp only [List.getD_eq_getElem?_getD, h1, Option.getD_some, Nat.add_assoc]
  exact hc _ _ h1
 ·obtain ⟨v, h1, h2⟩ := hget i j hi hj
  simp only [List.getD_eq_getElem?_getD, h1, Option.getD_some]
  exact h2

inductive OutV (H : zaa) (n : Nat) : AV → AV → Prop
 | wk {a b : AV} (h : WkV a b) (hv : b.isV = true) (hs : b.scV n = true) : OutV H n a b
 | frz (id off len cap size : Nat) (cs : List AV) (es : List (List AV)) (hid : n ≤ id) (hH : H[id]? = some (.cells cs)) (hfit : off + len * size ≤ cs.length)
   (hp : zaD ((cs.drop off).take (len * size)) = some es.flatten) (hlen : es.length = len) (hsz : ∀ c ∈ es, c.length = size) (hcap : len ≤ cap) : OutV H n (.ms id off len cap) (.sl es .none)
 | vfz (id e size m : Nat) (cs : List AV) (es : List (List AV)) (hid : n ≤ id) (hH : H[id]? = some (.vec e size m cs)) (hp : zaD cs = some es.flatten) (hlen : es.length = m) (hsz : ∀ c ∈ es, c.length = size) : OutV H n (.ov id m) (.sl es .none)
inductive OutT (H : zaa) (n : Nat) : AV → AV → Prop
 | one {a b : AV} (h : OutV H n a b) : OutT H n a b
 | tup {asx bs : List AV} (h : All2 (OutV H n) asx bs) : OutT H n (.tup asx) (.tup bs)

theorem zz6 {n : Nat} {b : AV} (hv : b.isV = true) (hs : b.scV n = true) : b.sc n = true := by
 cases b <;> first | exact hs | (simp [AV.isV] at hv; done)

theorem OutV.vrel (hH : HRel B w G H) {n : Nat} {v : Value} {a b : AV} (h : OutV H n a b) (hr : TRel w G v a) : VRel w (G.cut w n) v b := by
 cases h with
 | wk h hv hs => exact zsz (zr2 hH (h.trel hr) (zz6 hv hs)) hv
 | frz id off len cap size cs es hid hHid hfit hp hlen hsz hcap =>
  obtain ⟨b, hμ, rfl⟩ := hr
  have hok := hH.ok id _ _ hHid hμ
  obtain ⟨_, _, vs, e, hw, hcs⟩ := hok
  subst hlen
  show DRel w (G.cut w n).L _ _
  by_cases hne : es = []
  ·subst hne; exact .slE _ _
  ·have hl := hcs.length
   have hd := zc8 ((hcs.drop off).take (es.length * size)) hp
   refine DRel.of_flat_at (zs := (vs.toList.drop off).take (es.length * size)) hsz hne hcap ?_ (hd.mono fun _ _ => zfY hH) ?_
   ·have : (G.cut w n).L b = vs.size := by
     simp only [Gh.cut]
     rw [if_pos (cut_dropped.2 ⟨id, _, hid, hμ, rfl⟩), hw]
    rw [this]
    simp at hl
    omega
   ·intro j u hj
    rw [List.getElem?_take] at hj
    split at hj
    ·simp only [World.cell?, hw]
     simpa using hj
    ·cases hj
 | vfz id e size m cs es hid hHid hp hlen hsz =>
  obtain ⟨⟨a, cap0, rfl, _⟩, v', s0, n', hμ, _, heq⟩ := hr
  obtain ⟨rfl, rfl, ⟨xs, hown, hcs⟩, _⟩ := hH.ok id _ _ hHid hμ
  obtain rfl := heq rfl
  subst hlen
  show DRel w (G.cut w n).L _ _
  by_cases hne : es = []
  ·subst hne; exact .slE _ _
  ·have hown2 := hown
   obtain ⟨hl, hrow⟩ := hown2
   rcases hrow with ⟨h1, h2⟩ | ⟨g, cap, cur, h1, h2, h3, h4, h5, h6, h7⟩
   ·cases es <;> simp_all
   ·simp at h1
    obtain ⟨rfl, rfl⟩ := h1
    obtain ⟨_, _, _, hcell⟩ := zc7 hown
    refine DRel.of_flat_at (zs := xs) hsz hne h4 ?_ ((zc8 hcs hp).mono fun _ _ => zfY hH) ?_
    ·have : (G.cut w n).L g = cur.size := by
      simp only [Gh.cut]
      rw [if_pos (cut_dropped.2 ⟨id, _, hid, hμ, rfl⟩), h3]
     rw [this, h6, Nat.zero_add]
     exact Nat.mul_le_mul_right _ h4
    ·intro j u hj
     rw [Nat.zero_add, hcell j (by rw [← hl]; exact (List.getElem?_eq_some_iff.1 hj).1)]
     exact hj

theorem zAG (hH : HRel B w G H) {n : Nat} {asx bs : List AV} (h : All2 (OutV H n) asx bs) : ∀ {vs : List Value}, All2 (VRel w G) vs asx → All2 (VRel w (G.cut w n)) vs bs := by
 induction asx generalizing bs with
 | nil =>
  intro vs hr
  cases bs with
  | nil => cases vs <;> first | trivial | exact hr.elim
  | cons b bs => exact h.elim
 | cons a asx ih =>
  intro vs hr
  cases bs with
  | nil => exact h.elim
  | cons b bs =>
   cases vs with
   | nil => exact hr.elim
   | cons v vs => exact ⟨h.1.vrel hH (TRel.of_v hr.1), ih h.2 hr.2⟩

def Out (n : Nat) (K : AV → zaa → Prop) (r : AV) (H' : zaa) : Prop := ∃ r2 H2 J, H' = H2 ++ J ∧ n ≤ H2.length ∧ HSc H2 ∧ OutT H' H2.length r r2 ∧ K r2 H2

theorem ACalls.out {f : FuncId} {args : List AV} {K : AV → zaa → Prop} (h : ACalls P f args H (Out H.length K)) : ACalls P f args H K := by
 intro B w G vs hH hv
 refine (h B w G vs hH hv).mono fun e w' ⟨v, r, H', G', h1, h2, h3, h4, h5⟩ => ?_
 obtain ⟨r2, H2, J, hJ, hn, hsc, ho, hk⟩ := h5
 subst hJ
 refine ⟨v, r2, H2, G'.cut w' H2.length, h1, zl2 h3 h2 (by rw [hH.len]; exact hn), h3.cut hsc, ?_, hk⟩
 cases ho with
 | one ho => exact TRel.of_v (ho.vrel h3 h4)
 | tup ho =>
  obtain ⟨us, hu, hr⟩ := h4
  exact ⟨us, hu, zAG h3 ho hr⟩

theorem Out.same {n : Nat} {K : AV → zaa → Prop} {r : AV} {J : zaa} (hn : n = H.length) (hsc : HSc H) (hv : r.isV = true) (hr : r.scV H.length = true) (h : K r H) : Out n K r (H ++ J) :=
 ⟨r, H, J, rfl, by omega, hsc, .one (.wk (.atom (.refl r)) hv hr), h⟩

theorem ALoop.own {c : Code} {Q : AExit → List AV → zaa → Prop} {F : List AV} (i e size : Nat) (hi : F[i]? = some .snil)
  (h : ALoop P c Q (F.set i (.sl [] (.own H.length))) (H ++ [.perm e size 0])) : ALoop P c Q F H := by
 intro B w G a hH hF hd
 obtain ⟨hE, hH'⟩ := hH.newOwn e size
 have hF' : FRel w ⟨G.L, G.μ ++ [.own (.slice none 0 0) size 0]⟩ a.tmps (F.set i (.sl [] (.own H.length))) := by
  unfold FRel
  obtain ⟨v, h1, h2⟩ := All2.get hF hi
  have h2 : v = .slice none 0 0 := h2
  subst h2
  have hset : a.tmps.toList = a.tmps.toList.set i (.slice none 0 0) := by
   apply List.ext_getElem?
   intro k
   by_cases hk : k = i
   ·subst hk; rw [List.getElem?_set_self (List.getElem?_eq_some_iff.1 h1).1]; exact h1
   ·rw [List.getElem?_set_ne (fun h => hk h.symm)]
  rw [hset]
  refine All2.set i (hF.ext hE) ?_
  refine ⟨.slE _ _, .slice none 0 0, size, 0, ?_, Nat.le_refl _, fun _ => ⟨rfl, by simp⟩⟩
  rw [← hH.len]
  simp
 refine wp_mono (h B w _ a hH' hF' hd) fun e a' w' hp => ?_
 obtain ⟨F'', H'', G'', e'', rfl, k1, k2, k3, k4, k5⟩ := hp
 exact ⟨F'', H'', G'', e'', rfl, hE.trans k1, k2, k3, k4, k5⟩

def zbW (w : World) (b : Nat) : Nat := match w.heap[b]? with | some (.cells c _ _) => c.size | _ => 0
def G0 (w : World) : Gh := ⟨zbW w, []⟩

theorem zzZ (w : World) : HRel w.heap.size w (G0 w) [] :=
 ⟨rfl, fun _ _ _ h => by simp at h, fun _ _ _ _ _ h => by simp [G0] at h, fun b hb => by simp [G0, zbW, Array.getElem?_eq_none hb], fun _ _ _ h => by simp [G0] at h, Nat.le_refl _⟩

theorem zCc {f : FuncId} {args : List AV} (h : ACalls P f args [] fun r _ => r = .bool true) (w : World) (vs : Array Value) (hv : All2 (TRel w (G0 w)) vs.toList args) :
  Calls P f vs w fun e w' => e = .returned (.bool true) ∧ Below w.heap.size w w' := by
 refine (h _ w (G0 w) vs (zzZ w) hv).mono fun e w' ⟨v, r, H', G', h1, h2, h3, h4, h5⟩ => ?_
 subst h5
 have h4 : v = .bool true := h4
 subst h4
 exact ⟨h1, h2.below⟩

end Go.Abs
namespace Go.Abs
open Go
abbrev Kt := AV → zaa → Prop
abbrev Lt := List AV → zaa → Prop
def ux : Nat → List AV → List AV
 | 0, l => l
 | n + 1, l => .unk :: ux n l
@[simp] theorem zRd (m n : Nat) (l : List AV) : (ux n l).all (AV.sc m) = l.all (AV.sc m) := by
 induction n with
 | zero => rfl
 | succ n ih => rw [ux, List.all_cons, ih]; rfl
def rl : Bool → List Nat → List Bool
 | _, [] => []
 | b, n :: l => List.replicate n b ++ rl (!b) l
end Go.Abs
namespace Go.Abs
open Go Go.RowKit
variable {P : Program} {M : Nat → List Bool} {c : Code} {Q : AExit → List AV → zaa → Prop} {H : zaa}
def Rd1 (fr : AV → List AV) (bd : AV → zaa → Lt → Prop) (H : zaa) (Inv : Nat → AV → zaa → Prop) : Prop :=
 ∀ n t0 H', Inv n t0 H' → HSc H' → H.length ≤ H'.length → (fr t0).all (AV.sc H'.length) = true → ∀ Kb : Lt, (∀ F'' H'', (∃ n', n' < n ∧ Back H.length (fun F2 H2 => ∃ t0, F2 = fr t0 ∧ Inv n' t0 H2) F'' H'') → Kb F'' H'') → bd t0 H' Kb
theorem lp1 {fr : AV → List AV} {bd : AV → zaa → Lt → Prop} (m : List Bool) (t0 : AV) (he : (fun t0 H Kb => awp P M c (zbF m Kb Q) (fr t0) H) = bd) (Inv : Nat → AV → zaa → Prop) (n : Nat) (h0 : HSc H → Inv n t0 H) (round : Rd1 fr bd H Inv) : ALoop P c Q (fr t0) H := by
 subst he
 exact zlQ (M := M) m (fun n F H => ∃ t0, F = fr t0 ∧ Inv n t0 H) n (fun hs _ => ⟨t0, rfl, h0 hs⟩) (fun n F H' ⟨t0, hF, hI⟩ h1 h2 h3 => by subst hF; exact round n t0 H' hI h1 h2 h3 _ (fun _ _ h => h))
def Rd2 (fr : AV → AV → List AV) (bd : AV → AV → zaa → Lt → Prop) (H : zaa) (Inv : Nat → AV → AV → zaa → Prop) : Prop :=
 ∀ n t0 t1 H', Inv n t0 t1 H' → HSc H' → H.length ≤ H'.length → (fr t0 t1).all (AV.sc H'.length) = true → ∀ Kb : Lt, (∀ F'' H'', (∃ n', n' < n ∧ Back H.length (fun F2 H2 => ∃ t0 t1, F2 = fr t0 t1 ∧ Inv n' t0 t1 H2) F'' H'') → Kb F'' H'') → bd t0 t1 H' Kb
theorem lp2 {fr : AV → AV → List AV} {bd : AV → AV → zaa → Lt → Prop} (m : List Bool) (t0 t1 : AV) (he : (fun t0 t1 H Kb => awp P M c (zbF m Kb Q) (fr t0 t1) H) = bd) (Inv : Nat → AV → AV → zaa → Prop) (n : Nat) (h0 : HSc H → Inv n t0 t1 H) (round : Rd2 fr bd H Inv) : ALoop P c Q (fr t0 t1) H := by
 subst he
 exact zlQ (M := M) m (fun n F H => ∃ t0 t1, F = fr t0 t1 ∧ Inv n t0 t1 H) n (fun hs _ => ⟨t0, t1, rfl, h0 hs⟩) (fun n F H' ⟨t0, t1, hF, hI⟩ h1 h2 h3 => by subst hF; exact round n t0 t1 H' hI h1 h2 h3 _ (fun _ _ h => h))
def Rd3 (fr : AV → AV → AV → List AV) (bd : AV → AV → AV → zaa → Lt → Prop) (H : zaa) (Inv : Nat → AV → AV → AV → zaa → Prop) : Prop :=
 ∀ n t0 t1 t2 H', Inv n t0 t1 t2 H' → HSc H' → H.length ≤ H'.length → (fr t0 t1 t2).all (AV.sc H'.length) = true → ∀ Kb : Lt, (∀ F'' H'', (∃ n', n' < n ∧ Back H.length (fun F2 H2 => ∃ t0 t1 t2, F2 = fr t0 t1 t2 ∧ Inv n' t0 t1 t2 H2) F'' H'') → Kb F'' H'') → bd t0 t1 t2 H' Kb
theorem lp3 {fr : AV → AV → AV → List AV} {bd : AV → AV → AV → zaa → Lt → Prop} (m : List Bool) (t0 t1 t2 : AV) (he : (fun t0 t1 t2 H Kb => awp P M c (zbF m Kb Q) (fr t0 t1 t2) H) = bd) (Inv : Nat → AV → AV → AV → zaa → Prop) (n : Nat) (h0 : HSc H → Inv n t0 t1 t2 H) (round : Rd3 fr bd H Inv) : ALoop P c Q (fr t0 t1 t2) H := by
 subst he
 exact zlQ (M := M) m (fun n F H => ∃ t0 t1 t2, F = fr t0 t1 t2 ∧ Inv n t0 t1 t2 H) n (fun hs _ => ⟨t0, t1, t2, rfl, h0 hs⟩) (fun n F H' ⟨t0, t1, t2, hF, hI⟩ h1 h2 h3 => by subst hF; exact round n t0 t1 t2 H' hI h1 h2 h3 _ (fun _ _ h => h))
end Go.Abs
