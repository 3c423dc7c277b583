import Derived.Test.YtjkkonpjecoieaaGreatKV5
import Derived.Test.YtjkkonpjecoieaaGreatAbsQ1
import Derived.Lib.AppendStr
import Derived.Lib.UnsafeStr
import Derived.Sort.Grow
import Derived.Deep.Draws
import Derived.Test.YtjkkonpjecoieaaGreatKNum
import Derived.Test.YtjkkonpjecoieaaGreatProg
import Derived.KernelRfl
set_option linter.unusedSimpArgs false
set_option linter.unusedVariables false
namespace Go.Proofs.YtjkkonpjecoieaaGreat
open Go Go.Abs
set_option maxRecDepth 8000
theorem zsF (data : List Dat) (hk : zbp data) (v t : VT) (hv : v.nodes ≤ 5000) (ht : t.nodes ≤ 1000000) (H : zaa) (K : Kt) (hK : K (.bool (zbN data v t)) H) :
  ACalls tP zgD [.sl (data.map Dat.cs) .none, .agg v.cs, .agg t.cs] H K := by
 refine ACalls.out (zA5 fun hs => ?_)
 have hO : ∀ b J, zbN data v t = b → Out H.length K (.bool b) (H ++ J) := fun b J h => Out.bool rfl (Nat.le_refl _) hs (h ▸ hK)
 obtain ⟨x, y, z, hvx, hx, hy, hz⟩ := zaE v
 obtain ⟨x2, y2, z2, hvx2, hx2, hy2, hz2⟩ := zaE t
 have hkl := hk.1
 simp [zsE, hvx, hvx2, Nat.add_assoc]
 refine zuK data hk _ _ fun b hb => ?_
 have hbd : b = za4 data := by
  rw [Bool.eq_iff_iff, hb, zpD]
 subst hbd
 cases hd : za4 data with
 | false =>
  simp
  exact hO _ _ (by simp [zbN, zbf, hd])
 | true =>
  simp [Nat.add_assoc]
  rw [← hvx2]
  refine znR data (by omega) 0 t (by omega) _ _ ?_
  cases hf : zaH data 0 t with
  | false =>
   simp
   exact hO _ _ (by simp [zbN, zbf, hf])
  | true =>
   simp [Nat.add_assoc]
   rw [← hvx]
   refine zGv _ v (Nat.le_refl _) 5000 (by omega) (by omega) _ (H.length + 2) (by simp) _ ?_ (fun h => absurd (by omega) h)
   intro _
   simp [Nat.add_assoc]
   refine zGC ⟨hd, hk⟩ _ v (Nat.le_refl _) (by omega) t hf _ _ ?_
   exact hO _ _ (by simp [zbN, zbf, hd, hf])
end Go.Proofs.YtjkkonpjecoieaaGreat
namespace Go.Abs
open Go Go.RowKit Go.Lib
variable {P : Program} {B : Nat} {w : World}
end Go.Abs
namespace Go.Abs
open Go Go.RowKit Go.Lib
variable {P : Program} {B : Nat} {w : World} {G : Gh} {H : zaa}
theorem HRel.dead (h : HRel B w G H) {id e s n : Nat} (hH : H[id]? = some (.perm e s n)) : HRel B w G (H.set id .dead) := by
 refine ⟨by simp [h.len], ?_, h.dist, h.fresh, h.lt, h.base⟩
 intro i ab gi h1 h2
 by_cases hi : i = id
 ·subst hi
  rw [List.getElem?_set_self (List.getElem?_eq_some_iff.1 hH).1] at h1
  cases h1
  have hok := h.ok i _ _ hH h2
  cases gi with
  | blk b => exact hok.elim
  | gap => exact hok.elim
  | own v s' n' =>
   obtain ⟨rfl, rfl, ⟨xs, hl, ⟨rfl, _⟩ | ⟨g, cap, cur, rfl, k1, k2, k3, k4, k5, k6⟩⟩, hL⟩ := hok
   ·intro b hb
    cases hb
   ·intro b hb
    simp [Value.ownBlock] at hb
    subst hb
    exact ⟨cur, e, _, k2, by rw [hL g rfl, k5]; exact Nat.mul_le_mul_right _ k3⟩
 ·rw [List.getElem?_set_ne (fun h => hi h.symm)] at h1
  exact h.ok i ab gi h1 h2
theorem HRel.other (h : HRel B w G H) (o : Obj) : Ext B w G (w.alloc o) G ∧ HRel B (w.alloc o) G H := by
 have he := Ext.alloc h o G.L (fun _ _ => rfl) []
 simp only [List.append_nil] at he
 refine ⟨he, h.keep he rfl (fun id gi b h1 h2 => ⟨zcK (h.lt id gi b h1 h2), rfl⟩) (fun b hb => ?_)⟩
 rw [zca] at hb
 exact h.fresh b (by omega)
end Go.Abs
namespace Go.Abs
open Go Go.RowKit Go.Sort
variable {P : Program} {B : Nat} {w : World} {G : Gh} {H : zaa}
end Go.Abs
namespace Go.Abs
open Go Go.RowKit
variable {P : Program} {B : Nat} {w : World} {G : Gh} {H : zaa}
theorem HRel.newVec (h : HRel B w G H) (e size : Nat) : Ext B w G w ⟨G.L, G.μ ++ [.own (.slice none 0 0) size 0]⟩ ∧ HRel B w ⟨G.L, G.μ ++ [.own (.slice none 0 0) size 0]⟩ (H ++ [.vec e size 0 []]) := by
 obtain ⟨hE, hH⟩ := h.newOwn e size
 refine ⟨hE, by simpa using hH.len, fun id ab gi h1 h2 => ?_, hH.dist, hH.fresh, hH.lt, hH.base⟩
 by_cases hlt : id < H.length
 ·rw [List.getElem?_append_left hlt] at h1
  exact hH.ok id ab gi (by rw [List.getElem?_append_left hlt]; exact h1) h2
 ·have hlt2 := (List.getElem?_eq_some_iff.1 h2).1
  simp [h.len] at hlt2
  obtain rfl : id = H.length := by omega
  simp at h1
  have h2 : (G.μ ++ [GI.own (.slice none 0 0) size 0])[H.length]? = some gi := h2
  rw [← h.len] at h2
  simp at h2
  subst h1 h2
  exact ⟨rfl, rfl, ⟨[], World.ownsRow_nil w B e size, trivial⟩, fun b hb => by simp [Value.ownBlock] at hb⟩
theorem HRel.ovCell (h : HRel B w G H) {id j : Nat} {cs : List AV} (e size : Nat) (hid : H[id]? = some (.cells cs)) (hj : cs[j]? = some .snil) :
  ∃ G', Ext B w G w G' ∧ HRel B w G' (H.set id (.cells (cs.set j (.ov H.length 0))) ++ [.vec e size 0 []]) := by
 obtain ⟨hE, hH'⟩ := h.newVec e size
 refine ⟨_, hE, ?_⟩
 have hlt := (List.getElem?_eq_some_iff.1 hid).1
 have := hH'.reCell (id := id) (cs := cs) (cs' := cs.set j (.ov H.length 0)) (by rw [List.getElem?_append_left hlt]; exact hid) (fun vs hvs => by
  obtain ⟨v, h1, h2⟩ := All2.get hvs hj
  have h2 : v = .slice none 0 0 := h2
  subst h2
  have hset : vs = vs.set j (.slice none 0 0) := by
   apply List.ext_getElem?
   intro k
   by_cases hk : k = j
   ·subst hk; rw [List.getElem?_set_self (List.getElem?_eq_some_iff.1 h1).1]; exact h1
   ·rw [List.getElem?_set_ne (fun h => hk h.symm)]
  rw [hset]
  refine All2.set j hvs ?_
  refine ⟨⟨none, 0, rfl, fun h => absurd h (by omega)⟩, .slice none 0 0, size, 0, ?_, Nat.le_refl _, fun _ => rfl⟩
  rw [← h.len]
  simp)
 rwa [List.set_append_left _ _ hlt] at this
theorem ACalls.ovC {f : FuncId} {args : List AV} {K : AV → zaa → Prop} {id j : Nat} {cs : List AV} (e size : Nat) (hid : H[id]? = some (.cells cs)) (hj : cs[j]? = some .snil)
  (h : ACalls P f args (H.set id (.cells (cs.set j (.ov H.length 0))) ++ [.vec e size 0 []]) K) : ACalls P f args H K := by
 intro B w G vs hH hv
 obtain ⟨G', hE, hH'⟩ := hH.ovCell e size hid hj
 refine (h B w G' vs hH' (hv.mono fun _ _ => hE.trel)).mono fun e' w' hp => ?_
 obtain ⟨v, r, H', G'', h1, h2, h3⟩ := hp
 exact ⟨v, r, H', G'', h1, hE.trans h2, h3⟩
end Go.Abs
namespace Go.Proofs.YtjkkonpjecoieaaGreat
open Go Go.Abs
set_option maxRecDepth 8000
@[simp] theorem zvZ (k : AV → Prop) : zay [] k = k (.tup []) := by simp [zay]
theorem zy0 {n : Nat} {H2 J H' : zaa} {K : Kt} (he : H' = H2 ++ J) (hn : n ≤ H2.length) (hs : HSc H2) (h : K (.tup []) H2) : Out n K (.tup []) H' := by
 subst he
 exact ⟨.tup [], H2, J, rfl, hn, hs, .tup trivial, h⟩
def zbJ (rs : List (List Bool)) : List (List AV) := rs.map fun r => [.sl (r.map fun b => [.bool b]) .none]
def pw (H : zaa) (io iv : Nat) (l : List VT) : zaa := (H.set iv (.vec zbe 3 l.length (VT.css l).flatten)).set io (.cells [.ov iv l.length])
structure Pw (H : zaa) (io iv ir is : Nat) (rs : List (List Bool)) (l : List VT) : Prop where
 ne : io ≠ iv
 nr : ir ≠ io ∧ ir ≠ iv
 ns : is ≠ io ∧ is ≠ iv
 h1 : H[io]? = some (.cells [.ov iv l.length])
 h2 : H[iv]? = some (.vec zbe 3 l.length (VT.css l).flatten)
 h3 : ∃ tok, H[ir]? = some (.cells [.sl (zbJ rs) tok])
 h4 : H[is]? = some (.cells [.fn zcM [.ptr io 0, .ptr ir 0, .ptr is 0]])
section
variable {H J : zaa} {io iv ir is : Nat} {rs : List (List Bool)} {l l' : List VT}
@[simp] theorem zMO : (pw H io iv l).length = H.length := by simp [pw]
theorem zxQ (hne : io ≠ iv) : pw (pw H io iv l) io iv l' = pw H io iv l' := by
 unfold pw
 rw [List.set_comm _ _ hne, List.set_set, List.set_set]
theorem Pw.app (h : Pw H io iv ir is rs l) : Pw (H ++ J) io iv ir is rs l := by
 obtain ⟨tok, h3⟩ := h.h3
 exact ⟨h.ne, h.nr, h.ns, zbd h.h1, zbd h.h2, ⟨tok, zbd h3⟩, zbd h.h4⟩
theorem Pw.pw_app (h : Pw H io iv ir is rs l) : pw (H ++ J) io iv l' = pw H io iv l' ++ J := by
 unfold pw
 rw [List.set_append_left _ _ (zbH h.h2), List.set_append_left _ _ (by simpa using zbH h.h1)]
theorem Pw.next (h : Pw H io iv ir is rs l) : Pw (pw H io iv l') io iv ir is rs l' := by
 have l1 := zbH h.h1
 have l2 := zbH h.h2
 obtain ⟨tok, h3⟩ := h.h3
 refine ⟨h.ne, h.nr, h.ns, ?_, ?_, ⟨tok, ?_⟩, ?_⟩
 ·unfold pw; rw [List.getElem?_set_self (by simpa using l1)]
 ·unfold pw; rw [List.getElem?_set_ne h.ne, List.getElem?_set_self l2]
 ·unfold pw; rw [List.getElem?_set_ne (fun e => h.nr.1 e.symm), List.getElem?_set_ne (fun e => h.nr.2 e.symm)]; exact h3
 ·unfold pw; rw [List.getElem?_set_ne (fun e => h.ns.1 e.symm), List.getElem?_set_ne (fun e => h.ns.2 e.symm)]; exact h.h4
theorem Pw.hsc (h : Pw H io iv ir is rs l) (hs : HSc H) : HSc (pw H io iv l') := by
 have l1 := zbH h.h1
 have l2 := zbH h.h2
 refine HSc.set (HSc.set hs ?_) ?_
 ·simp only [AB.sc, List.all_eq_true]
  intro x hx
  obtain ⟨c, hc, hx⟩ := List.mem_flatten.1 hx
  rw [VT.css_map] at hc
  obtain ⟨v, _, rfl⟩ := List.mem_map.1 hc
  have := VT.cs_scA v H.length
  rw [List.all_eq_true] at this
  exact this x hx
 ·simp [AB.sc, AV.scA, AV.scB]
  try omega
end
theorem zpy (l : List VT) (v : VT) : VT.css (l ++ [v]) = VT.css l ++ [v.cs] := by rw [VT.css_map, VT.css_map, List.map_append]; rfl
theorem zkl (l : List VT) : (VT.css l).flatten.length = l.length * 3 := by
 rw [VT.css_map]
 induction l with
 | nil => rfl
 | cons v l ih =>
  simp only [List.map_cons, List.flatten_cons, List.length_append, ih, List.length_cons]
  obtain ⟨a, b, c⟩ := v
  simp [VT.cs]; omega
theorem zy2 (l : List VT) (v : VT) (a b c : AV) : ((VT.css l).flatten ++ [a, b, c]).take (l.length * 3) ++ v.cs ++ ((VT.css l).flatten ++ [a, b, c]).drop (l.length * 3 + 3) = (VT.css (l ++ [v])).flatten := by
 have h := zkl l
 rw [← h, List.take_left, List.drop_eq_nil_of_le (by simp), List.append_nil, zpy, List.flatten_append]
 simp
theorem zqN {rs : List (List Bool)} {ks : List VT} {bs : List Bool} {i : Nat} (h : i < ks.length) (h' : i < bs.length) : zbl rs (ks.drop i) (bs.drop i) = (if bs[i] = true then za2 rs ks[i] else []) ++ zbl rs (ks.drop (i + 1)) (bs.drop (i + 1)) := by
 rw [List.drop_eq_getElem_cons h, List.drop_eq_getElem_cons h', zbl]
theorem zky {data : List Dat} {v t : VT} (h : zbN data v t = true) : za4 data = true ∧ zaH data 0 t = true ∧ zat data v t = true := by
 simp only [zbN, zbf, Bool.and_eq_true] at h
 exact ⟨h.1.1, h.1.2, h.2⟩
theorem zqI : ∀ {a b c d : List AV}, zaz a = some c → zaz b = some d → zaz (a ++ b) = some (c ++ d)
 | [], b, c, d, h, h' => by simp [zaz] at h; subst h; simpa using h'
 | x :: a, b, c, d, h, h' => by
  simp only [zaz] at h
  split at h
  ·rename_i p q hp hq
   cases h
   simp only [List.cons_append, zaz]
   rw [hp, zqI hq h']
  ·cases h
theorem zxO (v : VT) : zaz v.cs = some v.cs := by
 obtain ⟨k, n, ks⟩ := v
 simp [VT.cs, zaz, AV.pd]
theorem zqK : ∀ l : List VT, zaz (VT.css l).flatten = some (VT.css l).flatten
 | [] => by simp [VT.css, zaz]
 | v :: l => by
  simp only [VT.css, List.flatten_cons]
  exact zqI (zxO v) (zqK l)
end Go.Proofs.YtjkkonpjecoieaaGreat
namespace Go.Proofs.YtjkkonpjecoieaaGreat
open Go Go.Abs
set_option maxRecDepth 100000
def zEi (_ : Nat) : List Bool := []
noncomputable def zEj : Code := Tryz.f3.body.getD .skip
def zq1 (t0 t1 t2 t3 : AV) (H : zaa) (K : Kt) : Prop :=
 zap t1 H fun t5 H =>
 zap t2 H fun t6 H =>
 zad true 3 t5 H fun t14 =>
 zad true 3 t6 H fun t15 =>
 ACalls tP zlp [t0, t14, t15] H fun t16 H =>
 aUn .not t16 fun t17 =>
 zag t17
 (K (.bool true) H)
 (zad true 3 t5 H fun t20 =>
 zad true 3 t6 H fun t21 =>
 ACalls tP zlr [t0, t20, t21, t3] H fun t23 H =>
 zax t23 0 fun t24 =>
 zax t23 1 fun t25 =>
 zad true 3 t5 H fun t28 =>
 zad true 3 t6 H fun t29 =>
 ACalls tP zlt [t0, t28, t29, t3] H fun t31 H =>
 zax t31 0 fun t32 =>
 zax t31 1 fun t33 =>
 zac .eql false t24 t32 fun t36 =>
 zab t36 true H (fun K' => K' t25 H) fun t38 H =>
 zab t36 true H (fun K' => K' t33 H) fun t39 H =>
 zab t36 true H (fun K' => zac .eql false t38 t39 (K' · H)) fun t40 H =>
 zai t36 t40 (.bool false) fun t41 =>
 zab t41 true H (fun K' => ACalls tP zlw [] H K') fun t43 H =>
 zai t41 t43 (.bool false) fun t44 =>
 K t44 H)
theorem zEk {t0 t1 t2 t3 : AV} {H : zaa} {K : Kt} (h : HSc H → zq1 t0 t1 t2 t3 H K) : ACalls tP zkJ [t0, t1, t2, t3] H K :=
 zam (M := zEi) Tryz.func3 (c := zEj) (by kernel_rfl) (fun hs => Eq.mpr (by kernel_rfl) (h hs))
def zHo (_ : Nat) : List Bool := []
noncomputable def zHp : Code := Tryz.f7.body.getD .skip
def zq5 (t0 t1 t2 : AV) (H : zaa) (K : Kt) : Prop :=
 zap t1 H fun t4 H =>
 zap t2 H fun t5 H =>
 ACalls tP zli [t0] H fun t8 H =>
 zab t8 true H (fun K' => zad true 3 t4 H (K' · H)) fun t10 H =>
 zab t8 true H (fun K' => ACalls tP zlj [t10] H K') fun t11 H =>
 zai t8 t11 (.bool false) fun t12 =>
 zab t12 true H (fun K' => zad true 3 t5 H (K' · H)) fun t14 H =>
 zab t12 true H (fun K' => ACalls tP zkL [t14] H K') fun t15 H =>
 zai t12 t15 (.bool false) fun t16 =>
 zab t16 true H (fun K' => zad true 3 t5 H (K' · H)) fun t18 H =>
 zab t16 true H (fun K' => ACalls tP zgz [t18] H K') fun t19 H =>
 zab t16 true H (fun K' => zac .leq false t19 (.int .i64 120) (K' · H)) fun t20 H =>
 zai t16 t20 (.bool false) fun t21 =>
 K t21 H
theorem zHq {t0 t1 t2 : AV} {H : zaa} {K : Kt} (h : HSc H → zq5 t0 t1 t2 H K) : ACalls tP zlp [t0, t1, t2] H K :=
 zam (M := zHo) Tryz.func7 (c := zHp) (by kernel_rfl) (fun hs => Eq.mpr (by kernel_rfl) (h hs))
def zjv : Nat → List Bool
 | 10 => rl false [3,1,8,1,36,3,11]
 | _ => []
noncomputable def zoe : Code := Tryz.f8.body.getD .skip
noncomputable def zHJ : List ResultVar := Tryz.f8.results.toList
def zjw (t3 t12 t49 t50 t51 : AV) : List AV := ux 3 (t3 :: ux 8 (t12 :: ux 36 (t49 :: t50 :: t51 :: ux 11 [])))
def zHH : List Bool := zjv 10
noncomputable def zHF : Code := zar [1, 1, 1, 1, 1, 0, 1, 0, 0] zoe
def zHE (K : Kt) : AExit → List AV → zaa → Prop := zas tP zjv [1, 1, 1, 1, 1, 0, 1, 0] zoe (zaw tP zHJ K)
def zu6 (t3 t12 t49 t50 t51 : AV) (H : zaa) (K : Kt) : Prop := ALoop tP zHF (zHE K) (zjw t3 t12 t49 t50 t51) H
def zu5 (t3 t12 t49 t50 t51 : AV) (H : zaa) (K : Kt) (Kb10 : Lt) : Prop :=
 zac .add false t51 (.int .i64 1) fun t61 =>
 Kb10 (zjw t3 t12 t49 t50 t61) H
def zjx (t3 t12 t49 t50 t51 : AV) (H : zaa) (K : Kt) (Kb10 : Lt) : Prop :=
 zu5 t3 t12 t49 t50 t51 H K Kb10
def zod (t3 t12 t49 t50 t51 : AV) (H : zaa) (K : Kt) (Kb10 : Lt) : Prop :=
 zac .lss false t51 t50 fun t52 =>
 zag t52
 (zaj 3 t49 t51 fun t53 =>
 zad true 3 t53 H fun t54 =>
 zau [(.int .i64 0), (.int .i64 0), .snil] H fun t14 H =>
 zak 3 t14 t54 H fun H =>
 zaf 1 t14 fun t55 =>
 zad false 1 t55 H fun t56 =>
 zac .eql false t56 t3 fun t58 =>
 zag t58
 (zac .add false t12 (.int .i64 1) fun t60 =>
 zjx t3 t60 t49 t50 t51 H K Kb10)
 (zjx t3 t12 t49 t50 t51 H K Kb10))
 (zay [t12, (.int .i64 0)] (K · H))
def zq6 (t0 t1 t2 t3 : AV) (H : zaa) (K : Kt) : Prop :=
 zap t1 H fun t5 H =>
 zap t2 H fun t6 H =>
 zad true 3 t5 H fun t17 =>
 ACalls tP zgS [t0, t17] H fun t18 H =>
 zax t18 0 fun t19 =>
 zax t18 1 fun t20 =>
 zau [(.int .i64 0), .snil] H fun t10 H =>
 zak 2 t10 t19 H fun H =>
 aUn .not t20 fun t22 =>
 zag t22
 (zay [(.int .i64 0), (.int .i64 1)] (K · H))
 (zaf 0 t5 fun t23 =>
 zad false 1 t23 H fun t24 =>
 zac .neq false t24 (.int .i64 5) fun t25 =>
 zab t25 false H (fun K' => K' t3 H) fun t27 H =>
 zab t25 false H (fun K' => zac .lss false t27 (.int .i64 0) (K' · H)) fun t28 H =>
 zai t25 (.bool true) t28 fun t29 =>
 zab t29 false H (fun K' => K' t3 H) fun t31 H =>
 zab t29 false H (fun K' => K' t0 H) fun t32 H =>
 zab t29 false H (fun K' => zaf 1 t5 (K' · H)) fun t33 H =>
 zab t29 false H (fun K' => zad false 1 t33 H (K' · H)) fun t34 H =>
 zab t29 false H (fun K' => zaj 3 t32 t34 (K' · H)) fun t35 H =>
 zab t29 false H (fun K' => zaf 2 t35 (K' · H)) fun t36 H =>
 zab t29 false H (fun K' => zad false 1 t36 H (K' · H)) fun t37 H =>
 zab t29 false H (fun K' => zah 1 t37 (K' · H)) fun t38 H =>
 zab t29 false H (fun K' => zac .geq false t31 t38 (K' · H)) fun t39 H =>
 zai t29 (.bool true) t39 fun t40 =>
 zag t40
 (zay [(.int .i64 0), (.int .i64 1)] (K · H))
 (zad true 3 t6 H fun t42 =>
 zad true 3 t5 H fun t43 =>
 ACalls tP zgT [t0, t42, t43] H fun t44 H =>
 aUn .not t44 fun t45 =>
 zag t45
 (zay [(.int .i64 0), (.int .i64 11)] (K · H))
 (zad true 3 t5 H fun t47 =>
 zad true 3 t6 H fun t48 =>
 ACalls tP zlk [t0, t47, t48] H fun t49 H =>
 zah 1 t49 fun t50 =>
 zu6 t3 (.int .i64 0) t49 t50 (.int .i64 0) H K)))
theorem zHG {t3 t12 t49 t50 t51 : AV} {H : zaa} {K : Kt} (Inv : Nat → AV → AV → zaa → Prop) (n : Nat) (h0 : HSc H → Inv n t12 t51 H)
  (round : Rd2 (fun t12 => fun t51 => zjw t3 t12 t49 t50 t51) (fun t12 => fun t51 => fun H Kb10 => zod t3 t12 t49 t50 t51 H K Kb10) H Inv) : zu6 t3 t12 t49 t50 t51 H K :=
 lp2 (M := zjv) zHH t12 t51 (by kernel_rfl) Inv n h0 round
theorem zHI {t0 t1 t2 t3 : AV} {H : zaa} {K : Kt} (h : HSc H → zq6 t0 t1 t2 t3 H K) : ACalls tP zlr [t0, t1, t2, t3] H K :=
 zam (M := zjv) Tryz.func8 (c := zoe) (by kernel_rfl) (fun hs => Eq.mpr (by kernel_rfl) (h hs))
def zjK : Nat → List Bool
 | 7 => rl false [3,1,6,1,34,3,11]
 | _ => []
noncomputable def zox : Code := Tryz.f9.body.getD .skip
noncomputable def zIJ : List ResultVar := Tryz.f9.results.toList
def zjL (t3 t10 t45 t46 t47 : AV) : List AV := ux 3 (t3 :: ux 6 (t10 :: ux 34 (t45 :: t46 :: t47 :: ux 11 [])))
def zIH : List Bool := zjK 7
noncomputable def zIF : Code := zar [1, 1, 1, 1, 0, 1, 0, 0] zox
def zIE (K : Kt) : AExit → List AV → zaa → Prop := zas tP zjK [1, 1, 1, 1, 0, 1, 0] zox (zaw tP zIJ K)
def zvr (t3 t10 t45 t46 t47 : AV) (H : zaa) (K : Kt) : Prop := ALoop tP zIF (zIE K) (zjL t3 t10 t45 t46 t47) H
def zvq (t3 t10 t45 t46 t47 : AV) (H : zaa) (K : Kt) (Kb7 : Lt) : Prop :=
 zac .add false t47 (.int .i64 1) fun t57 =>
 Kb7 (zjL t3 t10 t45 t46 t57) H
def zjM (t3 t10 t45 t46 t47 : AV) (H : zaa) (K : Kt) (Kb7 : Lt) : Prop :=
 zvq t3 t10 t45 t46 t47 H K Kb7
def zow (t3 t10 t45 t46 t47 : AV) (H : zaa) (K : Kt) (Kb7 : Lt) : Prop :=
 zac .lss false t47 t46 fun t48 =>
 zag t48
 (zaj 3 t45 t47 fun t49 =>
 zad true 3 t49 H fun t50 =>
 zau [(.int .i64 0), (.int .i64 0), .snil] H fun t12 H =>
 zak 3 t12 t50 H fun H =>
 zaf 1 t12 fun t51 =>
 zad false 1 t51 H fun t52 =>
 zac .eql false t52 t3 fun t54 =>
 zag t54
 (zac .add false t10 (.int .i64 1) fun t56 =>
 zjM t3 t56 t45 t46 t47 H K Kb7)
 (zjM t3 t10 t45 t46 t47 H K Kb7))
 (zay [t10, (.int .i64 0)] (K · H))
def zq7 (t0 t1 t2 t3 : AV) (H : zaa) (K : Kt) : Prop :=
 zap t1 H fun t5 H =>
 zap t2 H fun t6 H =>
 zad true 3 t5 H fun t14 =>
 ACalls tP zll [t0, t14] H fun t15 H =>
 aUn .not t15 fun t16 =>
 zab t16 false H (fun K' => zaf 0 t5 (K' · H)) fun t18 H =>
 zab t16 false H (fun K' => zad false 1 t18 H (K' · H)) fun t19 H =>
 zab t16 false H (fun K' => zac .neq false t19 (.int .i64 5) (K' · H)) fun t20 H =>
 zai t16 (.bool true) t20 fun t21 =>
 zab t21 false H (fun K' => K' t3 H) fun t23 H =>
 zab t21 false H (fun K' => zac .lss false t23 (.int .i64 0) (K' · H)) fun t24 H =>
 zai t21 (.bool true) t24 fun t25 =>
 zab t25 false H (fun K' => K' t3 H) fun t27 H =>
 zab t25 false H (fun K' => K' t0 H) fun t28 H =>
 zab t25 false H (fun K' => zaf 1 t5 (K' · H)) fun t29 H =>
 zab t25 false H (fun K' => zad false 1 t29 H (K' · H)) fun t30 H =>
 zab t25 false H (fun K' => zaj 3 t28 t30 (K' · H)) fun t31 H =>
 zab t25 false H (fun K' => zaf 2 t31 (K' · H)) fun t32 H =>
 zab t25 false H (fun K' => zad false 1 t32 H (K' · H)) fun t33 H =>
 zab t25 false H (fun K' => zah 1 t33 (K' · H)) fun t34 H =>
 zab t25 false H (fun K' => zac .geq false t27 t34 (K' · H)) fun t35 H =>
 zai t25 (.bool true) t35 fun t36 =>
 zag t36
 (zay [(.int .i64 0), (.int .i64 1)] (K · H))
 (zad true 3 t6 H fun t38 =>
 zad true 3 t5 H fun t39 =>
 ACalls tP zgD [t0, t38, t39] H fun t40 H =>
 aUn .not t40 fun t41 =>
 zag t41
 (zay [(.int .i64 0), (.int .i64 11)] (K · H))
 (zad true 3 t6 H fun t43 =>
 zad true 3 t5 H fun t44 =>
 ACalls tP zlm [t0, t43, t44] H fun t45 H =>
 zah 1 t45 fun t46 =>
 zvr t3 (.int .i64 0) t45 t46 (.int .i64 0) H K))
theorem zIG {t3 t10 t45 t46 t47 : AV} {H : zaa} {K : Kt} (Inv : Nat → AV → AV → zaa → Prop) (n : Nat) (h0 : HSc H → Inv n t10 t47 H)
  (round : Rd2 (fun t10 => fun t47 => zjL t3 t10 t45 t46 t47) (fun t10 => fun t47 => fun H Kb7 => zow t3 t10 t45 t46 t47 H K Kb7) H Inv) : zvr t3 t10 t45 t46 t47 H K :=
 lp2 (M := zjK) zIH t10 t47 (by kernel_rfl) Inv n h0 round
theorem zII {t0 t1 t2 t3 : AV} {H : zaa} {K : Kt} (h : HSc H → zq7 t0 t1 t2 t3 H K) : ACalls tP zlt [t0, t1, t2, t3] H K :=
 zam (M := zjK) Tryz.func9 (c := zox) (by kernel_rfl) (fun hs => Eq.mpr (by kernel_rfl) (h hs))
def zJE (_ : Nat) : List Bool := []
noncomputable def zJF : Code := Tryz.f10.body.getD .skip
def zq8 (H : zaa) (K : Kt) : Prop :=
 zav [(.int .i64 0), (.int .i64 0), .snil] [(0, 1), (1, 1), (2, 1)] [(0, (.int .i64 1))] fun t5 =>
 zaB 3 [(.int .i64 0), (.int .i64 0), .snil] 1 [(0, t5)] fun t6 =>
 zav [(.int .i64 0), (.int .i64 0), .snil] [(0, 1), (1, 1), (2, 1)] [(0, (.int .i64 7)), (2, t6)] fun t7 =>
 zau [(.int .i64 0), (.int .i64 0), .snil] H fun t1 H =>
 zak 3 t1 t7 H fun H =>
 zav [(.int .i64 0), (.int .i64 0), .snil] [(0, 1), (1, 1), (2, 1)] [(0, (.int .i64 3)), (1, (.int .i64 1))] fun t8 =>
 zau [(.int .i64 0), (.int .i64 0), .snil] H fun t2 H =>
 zak 3 t2 t8 H fun H =>
 zad true 3 t1 H fun t10 =>
 zav [(.int .i64 0), .snil] [(0, 1), (1, 1)] [(0, (.int .i64 2))] fun t11 =>
 zad true 3 t2 H fun t12 =>
 zad true 3 t2 H fun t13 =>
 zad true 3 t2 H fun t14 =>
 zaB 3 [(.int .i64 0), (.int .i64 0), .snil] 3 [(0, t12), (1, t13), (2, t14)] fun t15 =>
 zav [(.int .i64 0), (.int .i64 0), .snil] [(0, 1), (1, 1), (2, 1)] [(0, (.int .i64 6)), (2, t15)] fun t16 =>
 ACalls tP zln [.snil, t10, t11, t16] H fun t17 H =>
 zax t17 0 fun t18 =>
 zax t17 1 fun t19 =>
 zau [(.bool false), .snil, .snil] H fun t3 H =>
 zak 3 t3 t18 H fun H =>
 zae H (fun K' => K' t19 H) fun t20 =>
 zae H (fun K' => zac .eql false t20 (.int .i64 0) (K' · H)) fun t21 =>
 zae H (fun K' => K' t21 H) fun t22 =>
 zab t22 true H (fun K' => zae H (fun K'' => zan true 3 t3 H (K'' · H)) (K' · H)) fun t23 H =>
 zab t22 true H (fun K' => za6 H (fun H K'' => ACalls tP zk6 [(.int .i64 3)] H K'') (K' · H)) fun t24 H =>
 zab t22 true H (fun K' => za6 H (fun H K'' => ACalls tP zld [t23, t24] H K'') (K' · H)) fun t25 H =>
 zae H (fun K' => zai t22 t25 (.bool false) (K' · H)) fun t26 =>
 zae H (fun K' => K' t26 H) fun t0 =>
 K t0 H
theorem zJG {H : zaa} {K : Kt} (h : HSc H → zq8 H K) : ACalls tP zlw [] H K :=
 zam (M := zJE) Tryz.func10 (c := zJF) (by kernel_rfl) (fun hs => Eq.mpr (by kernel_rfl) (h hs))
def zi0 : Nat → List Bool
 | 3 => rl false [0,1,3,2,1,1,9,2,16]
 | _ => []
noncomputable def znH : Code := Tryz.f33.body.getD .skip
noncomputable def zFU : List ResultVar := Tryz.f33.results.toList
def zi1 (t0 t4 t5 t7 t17 t18 : AV) : List AV := t0 :: ux 3 (t4 :: t5 :: ux 1 (t7 :: ux 9 (t17 :: t18 :: ux 16 [])))
def zFS : List Bool := zi0 3
noncomputable def zFQ : Code := zar [1, 1, 0, 1, 0, 0] znH
def zFP (K : Kt) : AExit → List AV → zaa → Prop := zas tP zi0 [1, 1, 0, 1, 0] znH (zaw tP zFU K)
def zi2 (t0 t4 t5 t7 t17 t18 : AV) (H : zaa) (K : Kt) : Prop := ALoop tP zFQ (zFP K) (zi1 t0 t4 t5 t7 t17 t18) H
def znG (t0 t4 t5 t7 t17 t18 : AV) (H : zaa) (K : Kt) (Kb3 : Lt) : Prop :=
 zac .lss false t18 t17 fun t19 =>
 zag t19
 (zae H (fun K' => zan false 1 t7 H (K' · H)) fun t21 =>
 zae H (fun K' => K' t0 H) fun t22 =>
 zae H (fun K' => zaf 1 t4 (K' · H)) fun t23 =>
 zae H (fun K' => zan false 1 t23 H (K' · H)) fun t24 =>
 zae H (fun K' => K' t18 H) fun t25 =>
 za6 H (fun H K' => ACalls tP zeC [t22, t24, t25] H K') fun t26 =>
 zae H (fun K' => zaB 1 [.snil] 1 [(0, t26)] (K' · H)) fun t27 =>
 zaA zcE 1 24 t21 t27 H fun t28 H =>
 zak 1 t7 t28 H fun H =>
 zac .add false t18 (.int .i64 1) fun t29 =>
 Kb3 (zi1 t0 t4 t5 t7 t17 t29) H)
 (zau [.snil] H fun t9 H =>
 zau [.nilfn] H fun t10 H =>
 zbM zcM [t9, t7, t10] fun t30 =>
 zak 1 t10 t30 H fun H =>
 zad false 1 t10 H fun t31 =>
 zad true 3 t5 H fun t32 =>
 aCallV tP t31 [t32] H fun t33 H =>
 zad false 1 t9 H fun t34 =>
 K t34 H)
def zux (t0 t1 t2 : AV) (H : zaa) (K : Kt) : Prop :=
 zap t1 H fun t4 H =>
 zap t2 H fun t5 H =>
 zau [.snil] H fun t7 H =>
 zaf 1 t4 fun t12 =>
 zad false 1 t12 H fun t13 =>
 zaj 3 t0 t13 fun t14 =>
 zaf 2 t14 fun t15 =>
 zad false 1 t15 H fun t16 =>
 zah 1 t16 fun t17 =>
 zi2 t0 t4 t5 t7 t17 (.int .i64 0) H K
theorem zFR {t0 t4 t5 t7 t17 t18 : AV} {H : zaa} {K : Kt} (Inv : Nat → AV → zaa → Prop) (n : Nat) (h0 : HSc H → Inv n t18 H)
  (round : Rd1 (fun t18 => zi1 t0 t4 t5 t7 t17 t18) (fun t18 => fun H Kb3 => znG t0 t4 t5 t7 t17 t18 H K Kb3) H Inv) : zi2 t0 t4 t5 t7 t17 t18 H K :=
 lp1 (M := zi0) zFS t18 (by kernel_rfl) Inv n h0 round
theorem zFT {t0 t1 t2 : AV} {H : zaa} {K : Kt} (h : HSc H → zux t0 t1 t2 H K) : ACalls tP zlk [t0, t1, t2] H K :=
 zam (M := zi0) Tryz.func33 (c := znH) (by kernel_rfl) (fun hs => Eq.mpr (by kernel_rfl) (h hs))
def zF4 (_ : Nat) : List Bool := []
noncomputable def zF5 : Code := Tryz.f36.body.getD .skip
def zuA (t0 t1 t2 t3 : AV) (H : zaa) (K : Kt) : Prop :=
 zap t1 H fun t5 H =>
 zap t2 H fun t6 H =>
 zap t3 H fun t7 H =>
 zau [(.bool false), .snil, .snil] H fun t8 H =>
 zad true 3 t5 H fun t11 =>
 zad true 2 t6 H fun t12 =>
 ACalls tP zlo [t0, t11, t12] H fun t13 H =>
 aUn .not t13 fun t14 =>
 zag t14
 (zav [(.bool false), .snil, .snil] [(0, 1), (1, 1), (2, 1)] [] fun t15 =>
 zak 3 t8 t15 H fun H =>
 zad true 3 t8 H fun r0 =>
 zay [r0, (.int .i64 1)] (K · H))
 (zad true 3 t7 H fun t17 =>
 zad true 3 t5 H fun t18 =>
 ACalls tP zgT [t0, t17, t18] H fun t19 H =>
 aUn .not t19 fun t20 =>
 zag t20
 (zav [(.bool false), .snil, .snil] [(0, 1), (1, 1), (2, 1)] [] fun t21 =>
 zak 3 t8 t21 H fun H =>
 zad true 3 t8 H fun r0 =>
 zay [r0, (.int .i64 11)] (K · H))
 (zad true 3 t5 H fun t23 =>
 zad true 2 t6 H fun t24 =>
 zad true 3 t7 H fun t25 =>
 ACalls tP zlv [t0, t23, t24, t25] H fun t26 H =>
 zak 3 t8 t26 H fun H =>
 zad true 3 t8 H fun r0 =>
 zay [r0, (.int .i64 0)] (K · H)))
theorem zF6 {t0 t1 t2 t3 : AV} {H : zaa} {K : Kt} (h : HSc H → zuA t0 t1 t2 t3 H K) : ACalls tP zln [t0, t1, t2, t3] H K :=
 zam (M := zF4) Tryz.func36 (c := zF5) (by kernel_rfl) (fun hs => Eq.mpr (by kernel_rfl) (h hs))
def zjG : Nat → List Bool
 | 200001 => rl false [0,7]
 | 3 => rl false [3,2,12,3,13]
 | 200006 => rl false [0,11]
 | _ => []
noncomputable def zoq : Code := Tryz.f79.body.getD .skip
noncomputable def zIp : List ResultVar := Tryz.f79.results.toList
def zjH (t3 t4 t17 t18 t19 : AV) : List AV := ux 3 (t3 :: t4 :: ux 12 (t17 :: t18 :: t19 :: ux 13 []))
def zIn : List Bool := zjG 3
noncomputable def zIl : Code := zar [1, 1, 1, 0, 0] zoq
def zIk (K : Kt) : AExit → List AV → zaa → Prop := zas tP zjG [1, 1, 1, 0] zoq (zaw tP zIp K)
def zvk (t3 t4 t17 t18 t19 : AV) (H : zaa) (K : Kt) : Prop := ALoop tP zIl (zIk K) (zjH t3 t4 t17 t18 t19) H
def zvj (t3 t4 t17 t18 t19 : AV) (H : zaa) (K : Kt) (Kb3 : Lt) : Prop :=
 zac .add false t19 (.int .i64 1) fun t32 =>
 Kb3 (zjH t3 t4 t17 t18 t32) H
def zbG (t3 t4 t17 t18 t19 : AV) (H : zaa) (K : Kt) (Kb3 : Lt) : Prop :=
 zvj t3 t4 t17 t18 t19 H K Kb3
def zop (t3 t4 t17 t18 t19 : AV) (H : zaa) (K : Kt) (Kb3 : Lt) : Prop :=
 zac .lss false t19 t18 fun t20 =>
 zag t20
 (zaj 1 t17 t19 fun t22 =>
 zad false 1 t22 H fun t23 =>
 zag t23
 ((zad false 1 t3 H fun t25 =>
 (zaf 2 t4 fun t26 =>
 (zad false 1 t26 H fun t27 =>
 zaj 3 t27 t19 fun t29 =>
 zad true 3 t29 H fun t30 =>
 aCallV tP t25 [t30] H fun t31 H =>
 zbG t3 t4 t17 t18 t19 H K Kb3) ∧ (zad false 1 t26 H fun t27 =>
 zaj 3 t27 t19 fun t29 =>
 zad true 3 t29 H fun t30 =>
 aCallV tP t25 [t30] H fun t31 H =>
 zbG t3 t4 t17 t18 t19 H K Kb3)) ∧ (zaf 2 t4 fun t26 =>
 zad false 1 t26 H fun t27 =>
 zaj 3 t27 t19 fun t29 =>
 zad true 3 t29 H fun t30 =>
 aCallV tP t25 [t30] H fun t31 H =>
 zbG t3 t4 t17 t18 t19 H K Kb3)) ∧ (zaf 2 t4 fun t26 =>
 (zad false 1 t3 H fun t25 =>
 (zad false 1 t26 H fun t27 =>
 zaj 3 t27 t19 fun t29 =>
 zad true 3 t29 H fun t30 =>
 aCallV tP t25 [t30] H fun t31 H =>
 zbG t3 t4 t17 t18 t19 H K Kb3) ∧ (zad false 1 t26 H fun t27 =>
 zaj 3 t27 t19 fun t29 =>
 zad true 3 t29 H fun t30 =>
 aCallV tP t25 [t30] H fun t31 H =>
 zbG t3 t4 t17 t18 t19 H K Kb3)) ∧ (zad false 1 t26 H fun t27 =>
 (zad false 1 t3 H fun t25 =>
 zaj 3 t27 t19 fun t29 =>
 zad true 3 t29 H fun t30 =>
 aCallV tP t25 [t30] H fun t31 H =>
 zbG t3 t4 t17 t18 t19 H K Kb3) ∧ ((zad false 1 t3 H fun t25 =>
 zaj 3 t27 t19 fun t29 =>
 zad true 3 t29 H fun t30 =>
 aCallV tP t25 [t30] H fun t31 H =>
 zbG t3 t4 t17 t18 t19 H K Kb3) ∧ (zaj 3 t27 t19 fun t29 =>
 (zad false 1 t3 H fun t25 =>
 zad true 3 t29 H fun t30 =>
 aCallV tP t25 [t30] H fun t31 H =>
 zbG t3 t4 t17 t18 t19 H K Kb3) ∧ (zad true 3 t29 H fun t30 =>
 zad false 1 t3 H fun t25 =>
 aCallV tP t25 [t30] H fun t31 H =>
 zbG t3 t4 t17 t18 t19 H K Kb3)))) ∧ ((zad false 1 t3 H fun t25 =>
 zad false 1 t26 H fun t27 =>
 zaj 3 t27 t19 fun t29 =>
 zad true 3 t29 H fun t30 =>
 aCallV tP t25 [t30] H fun t31 H =>
 zbG t3 t4 t17 t18 t19 H K Kb3) ∧ (zad false 1 t26 H fun t27 =>
 (zad false 1 t3 H fun t25 =>
 zaj 3 t27 t19 fun t29 =>
 zad true 3 t29 H fun t30 =>
 aCallV tP t25 [t30] H fun t31 H =>
 zbG t3 t4 t17 t18 t19 H K Kb3) ∧ (zaj 3 t27 t19 fun t29 =>
 (zad false 1 t3 H fun t25 =>
 zad true 3 t29 H fun t30 =>
 aCallV tP t25 [t30] H fun t31 H =>
 zbG t3 t4 t17 t18 t19 H K Kb3) ∧ (zad true 3 t29 H fun t30 =>
 zad false 1 t3 H fun t25 =>
 aCallV tP t25 [t30] H fun t31 H =>
 zbG t3 t4 t17 t18 t19 H K Kb3))))) ∧ ((zad false 1 t3 H fun t25 =>
 zaf 2 t4 fun t26 =>
 zad false 1 t26 H fun t27 =>
 zaj 3 t27 t19 fun t29 =>
 zad true 3 t29 H fun t30 =>
 aCallV tP t25 [t30] H fun t31 H =>
 zbG t3 t4 t17 t18 t19 H K Kb3) ∧ (zaf 2 t4 fun t26 =>
 (zad false 1 t3 H fun t25 =>
 zad false 1 t26 H fun t27 =>
 zaj 3 t27 t19 fun t29 =>
 zad true 3 t29 H fun t30 =>
 aCallV tP t25 [t30] H fun t31 H =>
 zbG t3 t4 t17 t18 t19 H K Kb3) ∧ (zad false 1 t26 H fun t27 =>
 (zad false 1 t3 H fun t25 =>
 zaj 3 t27 t19 fun t29 =>
 zad true 3 t29 H fun t30 =>
 aCallV tP t25 [t30] H fun t31 H =>
 zbG t3 t4 t17 t18 t19 H K Kb3) ∧ (zaj 3 t27 t19 fun t29 =>
 (zad false 1 t3 H fun t25 =>
 zad true 3 t29 H fun t30 =>
 aCallV tP t25 [t30] H fun t31 H =>
 zbG t3 t4 t17 t18 t19 H K Kb3) ∧ (zad true 3 t29 H fun t30 =>
 zad false 1 t3 H fun t25 =>
 aCallV tP t25 [t30] H fun t31 H =>
 zbG t3 t4 t17 t18 t19 H K Kb3))))))
 (zbG t3 t4 t17 t18 t19 H K Kb3))
 (zay [] (K · H))
def ze0 (t2 t3 t4 : AV) (H : zaa) (K : Kt) : Prop :=
 zad false 1 t2 H fun t13 =>
 zaf 1 t4 fun t14 =>
 zad false 1 t14 H fun t15 =>
 zaj 1 t13 t15 fun t16 =>
 zad false 1 t16 H fun t17 =>
 zah 1 t17 fun t18 =>
 zvk t3 t4 t17 t18 (.int .i64 0) H K
def zvi (t0 t1 t2 t3 : AV) (H : zaa) (K : Kt) : Prop :=
 zap t0 H fun t4 H =>
 zae H (fun K' => zan false 1 t1 H (K' · H)) fun t7 =>
 zae H (fun K' => zan true 3 t4 H (K' · H)) fun t8 =>
 zae H (fun K' => zah 1 t7 (K' · H)) fun t9 =>
 zae H (fun K' => zaB 3 [(.int .i64 0), (.int .i64 0), .snil] 1 [(0, (.agg [(.int .i64 0), (.int .i64 0), .snil]))] (K' · H)) fun t10 =>
 zaA zbe 3 40 t7 t10 H fun t11 H =>
 (zaj 3 t11 t9 fun t12 =>
 (zak 3 t12 t8 H fun H =>
 zak 1 t1 t11 H fun H =>
 ze0 t2 t3 t4 H K) ∧ (zak 1 t1 t11 H fun H =>
 zak 3 t12 t8 H fun H =>
 ze0 t2 t3 t4 H K)) ∧ (zak 1 t1 t11 H fun H =>
 zaj 3 t11 t9 fun t12 =>
 zak 3 t12 t8 H fun H =>
 ze0 t2 t3 t4 H K)
theorem zIm {t3 t4 t17 t18 t19 : AV} {H : zaa} {K : Kt} (Inv : Nat → AV → zaa → Prop) (n : Nat) (h0 : HSc H → Inv n t19 H)
  (round : Rd1 (fun t19 => zjH t3 t4 t17 t18 t19) (fun t19 => fun H Kb3 => zop t3 t4 t17 t18 t19 H K Kb3) H Inv) : zvk t3 t4 t17 t18 t19 H K :=
 lp1 (M := zjG) zIn t19 (by kernel_rfl) Inv n h0 round
theorem zIo {t0 t1 t2 t3 : AV} {H : zaa} {K : Kt} (h : HSc H → zvi t0 t1 t2 t3 H K) : ACalls tP zcM [t0, t1, t2, t3] H K :=
 zam (M := zjG) Tryz.func79 (c := zoq) (by kernel_rfl) (fun hs => Eq.mpr (by kernel_rfl) (h hs))
def zvo : Nat → List Bool
 | 5 => rl false [0,1,5,4,8,3,40]
 | _ => []
noncomputable def zou : Code := Tryz.f81.body.getD .skip
noncomputable def zID : List ResultVar := Tryz.f81.results.toList
def zIA (t0 t6 t7 t8 t9 t18 t19 t20 : AV) : List AV := t0 :: ux 5 (t6 :: t7 :: t8 :: t9 :: ux 8 (t18 :: t19 :: t20 :: ux 40 []))
noncomputable def zIz : Code := zar [1, 1, 0, 1, 0, 1, 0, 1, 0, 0] zou
def zIx (K : Kt) : AExit → List AV → zaa → Prop := zas tP zvo [1, 1, 0, 1, 0, 1, 0, 1, 0] zou (zaw tP zID K)
def zIB (t0 t6 t7 t8 t9 t18 t19 t20 : AV) (H : zaa) (K : Kt) : Prop := ALoop tP zIz (zIx K) (zIA t0 t6 t7 t8 t9 t18 t19 t20) H
def zvp (t8 t9 : AV) (H : zaa) (K : Kt) : Prop :=
 zad true 3 t9 H fun t60 =>
 zak 3 t8 t60 H fun H =>
 zad true 3 t8 H fun r0 =>
 K r0 H
def zov (t8 t9 : AV) (H : zaa) (K : Kt) : Prop :=
 zvp t8 t9 H K
def zvn (t0 t1 t2 t3 : AV) (H : zaa) (K : Kt) : Prop :=
 zap t1 H fun t5 H =>
 zap t2 H fun t6 H =>
 zap t3 H fun t7 H =>
 zau [(.bool false), .snil, .snil] H fun t8 H =>
 ACalls tP zd0 [(.int .i64 1)] H fun t12 H =>
 zau [(.bool false), .snil, .snil] H fun t9 H =>
 zak 3 t9 t12 H fun H =>
 zaf 0 t5 fun t13 =>
 zad false 1 t13 H fun t14 =>
 zac .eql false t14 (.int .i64 6) fun t16 =>
 zag t16
 (zaf 2 t5 fun t17 =>
 zad false 1 t17 H fun t18 =>
 zah 1 t18 fun t19 =>
 zIB t0 t6 t7 t8 t9 t18 t19 (.int .i64 0) H K)
 (zac .eql false t14 (.int .i64 7) fun t42 =>
 zag t42
 (zaf 2 t7 fun t44 =>
 zad false 1 t44 H fun t45 =>
 zah 1 t45 fun t46 =>
 zaf 0 t6 fun t47 =>
 zad false 1 t47 H fun t48 =>
 ACalls tP zkP [t46, t48] H fun t49 H =>
 zax t49 0 fun t50 =>
 zax t49 1 fun t51 =>
 zak 3 t9 t50 H fun H =>
 zov t8 t9 H K)
 (zac .eql false t14 (.int .i64 5) fun t53 =>
 zag t53
 (zad true 3 t5 H fun t55 =>
 zaf 1 t6 fun t56 =>
 zad false 1 t56 H fun t57 =>
 zad true 3 t7 H fun t58 =>
 ACalls tP zxk [t0, t55, t57, t58] H fun t59 H =>
 zak 3 t8 t59 H fun H =>
 zad true 3 t8 H fun r0 =>
 K r0 H)
 (zov t8 t9 H K)))
theorem zIC {t0 t1 t2 t3 : AV} {H : zaa} {K : Kt} (h : HSc H → zvn t0 t1 t2 t3 H K) : ACalls tP zlv [t0, t1, t2, t3] H K :=
 zam (M := zvo) Tryz.func81 (c := zou) (by kernel_rfl) (fun hs => Eq.mpr (by kernel_rfl) (h hs))
def zFZ (_ : Nat) : List Bool := []
noncomputable def zF0 : Code := Tryz.f35.body.getD .skip
def znI (t0 t1 t2 : AV) (H : zaa) (K : Kt) : Prop :=
 zap t1 H fun t4 H =>
 zap t2 H fun t5 H =>
 zaf 0 t5 fun t7 =>
 zad false 1 t7 H fun t8 =>
 zac .neq false t8 (.int .i64 5) fun t9 =>
 zab t9 false H (fun K' => K' t0 H) fun t11 H =>
 zab t9 false H (fun K' => zad true 3 t4 H (K' · H)) fun t12 H =>
 zab t9 false H (fun K' => zad true 3 t5 H (K' · H)) fun t13 H =>
 zab t9 false H (fun K' => ACalls tP zgD [t11, t12, t13] H K') fun t14 H =>
 zab t9 false H (fun K' => aUn .not t14 (K' · H)) fun t15 H =>
 zai t9 (.bool true) t15 fun t16 =>
 zag t16
 (K .snil H)
 (zad true 3 t4 H fun t18 =>
 zaf 1 t5 fun t19 =>
 zad false 1 t19 H fun t20 =>
 ACalls tP zfF [t0, t18, t20, .snil] H fun t21 H =>
 K t21 H)
theorem zF1 {t0 t1 t2 : AV} {H : zaa} {K : Kt} (h : HSc H → znI t0 t1 t2 H K) : ACalls tP zlm [t0, t1, t2] H K :=
 zam (M := zFZ) Tryz.func35 (c := zF0) (by kernel_rfl) (fun hs => Eq.mpr (by kernel_rfl) (h hs))
end Go.Proofs.YtjkkonpjecoieaaGreat
